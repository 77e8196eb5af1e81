import Derived.Test.YtocfnfcflljooaaGreatChecked
import Derived.KernelRfl
import Derived.Test.YtocfnfcflljooaaGreatM5
open Nat renaming reduceBEq → zB, reduceEqDiff → zE, reduceAdd → zA, reduceSub → zS, reduceLT → zL, reduceLeDiff → zD, reduceMul → zM
open Go.Proofs.Tryz renaming prog → P0
open Go.Proofs.Tryz
open List renaming length_nil → zaa, length_map → zad, append_nil → zaf, length_cons → zal, length_append → zar, range_zero → zau, map_cons → zaw, map_nil → zax, getD_cons_zero → zay, getD_cons_succ → zaz, take_succ_cons → zba, take_zero → zbb, drop_succ_cons → zbc, drop_zero → zbd, cons_append → zbe, nil_append → zbf, all_cons → zbg, all_nil → zbh, contains_cons → zbo, contains_nil → zbp, filter_cons → zbq, filter_nil → zbr, getElem?_cons_zero → zbt, getElem?_cons_succ → zbu, getElem?_nil → zbv, take_nil → zbw, drop_nil → zbx
open BitVec renaming ofInt → zab, ofNat → zck, toNat_ofNat → zcz
open Nat renaming pow_add → zac, mul_assoc → zae, pow_le_pow_right → zai, or_comm → zaj, mul_comm → zas, add_mul → zat, reduceEqDiff → zbz, reduceAdd → zca, reduceSub → zcb, reduceLT → zcc, reduceLeDiff → zcd, reduceMul → zce, pow_succ → zcg, pow_pos → zci, mul_le_mul → zcl, pow_mul → zcp, or_assoc → zcq, or_lt_two_pow → zcr, add_mul_div_right → zct, zero_add → zcu, div_div_eq_div_mul → zcw, div_eq_of_lt → zcx, testBit_two_pow_mul_add → zcy, testBit_lt_two_pow → zda, mul_le_mul_right → zdb
open Int renaming emod_lt_of_pos → zag, emod_nonneg → zah, mul_comm → zcf, toNat → zch, toNat_natCast → zcj, lt_or_le → zcm, pow_succ → zcn, tmod_eq_emod_of_nonneg → zco, natAbs_mul → zcs, mul_ediv_add_emod → zcv
open Option renaming getD_some → zak, map_some → zaq, getD_none → zav, map_none → zbs
open Bool renaming and_true → zam, true_and → zan, or_false → zao, not_false → zap, false_and → zbi, and_self → zbj, or_true → zbk, true_or → zbl, false_or → zbm, not_true → zbn, false_eq_true → zby
namespace Go.Ev
set_option maxHeartbeats 8000000
set_option maxRecDepth 100000
noncomputable section
open Go
set_option linter.unusedSectionVars false
set_option linter.unnecessarySimpa false
set_option linter.unusedSimpArgs false
set_option linter.unusedVariables false
def agc:Mk P0 f135:={ x:=_ }
def af8:Mk P0 f151:={ x:=_ }
def aga:Mk P0 f136:={ x:=_ }
def aek:Mk P0 f152:={ x:=_ }
def acm:Mk P0 f131:={ x:=_ }
def agb:Mk P0 f139:={ x:=_ }
def ac5:Mk P0 f145:={ x:=_ }
def sm (x:Int):AV:=.tup [int .i64 (if b8 x then x else 0),bl (decide (b8 x))]
variable {x y:Int}
theorem lu (h:x=y) (hx:b8 y):AV.tup [int .i64 x,bl true]=sm y:=by simp [sm,hx,h]
theorem abe (hx:¬b8 y):AV.tup [int .i64 0,bl false]=sm y:=by simp [sm,hx]
theorem azl (n:Nat):(n:Int).fdiv (2^min (zch 32) IntKind.u64.bits)=((n/4294967296:Nat):Int):=by
 have:(2:Int)^min (zch 32) IntKind.u64.bits=4294967296:=by decide
 rw [this,Int.fdiv_eq_ediv_of_nonneg _ (by decide)];omega
theorem ay9 (n:Nat):IntKind.u64.wrap (n:Int)=((n%18446744073709551616:Nat):Int):=by
 rw [IntKind.wrap_u64]; omega
theorem a0l (n:Nat):(zab IntKind.u64.bits (n:Int) &&& zab IntKind.u64.bits 4294967295).toNat=n%4294967296:=by
 have a:zab IntKind.u64.bits (n:Int)=zck 64 n:=by simp [IntKind.bits]
 have b:zab IntKind.u64.bits 4294967295=zck 64 (2^32-1):=rfl;rw [a,b];show (zck 64 n &&& zck 64 (2^32-1)).toNat = _;rw [BitVec.toNat_and,zcz,zcz,show (2^32-1)%2^64=2^32-1 by decide,Nat.and_two_pow_sub_one_eq_mod];omega
variable {b:Nat}
theorem apy {x y a c d:Nat} (hx:x=a*4294967296+b) (hy:y=c*4294967296+d):x*y=(a*c)*18446744073709551616+(a*d+b*c)*4294967296+b*d:=by
 subst hx; subst hy;rw [zat,Nat.mul_add,Nat.mul_add]
 have g:a*4294967296*(c*4294967296)=(a*c)*18446744073709551616:=by
  rw [Nat.mul_mul_mul_comm]
 have f:a*4294967296*d=(a*d)*4294967296:=Nat.mul_right_comm _ _ _;have e:b*(c*4294967296)=(b*c)*4294967296:=(zae _ _ _).symm;rw [g,f,e];omega
theorem zk {a:Nat} (c:a<4294967296) (d:b<4294967296):a*b<=18446744065119617025:=by
 have:a*b<=4294967295*4294967295:=zcl (by omega) (by omega);omega
theorem a0m (a b:Int) (f:b8 a) (g:b8 b):b5 P0 135 [int .i64 a,int .i64 b] [] (sm (a+b)) []:=by
 refine agc.t func135 ?_
 push_cast [agc,zaa]
 unfold b8 at f g;refine c7 (λ h=>?_) (λ h=>?_)
 ·push_cast
  refine abe ?_;rw [IntKind.wrap_i64] at h;unfold b8; by_cases c:(a+b+9223372036854775808)%18446744073709551616-9223372036854775808>a<;>by_cases d:b>0<;>by_cases e:b=0<;>simp only [c,d,e,decide_true,decide_false] at h<;>first | omega | (simp at h; done) | (simp at h; omega)
 push_cast
 rw [IntKind.wrap_i64] at h |-
 have:b8 (a+b):=by
  unfold b8; by_cases c:(a+b+9223372036854775808)%18446744073709551616-9223372036854775808>a<;>by_cases d:b>0<;>by_cases e:b=0<;>simp only [c,d,e,decide_true,decide_false] at h<;>first | omega | (simp at h; done) | (simp at h; omega)
 exact lu (by unfold b8 at this; omega) this
theorem amy (a b:Int) (f:b8 a) (g:b8 b):b5 P0 151 [int .i64 a,int .i64 b] [] (sm (a-b)) []:=by
 refine af8.t func151 ?_
 push_cast [af8,zaa]
 unfold b8 at f g;refine c7 (λ h=>?_) (λ h=>?_)
 ·push_cast
  refine abe ?_;rw [IntKind.wrap_i64] at h;unfold b8; by_cases c:(a-b+9223372036854775808)%18446744073709551616-9223372036854775808<a<;>by_cases d:b>0<;>by_cases e:b=0<;>simp only [c,d,e,decide_true,decide_false] at h<;>first | omega | (simp at h; done) | (simp at h; omega)
 push_cast
 rw [IntKind.wrap_i64] at h |-
 have:b8 (a-b):=by
  unfold b8; by_cases c:(a-b+9223372036854775808)%18446744073709551616-9223372036854775808<a<;>by_cases d:b>0<;>by_cases e:b=0<;>simp only [c,d,e,decide_true,decide_false] at h<;>first | omega | (simp at h; done) | (simp at h; omega)
 exact lu (by unfold b8 at this; omega) this
theorem azw (a:Int) (b:b8 a):b5 P0 136 [int .i64 a] [] (sm (-a)) []:=by
 refine aga.t func136 ?_
 push_cast [aga,zaa]
 refine a7 (amy 0 a (by decide) b) rfl trivial ?_
 push_cast [sm]
 simp
theorem aoo (a:Int) (b:b8 a):b5 P0 152 [int .i64 a] [] (int .u64 a.natAbs) []:=by
 refine aek.t func152 ?_
 push_cast [aek,zaa]
 unfold b8 at b;refine c7 (λ h=>?_) (λ h=>?_)
 ·push_cast
  simp at h;rw [IntKind.wrap_u64,IntKind.wrap_u64];congr 3;omega
 push_cast
 simp at h;rw [IntKind.wrap_u64];congr 3;omega
theorem aho (x y:Nat) (hx:x<18446744073709551616) (hy:y<18446744073709551616):b5 P0 131 [int .u64 x,int .u64 y] [] (.tup [int .u64 (x*y/18446744073709551616:Nat),int .u64 (x*y%18446744073709551616:Nat)]) []:=by
 refine acm.t func131 ?_;simp only [acm,push_cast,↓reduceIte,reduceCtorEq,zB,zE,zA,zS,zL,zD,zM];refine ⟨by decide,by decide,by decide,by decide,by decide,?_⟩;simp only [azl,a0l,ay9,<- Int.natCast_mul,<- Int.natCast_add];have f:∀n:Nat,n%4294967296%18446744073709551616=n%4294967296:=λ n=>by omega
 simp only [f];have e:=apy (x:=x) (y:=y) (a:=x/4294967296) (b:=x%4294967296) (c:=y/4294967296) (d:=y%4294967296) (by omega) (by omega);have j:=zk (a:=x/4294967296) (b:=y/4294967296) (by omega) (by omega);have g:=zk (a:=x/4294967296) (b:=y%4294967296) (by omega) (by omega);have i:=zk (a:=x%4294967296) (b:=y/4294967296) (by omega) (by omega);have h:=zk (a:=x%4294967296) (b:=y%4294967296) (by omega) (by omega);generalize x/4294967296*(y/4294967296)=p at *;generalize x/4294967296*(y%4294967296)=q at *;generalize x%4294967296*(y/4294967296)=r at *;generalize x%4294967296*(y%4294967296)=t at *;rw [e];congr 5;omega

theorem azy (a b:Int) (l:b8 a) (n:b8 b):b5 P0 139 [int .i64 a,int .i64 b] [] (sm (a*b)) []:=by
 refine agb.t func139 ?_;have g:=l;have i:=n;unfold b8 at g i
 simp only [agb,zaa,nj,mr,mw,cr,di,bw,mv,jb,fk,ep,jq,an,nh,iu,nc,ng,iy,fb,mu,na,my,ct,ir,bq,om,dk,gf,jr,dj,td,ix,jp,gc,ez,iw,nf,nl,ri,mq,mt,cp,xe,re,oo,jv,nt,nr,ja,rr,ni,iz,ff,jg,oc,ji,jm,bv,az,fv,jh,bt,od,fw,dh,sk,af,jl,sn,jk,ol,bh,zau,rj,rc,fh,fj,xu,xw,xo,xn,gj,fm,sa,aaa,mz,oa,de,db,bi,o3,aw,oy,se,li,tz,qk,pe,qj,wh,ku,pz,lf,lh,vx,qd,ui,uo,toV,tw,tx,ic,bj,gp,yes,yf,bad,p9,io,mmL,jd,wg,eq2,eql,AV.isA,PO.see,PO.act,Vs.q,Rs.and,AV.bare,AV.may,ur,yy,yx,ut,nq,un1,oe,qi,ia2,iab,leb,uj,ldb,ldr,ld1,sb,sj,fa1,ul,bnd,uc,ox,um,src,em,br,l5,ah,PO.see.mayO,PO.see.bareO,i8,n7,ea,nv,AV.rv,rvs,AV.elt,frz,freeze,m7,u4,stb,str,st2,pf,par,qm,uq,qc,vw,y8,dt,yn,RV.cells,AV.cells,AV.one,RV.one,AV.boxable,RV.good,b7,s9,kp,pa,wa,yk,yj,lc,kq,mc,AV.isNil,nn,ip,ai,m5,dw,t9,l8,aac,o5,fwd,yt,rf,s7,j7,dm,ef,back,aq,imV,imL,imO,idx,z8,obs,keep,aj,sg,ij,qf,nu,me,ux,Ob.own,Value.oneCell',jt,gh,↓reduceIte,true_and,and_true,and_self,true_implies,imp_self,implies_true,zak,zav,zal,zaa,zad,zaw,zax,zay,zaz,zba,zbb,zbc,zbd,zbe,zbf,zaf,zbg,zbh,zam,zan,zbi,zbj,zbk,zbl,zbm,zao,zbn,zap,reduceCtorEq,zbo,zbp,zbq,zbr,decide_true,decide_false,if_true,if_false,false_and,and_false,not_true,not_false_eq_true,zaq,zbs,zbt,zbu,zbv,zar,beq_self_eq_true,zB,zbw,zbx,false_implies,zby,ne_eq,zbz,zca,zcb,zcc,zcd,zce,rl,rk,rq,rn,rm,ry]
 refine a7 (aoo a l) rfl trivial ?_
 simp only [nj,mr,mw,cr,di,bw,mv,jb,fk,ep,jq,an,nh,iu,nc,ng,iy,fb,mu,na,my,ct,ir,bq,om,dk,gf,jr,dj,td,ix,jp,gc,ez,iw,nf,nl,ri,mq,mt,cp,xe,re,oo,jv,nt,nr,ja,rr,ni,iz,ff,jg,oc,ji,jm,bv,az,fv,jh,bt,od,fw,dh,sk,af,jl,sn,jk,ol,bh,zau,rj,rc,fh,fj,xu,xw,xo,xn,gj,fm,sa,aaa,mz,oa,de,db,bi,o3,aw,oy,se,li,tz,qk,pe,qj,wh,ku,pz,lf,lh,vx,qd,ui,uo,toV,tw,tx,ic,bj,gp,yes,yf,bad,p9,io,mmL,jd,wg,eq2,eql,AV.isA,PO.see,PO.act,Vs.q,Rs.and,AV.bare,AV.may,ur,yy,yx,ut,nq,un1,oe,qi,ia2,iab,leb,uj,ldb,ldr,ld1,sb,sj,fa1,ul,bnd,uc,ox,um,src,em,br,l5,ah,PO.see.mayO,PO.see.bareO,i8,n7,ea,nv,AV.rv,rvs,AV.elt,frz,freeze,m7,u4,stb,str,st2,pf,par,qm,uq,qc,vw,y8,dt,yn,RV.cells,AV.cells,AV.one,RV.one,AV.boxable,RV.good,b7,s9,kp,pa,wa,yk,yj,lc,kq,mc,AV.isNil,nn,ip,ai,m5,dw,t9,l8,aac,o5,fwd,yt,rf,s7,j7,dm,ef,back,aq,imV,imL,imO,idx,z8,obs,keep,aj,sg,ij,qf,nu,me,ux,Ob.own,Value.oneCell',jt,gh,↓reduceIte,true_and,and_true,and_self,true_implies,imp_self,implies_true,zak,zav,zal,zaa,zad,zaw,zax,zay,zaz,zba,zbb,zbc,zbd,zbe,zbf,zaf,zbg,zbh,zam,zan,zbi,zbj,zbk,zbl,zbm,zao,zbn,zap,reduceCtorEq,zbo,zbp,zbq,zbr,decide_true,decide_false,if_true,if_false,false_and,and_false,not_true,not_false_eq_true,zaq,zbs,zbt,zbu,zbv,zar,beq_self_eq_true,zB,zbw,zbx,false_implies,zby,ne_eq,zbz,zca,zcb,zcc,zcd,zce,rl,rk,rq,rn,rm,ry]
 refine a7 (aoo b n) rfl trivial ?_
 simp only [nj,mr,mw,cr,di,bw,mv,jb,fk,ep,jq,an,nh,iu,nc,ng,iy,fb,mu,na,my,ct,ir,bq,om,dk,gf,jr,dj,td,ix,jp,gc,ez,iw,nf,nl,ri,mq,mt,cp,xe,re,oo,jv,nt,nr,ja,rr,ni,iz,ff,jg,oc,ji,jm,bv,az,fv,jh,bt,od,fw,dh,sk,af,jl,sn,jk,ol,bh,zau,rj,rc,fh,fj,xu,xw,xo,xn,gj,fm,sa,aaa,mz,oa,de,db,bi,o3,aw,oy,se,li,tz,qk,pe,qj,wh,ku,pz,lf,lh,vx,qd,ui,uo,toV,tw,tx,ic,bj,gp,yes,yf,bad,p9,io,mmL,jd,wg,eq2,eql,AV.isA,PO.see,PO.act,Vs.q,Rs.and,AV.bare,AV.may,ur,yy,yx,ut,nq,un1,oe,qi,ia2,iab,leb,uj,ldb,ldr,ld1,sb,sj,fa1,ul,bnd,uc,ox,um,src,em,br,l5,ah,PO.see.mayO,PO.see.bareO,i8,n7,ea,nv,AV.rv,rvs,AV.elt,frz,freeze,m7,u4,stb,str,st2,pf,par,qm,uq,qc,vw,y8,dt,yn,RV.cells,AV.cells,AV.one,RV.one,AV.boxable,RV.good,b7,s9,kp,pa,wa,yk,yj,lc,kq,mc,AV.isNil,nn,ip,ai,m5,dw,t9,l8,aac,o5,fwd,yt,rf,s7,j7,dm,ef,back,aq,imV,imL,imO,idx,z8,obs,keep,aj,sg,ij,qf,nu,me,ux,Ob.own,Value.oneCell',jt,gh,↓reduceIte,true_and,and_true,and_self,true_implies,imp_self,implies_true,zak,zav,zal,zaa,zad,zaw,zax,zay,zaz,zba,zbb,zbc,zbd,zbe,zbf,zaf,zbg,zbh,zam,zan,zbi,zbj,zbk,zbl,zbm,zao,zbn,zap,reduceCtorEq,zbo,zbp,zbq,zbr,decide_true,decide_false,if_true,if_false,false_and,and_false,not_true,not_false_eq_true,zaq,zbs,zbt,zbu,zbv,zar,beq_self_eq_true,zB,zbw,zbx,false_implies,zby,ne_eq,zbz,zca,zcb,zcc,zcd,zce,rl,rk,rq,rn,rm,ry]
 refine a7 (aho a.natAbs b.natAbs (by omega) (by omega)) rfl trivial ?_
 simp only [nj,mr,mw,cr,di,bw,mv,jb,fk,ep,jq,an,nh,iu,nc,ng,iy,fb,mu,na,my,ct,ir,bq,om,dk,gf,jr,dj,td,ix,jp,gc,ez,iw,nf,nl,ri,mq,mt,cp,xe,re,oo,jv,nt,nr,ja,rr,ni,iz,ff,jg,oc,ji,jm,bv,az,fv,jh,bt,od,fw,dh,sk,af,jl,sn,jk,ol,bh,zau,rj,rc,fh,fj,xu,xw,xo,xn,gj,fm,sa,aaa,mz,oa,de,db,bi,o3,aw,oy,se,li,tz,qk,pe,qj,wh,ku,pz,lf,lh,vx,qd,ui,uo,toV,tw,tx,ic,bj,gp,yes,yf,bad,p9,io,mmL,jd,wg,eq2,eql,AV.isA,PO.see,PO.act,Vs.q,Rs.and,AV.bare,AV.may,ur,yy,yx,ut,nq,un1,oe,qi,ia2,iab,leb,uj,ldb,ldr,ld1,sb,sj,fa1,ul,bnd,uc,ox,um,src,em,br,l5,ah,PO.see.mayO,PO.see.bareO,i8,n7,ea,nv,AV.rv,rvs,AV.elt,frz,freeze,m7,u4,stb,str,st2,pf,par,qm,uq,qc,vw,y8,dt,yn,RV.cells,AV.cells,AV.one,RV.one,AV.boxable,RV.good,b7,s9,kp,pa,wa,yk,yj,lc,kq,mc,AV.isNil,nn,ip,ai,m5,dw,t9,l8,aac,o5,fwd,yt,rf,s7,j7,dm,ef,back,aq,imV,imL,imO,idx,z8,obs,keep,aj,sg,ij,qf,nu,me,ux,Ob.own,Value.oneCell',jt,gh,↓reduceIte,true_and,and_true,and_self,true_implies,imp_self,implies_true,zak,zav,zal,zaa,zad,zaw,zax,zay,zaz,zba,zbb,zbc,zbd,zbe,zbf,zaf,zbg,zbh,zam,zan,zbi,zbj,zbk,zbl,zbm,zao,zbn,zap,reduceCtorEq,zbo,zbp,zbq,zbr,decide_true,decide_false,if_true,if_false,false_and,and_false,not_true,not_false_eq_true,zaq,zbs,zbt,zbu,zbv,zar,beq_self_eq_true,zB,zbw,zbx,false_implies,zby,ne_eq,zbz,zca,zcb,zcc,zcd,zce,rl,rk,rq,rn,rm,ry]
 have c:a.natAbs*b.natAbs=(a*b).natAbs:=(zcs a b).symm;rw [c];have p:(a*b).natAbs<=9223372036854775808*9223372036854775808:=by rw [<- c]; exact zcl (by omega) (by omega)
 have r:(a<0/\b<0->0<a*b)/\(a<0/\0<=b->a*b<=0)/\(0<=a/\b<0->a*b<=0)/\(0<=a/\0<=b->0<=a*b):=
  ⟨λ h=>Int.mul_pos_of_neg_of_neg h.1 h.2,λ h=>Int.mul_nonpos_of_nonpos_of_nonneg (by omega) h.2,λ h=>Int.mul_nonpos_of_nonneg_of_nonpos h.1 (by omega),λ h=>Int.mul_nonneg h.1 h.2⟩
 clear c;generalize a*b=m at *
 repeat refine And.intro (by simp +contextual) ?_
 refine c7 (λ h=>?_) (λ h=>?_)
 ·simp only [nj,mr,mw,cr,di,bw,mv,jb,fk,ep,jq,an,nh,iu,nc,ng,iy,fb,mu,na,my,ct,ir,bq,om,dk,gf,jr,dj,td,ix,jp,gc,ez,iw,nf,nl,ri,mq,mt,cp,xe,re,oo,jv,nt,nr,ja,rr,ni,iz,ff,jg,oc,ji,jm,bv,az,fv,jh,bt,od,fw,dh,sk,af,jl,sn,jk,ol,bh,zau,rj,rc,fh,fj,xu,xw,xo,xn,gj,fm,sa,aaa,mz,oa,de,db,bi,o3,aw,oy,se,li,tz,qk,pe,qj,wh,ku,pz,lf,lh,vx,qd,ui,uo,toV,tw,tx,ic,bj,gp,yes,yf,bad,p9,io,mmL,jd,wg,eq2,eql,AV.isA,PO.see,PO.act,Vs.q,Rs.and,AV.bare,AV.may,ur,yy,yx,ut,nq,un1,oe,qi,ia2,iab,leb,uj,ldb,ldr,ld1,sb,sj,fa1,ul,bnd,uc,ox,um,src,em,br,l5,ah,PO.see.mayO,PO.see.bareO,i8,n7,ea,nv,AV.rv,rvs,AV.elt,frz,freeze,m7,u4,stb,str,st2,pf,par,qm,uq,qc,vw,y8,dt,yn,RV.cells,AV.cells,AV.one,RV.one,AV.boxable,RV.good,b7,s9,kp,pa,wa,yk,yj,lc,kq,mc,AV.isNil,nn,ip,ai,m5,dw,t9,l8,aac,o5,fwd,yt,rf,s7,j7,dm,ef,back,aq,imV,imL,imO,idx,z8,obs,keep,aj,sg,ij,qf,nu,me,ux,Ob.own,Value.oneCell',jt,gh,↓reduceIte,true_and,and_true,and_self,true_implies,imp_self,implies_true,zak,zav,zal,zaa,zad,zaw,zax,zay,zaz,zba,zbb,zbc,zbd,zbe,zbf,zaf,zbg,zbh,zam,zan,zbi,zbj,zbk,zbl,zbm,zao,zbn,zap,reduceCtorEq,zbo,zbp,zbq,zbr,decide_true,decide_false,if_true,if_false,false_and,and_false,not_true,not_false_eq_true,zaq,zbs,zbt,zbu,zbv,zar,beq_self_eq_true,zB,zbw,zbx,false_implies,zby,ne_eq,zbz,zca,zcb,zcc,zcd,zce,rl,rk,rq,rn,rm,ry]
  refine abe ?_;unfold b8;by_cases f:m.natAbs/18446744073709551616=0<;>by_cases j:m.natAbs%18446744073709551616=9223372036854775808<;>by_cases e:a<0<;>by_cases d:b<0<;>simp [f,j,e,d] at h<;>omega
 have s:m.natAbs<=9223372036854775808/\(m.natAbs=9223372036854775808->(a<0/\0<=b)\/(0<=a/\b<0)):=by
  by_cases f:m.natAbs/18446744073709551616=0<;>by_cases j:m.natAbs%18446744073709551616=9223372036854775808<;>by_cases e:a<0<;>by_cases d:b<0<;>simp [f,j,e,d] at h<;>omega
 clear h
 simp only [nj,mr,mw,cr,di,bw,mv,jb,fk,ep,jq,an,nh,iu,nc,ng,iy,fb,mu,na,my,ct,ir,bq,om,dk,gf,jr,dj,td,ix,jp,gc,ez,iw,nf,nl,ri,mq,mt,cp,xe,re,oo,jv,nt,nr,ja,rr,ni,iz,ff,jg,oc,ji,jm,bv,az,fv,jh,bt,od,fw,dh,sk,af,jl,sn,jk,ol,bh,zau,rj,rc,fh,fj,xu,xw,xo,xn,gj,fm,sa,aaa,mz,oa,de,db,bi,o3,aw,oy,se,li,tz,qk,pe,qj,wh,ku,pz,lf,lh,vx,qd,ui,uo,toV,tw,tx,ic,bj,gp,yes,yf,bad,p9,io,mmL,jd,wg,eq2,eql,AV.isA,PO.see,PO.act,Vs.q,Rs.and,AV.bare,AV.may,ur,yy,yx,ut,nq,un1,oe,qi,ia2,iab,leb,uj,ldb,ldr,ld1,sb,sj,fa1,ul,bnd,uc,ox,um,src,em,br,l5,ah,PO.see.mayO,PO.see.bareO,i8,n7,ea,nv,AV.rv,rvs,AV.elt,frz,freeze,m7,u4,stb,str,st2,pf,par,qm,uq,qc,vw,y8,dt,yn,RV.cells,AV.cells,AV.one,RV.one,AV.boxable,RV.good,b7,s9,kp,pa,wa,yk,yj,lc,kq,mc,AV.isNil,nn,ip,ai,m5,dw,t9,l8,aac,o5,fwd,yt,rf,s7,j7,dm,ef,back,aq,imV,imL,imO,idx,z8,obs,keep,aj,sg,ij,qf,nu,me,ux,Ob.own,Value.oneCell',jt,gh,↓reduceIte,true_and,and_true,and_self,true_implies,imp_self,implies_true,zak,zav,zal,zaa,zad,zaw,zax,zay,zaz,zba,zbb,zbc,zbd,zbe,zbf,zaf,zbg,zbh,zam,zan,zbi,zbj,zbk,zbl,zbm,zao,zbn,zap,reduceCtorEq,zbo,zbp,zbq,zbr,decide_true,decide_false,if_true,if_false,false_and,and_false,not_true,not_false_eq_true,zaq,zbs,zbt,zbu,zbv,zar,beq_self_eq_true,zB,zbw,zbx,false_implies,zby,ne_eq,zbz,zca,zcb,zcc,zcd,zce,rl,rk,rq,rn,rm,ry]
 refine c7 (λ k=>?_) (λ k=>?_)
 ·simp only [nj,mr,mw,cr,di,bw,mv,jb,fk,ep,jq,an,nh,iu,nc,ng,iy,fb,mu,na,my,ct,ir,bq,om,dk,gf,jr,dj,td,ix,jp,gc,ez,iw,nf,nl,ri,mq,mt,cp,xe,re,oo,jv,nt,nr,ja,rr,ni,iz,ff,jg,oc,ji,jm,bv,az,fv,jh,bt,od,fw,dh,sk,af,jl,sn,jk,ol,bh,zau,rj,rc,fh,fj,xu,xw,xo,xn,gj,fm,sa,aaa,mz,oa,de,db,bi,o3,aw,oy,se,li,tz,qk,pe,qj,wh,ku,pz,lf,lh,vx,qd,ui,uo,toV,tw,tx,ic,bj,gp,yes,yf,bad,p9,io,mmL,jd,wg,eq2,eql,AV.isA,PO.see,PO.act,Vs.q,Rs.and,AV.bare,AV.may,ur,yy,yx,ut,nq,un1,oe,qi,ia2,iab,leb,uj,ldb,ldr,ld1,sb,sj,fa1,ul,bnd,uc,ox,um,src,em,br,l5,ah,PO.see.mayO,PO.see.bareO,i8,n7,ea,nv,AV.rv,rvs,AV.elt,frz,freeze,m7,u4,stb,str,st2,pf,par,qm,uq,qc,vw,y8,dt,yn,RV.cells,AV.cells,AV.one,RV.one,AV.boxable,RV.good,b7,s9,kp,pa,wa,yk,yj,lc,kq,mc,AV.isNil,nn,ip,ai,m5,dw,t9,l8,aac,o5,fwd,yt,rf,s7,j7,dm,ef,back,aq,imV,imL,imO,idx,z8,obs,keep,aj,sg,ij,qf,nu,me,ux,Ob.own,Value.oneCell',jt,gh,↓reduceIte,true_and,and_true,and_self,true_implies,imp_self,implies_true,zak,zav,zal,zaa,zad,zaw,zax,zay,zaz,zba,zbb,zbc,zbd,zbe,zbf,zaf,zbg,zbh,zam,zan,zbi,zbj,zbk,zbl,zbm,zao,zbn,zap,reduceCtorEq,zbo,zbp,zbq,zbr,decide_true,decide_false,if_true,if_false,false_and,and_false,not_true,not_false_eq_true,zaq,zbs,zbt,zbu,zbv,zar,beq_self_eq_true,zB,zbw,zbx,false_implies,zby,ne_eq,zbz,zca,zcb,zcc,zcd,zce,rl,rk,rq,rn,rm,ry]
  have o:m<=0:=by by_cases e:a<0<;>by_cases d:b<0<;>simp [e,d] at k<;>omega
  refine lu ?_ ?_
  ·rw [IntKind.wrap_i64,IntKind.wrap_i64];omega
  unfold b8; omega
 simp only [nj,mr,mw,cr,di,bw,mv,jb,fk,ep,jq,an,nh,iu,nc,ng,iy,fb,mu,na,my,ct,ir,bq,om,dk,gf,jr,dj,td,ix,jp,gc,ez,iw,nf,nl,ri,mq,mt,cp,xe,re,oo,jv,nt,nr,ja,rr,ni,iz,ff,jg,oc,ji,jm,bv,az,fv,jh,bt,od,fw,dh,sk,af,jl,sn,jk,ol,bh,zau,rj,rc,fh,fj,xu,xw,xo,xn,gj,fm,sa,aaa,mz,oa,de,db,bi,o3,aw,oy,se,li,tz,qk,pe,qj,wh,ku,pz,lf,lh,vx,qd,ui,uo,toV,tw,tx,ic,bj,gp,yes,yf,bad,p9,io,mmL,jd,wg,eq2,eql,AV.isA,PO.see,PO.act,Vs.q,Rs.and,AV.bare,AV.may,ur,yy,yx,ut,nq,un1,oe,qi,ia2,iab,leb,uj,ldb,ldr,ld1,sb,sj,fa1,ul,bnd,uc,ox,um,src,em,br,l5,ah,PO.see.mayO,PO.see.bareO,i8,n7,ea,nv,AV.rv,rvs,AV.elt,frz,freeze,m7,u4,stb,str,st2,pf,par,qm,uq,qc,vw,y8,dt,yn,RV.cells,AV.cells,AV.one,RV.one,AV.boxable,RV.good,b7,s9,kp,pa,wa,yk,yj,lc,kq,mc,AV.isNil,nn,ip,ai,m5,dw,t9,l8,aac,o5,fwd,yt,rf,s7,j7,dm,ef,back,aq,imV,imL,imO,idx,z8,obs,keep,aj,sg,ij,qf,nu,me,ux,Ob.own,Value.oneCell',jt,gh,↓reduceIte,true_and,and_true,and_self,true_implies,imp_self,implies_true,zak,zav,zal,zaa,zad,zaw,zax,zay,zaz,zba,zbb,zbc,zbd,zbe,zbf,zaf,zbg,zbh,zam,zan,zbi,zbj,zbk,zbl,zbm,zao,zbn,zap,reduceCtorEq,zbo,zbp,zbq,zbr,decide_true,decide_false,if_true,if_false,false_and,and_false,not_true,not_false_eq_true,zaq,zbs,zbt,zbu,zbv,zar,beq_self_eq_true,zB,zbw,zbx,false_implies,zby,ne_eq,zbz,zca,zcb,zcc,zcd,zce,rl,rk,rq,rn,rm,ry]
 have o:0<=m/\m.natAbs≠9223372036854775808:=by by_cases e:a<0<;>by_cases d:b<0<;>simp [e,d] at k<;>omega
 refine lu ?_ ?_
 ·rw [IntKind.wrap_i64];omega
 unfold b8; omega
theorem amx {a b c d e c':AV} (f:a=d) (g:b=e) (h:c=c'):AV.tup [a,b,c]=AV.tup [d,e,c']:=by rw [f,g,h]
variable {a:Int}
theorem vh {k:IntKind} {b:Int} (h:a=b):int k a=int k b:=by rw [h]
theorem aiv {a b:Bool} (h:a=b):bl a=bl b:=by rw [h]
theorem aep {b:Int} (e:b8 a) (c:0<b):(-9223372036854775808<=a/b/\a/b<=9223372036854775807)/\(a.tmod b<0->a.tdiv b-1=a/b/\a.tmod b+b=a%b)/\(0<=a.tmod b->a.tdiv b=a/b/\a.tmod b=a%b):=by
 unfold b8 at e;have f:=Int.mul_tdiv_add_tmod a b;have i:a.tmod b<b:=Int.tmod_lt_of_pos a c
 have k:-b<a.tmod b:=by
  have:=Int.lt_tmod_of_pos a c;omega
 refine ⟨?_,λ h=>?_,λ h=>?_⟩
 ·have g:=zcv a b;have j:=zag a c;have l:=zah a (show b≠0 by omega);generalize a/b=q at *;generalize a%b=r at *;constructor
  ·rcases zcm q 0 with d | d
   ·have:b*(q+1)<=1*(q+1):=Int.mul_le_mul_of_nonpos_right (by omega) (by omega);rw [Int.mul_add] at this;omega
   omega
  rcases zcm q 0 with d | d
  ·omega
  have:1*q<=b*q:=Int.mul_le_mul_of_nonneg_right (by omega) d;omega
 ·have:=(Int.ediv_emod_unique (a:=a) (b:=b) (r:=a.tmod b+b) (q:=a.tdiv b-1) c).2 ⟨by rw [Int.mul_sub]; omega,by omega,by omega⟩;exact ⟨this.1.symm,this.2.symm⟩
 have:=(Int.ediv_emod_unique (a:=a) (b:=b) (r:=a.tmod b) (q:=a.tdiv b) c).2 ⟨by omega,by omega,by omega⟩;exact ⟨this.1.symm,this.2.symm⟩
theorem amf (a b:Int) (d:b8 a) (k:b8 b):b5 P0 145 [int .i64 a,int .i64 b] [] (.tup [int .i64 (if 0<b then a/b else 0),int .i64 (if 0<b then a%b else 0),bl (decide (0<b))]) []:=by
 refine ac5.t func145 ?_
 push_cast [ac5,zaa]
 refine c7 (λ h=>?_) (λ h=>?_)
 ·push_cast
  simp at h;have:¬0<b:=by omega
  simp [this]
 push_cast
 simp at h;refine ⟨by omega,by omega,by kernel_rfl,?_⟩;obtain ⟨l,g,i⟩:=aep d h;have j:IntKind.i64.wrap (a.tdiv b)=a.tdiv b:=wrap_i64_tdiv a b d.1 d.2 (by omega);rw [j];refine c7 (λ c=>?_) (λ c=>?_)
 ·push_cast
  simp at c;obtain ⟨f,e⟩:=g c;refine amx (vh ?_) (vh ?_) (aiv ?_)
  ·rw [if_pos h,<- f,a6];unfold b8 at d; rw [f]; omega
  ·rw [if_pos h,<- e,a6];have m:=zag a h;have n:=zah a (show b≠0 by omega);rw [e];unfold b8 at k; omega
  simp [h]
 push_cast
 simp at c;obtain ⟨f,e⟩:=i c;refine amx (vh ?_) (vh ?_) (aiv ?_)
 ·rw [if_pos h,f]
 ·rw [if_pos h,e]
 simp [h]

def zr:Mk P0 f150:={ x:=_ }
def ov:PC:=
 (.seq (.reg [p_a 2 (.box (.t 0)),p_a 3 (.box (.t 1)),p_a 4 (.new [(.r (.v (.int .u64 0))),(.r (.v (.int .u64 0)))])])
 (.seq (.reg [p_s 10 (.fa 1 (.t 2)),p_s 11 (.ld none (.t 10)),p_s 12 (.fa 1 (.t 3)),p_s 13 (.ld none (.t 12)),p_s 14 (.carry false (.t 11) (.t 13) (.c (.r (.v (.int .u64 0))))),
 p_m 9 14,p_s 15 (.ext (.t 9) 0),p_s 16 (.ext (.t 9) 1),p_m 5 15,p_m 6 16])
 (.seq (.reg [p_s 18 (.fa 0 (.t 2)),p_s 19 (.ld none (.t 18)),p_s 20 (.fa 0 (.t 3)),p_s 21 (.ld none (.t 20)),p_m 22 6,p_s 23 (.carry false (.t 19) (.t 21) (.t 22)),p_m 17 23,
 p_s 24 (.ext (.t 17) 0),p_s 25 (.ext (.t 17) 1),p_m 7 24,p_m 8 25])
 (.seq (.reg [p_m 26 7,p_m 27 5,p_s 28 (.build [(.r (.v (.int .u64 0))),(.r (.v (.int .u64 0)))] [(0,1,(.t 26)),(1,1,(.t 27))]),⟨none,none,0,.act (.st 2 (.t 4) (.t 28))⟩])
 .ret))))
theorem vo:Fun P0 104 2 [(4,false,some (169,(some 2)))] ov:=sh func104 rfl (by decide) (by kernel_rfl) (by decide) rfl (by kernel_rfl) (by kernel_rfl) (by decide)
def lj:Mk P0 f105:={ x:=_ }
def tp:Mk P0 f102:={ x:=_ }
def mf:Mk P0 f132:={ x:=_ }
def s6 (x:Int):AV:=.r (.agg [.v (.int .u64 (x/18446744073709551616%18446744073709551616)),.v (.int .u64 (x%18446744073709551616))])
theorem kg {b:Int} (c:a=x/18446744073709551616%18446744073709551616) (d:b=x%18446744073709551616):AV.r (.agg [.v (.int .u64 a),.v (.int .u64 b)])=s6 x:=by rw [c,d]; rfl
theorem azk (a:Int) (b:b8 a):a.fdiv (2^min (zch 63) IntKind.i64.bits)=if a<0 then -1 else 0:=by
 have:(2:Int)^min (zch 63) IntKind.i64.bits=9223372036854775808:=by decide
 rw [this,Int.fdiv_eq_ediv_of_nonneg _ (by decide)];unfold b8 at b;split<;>omega
theorem w_t (a:Int) (b:b8 a):b5 P0 150 [int .i64 a] [] (s6 a) []:=by
 refine zr.t func150 ?_;simp only [zr,push_cast,↓reduceIte,reduceCtorEq,zB,zE,zA,zS,zL,zD,zM];refine ⟨by decide,kg ?_ ?_⟩
 ·rw [azk a b,IntKind.wrap_u64];unfold b8 at b;split<;>omega
 rw [IntKind.wrap_u64]
theorem atd (a:0<=x) (d:x<18446744073709551616):IntKind.u64.wrap ((zab IntKind.u64.bits (if IntKind.u64.signed=true then -1 else IntKind.u64.max) ^^^ zab IntKind.u64.bits x).toNat)=18446744073709551615-x:=by
 obtain ⟨n,rfl⟩:=Int.eq_ofNat_of_zero_le a;have c:zab IntKind.u64.bits (if IntKind.u64.signed=true then -1 else IntKind.u64.max)=BitVec.allOnes 64:=by rfl
 have b:zab IntKind.u64.bits (n:Int)=zck 64 n:=by simp [IntKind.bits]
 rw [c,b];show IntKind.u64.wrap ((BitVec.allOnes 64 ^^^ zck 64 n).toNat:Int) = _;rw [BitVec.allOnes_xor,BitVec.toNat_not,zcz,IntKind.wrap_u64];omega
theorem af5 (a b:Int):b5 P0 104 [s6 a,s6 b] [] (s6 (a+b)) []:=by
 refine vo rfl (by decide) ?_
 push_cast [ov,s6,zaa]
 refine ⟨by omega,by omega,kg (by omega) (by omega)⟩
theorem ahe (a:Int) (h:-170141183460469231731687303715884105728<=a/\a<170141183460469231731687303715884105728):b5 P0 132 [s6 a] [] (sm a) []:=by
 refine mf.t func132 ?_
 push_cast [mf,s6,zaa]
 rw [IntKind.wrap_i64];refine d9 (w_t _ (by unfold b8; omega)) rfl trivial ?_
 push_cast [s6]
 refine ⟨by kernel_rfl,?_⟩;refine c7 (λ h=>?_) (λ h=>?_)
 ·push_cast
  refine abe ?_;unfold b8;simp at h;omega
 push_cast
 simp at h;refine lu ?_ ?_
 ·omega
 unfold b8; omega
theorem ae0 (a:Int):b5 P0 105 [s6 a] [] (s6 (-a)) []:=by
 refine lj.t func105 ?_
 push_cast [lj,s6,zaa]
 rw [atd (by omega) (by omega),atd (by omega) (by omega)];refine b9 (as':=[s6 (-1-a),s6 1]) ?_ ?_
 ·congr 1;exact kg (by omega) (by omega)
 refine a7 (af5 (-1-a) 1) rfl trivial ?_
 push_cast [s6]
 exact kg (by omega) (by omega)
theorem aix (a:Int) (b:b8 a):(a<0->IntKind.u64.wrap (0-IntKind.u64.wrap a)=a.natAbs)/\(¬a<0->IntKind.u64.wrap a=a.natAbs):=by
 unfold b8 at b;rw [IntKind.wrap_u64,IntKind.wrap_u64];omega
theorem aak (a b:Int) (n:b8 a) (o:b8 b):b5 P0 102 [int .i64 a,int .i64 b] [] (s6 (a*b)) []:=by
 refine tp.t func102 ?_;have k:=n;have l:=o;unfold b8 at k l;obtain ⟨e,j⟩:=aix a n;obtain ⟨f,i⟩:=aix b o;have g:a.natAbs*b.natAbs=(a*b).natAbs:=(zcs a b).symm;have p:(a*b).natAbs<=9223372036854775808*9223372036854775808:=by rw [<- g]; exact zcl (by omega) (by omega)
 have q:(a<0/\b<0->0<a*b)/\(a<0/\0<=b->a*b<=0)/\(0<=a/\b<0->a*b<=0)/\(0<=a/\0<=b->0<=a*b):=
  ⟨λ h=>Int.mul_pos_of_neg_of_neg h.1 h.2,λ h=>Int.mul_nonpos_of_nonpos_of_nonneg (by omega) h.2,λ h=>Int.mul_nonpos_of_nonneg_of_nonpos h.1 (by omega),λ h=>Int.mul_nonneg h.1 h.2⟩
 push_cast [tp,zaa]
 refine c7 (λ c=>?_) (λ c=>?_)<;>push_cast<;>refine c7 (λ d=>?_) (λ d=>?_)<;>push_cast
 all_goals
  simp only [decide_eq_true_eq,decide_eq_false_iff_not] at c d;refine b9 (as':=[int .u64 a.natAbs,int .u64 b.natAbs]) (by first | rw [e c,f d] | rw [e c,i d] | rw [j c,f d] | rw [j c,i d]) ?_;refine a7 (aho a.natAbs b.natAbs (by omega) (by omega)) rfl trivial ?_;rw [g]
  push_cast [c,d,Bool.true_beq,Bool.false_beq]
  generalize a*b=m at *
 ·exact kg (by omega) (by omega)
 ·refine b9 (as':=[s6 (-m)]) (by congr 1; exact kg (by omega) (by omega)) ?_;refine a7 (ae0 (-m)) rfl trivial ?_
  push_cast [s6]
  exact kg (by omega) (by omega)
 ·refine b9 (as':=[s6 (-m)]) (by congr 1; exact kg (by omega) (by omega)) ?_;refine a7 (ae0 (-m)) rfl trivial ?_
  push_cast [s6]
  exact kg (by omega) (by omega)
 exact kg (by omega) (by omega)

def ac4:Mk P0 f138:={ x:=_ }
def af9:Mk P0 f114:={ x:=_ }
def xb:Mk P0 f109:={ x:=_ }
theorem aq6 (x a:Int) (y:Bool) (hx:b8 x) (b:b8 a):b5 P0 138 [.ptr 1000000 0 0,.ptr 1000001 0 0,.ptr 1000002 0 0] [.box [int .i64 x],.box [int .i64 a],.box [bl y]] (.tup [])
 [.box [int .i64 (if b8 (x*a) then x*a else 0)],.box [int .i64 a],.box [bl (decide (b8 (x*a)))]]:=by
 refine ac4.t func138 ?_
 push_cast [ac4,zaa]
 refine a7 (azy x a hx b) rfl trivial ?_
 push_cast [sm]
theorem api (c:-1<=a) (d:a<=1) (n:Nat):a^(min n (2-n%2))=a^n:=by
 have b:∀m:Nat,1<=m->a^(m+2)=a^m:=λ m f=>by
  have:a=-1\/a=0\/a=1:=by omega
  rcases this with rfl | rfl | rfl
  ·rw [zcn,zcn]; omega
  ·rw [Int.zero_pow (by omega),Int.zero_pow (by omega)]
  rw [Int.one_pow,Int.one_pow]
 induction n using Nat.strongRecOn with
 | ind n ih=>
   rcases (show n=0\/n=1\/n=2\/3<=n by omega) with h | h | h | h
   ·subst h; rfl
   ·subst h; rfl
   ·subst h; rfl
   have:=ih (n-2) (by omega);have e:=b (n-2) (by omega);rw [show n-2+2=n by omega] at e;rw [e,<- this];congr 1;omega
theorem alw {T:Int} {n:Nat} (b:-1<=a/\a<=1->-1<=x/\x<=1) (hx:b8 x) (l:b8 a) (h:¬b8 (x*a)) (c:x*a*a^n=T):¬b8 T:=by
 have d:¬(-1<=a/\a<=1):=λ f=>by
  have:=b f;have d:a=-1\/a=0\/a=1:=by omega
  apply h;unfold b8;rcases d with rfl | rfl | rfl<;>omega
 have g:2<=a.natAbs:=by omega
 have k:9223372036854775808<=(x*a).natAbs:=by unfold b8 at h; omega
 have e:T.natAbs=(x*a).natAbs*a.natAbs^n:=by rw [<- c,zcs,Int.natAbs_pow]
 cases n with
 | zero=>
   simp at c;rw [<- c]; exact h
 | succ n=>
   have i:2<=a.natAbs^(n+1):=Nat.le_trans g (Nat.le_self_pow (by omega) _);have j:9223372036854775808*2<=(x*a).natAbs*a.natAbs^(n+1):=zcl k i;rw [<- e] at j;unfold b8;omega
theorem azp (a k:Int) (G:b8 a) (M:b8 k):b5 P0 114 [int .i64 a,int .i64 k] [] (if k<0 then .tup [int .i64 0,bl false] else sm (a^k.toNat)) []:=by
 refine af9.t func114 ?_;simp only [af9,push_cast,↓reduceIte,reduceCtorEq,zB,zE,zA,zS,zL,zD,zM];refine c7 (λ o=>?_) (λ o=>?_)
 ·simp only [decide_eq_true_eq] at o;simp only [if_pos o,push_cast,↓reduceIte,reduceCtorEq,zB,zE,zA,zS,zL,zD,zM]
 simp only [decide_eq_false_iff_not] at o;simp only [if_neg o,push_cast,↓reduceIte,reduceCtorEq,zB,zE,zA,zS,zL,zD,zM];generalize F:a^k.toNat=T;refine up (λ e ob=>∃b,e 1=int .i64 b/\e 2=.ptr 2 0 0/\0<=b/\b8 b/\a^b.toNat=T/\(a=-1\/a=0\/a=1->b<=2)/\ob=upd 2 (0,.box [int .i64 a]) (λ _=>none)) ?_ (λ z=>?_) (λ z=>?_)
 ·rintro e ob ⟨b,d,l,s,C,u,N,rfl⟩;simp only [d,l,push_cast,↓reduceIte,reduceCtorEq,zB,zE,zA,zS,zL,zD,zM]
  refine c9 [(1,false),(6,false),(2,false),(7,false),(8,false)] (λ vs pos m=>∃(j x:Int) (y:Bool),0<=j/\b8 j/\b8 x/\(y=true->x*a^j.toNat=T)/\(y=false->x=0/\¬b8 T)/\(-1<=a/\a<=1->-1<=x/\x<=1) /\
   vs=[int .i64 j,.ptr 2000000 0 0,.ptr 2000001 0 0,.ptr 2000002 0 0,.fn (.func 138) [.ptr 2000000 0 0,.ptr 2000001 0 0,.ptr 2000002 0 0]]/\pos=[]/\m=[.box [int .i64 x],.box [int .i64 a],.box [bl y]])
   (λ vs _ _=>match vs with | .r (.v (.int _ j))::_=>j.toNat | _=>0) rfl ?_ ?_
  ·simp only [d,l,push_cast,↓reduceIte,reduceCtorEq,zB,zE,zA,zS,zL,zD,zM];exact ⟨b,1,true,s,C,by decide,λ _=>by rw [Int.one_mul,u],by simp,λ _=>by decide,rfl,rfl⟩
  rintro vs pos m ⟨j,x,y,P,E,D,n,B,g,rfl,rfl,rfl⟩;simp only [push_cast,↓reduceIte,reduceCtorEq,zB,zE,zA,zS,zL,zD,zM];refine c7 (λ h=>?_) (λ h=>?_)
  ·have w:0<j:=by
    rcases zcm 0 j with f | f
    ·exact f
    simp [show ¬j>0 by omega] at h
   have hy:y=true:=by simpa [w] using h
   simp only [push_cast,↓reduceIte,reduceCtorEq,zB,zE,zA,zS,zL,zD,zM];refine ⟨by kernel_rfl,?_⟩;refine a7 (aq6 x a y D G) rfl ⟨rfl,rfl,rfl,trivial⟩ ?_;simp only [push_cast,↓reduceIte,reduceCtorEq,zB,zE,zA,zS,zL,zD,zM];have J:IntKind.i64.wrap (j-1)=j-1:=a6 (by unfold b8 at E; omega);rw [J];have A:j.toNat=(j-1).toNat+1:=by omega
   have i:x*a*a^(j-1).toNat=T:=by
    rw [<- n hy,A,zcn,Int.mul_assoc,zcf a]
   refine ⟨⟨j-1,_,_,by omega,by unfold b8 at E |-; omega,?_,?_,?_,?_,rfl,rfl⟩,by omega⟩
   ·split
    ·assumption
    decide
   ·intro c;rw [if_pos (of_decide_eq_true c)];exact i
   ·intro c;have c:=of_decide_eq_false c;rw [if_neg c];refine ⟨rfl,?_⟩;exact alw g D G c i
   intro K;have:=g K;have H:a=-1\/a=0\/a=1:=by omega
   split
   ·rcases H with rfl | rfl | rfl<;>omega
   omega
  simp only [push_cast,↓reduceIte,reduceCtorEq,zB,zE,zA,zS,zL,zD,zM];refine ⟨by kernel_rfl,?_⟩;cases y with
  | true=>
    have w:j=0:=by
     rcases zcm 0 j with f | f
     ·simp [f] at h
     omega
    subst w;have:=n rfl;simp at this;subst this;exact lu rfl D
  | false=>
    obtain ⟨rfl,L⟩:=B rfl;exact abe L
 ·simp only [push_cast,↓reduceIte,reduceCtorEq,zB,zE,zA,zS,zL,zD,zM]
  have H:a=-1\/a=0\/a=1:=by
   by_cases p:a>=-1<;>by_cases q:a<=1<;>simp [p,q] at z<;>omega
  have I:k.tmod 2=k%2:=by
   rw [zco (by omega)]
  have O:IntKind.i64.wrap (2-k.tmod 2)=2-k%2:=by rw [I]; exact a6 (by omega)
  rw [O];refine ⟨by decide,min k (2-k%2),rfl,by omega,by unfold b8 at *; omega,?_,by omega⟩;rw [show (min k (2-k%2)).toNat=min k.toNat (2-k.toNat%2) by omega,api (by omega) (by omega),F]
 simp only [push_cast,↓reduceIte,reduceCtorEq,zB,zE,zA,zS,zL,zD,zM];refine ⟨k,rfl,by omega,M,F,λ h=>?_⟩;rcases h with rfl | rfl | rfl<;>simp at z

theorem arp (h:-1<=a/\a<=1) (n:Nat):-1<=a^n/\a^n<=1:=by
 induction n with
 | zero=>simp
 | succ n ih=>
   rw [zcn];have:a=-1\/a=0\/a=1:=by omega
   rcases this with rfl | rfl | rfl<;>omega
theorem ad0 (n:Nat):(-1:Int)^n=if n%2=1 then -1 else 1:=by
 induction n with
 | zero=>rfl
 | succ n ih=>
   rw [zcn,ih];split<;>split<;>omega
theorem aw6 (a k:Int) (s:b8 a) (y:b8 k):b5 P0 109 [int .i64 a,int .i64 k] [] (if k<0 then .tup [int .i64 0,bl false] else sm (a^k.toNat)) []:=by
 refine xb.t func109 ?_;simp only [xb,push_cast,↓reduceIte,reduceCtorEq,zB,zE,zA,zS,zL,zD,zM];refine c7 (λ f=>?_) (λ f=>?_)
 ·simp only [decide_eq_true_eq] at f;simp only [if_pos f,push_cast,↓reduceIte,reduceCtorEq,zB,zE,zA,zS,zL,zD,zM]
 simp only [decide_eq_false_iff_not] at f;simp only [if_neg f,push_cast,↓reduceIte,reduceCtorEq,zB,zE,zA,zS,zL,zD,zM]
 refine c9 [(0,false),(1,false),(6,false),(7,false)] (λ vs pos e=>∃(n i:Int),0<=i/\i<=k/\b8 n/\n=a^i.toNat/\vs=[int .i64 a,int .i64 k,int .i64 n,int .i64 i]/\pos=[]/\e=[])
  (λ vs _ _=>match vs with | [_,_,_,.r (.v (.int _ j))]=>(k-j).toNat | _=>0) rfl ?_ ?_
 ·simp only [push_cast,↓reduceIte,reduceCtorEq,zB,zE,zA,zS,zL,zD,zM];exact ⟨1,0,by omega,by omega,by decide,by simp,rfl⟩
 rintro vs pos e ⟨n,i,B,z,l,b,rfl,rfl,rfl⟩;simp only [push_cast,↓reduceIte,reduceCtorEq,zB,zE,zA,zS,zL,zD,zM];unfold b8 at y;refine c7 (λ h=>?_) (λ h=>?_)
 ·simp only [decide_eq_true_eq] at h;simp only [push_cast,↓reduceIte,reduceCtorEq,zB,zE,zA,zS,zL,zD,zM]
  repeat refine And.intro (by simp +contextual) ?_
  have o:n*a*a^(k-i-1).toNat=a^k.toNat:=by
   rw [b,Int.mul_assoc,<- Int.pow_succ',<- Int.pow_add];congr 1;omega
  refine c7 (λ u=>?_) (λ u=>?_)
  ·simp only [push_cast,↓reduceIte,reduceCtorEq,zB,zE,zA,zS,zL,zD,zM]
   have c:n=0\/a=1:=by
    by_cases p:n=0<;>by_cases q:n=1<;>by_cases r:a=1<;>simp [p,q,r] at u |-
   refine lu ?_ ?_
   ·rcases c with c | c
    ·rw [<- o,c]; simp
    rw [b,c,Int.one_pow,Int.one_pow]
   rcases c with c | c
   ·rw [<- o,c]; simp; decide
   rw [c,Int.one_pow]; decide
  simp only [push_cast,↓reduceIte,reduceCtorEq,zB,zE,zA,zS,zL,zD,zM];refine c7 (λ m=>?_) (λ m=>?_)
  ·simp only [push_cast,↓reduceIte,reduceCtorEq,zB,zE,zA,zS,zL,zD,zM];have m:a=-1:=by simpa using m
   subst m;have w:k.tmod 2=k%2:=zco (by omega);refine ⟨by decide,?_⟩;rw [w];refine c7 (λ g=>?_) (λ g=>?_)
   ·simp only [push_cast,↓reduceIte,reduceCtorEq,zB,zE,zA,zS,zL,zD,zM];have g:k%2=1:=by simpa using g
    exact lu (by rw [ad0,if_pos (by omega)]) (by rw [ad0,if_pos (by omega)]; decide)
   simp only [push_cast,↓reduceIte,reduceCtorEq,zB,zE,zA,zS,zL,zD,zM];have g:¬k%2=1:=by simpa using g
   exact lu (by rw [ad0,if_neg (by omega)]) (by rw [ad0,if_neg (by omega)]; decide)
  simp only [push_cast,↓reduceIte,reduceCtorEq,zB,zE,zA,zS,zL,zD,zM];refine a7 (aak n a l s) rfl trivial ?_;simp only [s6,push_cast,↓reduceIte,reduceCtorEq,zB,zE,zA,zS,zL,zD,zM]
  have A:(n*a).natAbs<=9223372036854775808*9223372036854775808:=by
   rw [zcs];unfold b8 at l s;exact zcl (by omega) (by omega)
  refine b9 (as':=[s6 (n*a)]) rfl ?_;refine a7 (ahe (n*a) (by omega)) rfl trivial ?_;simp only [sm,push_cast,↓reduceIte,reduceCtorEq,zB,zE,zA,zS,zL,zD,zM];refine c7 (λ d=>?_) (λ d=>?_)
  ·simp only [push_cast,↓reduceIte,reduceCtorEq,zB,zE,zA,zS,zL,zD,zM];have d:¬b8 (n*a):=by simpa using d
   refine abe ?_;exact alw (λ x=>by rw [b]; exact arp x _) l s d o
  simp only [push_cast,↓reduceIte,reduceCtorEq,zB,zE,zA,zS,zL,zD,zM];have d:b8 (n*a):=by simpa using d
  rw [if_pos d,show IntKind.i64.wrap (i+1)=i+1 from a6 (by omega)];refine ⟨⟨n*a,i+1,by omega,by omega,d,?_,rfl⟩,by omega⟩;rw [show (i+1).toNat=i.toNat+1 by omega,zcn,<- b]
 simp only [decide_eq_false_iff_not] at h;simp only [push_cast,↓reduceIte,reduceCtorEq,zB,zE,zA,zS,zL,zD,zM];have:i=k:=by omega
 subst this;exact lu b (by rw [<- b]; exact l)

def aew:Mk P0 f52:={ x:=_ }
def acn:PC:=
 (.seq (.reg [p_s 2 (.mov (o_i 0))])
 (.seq (.seq (.reg [p_m 3 0,p_s 4 (.bin .geq (.t 3) (.c (.r (.v (.int .u64 4294967296)))))])
 (.cond (.t 4)
 (.seq (.reg [p_m 5 0,p_s 6 (.bin .shr (.t 5) (.c (.r (.v (.int .u64 32))))),p_m 0 6])
 (.reg [p_s 2 (.mov (o_i 32))]))
 .skip))
 (.seq (.seq (.reg [p_m 7 0,p_s 8 (.bin .geq (.t 7) (.c (.r (.v (.int .u64 65536)))))])
 (.cond (.t 8)
 (.seq (.reg [p_m 9 0,p_s 10 (.bin .shr (.t 9) (.c (.r (.v (.int .u64 16))))),p_m 0 10])
 (.reg [p_m 11 2,p_s 12 (.bin .add (.t 11) (o_i 16)),p_m 2 12]))
 .skip))
 (.seq (.seq (.reg [p_m 13 0,p_s 14 (.bin .geq (.t 13) (.c (.r (.v (.int .u64 256)))))])
 (.cond (.t 14)
 (.seq (.reg [p_m 15 0,p_s 16 (.bin .shr (.t 15) (.c (.r (.v (.int .u64 8))))),p_m 0 16])
 (.reg [p_m 17 2,p_s 18 (.bin .add (.t 17) (o_i 8)),p_m 2 18]))
 .skip))
 (.seq (.reg [p_m 19 2,p_m 20 0,p_s 21 (.conv .u8 (.t 20)),p_s 22 (.ixs (.c (.r (.v (.string ⟨#[0,1,2,2,3,3,3,3,4,4,4,4,4,4,4,4,5,5,5,5,5,5,5,5,5,5,5,5,5,5,5,5,6,6,6,6,6,6,6,6,6,6,6,6,6,6,6,6,6,6,6,6,6,6,6,6,6,6,6,6,6,6,6,6,7,7,7,7,7,7,7,7,7,7,7,7,7,7,7,7,7,7,7,7,7,7,7,7,7,7,7,7,7,7,7,7,7,7,7,7,7,7,7,7,7,7,7,7,7,7,7,7,7,7,7,7,7,7,7,7,7,7,7,7,7,7,7,7,8,8,8,8,8,8,8,8,8,8,8,8,8,8,8,8,8,8,8,8,8,8,8,8,8,8,8,8,8,8,8,8,8,8,8,8,8,8,8,8,8,8,8,8,8,8,8,8,8,8,8,8,8,8,8,8,8,8,8,8,8,8,8,8,8,8,8,8,8,8,8,8,8,8,8,8,8,8,8,8,8,8,8,8,8,8,8,8,8,8,8,8,8,8,8,8,8,8,8,8,8,8,8,8,8,8,8,8,8,8,8,8,8,8,8,8,8,8,8,8,8,8,8,8,8,8,8,8]⟩)))) (.t 21)),
 p_s 23 (.conv .i64 (.t 22)),p_s 24 (.bin .add (.t 19) (.t 23)),p_m 2 24])
 .ret)))))
theorem aee:Fun P0 91 1 [(2,false,none)] acn:=sh func91 rfl (by decide) (by kernel_rfl) (by decide) rfl (by kernel_rfl) (by kernel_rfl) (by decide)

structure Ei where
 a:Int
 b:Int
deriving DecidableEq
def Ei.rv (z:Ei):RV:=.agg [.v (.int .i64 z.a),.v (.int .i64 z.b)]
def Ei.v (z:Ei):AV:=.r z.rv
def Ei.mul (x y:Ei):Ei:=⟨x.a*y.a-x.b*y.b,x.a*y.b+x.b*y.a+x.b*y.b⟩
def Ei.add (x y:Ei):Ei:=⟨x.a+y.a,x.b+y.b⟩
def Ei.sub (x y:Ei):Ei:=⟨x.a-y.a,x.b-y.b⟩
def Ei.conj (x:Ei):Ei:=⟨x.a+x.b,-x.b⟩
def Ei.In (z:Ei) (n:Int):Prop:=(-n<=z.a/\z.a<=n)/\(-n<=z.b/\z.b<=n)
def Ei.H (z:Ei) (n:Int):Prop:=(-n<=z.a/\z.a<=n)/\(-n<=z.b/\z.b<=n)/\(-n<=z.a+z.b/\z.a+z.b<=n)
theorem Ei.ext' {x y:Ei} (c:x.a=y.a) (d:x.b=y.b):x=y:=by cases x; cases y; simp_all
variable {z:Ei} {n m:Int}
theorem Ei.In.mono (h:z.In n) (a:n<=m):z.In m:=by unfold Ei.In at *; omega
theorem Ei.H.mono (h:z.H n) (a:n<=m):z.H m:=by unfold Ei.H at *; omega
theorem Ei.H.in (h:z.H n):z.In n:=by unfold Ei.H Ei.In at *; omega
def cj:Ei:=⟨2,1⟩
theorem vg (a:-n<=x/\x<=n) (b:-m<=y/\y<=m):-(n*m)<=x*y/\x*y<=n*m:=by
 have h:(x*y).natAbs<=n.toNat*m.toNat:=by rw [zcs]; exact zcl (by omega) (by omega)
 have c:((n.toNat*m.toNat:Nat):Int)=n*m:=by
  rw [Int.natCast_mul,Int.toNat_of_nonneg (by omega),Int.toNat_of_nonneg (by omega)]
 omega
def g9 (d s t:Int):Prop:=(-d<=2*s+t/\2*s+t<=d)/\(-d<=s+2*t/\s+2*t<=d)/\(-d<=s-t/\s-t<=d)
instance (d s t:Int):Decidable (g9 d s t):=inferInstanceAs (Decidable (_/\_/\_))
def cu (d s t:Int):Ei:=if g9 d s t then ⟨0,0⟩ else if g9 d s (t-d) then ⟨0,1⟩ else if g9 d (s-d) t then ⟨1,0⟩ else ⟨1,1⟩
def Ei.round (u:Ei) (d:Int):Ei:=⟨u.a/d+(cu d (u.a%d) (u.b%d)).a,u.b/d+(cu d (u.a%d) (u.b%d)).b⟩
variable {d s t:Int}
theorem age (c:0<=s/\s<d) (e:0<=t/\t<d) :
 g9 d (s-(cu d s t).a*d) (t-(cu d s t).b*d)/\(0<=(cu d s t).a/\(cu d s t).a<=1)/\(0<=(cu d s t).b/\(cu d s t).b<=1):=by
 unfold cu;split
 ·next h=>unfold g9 at *; dsimp only; omega
 split
 ·next h=>unfold g9 at *; dsimp only; omega
 split
 ·next h=>unfold g9 at *; dsimp only; omega
 next h=>unfold g9 at *; dsimp only; omega
theorem ak6 {i k:Int} (q:0<=s/\s<d) (u:0<=t/\t<d) (p:-1<=i/\i<=2) (r:-1<=k/\k<=2)
 (h:g9 d (s-i*d) (t-k*d)) (e:∀a,-1<=a->a<k->¬g9 d (s-i*d) (t-a*d))
 (b:∀g a,-1<=g->g<i->-1<=a->a<=2->¬g9 d (s-g*d) (t-a*d)):cu d s t=⟨i,k⟩:=by
 have n:i=-1\/i=0\/i=1\/i=2:=by omega
 have l:k=-1\/k=0\/k=1\/k=2:=by omega
 have o:(-1:Int)*d=-d:=by omega
 have j:(0<i\/(i=0/\0<k))->¬g9 d s t:=λ c=>by
  rcases c with c | ⟨c,c'⟩
  ·have:=b 0 0 (by omega) c (by omega) (by omega); simpa using this
  have:=e 0 (by omega) c'; rw [c] at this; simpa using this
 have m:(0<i\/(i=0/\1<k))->¬g9 d s (t-d):=λ c=>by
  rcases c with c | ⟨c,c'⟩
  ·have:=b 0 1 (by omega) c (by omega) (by omega); simpa using this
  have:=e 1 (by omega) c'; rw [c] at this; simpa using this
 have f:(1<i\/(i=1/\0<k))->¬g9 d (s-d) t:=λ c=>by
  rcases c with c | ⟨c,c'⟩
  ·have:=b 1 0 (by omega) c (by omega) (by omega); simpa using this
  have:=e 0 (by omega) c'; rw [c] at this; simpa using this
 clear e b
 rcases n with rfl | rfl | rfl | rfl<;>rcases l with rfl | rfl | rfl | rfl <;>
  first
  | (exfalso; unfold g9 at h; omega)
  | (simp only [Int.zero_mul,Int.one_mul,Int.sub_zero] at h
     simp [cu,h]; done)
  | (simp only [Int.zero_mul,Int.one_mul,Int.sub_zero] at h
     simp [cu,h,j,m,f])
theorem ary (c:0<=s/\s<d) (f:0<=t/\t<d)
 (e:∀a b,-1<=a->a<3->-1<=b->b<=2->¬g9 d (s-a*d) (t-b*d)):False:=by
 obtain ⟨h,g,i⟩:=age c f;exact e _ _ (by omega) (by omega) (by omega) (by omega) h
def fr (d a b:Int) (z:Ei):Int:=d*(z.a*z.a+z.a*z.b+z.b*z.b)-z.a*(2*a+b)-z.b*(a+2*b)
def pk (d a b:Int) (p:Int×Ei) (z:Ei):Int×Ei:=if fr d a b z<p.1 then (fr d a b z,z) else p
def uz:List Ei:=[⟨0,1⟩,⟨1,0⟩,⟨1,1⟩]
theorem ak5 {b:Int} (i:0<=a/\a<d) (j:0<=b/\b<d):(uz.foldl (pk d a b) (0,⟨0,0⟩)).2=cu d a b:=by
 simp only [uz,List.foldl_cons,List.foldl_nil];have h:fr d a b ⟨0,1⟩=d-(a+2*b):=by simp [fr]
 have g:fr d a b ⟨1,0⟩=d-(2*a+b):=by simp [fr]
 have e:fr d a b ⟨1,1⟩=d*3-(2*a+b)-(a+2*b):=by simp [fr]
 unfold cu;by_cases f:d-(a+2*b)<0
 ·by_cases c2:d-(2*a+b)<d-(a+2*b)
  ·by_cases c:d*3-(2*a+b)-(a+2*b)<d-(2*a+b)
   ·simp only [pk,h,g,e,f,c2,c,if_true];rw [if_neg (by unfold g9; omega),if_neg (by unfold g9; omega),if_neg (by unfold g9; omega)]
   simp only [pk,h,g,e,f,c2,c,if_true,if_false];rw [if_neg (by unfold g9; omega),if_neg (by unfold g9; omega),if_pos (by unfold g9; omega)]
  by_cases c:d*3-(2*a+b)-(a+2*b)<d-(a+2*b)
  ·simp only [pk,h,g,e,f,c2,c,if_true,if_false];rw [if_neg (by unfold g9; omega),if_neg (by unfold g9; omega),if_neg (by unfold g9; omega)]
  simp only [pk,h,g,e,f,c2,c,if_true,if_false];rw [if_neg (by unfold g9; omega),if_pos (by unfold g9; omega)]
 by_cases c2:d-(2*a+b)<0
 ·by_cases c:d*3-(2*a+b)-(a+2*b)<d-(2*a+b)
  ·simp only [pk,h,g,e,f,c2,c,if_true,if_false];rw [if_neg (by unfold g9; omega),if_neg (by unfold g9; omega),if_neg (by unfold g9; omega)]
  simp only [pk,h,g,e,f,c2,c,if_true,if_false];rw [if_neg (by unfold g9; omega),if_neg (by unfold g9; omega),if_pos (by unfold g9; omega)]
 by_cases c:d*3-(2*a+b)-(a+2*b)<0
 ·exfalso; omega
 simp only [pk,h,g,e,f,c2,c,if_true,if_false];rw [if_pos (by unfold g9; omega)]
theorem k7 (u:Ei) (c:0<d):g9 d (u.a-(u.round d).a*d) (u.b-(u.round d).b*d):=by
 have l:=zcv u.a d;have m:=zcv u.b d;have j:=zag u.a c;have e:=zah u.a (show d≠0 by omega);have g:=zag u.b c;have k:=zah u.b (show d≠0 by omega);obtain ⟨h,_⟩:=age (d:=d) (s:=u.a%d) (t:=u.b%d) ⟨e,j⟩ ⟨k,g⟩
 have f:u.a-(u.round d).a*d=u.a%d-(cu d (u.a%d) (u.b%d)).a*d:=by
  simp only [Ei.round,Int.add_mul];rw [zcf (u.a/d) d];omega
 have i:u.b-(u.round d).b*d=u.b%d-(cu d (u.a%d) (u.b%d)).b*d:=by
  simp only [Ei.round,Int.add_mul];rw [zcf (u.b/d) d];omega
 rw [f,i]; exact h
def pr (z:Ei):Ei:=(z.mul ⟨3,-1⟩).round 7
def lft (z:Ei):Ei:=z.sub ((pr z).mul cj)
def ado (l:Ei):Nat:=if l=⟨1,0⟩ then 1 else if l=⟨0,1⟩ then 2 else if l=⟨-1,1⟩ then 3 else if l=⟨-1,0⟩ then 4 else if l=⟨0,-1⟩ then 5 else if l=⟨1,-1⟩ then 6 else 0
def dg (z:Ei):Nat:=ado (lft z)
def uni (d:Nat):Ei:=match d with | 0=>⟨1,0⟩ | 1=>⟨0,1⟩ | 2=>⟨-1,1⟩ | 3=>⟨-1,0⟩ | 4=>⟨0,-1⟩ | _=>⟨1,-1⟩
def a0i (z:Ei) (d:Nat):Ei:=if d=0 then z.mul cj else (z.mul cj).add (uni (d-1))
theorem ab1 (z:Ei):dg z<7:=by
 unfold dg ado; repeat' split
 all_goals omega
theorem aap (z:Ei):∃l:Ei,lft z=l/\l.H 1/\z.a=2*(pr z).a-(pr z).b+l.a/\z.b=(pr z).a+3*(pr z).b+l.b:=by
 have h:=k7 (z.mul ⟨3,-1⟩) (d:=7) (by decide);refine ⟨lft z,rfl,?_,?_,?_⟩
 ·unfold g9 at h;unfold Ei.H lft Ei.sub pr;simp only [Ei.mul,cj] at *;generalize Ei.round _ 7=q at *;simp only [Int.mul_one,Int.mul_neg] at *;omega
 ·simp only [lft,Ei.sub,Ei.mul,cj]; omega
 simp only [lft,Ei.sub,Ei.mul,cj]; omega
def anc:Nat->Ei->Ei
 | 0,z=>z
 | k+1,z=>anc k (pr z)
theorem afo (k:Nat) (z:Ei):anc (k+1) z=pr (anc k z):=by
 induction k generalizing z with
 | zero=>rfl
 | succ k ih=>rw [anc,ih]; rfl
def val:Nat->Ei->Nat
 | 0,_=>0
 | r+1,z=>val r (pr z)*8+dg z
theorem aog (r:Nat) (z:Ei):val r z<8^r:=by
 induction r generalizing z with
 | zero=>simp [val]
 | succ r ih=>
   have:=ih (pr z);have:=ab1 z;rw [val,zcg];omega
theorem ats (r i:Nat) (z:Ei) (h:i<=r):val r z/8^i=val (r-i) (anc i z):=by
 induction i generalizing r z with
 | zero=>simp [anc]
 | succ i ih=>
   obtain ⟨r,rfl⟩:∃m,r=m+1:=⟨r-1,by omega⟩
   rw [show r+1-(i+1)=r-i by omega,anc,<- ih r (pr z) (by omega),zcg,zas,<- zcw,val];have:=ab1 z;congr 1;omega
def okc (r:Nat) (z:Ei):Prop:=r<=12/\z.In 1073741824/\(-512<=(anc r z).a/\(anc r z).a<=511)/\(-512<=(anc r z).b/\(anc r z).b<=511)
instance (r:Nat) (z:Ei):Decidable (okc r z):=by unfold okc Ei.In; infer_instance
def je (r:Nat) (q:Ei):Nat:=((16+r)*1024+(q.a+512).toNat)*1024+(q.b+512).toNat
def eh (r:Nat) (z:Ei):Nat:=(je r (anc r z)*8^r+val r z)*8^(12-r)+(8^(12-r)-1)
def dgt (w i:Nat):Nat:=w/8^(12-i)%8
def abh (w:Nat):Nat:=w/72057594037927936%16
def a0j (w:Nat):Ei:=⟨((w/70368744177664%1024:Nat):Int)-512,((w/68719476736%1024:Nat):Int)-512⟩
def a0s (w:Nat):Nat->Ei
 | 0=>a0j w
 | i+1=>a0i (a0s w i) (dgt w (i+1))
def isW (w:Nat):Prop:=w/1152921504606846976=1/\abh w<=12/\∀i,1<=i->i<=12->(dgt w i=7↔abh w<i)
theorem aey (r:Nat) (z:Ei) (f:r<=12):eh r z/68719476736=je r (anc r z):=by
 have a:=aog r z;have e:(68719476736:Nat)=8^r*8^(12-r):=by rw [<- zac,show r+(12-r)=12 by omega]
 have d:0<8^(12-r):=zci (by decide);have c:0<8^r:=zci (by decide);rw [e,zas (8^r),<- zcw,eh]
 have b:((je r (anc r z)*8^r+val r z)*8^(12-r)+(8^(12-r)-1))/8^(12-r)=je r (anc r z)*8^r+val r z:=by
  rw [Nat.add_comm,zct _ _ d,zcx (by omega)]; omega
 rw [b,Nat.add_comm,zct _ _ c,zcx a]; omega
theorem ai2 (r i:Nat) (z:Ei) (f:r<=12) (d:1<=i) (g:i<=r):dgt (eh r z) i=dg (anc (r-i) z):=by
 have b:0<8^(12-r):=zci (by decide);have e:8^(12-i)=8^(12-r)*8^(r-i):=by rw [<- zac,show 12-r+(r-i)=12-i by omega]
 unfold dgt eh;rw [e,<- zcw]
 have c:((je r (anc r z)*8^r+val r z)*8^(12-r)+(8^(12-r)-1))/8^(12-r)=je r (anc r z)*8^r+val r z:=by
  rw [Nat.add_comm,zct _ _ b,zcx (by omega)]; omega
 rw [c]
 have a:je r (anc r z)*8^r=je r (anc r z)*8^(i-1)*8*8^(r-i):=by
  rw [zae (je r (anc r z)),<- zcg,zae,<- zac,show i-1+1+(r-i)=r by omega]
 rw [a,Nat.add_comm,zct _ _ (zci (by decide)),ats r (r-i) z (by omega),show r-(r-i)=(i-1)+1 by omega,val];have:=ab1 (anc (r-i) z);generalize je r (anc r z)*8^(i-1)=m;omega
theorem afr (r i:Nat) (z:Ei) (d:r<i) (h:i<=12):dgt (eh r z) i=7:=by
 unfold dgt eh;have e:8^(12-r)=8^(i-r-1)*8*8^(12-i):=by rw [<- zcg,<- zac,show i-r-1+1+(12-i)=12-r by omega]
 have b:0<8^(12-i):=zci (by decide);have a:0<8^(i-r-1):=zci (by decide);rw [e];generalize je r (anc r z)*8^r+val r z=m;generalize hx:8^(i-r-1)=x at *;generalize hy:8^(12-i)=y at *
 have c:m*(x*8*y)+(x*8*y-1)=(y-1)+(m*(x*8)+(x*8-1))*y:=by
  have:(x*8-1)*y=x*8*y-y:=by rw [Nat.sub_mul,Nat.one_mul]
  have g:y<=x*8*y:=Nat.le_mul_of_pos_left _ (by omega);rw [zat,this,<- zae];omega
 rw [c,zct _ _ b,zcx (by omega)];have f:m*(x*8)=m*x*8:=(zae _ _ _).symm;omega
theorem agr (r:Nat) (q:Ei) (e:r<=12) (c:-512<=q.a/\q.a<=511) (d:-512<=q.b/\q.b<=511) :
 je r q/16777216=1/\je r q/1048576%16=r/\((je r q/1024%1024:Nat):Int)-512=q.a/\((je r q%1024:Nat):Int)-512=q.b:=by
 unfold je;omega
theorem ahc (r:Nat) (z:Ei) (h:okc r z):eh r z<18446744073709551616:=by
 have a:=aey r z h.1;have b:=agr r (anc r z) h.1 h.2.2.1 h.2.2.2;omega
theorem ai1 (r:Nat) (z:Ei) (h:okc r z):isW (eh r z)/\abh (eh r z)=r:=by
 have e:=aey r z h.1;have f:=agr r (anc r z) h.1 h.2.2.1 h.2.2.2;have b:abh (eh r z)=r:=by unfold abh; omega
 refine ⟨⟨by omega,by rw [b]; exact h.1,λ i c d=>?_⟩,b⟩;rw [b];by_cases a:r<i
 ·simp [a,afr r i z a d]
 simp only [a,iff_false];rw [ai2 r i z h.1 c (by omega)];have:=ab1 (anc (r-i) z);omega

def d5:Nat->Ei
 | 0=>⟨1,0⟩
 | k+1=>(d5 k).mul cj
theorem ju (k:Nat) (h:k<=12):(d5 k).In 120000:=by
 have:∀j:Fin 13,(d5 j.val).In 120000:=by unfold Ei.In; decide
 exact this ⟨k,by omega⟩
def ax (x y:Int):Ei:=⟨45*x-26*y,52*y⟩
def i7 (x y:Int) (r:Nat):Ei:=((ax x y).mul (d5 (12-r)).conj).round (2340*7^(12-r))
theorem vz (h:z.H n) (b:3*n+4<7*(m+1)):(pr z).H m:=by
 have a:=k7 (z.mul ⟨3,-1⟩) (d:=7) (by decide);unfold g9 at a;unfold Ei.H pr at *;simp only [Ei.mul] at *;generalize Ei.round _ 7=q at *;simp only [Int.mul_one,Int.mul_neg] at *;omega
theorem bg (h:z.H n) (j:19*n+330<343*(m+1)):(anc 3 z).H m:=by
 obtain ⟨k,_,a,o,b⟩:=aap z;obtain ⟨s,_,r,l,f⟩:=aap (pr z);obtain ⟨p,_,i,e,g⟩:=aap (pr (pr z));show (pr (pr (pr z))).H m;generalize pr (pr (pr z))=q at *;generalize pr (pr z)=c at *;generalize pr z=d at *;unfold Ei.H at *;omega
theorem al9 (x y:Int) (hx:0<=x/\x<1073741824) (hy:0<=y/\y<1073741824):(i7 x y 0).H 260:=by
 have h:=k7 ((ax x y).mul (d5 (12-0)).conj) (d:=2340*7^(12-0)) (by decide);have e:(d5 (12-0)).conj=⟨-128231,102960⟩:=by decide
 have a:(2340*7^(12-0):Int)=32388612050340:=by decide
 unfold i7;generalize Ei.round _ _=q at *;rw [e,a] at h;unfold g9 Ei.H at *;simp only [Ei.mul,ax] at *;omega
theorem al8 (x y:Int) (hx:0<=x/\x<1073741824) (hy:0<=y/\y<1073741824):(i7 x y 1).H 734:=by
 have h:=k7 ((ax x y).mul (d5 (12-1)).conj) (d:=2340*7^(12-1)) (by decide);have e:(d5 (12-1)).conj=⟨-51346,25807⟩:=by decide
 have a:(2340*7^(12-1):Int)=4626944578620:=by decide
 unfold i7;generalize Ei.round _ _=q at *;rw [e,a] at h;unfold g9 Ei.H at *;simp only [Ei.mul,ax] at *;omega
theorem al7 (x y:Int) (hx:0<=x/\x<1073741824) (hy:0<=y/\y<1073741824):(i7 x y 2).H 2004:=by
 have h:=k7 ((ax x y).mul (d5 (12-2)).conj) (d:=2340*7^(12-2)) (by decide);have e:(d5 (12-2)).conj=⟨-18357,3725⟩:=by decide
 have a:(2340*7^(12-2):Int)=660992082660:=by decide
 unfold i7;generalize Ei.round _ _=q at *;rw [e,a] at h;unfold g9 Ei.H at *;simp only [Ei.mul,ax] at *;omega
theorem al6 (x y:Int) (hx:0<=x/\x<1073741824) (hy:0<=y/\y<1073741824):(i7 x y 3).H 4887:=by
 have h:=k7 ((ax x y).mul (d5 (12-3)).conj) (d:=2340*7^(12-3)) (by decide);have e:(d5 (12-3)).conj=⟨-5777,-1026⟩:=by decide
 have a:(2340*7^(12-3):Int)=94427440380:=by decide
 unfold i7;generalize Ei.round _ _=q at *;rw [e,a] at h;unfold g9 Ei.H at *;simp only [Ei.mul,ax] at *;omega
theorem al5 (x y:Int) (hx:0<=x/\x<1073741824) (hy:0<=y/\y<1073741824):(i7 x y 4).H 13376:=by
 have h:=k7 ((ax x y).mul (d5 (12-4)).conj) (d:=2340*7^(12-4)) (by decide);have e:(d5 (12-4)).conj=⟨-1504,-1265⟩:=by decide
 have a:(2340*7^(12-4):Int)=13489634340:=by decide
 unfold i7;generalize Ei.round _ _=q at *;rw [e,a] at h;unfold g9 Ei.H at *;simp only [Ei.mul,ax] at *;omega
theorem al4 (x y:Int) (hx:0<=x/\x<1073741824) (hy:0<=y/\y<1073741824):(i7 x y 5).H 37163:=by
 have h:=k7 ((ax x y).mul (d5 (12-5)).conj) (d:=2340*7^(12-5)) (by decide);have e:(d5 (12-5)).conj=⟨-249,-757⟩:=by decide
 have a:(2340*7^(12-5):Int)=1927090620:=by decide
 unfold i7;generalize Ei.round _ _=q at *;rw [e,a] at h;unfold g9 Ei.H at *;simp only [Ei.mul,ax] at *;omega
theorem al3 (x y:Int) (hx:0<=x/\x<1073741824) (hy:0<=y/\y<1073741824):(i7 x y 6).H 92189:=by
 have h:=k7 ((ax x y).mul (d5 (12-6)).conj) (d:=2340*7^(12-6)) (by decide);have e:(d5 (12-6)).conj=⟨37,-360⟩:=by decide
 have a:(2340*7^(12-6):Int)=275298660:=by decide
 unfold i7;generalize Ei.round _ _=q at *;rw [e,a] at h;unfold g9 Ei.H at *;simp only [Ei.mul,ax] at *;omega
theorem al2 (x y:Int) (hx:0<=x/\x<1073741824) (hy:0<=y/\y<1073741824):(i7 x y 7).H 243699:=by
 have h:=k7 ((ax x y).mul (d5 (12-7)).conj) (d:=2340*7^(12-7)) (by decide);have e:(d5 (12-7)).conj=⟨62,-149⟩:=by decide
 have a:(2340*7^(12-7):Int)=39328380:=by decide
 unfold i7;generalize Ei.round _ _=q at *;rw [e,a] at h;unfold g9 Ei.H at *;simp only [Ei.mul,ax] at *;omega
theorem al1 (x y:Int) (hx:0<=x/\x<1073741824) (hy:0<=y/\y<1073741824):(i7 x y 8).H 688202:=by
 have h:=k7 ((ax x y).mul (d5 (12-8)).conj) (d:=2340*7^(12-8)) (by decide);have e:(d5 (12-8)).conj=⟨39,-55⟩:=by decide
 have a:(2340*7^(12-8):Int)=5618340:=by decide
 unfold i7;generalize Ei.round _ _=q at *;rw [e,a] at h;unfold g9 Ei.H at *;simp only [Ei.mul,ax] at *;omega
theorem al0 (x y:Int) (hx:0<=x/\x<1073741824) (hy:0<=y/\y<1073741824):(i7 x y 9).H 1735123:=by
 have h:=k7 ((ax x y).mul (d5 (12-9)).conj) (d:=2340*7^(12-9)) (by decide);have e:(d5 (12-9)).conj=⟨19,-18⟩:=by decide
 have a:(2340*7^(12-9):Int)=802620:=by decide
 unfold i7;generalize Ei.round _ _=q at *;rw [e,a] at h;unfold g9 Ei.H at *;simp only [Ei.mul,ax] at *;omega
theorem aju (x y:Int) (hx:0<=x/\x<1073741824) (hy:0<=y/\y<1073741824):(i7 x y 10).H 4429444:=by
 have h:=k7 ((ax x y).mul (d5 (12-10)).conj) (d:=2340*7^(12-10)) (by decide);have e:(d5 (12-10)).conj=⟨8,-5⟩:=by decide
 have a:(2340*7^(12-10):Int)=114660:=by decide
 unfold i7;generalize Ei.round _ _=q at *;rw [e,a] at h;unfold g9 Ei.H at *;simp only [Ei.mul,ax] at *;omega
theorem ajt (x y:Int) (hx:0<=x/\x<1073741824) (hy:0<=y/\y<1073741824):(i7 x y 11).H 12717090:=by
 have h:=k7 ((ax x y).mul (d5 (12-11)).conj) (d:=2340*7^(12-11)) (by decide);have e:(d5 (12-11)).conj=⟨3,-1⟩:=by decide
 have a:(2340*7^(12-11):Int)=16380:=by decide
 unfold i7;generalize Ei.round _ _=q at *;rw [e,a] at h;unfold g9 Ei.H at *;simp only [Ei.mul,ax] at *;omega
theorem ajs (x y:Int) (hx:0<=x/\x<1073741824) (hy:0<=y/\y<1073741824):(i7 x y 12).H 32579347:=by
 have h:=k7 ((ax x y).mul (d5 (12-12)).conj) (d:=2340*7^(12-12)) (by decide);have e:(d5 (12-12)).conj=⟨1,0⟩:=by decide
 have a:(2340*7^(12-12):Int)=2340:=by decide
 unfold i7;generalize Ei.round _ _=q at *;rw [e,a] at h;unfold g9 Ei.H at *;simp only [Ei.mul,ax] at *;omega
theorem ay0 (a:z.H 260):(anc 0 z).H 511:=by
 exact a.mono (by decide)
theorem anl (x y:Int) (hx:0<=x/\x<1073741824) (hy:0<=y/\y<1073741824):(anc 0 (i7 x y 0)).H 511:=ay0 (al9 x y hx hy)
theorem ayz (b:z.H 734):(anc 1 z).H 511:=by
 have a:=vz (m:=315) b (by decide);exact a.mono (by decide)
theorem ank (x y:Int) (hx:0<=x/\x<1073741824) (hy:0<=y/\y<1073741824):(anc 1 (i7 x y 1)).H 511:=ayz (al8 x y hx hy)
theorem ayy (c:z.H 2004):(anc 2 z).H 511:=by
 have a:=vz (m:=859) c (by decide);have b:=vz (m:=368) a (by decide);exact b.mono (by decide)
theorem anj (x y:Int) (hx:0<=x/\x<1073741824) (hy:0<=y/\y<1073741824):(anc 2 (i7 x y 2)).H 511:=ayy (al7 x y hx hy)
theorem ayx (b:z.H 4887):(anc 3 z).H 511:=by
 have a:=bg (m:=271) b (by decide);exact a.mono (by decide)
theorem ani (x y:Int) (hx:0<=x/\x<1073741824) (hy:0<=y/\y<1073741824):(anc 3 (i7 x y 3)).H 511:=ayx (al6 x y hx hy)
theorem ayw (c:z.H 13376):(anc 4 z).H 511:=by
 have a:=vz (m:=5733) c (by decide);have b:=bg (m:=318) a (by decide);exact b.mono (by decide)
theorem anh (x y:Int) (hx:0<=x/\x<1073741824) (hy:0<=y/\y<1073741824):(anc 4 (i7 x y 4)).H 511:=ayw (al5 x y hx hy)
theorem ayv (d:z.H 37163):(anc 5 z).H 511:=by
 have a:=vz (m:=15927) d (by decide);have b:=vz (m:=6826) a (by decide);have c:=bg (m:=379) b (by decide);exact c.mono (by decide)
theorem ang (x y:Int) (hx:0<=x/\x<1073741824) (hy:0<=y/\y<1073741824):(anc 5 (i7 x y 5)).H 511:=ayv (al4 x y hx hy)
theorem ayu (c:z.H 92189):(anc 6 z).H 511:=by
 have a:=bg (m:=5107) c (by decide);have b:=bg (m:=283) a (by decide);exact b.mono (by decide)
theorem anf (x y:Int) (hx:0<=x/\x<1073741824) (hy:0<=y/\y<1073741824):(anc 6 (i7 x y 6)).H 511:=ayu (al3 x y hx hy)
theorem ayt (d:z.H 243699):(anc 7 z).H 511:=by
 have a:=vz (m:=104443) d (by decide);have b:=bg (m:=5786) a (by decide);have c:=bg (m:=321) b (by decide);exact c.mono (by decide)
theorem ane (x y:Int) (hx:0<=x/\x<1073741824) (hy:0<=y/\y<1073741824):(anc 7 (i7 x y 7)).H 511:=ayt (al2 x y hx hy)
theorem ays (d:z.H 688202):(anc 8 z).H 511:=by
 have a:=vz (m:=294944) d (by decide);have c:=vz (m:=126405) a (by decide);have e:=bg (m:=7002) c (by decide);have b:=bg (m:=388) e (by decide);exact b.mono (by decide)
theorem anb (x y:Int) (hx:0<=x/\x<1073741824) (hy:0<=y/\y<1073741824):(anc 8 (i7 x y 8)).H 511:=ays (al1 x y hx hy)
theorem ayr (d:z.H 1735123):(anc 9 z).H 511:=by
 have a:=bg (m:=96115) d (by decide);have b:=bg (m:=5325) a (by decide);have c:=bg (m:=295) b (by decide);exact c.mono (by decide)
theorem ana (x y:Int) (hx:0<=x/\x<1073741824) (hy:0<=y/\y<1073741824):(anc 9 (i7 x y 9)).H 511:=ayr (al0 x y hx hy)
theorem av2 (d:z.H 4429444):(anc 10 z).H 511:=by
 have a:=vz (m:=1898333) d (by decide);have c:=bg (m:=105156) a (by decide);have e:=bg (m:=5825) c (by decide);have b:=bg (m:=323) e (by decide);exact b.mono (by decide)
theorem ak4 (x y:Int) (hx:0<=x/\x<1073741824) (hy:0<=y/\y<1073741824):(anc 10 (i7 x y 10)).H 511:=av2 (aju x y hx hy)
theorem av1 (e:z.H 12717090):(anc 11 z).H 511:=by
 have a:=vz (m:=5450182) e (by decide);have c:=vz (m:=2335792) a (by decide);have f:=bg (m:=129388) c (by decide);have b:=bg (m:=7168) f (by decide);have d:=bg (m:=398) b (by decide);exact d.mono (by decide)
theorem ak3 (x y:Int) (hx:0<=x/\x<1073741824) (hy:0<=y/\y<1073741824):(anc 11 (i7 x y 11)).H 511:=av1 (ajt x y hx hy)
theorem av0 (d:z.H 32579347):(anc 12 z).H 511:=by
 have a:=bg (m:=1804687) d (by decide);have c:=bg (m:=99969) a (by decide);have e:=bg (m:=5538) c (by decide);have b:=bg (m:=307) e (by decide);exact b.mono (by decide)
theorem ak2 (x y:Int) (hx:0<=x/\x<1073741824) (hy:0<=y/\y<1073741824):(anc 12 (i7 x y 12)).H 511:=av0 (ajs x y hx hy)
theorem axv (x y:Int) (r:Nat) (hx:0<=x/\x<1073741824) (hy:0<=y/\y<1073741824) (a:r<=12):(i7 x y r).H 32579347:=by
 rcases (show r=0\/r=1\/r=2\/r=3\/r=4\/r=5\/r=6\/r=7\/r=8\/r=9\/r=10\/r=11\/r=12 by omega) with rfl | rfl | rfl | rfl | rfl | rfl | rfl | rfl | rfl | rfl | rfl | rfl | rfl
 ·exact (al9 x y hx hy).mono (by decide)
 ·exact (al8 x y hx hy).mono (by decide)
 ·exact (al7 x y hx hy).mono (by decide)
 ·exact (al6 x y hx hy).mono (by decide)
 ·exact (al5 x y hx hy).mono (by decide)
 ·exact (al4 x y hx hy).mono (by decide)
 ·exact (al3 x y hx hy).mono (by decide)
 ·exact (al2 x y hx hy).mono (by decide)
 ·exact (al1 x y hx hy).mono (by decide)
 ·exact (al0 x y hx hy).mono (by decide)
 ·exact (aju x y hx hy).mono (by decide)
 ·exact (ajt x y hx hy).mono (by decide)
 exact (ajs x y hx hy).mono (by decide)
theorem apx (x y:Int) (r:Nat) (hx:0<=x/\x<1073741824) (hy:0<=y/\y<1073741824) (a:r<=12):(anc r (i7 x y r)).H 511:=by
 rcases (show r=0\/r=1\/r=2\/r=3\/r=4\/r=5\/r=6\/r=7\/r=8\/r=9\/r=10\/r=11\/r=12 by omega) with rfl | rfl | rfl | rfl | rfl | rfl | rfl | rfl | rfl | rfl | rfl | rfl | rfl
 ·exact anl x y hx hy
 ·exact ank x y hx hy
 ·exact anj x y hx hy
 ·exact ani x y hx hy
 ·exact anh x y hx hy
 ·exact ang x y hx hy
 ·exact anf x y hx hy
 ·exact ane x y hx hy
 ·exact anb x y hx hy
 ·exact ana x y hx hy
 ·exact ak4 x y hx hy
 ·exact ak3 x y hx hy
 exact ak2 x y hx hy
theorem afb (x y:Int) (r:Nat) (hx:0<=x/\x<1073741824) (hy:0<=y/\y<1073741824) (a:r<=12):okc r (i7 x y r):=by
 have b:=axv x y r hx hy a;have c:=apx x y r hx hy a;unfold okc;unfold Ei.In;unfold Ei.H at b c;omega

def aa3:Mk P0 f141:={ x:=_ }
def vi:PC:=
 (.seq (.reg [p_a 2 (.box (.t 0)),p_a 3 (.box (.t 1)),p_a 4 (.new [(.r (.v (.int .i64 0))),(.r (.v (.int .u64 0)))])])
 (.seq (.reg [p_s 8 (.fa 1 (.t 2)),p_s 9 (.ld none (.t 8)),p_s 10 (.fa 1 (.t 3)),p_s 11 (.ld none (.t 10)),p_s 12 (.carry false (.t 9) (.t 11) (.c (.r (.v (.int .u64 0))))),
 p_m 7 12,p_s 13 (.ext (.t 7) 0),p_s 14 (.ext (.t 7) 1),p_m 5 13,p_m 6 14])
 (.seq (.reg [p_s 15 (.fa 0 (.t 2)),p_s 16 (.ld none (.t 15)),p_s 17 (.fa 0 (.t 3)),p_s 18 (.ld none (.t 17)),p_s 19 (.bin .add (.t 16) (.t 18)),p_m 20 6,p_s 21 (.conv .i64 (.t 20)),
 p_s 22 (.bin .add (.t 19) (.t 21)),p_m 23 5,p_s 24 (.build [(.r (.v (.int .i64 0))),(.r (.v (.int .u64 0)))] [(0,1,(.t 22)),(1,1,(.t 23))]),⟨none,none,0,.act (.st 2 (.t 4) (.t 24))⟩])
 .ret)))
theorem aad:Fun P0 140 2 [(4,false,some (206,(some 2)))] vi:=sh func140 rfl (by decide) (by kernel_rfl) (by decide) rfl (by kernel_rfl) (by kernel_rfl) (by decide)
def tl:PC:=
 (.seq (.reg [p_a 2 (.box (.t 0)),p_a 3 (.box (.t 1)),p_a 4 (.new [(.r (.v (.int .i64 0))),(.r (.v (.int .u64 0)))])])
 (.seq (.reg [p_s 8 (.fa 1 (.t 2)),p_s 9 (.ld none (.t 8)),p_s 10 (.fa 1 (.t 3)),p_s 11 (.ld none (.t 10)),p_s 12 (.carry true (.t 9) (.t 11) (.c (.r (.v (.int .u64 0))))),
 p_m 7 12,p_s 13 (.ext (.t 7) 0),p_s 14 (.ext (.t 7) 1),p_m 5 13,p_m 6 14])
 (.seq (.reg [p_s 15 (.fa 0 (.t 2)),p_s 16 (.ld none (.t 15)),p_s 17 (.fa 0 (.t 3)),p_s 18 (.ld none (.t 17)),p_s 19 (.bin .sub (.t 16) (.t 18)),p_m 20 6,p_s 21 (.conv .i64 (.t 20)),
 p_s 22 (.bin .sub (.t 19) (.t 21)),p_m 23 5,p_s 24 (.build [(.r (.v (.int .i64 0))),(.r (.v (.int .u64 0)))] [(0,1,(.t 22)),(1,1,(.t 23))]),⟨none,none,0,.act (.st 2 (.t 4) (.t 24))⟩])
 .ret)))
theorem zd:Fun P0 142 2 [(4,false,some (206,(some 2)))] tl:=sh func142 rfl (by decide) (by kernel_rfl) (by decide) rfl (by kernel_rfl) (by kernel_rfl) (by decide)
def tj:Mk P0 f143:={ x:=_ }
def ace:Mk P0 f137:={ x:=_ }
def adn:Mk P0 f115:={ x:=_ }
def wid (x:Int):AV:=.r (.agg [.v (.int .i64 (IntKind.i64.wrap (x/18446744073709551616))),.v (.int .u64 (x%18446744073709551616))])
theorem ai3 {b:Int} (c:a=IntKind.i64.wrap (x/18446744073709551616)) (d:b=x%18446744073709551616):AV.r (.agg [.v (.int .i64 a),.v (.int .u64 b)])=wid x:=by rw [c,d]; rfl
theorem alb (a b:Int):b5 P0 140 [wid a,wid b] [] (wid (a+b)) []:=by
 refine aad rfl (by decide) ?_
 push_cast [vi,wid,zaa]
 refine ⟨by omega,ai3 ?_ ?_⟩
 ·simp only [IntKind.wrap_i64]; omega
 omega
theorem aq3 (a b:Int):b5 P0 142 [wid a,wid b] [] (wid (a-b)) []:=by
 refine zd rfl (by decide) ?_
 push_cast [tl,wid,zaa]
 refine ⟨by omega,ai3 ?_ ?_⟩
 ·simp only [IntKind.wrap_i64]; omega
 omega
theorem aiw (a:Int) (h:-170141183460469231731687303715884105728<=a/\a<170141183460469231731687303715884105728):b5 P0 143 [wid a] [] (sm a) []:=by
 refine tj.t func143 ?_
 push_cast [tj,wid,zaa]
 rw [IntKind.wrap_i64,IntKind.wrap_i64];have f:b8 a->(a%18446744073709551616+9223372036854775808)%18446744073709551616-9223372036854775808=a:=by unfold b8; omega
 have e:(a/18446744073709551616+9223372036854775808)%18446744073709551616-9223372036854775808=a/18446744073709551616:=by omega
 rw [e];have j:a/18446744073709551616=0->(a%18446744073709551616+9223372036854775808)%18446744073709551616-9223372036854775808>=0->b8 a:=by unfold b8; omega
 have g:a/18446744073709551616=-1->(a%18446744073709551616+9223372036854775808)%18446744073709551616-9223372036854775808<0->b8 a:=by unfold b8; omega
 have i:b8 a->(a/18446744073709551616=0/\(a%18446744073709551616+9223372036854775808)%18446744073709551616-9223372036854775808>=0)\/(a/18446744073709551616=-1/\(a%18446744073709551616+9223372036854775808)%18446744073709551616-9223372036854775808<0):=by unfold b8; omega
 generalize a/18446744073709551616=q at *;generalize (a%18446744073709551616+9223372036854775808)%18446744073709551616-9223372036854775808=n at *;refine ⟨by simp +contextual,by simp +contextual; omega,c7 (λ hc=>?_) (λ hc=>?_)⟩
 ·push_cast
  have hy:b8 a:=by
   by_cases b:n<0
   ·by_cases c2:q=-1
    ·exact g c2 b
    simp [b,c2] at hc; omega
   by_cases c2:q=0
   ·exact j c2 (by omega)
   simp [b,c2] at hc
  exact lu (f hy) hy
 push_cast
 refine abe λ hy=>?_;rcases i hy with ⟨c,d⟩ | ⟨c,d⟩
 ·simp [c,d] at hc
 simp [c,d] at hc
theorem ad4 (b:b8 a):IntKind.u64.wrap a=if a<0 then a+18446744073709551616 else a:=by
 unfold b8 at b;rw [IntKind.wrap_u64];split<;>omega
theorem aba (a b:Int) (c:b8 a) (d:b8 b):b5 P0 141 [int .i64 a,int .i64 b] [] (wid (a*b)) []:=by
 refine aa3.t func141 ?_
 push_cast [aa3,zaa]
 have h:=c;have j:=d;unfold b8 at h j
 have f:∀x:Int,b8 x->((IntKind.u64.wrap x).toNat:Int)=if x<0 then x+18446744073709551616 else x:=λ x hx=>by
  rw [ad4 hx];unfold b8 at hx;split<;>omega
 have e:∀x:Int,b8 x->(IntKind.u64.wrap x).toNat<18446744073709551616:=λ x hx=>by
  rw [ad4 hx];unfold b8 at hx;split<;>omega
 refine b9 (as':=[int .u64 (IntKind.u64.wrap a).toNat,int .u64 (IntKind.u64.wrap b).toNat]) (by rw [f a c,f b d,ad4 c,ad4 d]) ?_;refine a7 (aho _ _ (e a c) (e b d)) rfl trivial ?_
 push_cast
 have k:((IntKind.u64.wrap a).toNat:Int)*((IntKind.u64.wrap b).toNat:Int)=a*b+(if a<0 then b*18446744073709551616 else 0)+(if b<0 then a*18446744073709551616 else 0)+(if a<0 then if b<0 then 340282366920938463463374607431768211456 else 0 else 0):=by
  rw [f a c,f b d];split<;>split<;>(try simp only [Int.add_mul,Int.mul_add])<;>omega
 rw [k];generalize a*b=m;refine c7 (λ g=>?_) (λ g=>?_)<;>push_cast<;>refine c7 (λ i=>?_) (λ i=>?_)<;>push_cast
 all_goals
  simp only [decide_eq_true_eq,decide_eq_false_iff_not] at g i;simp only [g,i,if_true,if_false];refine ai3 ?_ ?_
  ·simp only [IntKind.wrap_i64]; omega
  omega
theorem akn (a b:Int):b5 P0 137 [int .i64 a,bl true,int .i64 b,bl true] [] (.tup [Ei.v ⟨a,b⟩,bl true]) []:=by
 refine ace.t func137 ?_
 push_cast [ace,Ei.v,Ei.rv,zaa]
abbrev M63:Int:=9223372036854775807
theorem Ei.In.ok (h:z.In M63):b8 z.a/\b8 z.b:=by unfold Ei.In M63 at h; unfold b8; omega
theorem axn {x y:Ei} (hx:x.In 4611686018427387904) (hy:y.In 4611686018427387904):(-21267647932558653966460912964485513216<=x.a*y.a/\x.a*y.a<=21267647932558653966460912964485513216)/\(-21267647932558653966460912964485513216<=x.a*y.b/\x.a*y.b<=21267647932558653966460912964485513216)/\(-21267647932558653966460912964485513216<=x.b*y.a/\x.b*y.a<=21267647932558653966460912964485513216)/\(-21267647932558653966460912964485513216<=x.b*y.b/\x.b*y.b<=21267647932558653966460912964485513216):=
 ⟨vg hx.1 hy.1,vg hx.1 hy.2,vg hx.2 hy.1,vg hx.2 hy.2⟩
theorem agw (x y:Ei) (hx:x.In 4611686018427387904) (hy:y.In 4611686018427387904) (g:(x.mul y).In M63):b5 P0 115 [x.v,y.v] [] (.tup [(x.mul y).v,bl true]) []:=by
 refine adn.t func115 ?_;have f:=g.ok.1;have e:=g.ok.2;simp only [Ei.mul] at f e
 push_cast [adn,Ei.v,Ei.rv,zaa]
 have d:b8 x.a/\b8 x.b:=by unfold Ei.In at hx; unfold b8; omega
 have c:b8 y.a/\b8 y.b:=by unfold Ei.In at hy; unfold b8; omega
 refine a7 (aba x.b y.b d.2 c.2) rfl trivial ?_
 push_cast [wid]
 refine d9 (aba x.a y.a d.1 c.1) rfl trivial ?_
 push_cast [wid]
 refine x8 (as':=[wid (x.a*y.a),wid (x.b*y.b)]) rfl ?_;refine d9 (aq3 _ _) rfl trivial ?_
 push_cast [wid]
 refine x8 (as':=[wid (x.a*y.a-x.b*y.b)]) rfl ?_;refine d9 (aiw _ ?_) rfl trivial ?_
 ·have:=axn hx hy;omega
 push_cast [sm,f,if_pos]
 refine And.intro (by kernel_rfl) ?_;refine d9 (aba x.a y.b d.1 c.2) rfl trivial ?_
 push_cast [wid]
 refine d9 (aba x.b y.a d.2 c.1) rfl trivial ?_
 push_cast [wid]
 refine And.intro (by kernel_rfl) ?_;refine x8 (as':=[wid (x.a*y.b),wid (x.b*y.a)]) rfl ?_;refine d9 (alb _ _) rfl trivial ?_
 push_cast [wid]
 refine And.intro (by kernel_rfl) ?_;refine x8 (as':=[wid (x.a*y.b+x.b*y.a),wid (x.b*y.b)]) rfl ?_;refine d9 (alb _ _) rfl trivial ?_
 push_cast [wid]
 refine x8 (as':=[wid (x.a*y.b+x.b*y.a+x.b*y.b)]) rfl ?_;refine d9 (aiw _ ?_) rfl trivial ?_
 ·have:=axn hx hy;omega
 push_cast [sm,e,if_pos]
 refine And.intro (by kernel_rfl) ?_;refine a7 (akn _ _) rfl trivial ?_
 push_cast [Ei.v,Ei.rv,Ei.mul]

def aa4:Mk P0 f148:={ x:=_ }
def adm:Mk P0 f146:={ x:=_ }
def acg:Mk P0 f113:={ x:=_ }
def acf:Mk P0 f129:={ x:=_ }
def ach:Mk P0 f112:={ x:=_ }
def acb:Mk P0 f144:={ x:=_ }
def aa5:Mk P0 f116:={ x:=_ }
theorem abf (h:b8 x):sm x=.tup [int .i64 x,bl true]:=by simp [sm,h]
theorem ayh (x y:Ei) (hx:x.In M63) (hy:y.In M63) (c:(x.sub y).In M63):b5 P0 146 [x.v,y.v] [] (.tup [(x.sub y).v,bl true]) []:=by
 have d:b5 P0 148 [x.v,y.v,.fn (.func 151) []] [] (.tup [(x.sub y).v,bl true]) []:=by
  refine aa4.t func148 ?_
  push_cast [aa4,Ei.v,Ei.rv,zaa]
  refine ⟨by kernel_rfl,?_⟩;refine a7 (amy _ _ hx.ok.1 hy.ok.1) rfl trivial ?_;rw [abf (show b8 (x.a-y.a) from c.ok.1)]
  push_cast
  refine ⟨by kernel_rfl,?_⟩;refine a7 (amy _ _ hx.ok.2 hy.ok.2) rfl trivial ?_;rw [abf (show b8 (x.b-y.b) from c.ok.2)]
  push_cast
  refine a7 (akn _ _) rfl trivial ?_
  push_cast [Ei.v,Ei.rv,Ei.sub]
 refine adm.t func146 ?_
 push_cast [adm,Ei.v,Ei.rv,zaa]
 refine b9 (as':=[x.v,y.v,.fn (.func 151) []]) rfl ?_;refine a7 d rfl trivial ?_
 push_cast [Ei.v,Ei.rv,Ei.sub]
theorem ami (x:Ei) (hx:x.In 4611686018427387903):b5 P0 113 [x.v] [] (.tup [x.conj.v,bl true]) []:=by
 refine acg.t func113 ?_;have h:=hx;unfold Ei.In at h
 push_cast [acg,Ei.v,Ei.rv,zaa]
 refine a7 (a0m _ _ (by unfold b8; omega) (by unfold b8; omega)) rfl trivial ?_;rw [abf (by unfold b8; omega)]
 push_cast
 refine a7 (azw _ (by unfold b8; omega)) rfl trivial ?_;rw [abf (by unfold b8; omega)]
 push_cast
 refine a7 (akn _ _) rfl trivial ?_
 push_cast [Ei.v,Ei.rv,Ei.conj]
theorem as5:uni 0=⟨1,0⟩:=rfl
theorem as4:uni 1=⟨0,1⟩:=rfl
theorem as3:uni 2=⟨-1,1⟩:=rfl
theorem as2:uni 3=⟨-1,0⟩:=rfl
theorem as1:uni 4=⟨0,-1⟩:=rfl
theorem as0:uni 5=⟨1,-1⟩:=rfl
theorem avp (k:Int) (a:0<=k/\k<6):b5 P0 129 [int .i64 k] [] (uni k.toNat).v []:=by
 refine acf.t func129 ?_
 have b:(IntKind.i64.wrap (Int.tmod k 6+6)).tmod 6=k:=by
  rw [zco a.1,a6 (by omega),zco (by omega)]; omega
 simp only [acf,b,Ei.v,Ei.rv,push_cast,↓reduceIte,reduceCtorEq,zB,zE,zA,zS,zL,zD,zM];refine ⟨by decide,by decide,a,by omega,?_⟩;rcases (show k=0\/k=1\/k=2\/k=3\/k=4\/k=5 by omega) with rfl | rfl | rfl | rfl | rfl | rfl
 all_goals
  simp only [Int.reduceToNat,Nat.zero_mul,Nat.add_zero,zcu,as5,as4,as3,as2,as1,as0,push_cast,↓reduceIte,reduceCtorEq,zB,zE,zA,zS,zL,zD,zM]
  first | done | trace_state
theorem abd (a m:Int) (e:b8 a) (f:0<=m/\m<=4611686018427387904):b5 P0 144 [int .i64 a,int .i64 m] [] (bl (decide (-m<=a/\a<=m))) []:=by
 refine acb.t func144 ?_
 push_cast [acb,zaa]
 rw [show IntKind.i64.wrap (0-m)=-m by rw [a6 (by omega)]; omega];refine pt ?_;by_cases b:-m<=a<;>by_cases c:a<=m<;>by_cases d:a=-9223372036854775808<;>simp [b,c,d]
 all_goals omega
theorem avr (k:Int) (m:0<=k/\k<=12):b5 P0 112 [int .i64 k] [] (.tup [(d5 k.toNat).v,bl true]) []:=by
 refine ach.t func112 ?_;have d:decide (k<0)=false:=by simp; omega
 have c2:decide (k>20)=false:=by simp; omega
 push_cast [ach,zaa,d,c2]
 refine c9 [(14,false),(15,false),(2,false),(3,false),(4,false),(5,false)] (λ vs pos c=>∃i:Int,0<=i/\i<=k/\vs=[int .i64 k,int .i64 i,.ptr 2000000 0 0,bl false,.ptr 2000001 0 0,bl true]/\pos=[]/\c=[.box [int .i64 0,int .i64 0],.box [int .i64 (d5 i.toNat).a,int .i64 (d5 i.toNat).b]])
  (λ vs _ _=>match vs with | [_,.r (.v (.int _ j)),_,_,_,_]=>(k-j).toNat | _=>0) rfl ?_ ?_
 ·push_cast
  exact ⟨0,by omega,by omega,rfl,rfl⟩
 rintro vs pos c ⟨i,l,g,rfl,rfl,rfl⟩
 push_cast
 refine c7 (λ h=>?_) (λ h=>?_)
 ·simp only [decide_eq_true_eq] at h
  push_cast
  have e:=ju i.toNat (by omega);have f:=ju (i.toNat+1) (by omega);refine b9 (as':=[(d5 i.toNat).v,cj.v]) rfl ?_;refine a7 (agw _ _ (e.mono (by decide)) (by unfold Ei.In; decide) (f.mono (by decide))) rfl trivial ?_
  push_cast [Ei.v,Ei.rv]
  rw [show IntKind.i64.wrap (i+1)=i+1 from a6 (by omega)];refine ⟨⟨i+1,by omega,by omega,rfl,?_⟩,by omega⟩;rw [show (i+1).toNat=i.toNat+1 by omega]
  rfl
 simp only [decide_eq_false_iff_not] at h;have:i=k:=by omega
 subst this
 push_cast [Ei.v,Ei.rv]

def pkN (d a b:Int) (i:Nat):Int×Ei:=(uz.take i).foldl (pk d a b) (0,⟨0,0⟩)
theorem ajl (d a b:Int) (i:Nat) (z:Ei) (h:uz[i]?=some z):pkN d a b (i+1)=pk d a b (pkN d a b i) z:=by
 unfold pkN;rw [List.take_add_one,h];simp
theorem au1 {b:Int} (e:0<=a/\a<d) (c:0<=b/\b<d):(pkN d a b 3).2=cu d a b:=ak5 e c
theorem apk (d a b:Int):∀i,(0<=(pkN d a b i).2.a/\(pkN d a b i).2.a<=1)/\(0<=(pkN d a b i).2.b/\(pkN d a b i).2.b<=1)
 | 0=>by simp [pkN]
 | i+1=>by
   have c:=apk d a b i;rcases h:uz[i]? with _ | z
   ·have:pkN d a b (i+1)=pkN d a b i:=by unfold pkN; rw [List.take_add_one,h]; simp
    rw [this]; exact c
   rw [ajl d a b i z h];unfold pk;split
   ·have:z∈uz:=List.mem_of_getElem? h;simp [uz] at this;rcases this with rfl | rfl | rfl<;>simp
   exact c
theorem agy (h:-n<=a/\a<=n) (e:1<=d):-n<=a/d/\a/d<=n:=by
 have c:=zcv a d;have f:=zag a (show 0<d by omega);have g:=zah a (show d≠0 by omega);generalize a/d=q at *;generalize a%d=r at *;constructor
 ·rcases zcm q 0 with b | b
  ·have:d*(q+1)<=1*(q+1):=Int.mul_le_mul_of_nonpos_right (by omega) (by omega);rw [Int.mul_add] at this;omega
  omega
 rcases zcm q 0 with b | b
 ·omega
 have:1*q<=d*q:=Int.mul_le_mul_of_nonneg_right (by omega) b;omega
theorem ake (u:Ei) (d:Int) (D:u.In 1152921504606846976) (w:1<=d/\d<=1125899906842624):b5 P0 116 [u.v,int .i64 d] [] (.tup [(u.round d).v,bl true]) []:=by
 refine aa5.t func116 ?_;have c:=D;unfold Ei.In at c;have I:decide (d<1)=false:=by simp; omega
 have c2:decide (d>1125899906842624)=false:=by simp; omega
 have q:b8 u.a:=by unfold b8; omega
 have p:b8 u.b:=by unfold b8; omega
 have o:b8 d:=by unfold b8; omega
 push_cast [aa5,Ei.v,Ei.rv,zaa,I,c2]
 refine a7 (abd _ _ q (by decide)) rfl trivial ?_;rw [show decide (-1152921504606846976<=u.a/\u.a<=1152921504606846976)=true from decide_eq_true c.1]
 push_cast
 refine a7 (abd _ _ p (by decide)) rfl trivial ?_;rw [show decide (-1152921504606846976<=u.b/\u.b<=1152921504606846976)=true from decide_eq_true c.2]
 push_cast
 refine a7 (amf _ _ q o) rfl trivial ?_;have e:0<d:=by omega
 push_cast [e,if_true]
 refine a7 (amf _ _ p o) rfl trivial ?_
 push_cast [e,if_true]
 have E:0<=u.a%d/\u.a%d<d:=⟨zah _ (by omega),zag _ e⟩
 have J:0<=u.b%d/\u.b%d<d:=⟨zah _ (by omega),zag _ e⟩
 have F:-1152921504606846976<=u.a/d/\u.a/d<=1152921504606846976:=agy c.1 w.1;have K:-1152921504606846976<=u.b/d/\u.b/d<=1152921504606846976:=agy c.2 w.1;generalize A:u.a%d=a at *;generalize H:u.b%d=b at *;generalize n:u.a/d=L at *;generalize m:u.b/d=G at *;refine ⟨by simp,?_⟩
 refine c9 [(57,false),(58,false),(59,false),(1,false),(4,false),(5,false),(6,false),(7,false),(9,false),(10,false),(12,false),(13,false)] (λ vs pos k=>∃i:Nat,i<=3/\vs=[.own 2000000 0 0 3,int .i64 3,int .i64 i,int .i64 d,.ptr 2000001 0 0,bl false,int .i64 L,int .i64 a,int .i64 G,int .i64 b,int .i64 (pkN d a b i).1,.ptr 2000002 0 0]/\pos=[] /\
  k=[.row 2 (Ei.rv ⟨0,0⟩) true true (uz.map Ei.rv),.box [int .i64 0,int .i64 0],.box [int .i64 (pkN d a b i).2.a,int .i64 (pkN d a b i).2.b]])
  (λ vs _ _=>match vs with | _::_ :: .r (.v (.int _ j))::_=>(3-j).toNat | _=>0) rfl ?_ ?_
 ·push_cast
  exact ⟨0,by omega,rfl,rfl⟩
 rintro vs pos k ⟨i,N,rfl,rfl,rfl⟩
 push_cast
 refine c7 (λ h=>?_) (λ h=>?_)
 ·have x:i=0\/i=1\/i=2:=by simp at h; omega
  obtain ⟨z,s,g⟩:∃z,uz[i]?=some z/\((z=⟨0,1⟩\/z=⟨1,0⟩\/z=⟨1,1⟩)):=by
   rcases x with rfl | rfl | rfl
   ·exact ⟨_,rfl,by simp⟩
   ·exact ⟨_,rfl,by simp⟩
   exact ⟨_,rfl,by simp⟩
  have y:(List.map Ei.rv uz).getD i (Ei.rv ⟨0,0⟩)=.agg [.v (.int .i64 z.a),.v (.int .i64 z.b)]:=by
   rw [List.getD_eq_getElem?_getD,List.getElem?_map,s]; rfl
  have C:(IntKind.i64.wrap (IntKind.i64.wrap (IntKind.i64.wrap (z.a*z.a)+IntKind.i64.wrap (z.a*z.b))+IntKind.i64.wrap (z.b*z.b)))=z.a*z.a+z.a*z.b+z.b*z.b:=by
   rcases g with rfl | rfl | rfl<;>decide
  have B:IntKind.i64.wrap (IntKind.i64.wrap (IntKind.i64.wrap (d*(z.a*z.a+z.a*z.b+z.b*z.b))-IntKind.i64.wrap (z.a*IntKind.i64.wrap (IntKind.i64.wrap (2*a)+b)))-IntKind.i64.wrap (z.b*IntKind.i64.wrap (a+IntKind.i64.wrap (2*b))))=fr d a b z:=by
   rw [show IntKind.i64.wrap (2*a)=2*a from a6 (by omega),show IntKind.i64.wrap (2*b)=2*b from a6 (by omega),show IntKind.i64.wrap (2*a+b)=2*a+b from a6 (by omega),show IntKind.i64.wrap (a+2*b)=a+2*b from a6 (by omega)];rcases g with rfl | rfl | rfl<;>simp only [fr,Int.zero_mul,Int.mul_zero,Int.one_mul,Int.mul_one,Int.add_zero,Int.zero_add,IntKind.wrap_i64]<;>omega
  have l:=ajl d a b i z s
  push_cast [zcj,zcu,y,C,B]
  refine ⟨by omega,?_⟩;refine c7 (λ f=>?_) (λ f=>?_)
  ·simp only [decide_eq_true_eq] at f
   push_cast
   refine ⟨by kernel_rfl,?_⟩;rw [show IntKind.i64.wrap (i+1)=i+1 from a6 (by omega)];refine ⟨⟨i+1,by omega,?_,?_⟩,by omega⟩
   ·rw [l,pk,if_pos f]<;>rfl
   rw [l,pk,if_pos f]<;>rfl
  simp only [decide_eq_false_iff_not] at f
  push_cast
  rw [show IntKind.i64.wrap (i+1)=i+1 from a6 (by omega)];refine ⟨⟨i+1,by omega,?_,?_⟩,by omega⟩
  ·rw [l,pk,if_neg f]<;>rfl
  rw [l,pk,if_neg f]<;>rfl
 have:i=3:=by simp at h; omega
 subst this
 push_cast
 have M:=apk d a b 3;rw [a6 (by omega),a6 (by omega),au1 E J,<- n,<- m,<- A,<- H]
 rfl

def aaq:Mk P0 f111:={ x:=_ }
def aej:Mk P0 f77:={ x:=_ }
def aar:Mk P0 f110:={ x:=_ }
def aca:Mk P0 f78:={ x:=_ }
theorem p2 (n:Nat) (h:n<=36):1<=(2:Int)^n/\(2:Int)^n<=68719476736:=by
 have a:2^n<=2^36:=zai (by decide) h;have b:1<=2^n:=Nat.one_le_two_pow;have c:((2^n:Nat):Int)=(2:Int)^n:=by simp
 omega
theorem p7 (n:Nat) (h:n<=12):1<=(7:Int)^n/\(7:Int)^n<=13841287201:=by
 have a:7^n<=7^12:=zai (by decide) h;have b:1<=7^n:=Nat.one_le_pow _ _ (by decide);have c:((7^n:Nat):Int)=(7:Int)^n:=by simp
 omega
theorem avf (r:Int):b5 P0 111 [int .i64 r] [] (bl (decide (0<=r/\r<=12))) []:=by
 refine aaq.t func111 ?_
 push_cast [aaq,zaa]
 refine pt ?_;simp
theorem ac6 {x y:Ei} (hx:x.In n) (hy:y.In m):(x.mul y).In (3*(n*m)):=by
 have a:=vg hx.1 hy.1;have c:=vg hx.1 hy.2;have d:=vg hx.2 hy.1;have b:=vg hx.2 hy.2;unfold Ei.In Ei.mul;dsimp only;generalize n*m=q at *;omega
theorem ahy {x:Ei} (hx:x.In n):x.conj.In (2*n):=by
 unfold Ei.In Ei.conj at *;dsimp only;omega
def inW (x y:Int):Prop:=(0<=x/\x<1073741824)/\(0<=y/\y<1073741824)
instance (x y:Int):Decidable (inW x y):=inferInstanceAs (Decidable (_/\_))
theorem an2 (h:inW x y):(ax x y).In 60000000000:=by
 unfold inW at h;unfold ax Ei.In;dsimp only;omega
variable {k:Nat}
theorem aqu (h:inW x y) (a:k<=12):((ax x y).mul (d5 k).conj).In 43200000000000000:=
 (ac6 (an2 h) (ahy (ju k a))).mono (by decide)
theorem atb (x y:Int):b5 P0 77 [int .i64 x,int .i64 y] [] (bl (decide (inW x y))) []:=by
 refine aej.t func77 ?_
 push_cast [aej,zaa]
 repeat refine And.intro (by simp +contextual) ?_
 refine pt ?_;unfold inW;by_cases a:0<=x<;>by_cases c:x<1073741824<;>by_cases d:0<=y<;>by_cases b:y<1073741824<;>simp [a,c,d,b]
theorem av8 (x y:Int) (h:inW x y):b5 P0 110 [int .i64 x,int .i64 y] [] (.tup [(ax x y).v,bl true]) []:=by
 refine aar.t func110 ?_
 push_cast [aar,zaa]
 refine a7 (atb x y) rfl trivial ?_;rw [decide_eq_true h]
 push_cast
 unfold inW at h;rw [show IntKind.i64.wrap (45*x)=45*x from a6 (by omega),show IntKind.i64.wrap (26*y)=26*y from a6 (by omega),show IntKind.i64.wrap (52*y)=52*y from a6 (by omega),show IntKind.i64.wrap (45*x-26*y)=45*x-26*y from a6 (by omega)];simp only [ax,Ei.v,Ei.rv]
theorem axu (x y r:Int) (h:inW x y) (f:0<=r/\r<=12):b5 P0 78 [int .i64 x,int .i64 y,int .i64 r] [] (.tup [(i7 x y r.toNat).v,bl true]) []:=by
 refine aca.t func78 ?_
 push_cast [aca,zaa]
 refine a7 (av8 x y h) rfl trivial ?_
 push_cast [Ei.v,Ei.rv]
 refine a7 (avf r) rfl trivial ?_;rw [decide_eq_true f]
 push_cast
 have e:(12-r).toNat=12-r.toNat:=by omega
 have a:(12-r).toNat<=12:=by omega
 rw [show IntKind.i64.wrap (12-r)=12-r from a6 (by omega)];refine a7 (avr (12-r) (by omega)) rfl trivial ?_;have b:=ju (12-r).toNat a
 push_cast [Ei.v,Ei.rv]
 refine b9 (as':=[(d5 (12-r).toNat).v]) rfl ?_;refine a7 (ami _ (b.mono (by decide))) rfl trivial ?_
 push_cast [Ei.v,Ei.rv]
 have g:=p7 (12-r).toNat a;rw [show IntKind.i64.wrap (12-r)=12-r from a6 (by omega)];have c:=azp 7 (12-r) (by decide) (by unfold b8; omega);rw [if_neg (show ¬12-r<0 by omega),abf (by unfold b8; omega)] at c;refine a7 c rfl trivial ?_
 push_cast
 have d:=aqu h a;refine b9 (as':=[(ax x y).v,(d5 (12-r).toNat).conj.v]) rfl ?_;refine a7 (agw _ _ ((an2 h).mono (by decide)) ((ahy b).mono (by decide)) (d.mono (by decide))) rfl trivial ?_
 push_cast [Ei.v,Ei.rv]
 rw [show IntKind.i64.wrap (2340*7^(12-r).toNat)=2340*7^(12-r).toNat from a6 (by omega)];refine b9 (as':=[((ax x y).mul (d5 (12-r).toNat).conj).v,int .i64 (2340*7^(12-r).toNat)]) rfl ?_;refine a7 (ake _ _ (d.mono (by decide)) (by omega)) rfl trivial ?_
 push_cast [Ei.v,Ei.rv,i7,e]

def vv (i:Nat):Ei:=match i with | 0=>⟨1,1⟩ | 1=>⟨-1,2⟩ | 2=>⟨-2,1⟩ | 3=>⟨-1,-1⟩ | 4=>⟨1,-2⟩ | _=>⟨2,-1⟩
def hc (z:Ei) (r i:Nat):Ei:=(d5 (12-r)).mul ⟨3*z.a+(vv i).a,3*z.b+(vv i).b⟩
def hx (z:Ei) (r i:Nat):Int:=52*(hc z r i).a+26*(hc z r i).b
def hy (z:Ei) (r i:Nat):Int:=45*(hc z r i).b
def cx (z:Ei) (r:Nat):Int:=52*((d5 (12-r)).mul z).a+26*((d5 (12-r)).mul z).b
def cy (z:Ei) (r:Nat):Int:=45*((d5 (12-r)).mul z).b
def kx (r i:Nat):Int:=52*((d5 (12-r)).mul (vv i)).a+26*((d5 (12-r)).mul (vv i)).b
def ky (r i:Nat):Int:=45*((d5 (12-r)).mul (vv i)).b
theorem nz (z:Ei) (r i:Nat):hx z r i=3*cx z r+kx r i:=by
 simp only [hx,cx,kx,hc,Ei.mul,Int.mul_add,Int.mul_left_comm _ (3:Int)];omega
theorem ny (z:Ei) (r i:Nat):hy z r i=3*cy z r+ky r i:=by
 simp only [hy,cy,ky,hc,Ei.mul,Int.mul_add,Int.mul_left_comm _ (3:Int)];omega
def crs (z:Ei) (r i j:Nat) (x y:Int):Int:=(kx r j-kx r i)*(y-hy z r i)-(ky r j-ky r i)*(x-hx z r i)
def te (x y:Int) (z:Ei) (r:Nat):Prop:=
 ((-50000000<=cx z r-x/\cx z r-x<=50000000)/\(-50000000<=cy z r-y/\cy z r-y<=50000000)) /\
 (∀i,i<6->0<=crs z r i ((i+1)%6) (3*x) (3*y)) /\
 (∃i,i<6/\hx z r i<=3*x)/\(∃i,i<6/\3*x<=hx z r i)/\(∃i,i<6/\hy z r i<=3*y)/\(∃i,i<6/\3*y<=hy z r i)
variable {i:Nat}
theorem lt6 (h:i<6):i=0\/i=1\/i=2\/i=3\/i=4\/i=5:=by omega
theorem az9 (x y:Int):te x y (i7 x y 0) 0:=by
 have h:=k7 ((ax x y).mul (d5 (12-0)).conj) (d:=2340*7^(12-0)) (by decide);have e:(d5 (12-0)).conj=⟨-128231,102960⟩:=by decide
 have z:(2340*7^(12-0):Int)=32388612050340:=by decide
 have v:d5 (12-0)=⟨-25271,-102960⟩:=by decide
 unfold i7;generalize Ei.round _ _=q at *;rw [e,z] at h;have ex:cx q 0=52*(-25271*q.a - -102960*q.b)+26*(-25271*q.b + -102960*q.a + -102960*q.b):=by simp only [cx,v,Ei.mul]
 have A:cy q 0=45*(-25271*q.b + -102960*q.a + -102960*q.b):=by simp only [cy,v,Ei.mul]
 have s:kx 0 0=-1971138:=by decide
 have o:ky 0 0=-10403595:=by decide
 have m:kx 0 1=8030880:=by decide
 have r:ky 0 1=-6907590:=by decide
 have j:kx 0 2=10002018:=by decide
 have t:ky 0 2=3496005:=by decide
 have n:kx 0 3=1971138:=by decide
 have k:ky 0 3=10403595:=by decide
 have u:kx 0 4=-8030880:=by decide
 have f:ky 0 4=6907590:=by decide
 have l:kx 0 5=-10002018:=by decide
 have c:ky 0 5=-3496005:=by decide
 unfold g9 at h;simp only [Ei.mul,ax] at h;have g:∀i,hx q 0 i=3*cx q 0+kx 0 i:=λ i=>nz q 0 i;have p:∀i,hy q 0 i=3*cy q 0+ky 0 i:=λ i=>ny q 0 i;have D:=h.1;have B:=h.2.1;have C:=h.2.2;refine ⟨by omega,λ i w=>?_,⟨5,by decide,?_⟩,⟨2,by decide,?_⟩,⟨0,by decide,?_⟩,⟨3,by decide,?_⟩⟩
 ·rcases lt6 w with rfl | rfl | rfl | rfl | rfl | rfl<;>simp only [crs,g,p,s,m,j,n,u,l,o,r,t,k,f,c]<;>omega
 ·simp only [g,s,m,j,n,u,l]; omega
 ·simp only [g,s,m,j,n,u,l]; omega
 ·simp only [p,o,r,t,k,f,c]; omega
 simp only [p,o,r,t,k,f,c]; omega
theorem az8 (x y:Int):te x y (i7 x y 1) 1:=by
 have h:=k7 ((ax x y).mul (d5 (12-1)).conj) (d:=2340*7^(12-1)) (by decide);have e:(d5 (12-1)).conj=⟨-51346,25807⟩:=by decide
 have z:(2340*7^(12-1):Int)=4626944578620:=by decide
 have v:d5 (12-1)=⟨-25539,-25807⟩:=by decide
 unfold i7;generalize Ei.round _ _=q at *;rw [e,z] at h;have ex:cx q 1=52*(-25539*q.a - -25807*q.b)+26*(-25539*q.b + -25807*q.a + -25807*q.b):=by simp only [cx,v,Ei.mul]
 have A:cy q 1=45*(-25539*q.b + -25807*q.a + -25807*q.b):=by simp only [cy,v,Ei.mul]
 have s:kx 1 0=-1992042:=by decide
 have o:ky 1 0=-3471885:=by decide
 have m:kx 1 1=2012946:=by decide
 have r:ky 1 1=-3459825:=by decide
 have j:kx 1 2=4004988:=by decide
 have t:ky 1 2=12060:=by decide
 have n:kx 1 3=1992042:=by decide
 have k:ky 1 3=3471885:=by decide
 have u:kx 1 4=-2012946:=by decide
 have f:ky 1 4=3459825:=by decide
 have l:kx 1 5=-4004988:=by decide
 have c:ky 1 5=-12060:=by decide
 unfold g9 at h;simp only [Ei.mul,ax] at h;have g:∀i,hx q 1 i=3*cx q 1+kx 1 i:=λ i=>nz q 1 i;have p:∀i,hy q 1 i=3*cy q 1+ky 1 i:=λ i=>ny q 1 i;have D:=h.1;have B:=h.2.1;have C:=h.2.2;refine ⟨by omega,λ i w=>?_,⟨5,by decide,?_⟩,⟨2,by decide,?_⟩,⟨0,by decide,?_⟩,⟨3,by decide,?_⟩⟩
 ·rcases lt6 w with rfl | rfl | rfl | rfl | rfl | rfl<;>simp only [crs,g,p,s,m,j,n,u,l,o,r,t,k,f,c]<;>omega
 ·simp only [g,s,m,j,n,u,l]; omega
 ·simp only [g,s,m,j,n,u,l]; omega
 ·simp only [p,o,r,t,k,f,c]; omega
 simp only [p,o,r,t,k,f,c]; omega
theorem az7 (x y:Int):te x y (i7 x y 2) 2:=by
 have h:=k7 ((ax x y).mul (d5 (12-2)).conj) (d:=2340*7^(12-2)) (by decide);have e:(d5 (12-2)).conj=⟨-18357,3725⟩:=by decide
 have z:(2340*7^(12-2):Int)=660992082660:=by decide
 have v:d5 (12-2)=⟨-14632,-3725⟩:=by decide
 unfold i7;generalize Ei.round _ _=q at *;rw [e,z] at h;have ex:cx q 2=52*(-14632*q.a - -3725*q.b)+26*(-14632*q.b + -3725*q.a + -3725*q.b):=by simp only [cx,v,Ei.mul]
 have A:cy q 2=45*(-14632*q.b + -3725*q.a + -3725*q.b):=by simp only [cy,v,Ei.mul]
 have s:kx 2 0=-1141296:=by decide
 have o:ky 2 0=-993690:=by decide
 have m:kx 2 1=290550:=by decide
 have r:ky 2 1=-1484505:=by decide
 have j:kx 2 2=1431846:=by decide
 have t:ky 2 2=-490815:=by decide
 have n:kx 2 3=1141296:=by decide
 have k:ky 2 3=993690:=by decide
 have u:kx 2 4=-290550:=by decide
 have f:ky 2 4=1484505:=by decide
 have l:kx 2 5=-1431846:=by decide
 have c:ky 2 5=490815:=by decide
 unfold g9 at h;simp only [Ei.mul,ax] at h;have g:∀i,hx q 2 i=3*cx q 2+kx 2 i:=λ i=>nz q 2 i;have p:∀i,hy q 2 i=3*cy q 2+ky 2 i:=λ i=>ny q 2 i;have D:=h.1;have B:=h.2.1;have C:=h.2.2;refine ⟨by omega,λ i w=>?_,⟨5,by decide,?_⟩,⟨2,by decide,?_⟩,⟨1,by decide,?_⟩,⟨4,by decide,?_⟩⟩
 ·rcases lt6 w with rfl | rfl | rfl | rfl | rfl | rfl<;>simp only [crs,g,p,s,m,j,n,u,l,o,r,t,k,f,c]<;>omega
 ·simp only [g,s,m,j,n,u,l]; omega
 ·simp only [g,s,m,j,n,u,l]; omega
 ·simp only [p,o,r,t,k,f,c]; omega
 simp only [p,o,r,t,k,f,c]; omega
theorem az6 (x y:Int):te x y (i7 x y 3) 3:=by
 have h:=k7 ((ax x y).mul (d5 (12-3)).conj) (d:=2340*7^(12-3)) (by decide);have e:(d5 (12-3)).conj=⟨-5777,-1026⟩:=by decide
 have z:(2340*7^(12-3):Int)=94427440380:=by decide
 have v:d5 (12-3)=⟨-6803,1026⟩:=by decide
 unfold i7;generalize Ei.round _ _=q at *;rw [e,z] at h;have ex:cx q 3=52*(-6803*q.a-1026*q.b)+26*(-6803*q.b+1026*q.a+1026*q.b):=by simp only [cx,v,Ei.mul]
 have A:cy q 3=45*(-6803*q.b+1026*q.a+1026*q.b):=by simp only [cy,v,Ei.mul]
 have s:kx 3 0=-530634:=by decide
 have o:ky 3 0=-213795:=by decide
 have m:kx 3 1=-80028:=by decide
 have r:ky 3 1=-566100:=by decide
 have j:kx 3 2=450606:=by decide
 have t:ky 3 2=-352305:=by decide
 have n:kx 3 3=530634:=by decide
 have k:ky 3 3=213795:=by decide
 have u:kx 3 4=80028:=by decide
 have f:ky 3 4=566100:=by decide
 have l:kx 3 5=-450606:=by decide
 have c:ky 3 5=352305:=by decide
 unfold g9 at h;simp only [Ei.mul,ax] at h;have g:∀i,hx q 3 i=3*cx q 3+kx 3 i:=λ i=>nz q 3 i;have p:∀i,hy q 3 i=3*cy q 3+ky 3 i:=λ i=>ny q 3 i;have D:=h.1;have B:=h.2.1;have C:=h.2.2;refine ⟨by omega,λ i w=>?_,⟨0,by decide,?_⟩,⟨3,by decide,?_⟩,⟨1,by decide,?_⟩,⟨4,by decide,?_⟩⟩
 ·rcases lt6 w with rfl | rfl | rfl | rfl | rfl | rfl<;>simp only [crs,g,p,s,m,j,n,u,l,o,r,t,k,f,c]<;>omega
 ·simp only [g,s,m,j,n,u,l]; omega
 ·simp only [g,s,m,j,n,u,l]; omega
 ·simp only [p,o,r,t,k,f,c]; omega
 simp only [p,o,r,t,k,f,c]; omega
theorem az5 (x y:Int):te x y (i7 x y 4) 4:=by
 have h:=k7 ((ax x y).mul (d5 (12-4)).conj) (d:=2340*7^(12-4)) (by decide);have e:(d5 (12-4)).conj=⟨-1504,-1265⟩:=by decide
 have z:(2340*7^(12-4):Int)=13489634340:=by decide
 have v:d5 (12-4)=⟨-2769,1265⟩:=by decide
 unfold i7;generalize Ei.round _ _=q at *;rw [e,z] at h;have ex:cx q 4=52*(-2769*q.a-1265*q.b)+26*(-2769*q.b+1265*q.a+1265*q.b):=by simp only [cx,v,Ei.mul]
 have A:cy q 4=45*(-2769*q.b+1265*q.a+1265*q.b):=by simp only [cy,v,Ei.mul]
 have s:kx 4 0=-215982:=by decide
 have o:ky 4 0=-10755:=by decide
 have m:kx 4 1=-98670:=by decide
 have r:ky 4 1=-192285:=by decide
 have j:kx 4 2=117312:=by decide
 have t:ky 4 2=-181530:=by decide
 have n:kx 4 3=215982:=by decide
 have k:ky 4 3=10755:=by decide
 have u:kx 4 4=98670:=by decide
 have f:ky 4 4=192285:=by decide
 have l:kx 4 5=-117312:=by decide
 have c:ky 4 5=181530:=by decide
 unfold g9 at h;simp only [Ei.mul,ax] at h;have g:∀i,hx q 4 i=3*cx q 4+kx 4 i:=λ i=>nz q 4 i;have p:∀i,hy q 4 i=3*cy q 4+ky 4 i:=λ i=>ny q 4 i;have D:=h.1;have B:=h.2.1;have C:=h.2.2;refine ⟨by omega,λ i w=>?_,⟨0,by decide,?_⟩,⟨3,by decide,?_⟩,⟨1,by decide,?_⟩,⟨4,by decide,?_⟩⟩
 ·rcases lt6 w with rfl | rfl | rfl | rfl | rfl | rfl<;>simp only [crs,g,p,s,m,j,n,u,l,o,r,t,k,f,c]<;>omega
 ·simp only [g,s,m,j,n,u,l]; omega
 ·simp only [g,s,m,j,n,u,l]; omega
 ·simp only [p,o,r,t,k,f,c]; omega
 simp only [p,o,r,t,k,f,c]; omega
theorem az4 (x y:Int):te x y (i7 x y 5) 5:=by
 have h:=k7 ((ax x y).mul (d5 (12-5)).conj) (d:=2340*7^(12-5)) (by decide);have e:(d5 (12-5)).conj=⟨-249,-757⟩:=by decide
 have z:(2340*7^(12-5):Int)=1927090620:=by decide
 have v:d5 (12-5)=⟨-1006,757⟩:=by decide
 unfold i7;generalize Ei.round _ _=q at *;rw [e,z] at h;have ex:cx q 5=52*(-1006*q.a-757*q.b)+26*(-1006*q.b+757*q.a+757*q.b):=by simp only [cx,v,Ei.mul]
 have A:cy q 5=45*(-1006*q.b+757*q.a+757*q.b):=by simp only [cy,v,Ei.mul]
 have s:kx 5 0=-78468:=by decide
 have o:ky 5 0=22860:=by decide
 have m:kx 5 1=-59046:=by decide
 have r:ky 5 1=-56475:=by decide
 have j:kx 5 2=19422:=by decide
 have t:ky 5 2=-79335:=by decide
 have n:kx 5 3=78468:=by decide
 have k:ky 5 3=-22860:=by decide
 have u:kx 5 4=59046:=by decide
 have f:ky 5 4=56475:=by decide
 have l:kx 5 5=-19422:=by decide
 have c:ky 5 5=79335:=by decide
 unfold g9 at h;simp only [Ei.mul,ax] at h;have g:∀i,hx q 5 i=3*cx q 5+kx 5 i:=λ i=>nz q 5 i;have p:∀i,hy q 5 i=3*cy q 5+ky 5 i:=λ i=>ny q 5 i;have D:=h.1;have B:=h.2.1;have C:=h.2.2;refine ⟨by omega,λ i w=>?_,⟨0,by decide,?_⟩,⟨3,by decide,?_⟩,⟨2,by decide,?_⟩,⟨5,by decide,?_⟩⟩
 ·rcases lt6 w with rfl | rfl | rfl | rfl | rfl | rfl<;>simp only [crs,g,p,s,m,j,n,u,l,o,r,t,k,f,c]<;>omega
 ·simp only [g,s,m,j,n,u,l]; omega
 ·simp only [g,s,m,j,n,u,l]; omega
 ·simp only [p,o,r,t,k,f,c]; omega
 simp only [p,o,r,t,k,f,c]; omega
theorem az3 (x y:Int):te x y (i7 x y 6) 6:=by
 have h:=k7 ((ax x y).mul (d5 (12-6)).conj) (d:=2340*7^(12-6)) (by decide);have e:(d5 (12-6)).conj=⟨37,-360⟩:=by decide
 have z:(2340*7^(12-6):Int)=275298660:=by decide
 have v:d5 (12-6)=⟨-323,360⟩:=by decide
 unfold i7;generalize Ei.round _ _=q at *;rw [e,z] at h;have ex:cx q 6=52*(-323*q.a-360*q.b)+26*(-323*q.b+360*q.a+360*q.b):=by simp only [cx,v,Ei.mul]
 have A:cy q 6=45*(-323*q.b+360*q.a+360*q.b):=by simp only [cy,v,Ei.mul]
 have s:kx 6 0=-25194:=by decide
 have o:ky 6 0=17865:=by decide
 have m:kx 6 1=-28080:=by decide
 have r:ky 6 1=-12870:=by decide
 have j:kx 6 2=-2886:=by decide
 have t:ky 6 2=-30735:=by decide
 have n:kx 6 3=25194:=by decide
 have k:ky 6 3=-17865:=by decide
 have u:kx 6 4=28080:=by decide
 have f:ky 6 4=12870:=by decide
 have l:kx 6 5=2886:=by decide
 have c:ky 6 5=30735:=by decide
 unfold g9 at h;simp only [Ei.mul,ax] at h;have g:∀i,hx q 6 i=3*cx q 6+kx 6 i:=λ i=>nz q 6 i;have p:∀i,hy q 6 i=3*cy q 6+ky 6 i:=λ i=>ny q 6 i;have D:=h.1;have B:=h.2.1;have C:=h.2.2;refine ⟨by omega,λ i w=>?_,⟨1,by decide,?_⟩,⟨4,by decide,?_⟩,⟨2,by decide,?_⟩,⟨5,by decide,?_⟩⟩
 ·rcases lt6 w with rfl | rfl | rfl | rfl | rfl | rfl<;>simp only [crs,g,p,s,m,j,n,u,l,o,r,t,k,f,c]<;>omega
 ·simp only [g,s,m,j,n,u,l]; omega
 ·simp only [g,s,m,j,n,u,l]; omega
 ·simp only [p,o,r,t,k,f,c]; omega
 simp only [p,o,r,t,k,f,c]; omega
theorem az2 (x y:Int):te x y (i7 x y 7) 7:=by
 have h:=k7 ((ax x y).mul (d5 (12-7)).conj) (d:=2340*7^(12-7)) (by decide);have e:(d5 (12-7)).conj=⟨62,-149⟩:=by decide
 have z:(2340*7^(12-7):Int)=39328380:=by decide
 have v:d5 (12-7)=⟨-87,149⟩:=by decide
 unfold i7;generalize Ei.round _ _=q at *;rw [e,z] at h;have ex:cx q 7=52*(-87*q.a-149*q.b)+26*(-87*q.b+149*q.a+149*q.b):=by simp only [cx,v,Ei.mul]
 have A:cy q 7=45*(-87*q.b+149*q.a+149*q.b):=by simp only [cy,v,Ei.mul]
 have s:kx 7 0=-6786:=by decide
 have o:ky 7 0=9495:=by decide
 have m:kx 7 1=-11622:=by decide
 have r:ky 7 1=-1125:=by decide
 have j:kx 7 2=-4836:=by decide
 have t:ky 7 2=-10620:=by decide
 have n:kx 7 3=6786:=by decide
 have k:ky 7 3=-9495:=by decide
 have u:kx 7 4=11622:=by decide
 have f:ky 7 4=1125:=by decide
 have l:kx 7 5=4836:=by decide
 have c:ky 7 5=10620:=by decide
 unfold g9 at h;simp only [Ei.mul,ax] at h;have g:∀i,hx q 7 i=3*cx q 7+kx 7 i:=λ i=>nz q 7 i;have p:∀i,hy q 7 i=3*cy q 7+ky 7 i:=λ i=>ny q 7 i;have D:=h.1;have B:=h.2.1;have C:=h.2.2;refine ⟨by omega,λ i w=>?_,⟨1,by decide,?_⟩,⟨4,by decide,?_⟩,⟨2,by decide,?_⟩,⟨5,by decide,?_⟩⟩
 ·rcases lt6 w with rfl | rfl | rfl | rfl | rfl | rfl<;>simp only [crs,g,p,s,m,j,n,u,l,o,r,t,k,f,c]<;>omega
 ·simp only [g,s,m,j,n,u,l]; omega
 ·simp only [g,s,m,j,n,u,l]; omega
 ·simp only [p,o,r,t,k,f,c]; omega
 simp only [p,o,r,t,k,f,c]; omega
theorem az1 (x y:Int):te x y (i7 x y 8) 8:=by
 have h:=k7 ((ax x y).mul (d5 (12-8)).conj) (d:=2340*7^(12-8)) (by decide);have e:(d5 (12-8)).conj=⟨39,-55⟩:=by decide
 have z:(2340*7^(12-8):Int)=5618340:=by decide
 have v:d5 (12-8)=⟨-16,55⟩:=by decide
 unfold i7;generalize Ei.round _ _=q at *;rw [e,z] at h;have ex:cx q 8=52*(-16*q.a-55*q.b)+26*(-16*q.b+55*q.a+55*q.b):=by simp only [cx,v,Ei.mul]
 have A:cy q 8=45*(-16*q.b+55*q.a+55*q.b):=by simp only [cy,v,Ei.mul]
 have s:kx 8 0=-1248:=by decide
 have o:ky 8 0=4230:=by decide
 have m:kx 8 1=-4290:=by decide
 have r:ky 8 1=1035:=by decide
 have j:kx 8 2=-3042:=by decide
 have t:ky 8 2=-3195:=by decide
 have n:kx 8 3=1248:=by decide
 have k:ky 8 3=-4230:=by decide
 have u:kx 8 4=4290:=by decide
 have f:ky 8 4=-1035:=by decide
 have l:kx 8 5=3042:=by decide
 have c:ky 8 5=3195:=by decide
 unfold g9 at h;simp only [Ei.mul,ax] at h;have g:∀i,hx q 8 i=3*cx q 8+kx 8 i:=λ i=>nz q 8 i;have p:∀i,hy q 8 i=3*cy q 8+ky 8 i:=λ i=>ny q 8 i;have D:=h.1;have B:=h.2.1;have C:=h.2.2;refine ⟨by omega,λ i w=>?_,⟨1,by decide,?_⟩,⟨4,by decide,?_⟩,⟨3,by decide,?_⟩,⟨0,by decide,?_⟩⟩
 ·rcases lt6 w with rfl | rfl | rfl | rfl | rfl | rfl<;>simp only [crs,g,p,s,m,j,n,u,l,o,r,t,k,f,c]<;>omega
 ·simp only [g,s,m,j,n,u,l]; omega
 ·simp only [g,s,m,j,n,u,l]; omega
 ·simp only [p,o,r,t,k,f,c]; omega
 simp only [p,o,r,t,k,f,c]; omega
theorem az0 (x y:Int):te x y (i7 x y 9) 9:=by
 have h:=k7 ((ax x y).mul (d5 (12-9)).conj) (d:=2340*7^(12-9)) (by decide);have e:(d5 (12-9)).conj=⟨19,-18⟩:=by decide
 have z:(2340*7^(12-9):Int)=802620:=by decide
 have v:d5 (12-9)=⟨1,18⟩:=by decide
 unfold i7;generalize Ei.round _ _=q at *;rw [e,z] at h;have ex:cx q 9=52*(1*q.a-18*q.b)+26*(1*q.b+18*q.a+18*q.b):=by simp only [cx,v,Ei.mul]
 have A:cy q 9=45*(1*q.b+18*q.a+18*q.b):=by simp only [cy,v,Ei.mul]
 have s:kx 9 0=78:=by decide
 have o:ky 9 0=1665:=by decide
 have m:kx 9 1=-1404:=by decide
 have r:ky 9 1=900:=by decide
 have j:kx 9 2=-1482:=by decide
 have t:ky 9 2=-765:=by decide
 have n:kx 9 3=-78:=by decide
 have k:ky 9 3=-1665:=by decide
 have u:kx 9 4=1404:=by decide
 have f:ky 9 4=-900:=by decide
 have l:kx 9 5=1482:=by decide
 have c:ky 9 5=765:=by decide
 unfold g9 at h;simp only [Ei.mul,ax] at h;have g:∀i,hx q 9 i=3*cx q 9+kx 9 i:=λ i=>nz q 9 i;have p:∀i,hy q 9 i=3*cy q 9+ky 9 i:=λ i=>ny q 9 i;have D:=h.1;have B:=h.2.1;have C:=h.2.2;refine ⟨by omega,λ i w=>?_,⟨2,by decide,?_⟩,⟨5,by decide,?_⟩,⟨3,by decide,?_⟩,⟨0,by decide,?_⟩⟩
 ·rcases lt6 w with rfl | rfl | rfl | rfl | rfl | rfl<;>simp only [crs,g,p,s,m,j,n,u,l,o,r,t,k,f,c]<;>omega
 ·simp only [g,s,m,j,n,u,l]; omega
 ·simp only [g,s,m,j,n,u,l]; omega
 ·simp only [p,o,r,t,k,f,c]; omega
 simp only [p,o,r,t,k,f,c]; omega
theorem ax5 (x y:Int):te x y (i7 x y 10) 10:=by
 have h:=k7 ((ax x y).mul (d5 (12-10)).conj) (d:=2340*7^(12-10)) (by decide);have e:(d5 (12-10)).conj=⟨8,-5⟩:=by decide
 have z:(2340*7^(12-10):Int)=114660:=by decide
 have v:d5 (12-10)=⟨3,5⟩:=by decide
 unfold i7;generalize Ei.round _ _=q at *;rw [e,z] at h;have ex:cx q 10=52*(3*q.a-5*q.b)+26*(3*q.b+5*q.a+5*q.b):=by simp only [cx,v,Ei.mul]
 have A:cy q 10=45*(3*q.b+5*q.a+5*q.b):=by simp only [cy,v,Ei.mul]
 have s:kx 10 0=234:=by decide
 have o:ky 10 0=585:=by decide
 have m:kx 10 1=-390:=by decide
 have r:ky 10 1=495:=by decide
 have j:kx 10 2=-624:=by decide
 have t:ky 10 2=-90:=by decide
 have n:kx 10 3=-234:=by decide
 have k:ky 10 3=-585:=by decide
 have u:kx 10 4=390:=by decide
 have f:ky 10 4=-495:=by decide
 have l:kx 10 5=624:=by decide
 have c:ky 10 5=90:=by decide
 unfold g9 at h;simp only [Ei.mul,ax] at h;have g:∀i,hx q 10 i=3*cx q 10+kx 10 i:=λ i=>nz q 10 i;have p:∀i,hy q 10 i=3*cy q 10+ky 10 i:=λ i=>ny q 10 i;have D:=h.1;have B:=h.2.1;have C:=h.2.2;refine ⟨by omega,λ i w=>?_,⟨2,by decide,?_⟩,⟨5,by decide,?_⟩,⟨3,by decide,?_⟩,⟨0,by decide,?_⟩⟩
 ·rcases lt6 w with rfl | rfl | rfl | rfl | rfl | rfl<;>simp only [crs,g,p,s,m,j,n,u,l,o,r,t,k,f,c]<;>omega
 ·simp only [g,s,m,j,n,u,l]; omega
 ·simp only [g,s,m,j,n,u,l]; omega
 ·simp only [p,o,r,t,k,f,c]; omega
 simp only [p,o,r,t,k,f,c]; omega
theorem ax4 (x y:Int):te x y (i7 x y 11) 11:=by
 have h:=k7 ((ax x y).mul (d5 (12-11)).conj) (d:=2340*7^(12-11)) (by decide);have e:(d5 (12-11)).conj=⟨3,-1⟩:=by decide
 have z:(2340*7^(12-11):Int)=16380:=by decide
 have v:d5 (12-11)=⟨2,1⟩:=by decide
 unfold i7;generalize Ei.round _ _=q at *;rw [e,z] at h;have ex:cx q 11=52*(2*q.a-1*q.b)+26*(2*q.b+1*q.a+1*q.b):=by simp only [cx,v,Ei.mul]
 have A:cy q 11=45*(2*q.b+1*q.a+1*q.b):=by simp only [cy,v,Ei.mul]
 have s:kx 11 0=156:=by decide
 have o:ky 11 0=180:=by decide
 have m:kx 11 1=-78:=by decide
 have r:ky 11 1=225:=by decide
 have j:kx 11 2=-234:=by decide
 have t:ky 11 2=45:=by decide
 have n:kx 11 3=-156:=by decide
 have k:ky 11 3=-180:=by decide
 have u:kx 11 4=78:=by decide
 have f:ky 11 4=-225:=by decide
 have l:kx 11 5=234:=by decide
 have c:ky 11 5=-45:=by decide
 unfold g9 at h;simp only [Ei.mul,ax] at h;have g:∀i,hx q 11 i=3*cx q 11+kx 11 i:=λ i=>nz q 11 i;have p:∀i,hy q 11 i=3*cy q 11+ky 11 i:=λ i=>ny q 11 i;have D:=h.1;have B:=h.2.1;have C:=h.2.2;refine ⟨by omega,λ i w=>?_,⟨2,by decide,?_⟩,⟨5,by decide,?_⟩,⟨4,by decide,?_⟩,⟨1,by decide,?_⟩⟩
 ·rcases lt6 w with rfl | rfl | rfl | rfl | rfl | rfl<;>simp only [crs,g,p,s,m,j,n,u,l,o,r,t,k,f,c]<;>omega
 ·simp only [g,s,m,j,n,u,l]; omega
 ·simp only [g,s,m,j,n,u,l]; omega
 ·simp only [p,o,r,t,k,f,c]; omega
 simp only [p,o,r,t,k,f,c]; omega
theorem ax3 (x y:Int):te x y (i7 x y 12) 12:=by
 have h:=k7 ((ax x y).mul (d5 (12-12)).conj) (d:=2340*7^(12-12)) (by decide);have e:(d5 (12-12)).conj=⟨1,0⟩:=by decide
 have z:(2340*7^(12-12):Int)=2340:=by decide
 have v:d5 (12-12)=⟨1,0⟩:=by decide
 unfold i7;generalize Ei.round _ _=q at *;rw [e,z] at h;have ex:cx q 12=52*(1*q.a-0*q.b)+26*(1*q.b+0*q.a+0*q.b):=by simp only [cx,v,Ei.mul]
 have A:cy q 12=45*(1*q.b+0*q.a+0*q.b):=by simp only [cy,v,Ei.mul]
 have s:kx 12 0=78:=by decide
 have o:ky 12 0=45:=by decide
 have m:kx 12 1=0:=by decide
 have r:ky 12 1=90:=by decide
 have j:kx 12 2=-78:=by decide
 have t:ky 12 2=45:=by decide
 have n:kx 12 3=-78:=by decide
 have k:ky 12 3=-45:=by decide
 have u:kx 12 4=0:=by decide
 have f:ky 12 4=-90:=by decide
 have l:kx 12 5=78:=by decide
 have c:ky 12 5=-45:=by decide
 unfold g9 at h;simp only [Ei.mul,ax] at h;have g:∀i,hx q 12 i=3*cx q 12+kx 12 i:=λ i=>nz q 12 i;have p:∀i,hy q 12 i=3*cy q 12+ky 12 i:=λ i=>ny q 12 i;have D:=h.1;have B:=h.2.1;have C:=h.2.2;refine ⟨by omega,λ i w=>?_,⟨2,by decide,?_⟩,⟨0,by decide,?_⟩,⟨4,by decide,?_⟩,⟨1,by decide,?_⟩⟩
 ·rcases lt6 w with rfl | rfl | rfl | rfl | rfl | rfl<;>simp only [crs,g,p,s,m,j,n,u,l,o,r,t,k,f,c]<;>omega
 ·simp only [g,s,m,j,n,u,l]; omega
 ·simp only [g,s,m,j,n,u,l]; omega
 ·simp only [p,o,r,t,k,f,c]; omega
 simp only [p,o,r,t,k,f,c]; omega
theorem a0v (x y:Int) (r:Nat) (a:r<=12):te x y (i7 x y r) r:=by
 match r,a with
 | 0,_=>exact az9 x y
 | 1,_=>exact az8 x y
 | 2,_=>exact az7 x y
 | 3,_=>exact az6 x y
 | 4,_=>exact az5 x y
 | 5,_=>exact az4 x y
 | 6,_=>exact az3 x y
 | 7,_=>exact az2 x y
 | 8,_=>exact az1 x y
 | 9,_=>exact az0 x y
 | 10,_=>exact ax5 x y
 | 11,_=>exact ax4 x y
 | 12,_=>exact ax3 x y
 | r+13,h=>omega

variable {r:Nat}
theorem lb (a:r<=12):(d5 (12-r)).In 120000:=ju _ (by omega)

def aci:Mk P0 f118:={ x:=_ }
def acj:Mk P0 f117:={ x:=_ }
def ack:Mk P0 f119:={ x:=_ }
def acl:Mk P0 f120:={ x:=_ }
def aev:Mk P0 f79:={ x:=_ }
def ag3:Mk P0 f49:={ x:=_ }
theorem am5 (h:z.In n) (d:2<=n):(pr z).In n:=by
 obtain ⟨l,_,a,c,b⟩:=aap z;generalize pr z=q at *;unfold Ei.H at a;unfold Ei.In at *;omega
theorem ag9 (k:Nat) (h:z.In n) (a:2<=n):(anc k z).In n:=by
 induction k generalizing z with
 | zero=>exact h
 | succ k ih=>exact ih (am5 h a)
theorem ap7 (z:Ei):(lft z).In 1:=by
 obtain ⟨l,e,a,_⟩:=aap z;rw [e];exact a.in
theorem at1 (z:Ei) (h:z.In 1073741824):b5 P0 118 [z.v] [] (.tup [(pr z).v,(lft z).v]) []:=by
 refine aci.t func118 ?_
 push_cast [aci,Ei.v,Ei.rv,zaa]
 refine b9 (as':=[cj.v]) rfl ?_;refine a7 (ami cj (by unfold Ei.In; decide)) rfl trivial ?_
 push_cast [Ei.v,Ei.rv]
 have a:(z.mul ⟨3,-1⟩).In 9663676416:=(ac6 h (show (⟨3,-1⟩:Ei).In 3 by unfold Ei.In; decide)).mono (by decide);refine b9 (as':=[z.v,Ei.v ⟨3,-1⟩]) rfl ?_;refine a7 (agw _ _ (h.mono (by decide)) (show (⟨3,-1⟩:Ei).In _ by unfold Ei.In; decide) (a.mono (by decide))) rfl trivial ?_
 push_cast [Ei.v,Ei.rv]
 refine b9 (as':=[(z.mul ⟨3,-1⟩).v,int .i64 7]) rfl ?_;refine a7 (ake _ 7 (a.mono (by decide)) (by decide)) rfl trivial ?_;rw [show (z.mul ⟨3,-1⟩).round 7=pr z from rfl];have b:(pr z).In 1073741824:=am5 h (by decide);have c:((pr z).mul cj).In 6442450944:=(ac6 b (show cj.In 2 by unfold Ei.In; decide)).mono (by decide)
 push_cast [Ei.v,Ei.rv]
 refine b9 (as':=[(pr z).v,cj.v]) rfl ?_;refine a7 (agw _ _ (b.mono (by decide)) (show cj.In _ by unfold Ei.In; decide) (c.mono (by decide))) rfl trivial ?_
 push_cast [Ei.v,Ei.rv]
 refine b9 (as':=[z.v,((pr z).mul cj).v]) rfl ?_;refine a7 (ayh _ _ (h.mono (by decide)) (c.mono (by decide)) ((ap7 z).mono (by decide))) rfl trivial ?_;rw [show z.sub ((pr z).mul cj)=lft z from rfl]
 push_cast [Ei.v,Ei.rv]
 kernel_rfl
def cel (r:Int) (z:Ei):AV:=.r (.agg [.v (.int .i64 r),.v (.int .i64 z.a),.v (.int .i64 z.b)])
instance (z:Ei) (n:Int):Decidable (z.In n):=inferInstanceAs (Decidable (_/\_))
def jx (r:Int) (z:Ei):Bool:=decide ((0<=r/\r<=12)/\z.In 1073741824)
theorem at3 (r:Int) (z:Ei) (f:z.In M63):b5 P0 117 [cel r z] [] (bl (jx r z)) []:=by
 refine acj.t func117 ?_
 push_cast [acj,cel,zaa]
 by_cases g:0<=r
 ·by_cases h:r<=12
  ·have b:decide (r>=0)=true:=by simp; omega
   have e:decide (r<=12)=true:=by simp; omega
   push_cast [b,e]
   refine a7 (abd _ _ f.ok.1 (by decide)) rfl trivial ?_;by_cases d:-1073741824<=z.a/\z.a<=1073741824
   ·rw [decide_eq_true d]
    push_cast
    refine a7 (abd _ _ f.ok.2 (by decide)) rfl trivial ?_
    push_cast
    refine pt ?_;simp [jx,Ei.In,g,h,d.1,d.2]
   rw [decide_eq_false d]
   push_cast
   have:jx r z=false:=by simp only [jx,Ei.In]; exact decide_eq_false λ c=>d c.2.1
   rw [this]
  have b:decide (r>=0)=true:=by simp; omega
  have e:decide (r<=12)=false:=by simp; omega
  push_cast [b,e]
  have:jx r z=false:=by simp only [jx,decide_eq_false_iff_not]; omega
  rw [this]
 have b:decide (r>=0)=false:=by simp; omega
 push_cast [b]
 have:jx r z=false:=by simp only [jx,decide_eq_false_iff_not]; omega
 rw [this]
theorem akh (i:Nat) (h:i<6):ado (uni i)=i+1:=by
 rcases lt6 h with rfl | rfl | rfl | rfl | rfl | rfl<;>decide
theorem amj (l:Ei) (h:∀j:Nat,j<6->uni j≠l):ado l=0:=by
 have a:=h 0 (by decide); have b:=h 1 (by decide); have d:=h 2 (by decide); have f:=h 3 (by decide); have c:=h 4 (by decide); have e:=h 5 (by decide);unfold ado;rw [if_neg (show ¬l=⟨1,0⟩ from Ne.symm a),if_neg (show ¬l=⟨0,1⟩ from Ne.symm b),if_neg (show ¬l=⟨-1,1⟩ from Ne.symm d),if_neg (show ¬l=⟨-1,0⟩ from Ne.symm f),if_neg (show ¬l=⟨0,-1⟩ from Ne.symm c),if_neg (show ¬l=⟨1,-1⟩ from Ne.symm e)]
theorem avt (l:Ei):b5 P0 119 [l.v] [] (int .i64 (ado l)) []:=by
 refine ack.t func119 ?_
 push_cast [ack,Ei.v,Ei.rv,zaa]
 refine c9 [(4,false),(1,false)] (λ vs pos d=>∃i:Int,(0<=i/\i<=6)/\(∀j:Nat,(j:Int)<i->uni j≠l)/\vs=[int .i64 i,.ptr 2000000 0 0]/\pos=[]/\d=[.box [int .i64 l.a,int .i64 l.b]])
  (λ vs _ _=>match vs with | .r (.v (.int _ j))::_=>(6-j).toNat | _=>0) rfl ?_ ?_
 ·push_cast
  exact ⟨0,by omega,λ j f=>by omega,rfl⟩
 rintro vs pos d ⟨i,k,f,rfl,rfl,rfl⟩
 push_cast
 refine c7 (λ h=>?_) (λ h=>?_)
 ·simp only [decide_eq_true_eq] at h
  push_cast
  refine d9 (avp i ⟨k.1,h⟩) rfl trivial ?_
  push_cast [Ei.v,Ei.rv]
  refine ⟨by kernel_rfl,c7 (λ c=>?_) (λ c=>?_)⟩
  ·have e:uni i.toNat=l:=by
    simp only [Bool.and_eq_true,beq_iff_eq] at c;exact Ei.ext' c.1 c.2
   push_cast
   rw [<- e,akh _ (by omega),a6 (by omega),show ((i.toNat+1:Nat):Int)=i+1 by omega]
  have e:uni i.toNat≠l:=λ e=>by rw [e] at c; simp at c
  push_cast
  rw [a6 (by omega)];refine ⟨⟨i+1,by omega,λ j n=>?_,rfl⟩,by omega⟩;by_cases m:(j:Int)=i
  ·rw [show j=i.toNat by omega]; exact e
  exact f j (by omega)
 have g:i=6:=by simp at h; omega
 subst g
 push_cast
 rw [amj l λ j o=>f j (by omega)]
 rfl
theorem ayb (n:Int):b5 P0 120 [int .i64 n] [] (bl (decide (-512<=n/\n<=511))) []:=by
 refine acl.t func120 ?_
 push_cast [acl,zaa]
 refine pt ?_;by_cases a:-512<=n<;>by_cases b:n<512<;>simp [a,b]<;>omega
def am (r:Nat) (z:Ei) (i:Nat):List AV:=(List.range 13).map λ j=>int .i64 (if i<j/\j<=r then (dg (anc (r-j) z):Int) else 0)
theorem ql (r:Nat) (z:Ei) (i:Nat):(am r z i).length=13:=by simp [am]
theorem aqh (r:Nat) (z:Ei):am r z r=[int .i64 0,int .i64 0,int .i64 0,int .i64 0,int .i64 0,int .i64 0,int .i64 0,int .i64 0,int .i64 0,int .i64 0,int .i64 0,int .i64 0,int .i64 0]:=by
 have:∀j,¬(r<j/\j<=r):=λ j=>by omega
 simp only [am,this,if_false]
 rfl
theorem aqi (r:Nat) (z:Ei) (i:Nat) (h:1<=i) (l:i<=r) (m:r<=12):b7 (am r z i) i [int .i64 (dg (anc (r-i) z))]=am r z (i-1):=by
 have b:=ql r z i;apply List.ext_getElem
 ·simp [b7,b,ql]; omega
 intro j g c;rw [ql] at c;have e:∀(k:Nat) (a:k<(am r z i).length),(am r z i)[k]=int .i64 (if i<k/\k<=r then (dg (anc (r-k) z):Int) else 0):=λ k a=>by simp [am]
 have e':∀(k:Nat) (a:k<(am r z (i-1)).length),(am r z (i-1))[k]=int .i64 (if i-1<k/\k<=r then (dg (anc (r-k) z):Int) else 0):=λ k a=>by simp [am]
 rw [e'];have f:min i 13=i:=by omega
 simp only [b7,List.getElem_append,zar,List.length_take,List.length_singleton,b,List.getElem_take,List.getElem_drop,e,f];by_cases d:j<i
 ·rw [dif_pos (by omega),dif_pos d,if_neg (by omega),if_neg (by omega)]
 by_cases c2:j=i
 ·subst c2;rw [dif_pos (by omega),dif_neg (by omega),if_pos (by omega)];simp
 rw [dif_neg (by omega)];rw [show i+1+(j-(i+1))=j by omega];by_cases n:j<=r
 ·rw [if_pos (by omega),if_pos (by omega)]
 rw [if_neg (by omega),if_neg (by omega)]
theorem aqa (f:Nat->Int) (l:List Nat):l8 (l.map λ j=>int .i64 (f j))=[]:=by
 induction l with
 | nil=>rfl
 | cons a l ih=>show t9 _++l8 _=[]; rw [ih]; rfl
theorem ar8 (F:Ren) (f:Nat->Int) (l:List Nat):imL F (l.map λ j=>int .i64 (f j))=l.map λ j=>int .i64 (f j):=by
 induction l with
 | nil=>rfl
 | cons a l ih=>show imV F _::imL F _ = _; rw [ih]; rfl
theorem zp (r:Nat) (z:Ei) (i:Nat):l8 (am r z i)=[]:=aqa _ _
theorem abv (F:Ren) (r:Nat) (z:Ei) (i:Nat):imL F (am r z i)=am r z i:=ar8 F _ _
theorem aom (r:Nat) (z:Ei) (i:Nat):List.take 13 (am r z i)=am r z i:=List.take_of_length_le (by rw [ql]; exact Nat.le_refl _)
def ab0 (r:Nat) (z:Ei) (i:Nat):List RV:=(List.range 13).map λ j=>.v (.int .i64 (if i<j/\j<=r then (dg (anc (r-j) z):Int) else 0))
theorem ard (ob:Obs) (f:Nat->Int) (l:List Nat):rvs ob (l.map λ j=>int .i64 (f j))=some (l.map λ j=>.v (.int .i64 (f j)),[]):=by
 induction l with
 | nil=>rfl
 | cons a l ih=>show rvs ob (_::_) = _; simp only [rvs,AV.rv,ih]; rfl
theorem are (ob:Obs) (r:Nat) (z:Ei) (i:Nat):rvs ob (am r z i)=some (ab0 r z i,[]):=ard ob _ _
theorem apq (r:Nat) (z:Ei) (i:Nat):am r z i++List.drop 13 (am r z i)=am r z i:=by
 rw [List.drop_of_length_le (by rw [ql]; exact Nat.le_refl _),zaf]
attribute [push_cast high] are apq
attribute [push_cast high] zp abv aom ql
theorem asf (r:Nat) (z:Ei) (i:Nat) (a:1<=i) (b:i<=r) (c:r<=12):List.take (0+i*1) (am r z i)++[int .i64 (ado (lft (anc (r-i) z)))]++List.drop (0+i*1+1) (am r z i)=am r z (i-1):=by
 rw [<- aqi r z i a b c,b7,Nat.mul_one,zcu]
 rfl
def ag8 (q:Ei):Bool:=decide ((-512<=q.a/\q.a<=511)/\(-512<=q.b/\q.b<=511))
theorem aza (r:Int) (z:Ei) (h:jx r z=true):b5 P0 79 [cel r z] [] (.tup [(anc r.toNat z).v,.r (.agg (ab0 r.toNat z 0)),bl (ag8 (anc r.toNat z))]) []:=by
 refine aev.t func79 ?_;have g:=h;simp only [jx,decide_eq_true_eq] at g;simp only [aev,cel,push_cast,↓reduceIte,reduceCtorEq,zB,zE,zA,zS,zL,zD,zM];refine b9 (as':=[cel r z]) rfl ?_;refine a7 (at3 r z (g.2.mono (by decide))) rfl trivial ?_;rw [h];simp only [push_cast,↓reduceIte,reduceCtorEq,zB,zE,zA,zS,zL,zD,zM];obtain ⟨⟨p,m⟩,l⟩:=g
 refine c9 [(6,false),(5,false),(3,false),(2,false)] (λ vs pos e=>∃i:Int,(0<=i/\i<=r)/\vs=[int .i64 i,.ptr 2000000 0 0,.ptr 2000001 0 0,.ptr 2000002 0 0]/\pos=[]/\e=[.box [int .i64 (anc (r-i).toNat z).a,int .i64 (anc (r-i).toNat z).b],.box (am r.toNat z i.toNat),.box [int .i64 0,int .i64 0]])
  (λ vs _ _=>match vs with | .r (.v (.int _ j))::_=>j.toNat | _=>0) rfl ?_ ?_
 ·simp only [push_cast,↓reduceIte,reduceCtorEq,zB,zE,zA,zS,zL,zD,zM];refine ⟨r,by omega,?_⟩;rw [aqh,Int.sub_self];exact ⟨rfl,rfl⟩
 rintro vs pos e ⟨i,o,rfl,rfl,rfl⟩;simp only [push_cast,↓reduceIte,reduceCtorEq,zB,zE,zA,zS,zL,zD,zM];refine c7 (λ h=>?_) (λ h=>?_)
 ·simp only [decide_eq_true_eq] at h;simp only [push_cast,↓reduceIte,reduceCtorEq,zB,zE,zA,zS,zL,zD,zM];have k:=ag9 (r-i).toNat l (by decide);refine b9 (as':=[(anc (r-i).toNat z).v]) rfl ?_;refine a7 (at1 _ k) rfl trivial ?_;simp only [Ei.v,Ei.rv,push_cast,↓reduceIte,reduceCtorEq,zB,zE,zA,zS,zL,zD,zM];refine x8 (as':=[(lft (anc (r-i).toNat z)).v]) rfl ?_;refine d9 (avt _) rfl trivial ?_;have d:=asf r.toNat z i.toNat (by omega) (by omega) (by omega);rw [show r.toNat-i.toNat=(r-i).toNat by omega] at d;have f:pr (anc (r-i).toNat z)=anc (r-(i-1)).toNat z:=by rw [<- afo,show (r-i).toNat+1=(r-(i-1)).toNat by omega]
  simp only [Ei.v,Ei.rv,d,push_cast,↓reduceIte,reduceCtorEq,zB,zE,zA,zS,zL,zD,zM];rw [show IntKind.i64.wrap (i-1)=i-1 from a6 (by omega),f];refine ⟨by omega,by omega,by kernel_rfl,⟨i-1,by omega,rfl,?_⟩,by omega⟩;rw [show (i-1).toNat=i.toNat-1 by omega]
 have n:i=0:=by simp at h; omega
 subst n;have k:=ag9 r.toNat l (by decide);simp only [push_cast,↓reduceIte,reduceCtorEq,zB,zE,zA,zS,zL,zD,zM];rw [show (r-0).toNat=r.toNat by omega,show zch 0=0 from rfl];refine ⟨by kernel_rfl,?_⟩;refine d9 (ayb _) rfl trivial ?_;by_cases c:-512<=(anc r.toNat z).a/\(anc r.toNat z).a<=511
 ·rw [decide_eq_true c];simp only [push_cast,↓reduceIte,reduceCtorEq,zB,zE,zA,zS,zL,zD,zM];refine ⟨by kernel_rfl,?_⟩;refine d9 (ayb _) rfl trivial ?_;simp only [Ei.v,Ei.rv,push_cast,↓reduceIte,reduceCtorEq,zB,zE,zA,zS,zL,zD,zM];refine ⟨by kernel_rfl,?_⟩;simp [ag8,c.1,c.2];kernel_rfl
 rw [decide_eq_false c];simp only [Ei.v,Ei.rv,push_cast,↓reduceIte,reduceCtorEq,zB,zE,zA,zS,zL,zD,zM];refine ⟨by kernel_rfl,?_⟩;simp only [ag8,c,false_and,decide_false];exact ⟨by kernel_rfl,trivial⟩
theorem azs {r:Int} (c:0<=r) (h:okc r.toNat z):jx r z=true/\ag8 (anc r.toNat z)=true:=by
 obtain ⟨e,b,d,a⟩:=h;simp only [jx,ag8,decide_eq_true_eq];exact ⟨⟨⟨c,by omega⟩,b⟩,d,a⟩
theorem a0h (x y r:Int) (h:inW x y) (a:0<=r/\r<=12):b5 P0 49 [int .i64 x,int .i64 y,int .i64 r] [] (.tup [cel r (i7 x y r.toNat),int .i64 0]) []:=by
 refine ag3.t func49 ?_
 push_cast [ag3,cel,zaa]
 refine a7 (atb x y) rfl trivial ?_;rw [decide_eq_true h]
 push_cast
 refine a7 (axu x y r h a) rfl trivial ?_
 push_cast [Ei.v,Ei.rv]

theorem qw {a:Nat} (h:a<2^k):a ||| b*2^k=b*2^k+a:=by
 rw [zaj,<- Nat.shiftLeft_eq,Nat.shiftLeft_add_eq_or_of_lt h]
theorem p8 (n:Nat):0<8^n:=zci (by decide)
theorem avu {a d:Nat} (i:b<2^k) (p:d<8) (r:k+3<=64) (m:(a*8+7)*2^k+b<2^64) :
 (((a*8+7)*2^k+b) &&& (2^64-1-7*2^k)) ||| d*2^k=(a*8+d)*2^k+b:=by
 have n:∀j,Nat.testBit 7 j=decide (j<3):=λ j=>by
  rcases (show j=0\/j=1\/j=2\/3<=j by omega) with rfl | rfl | rfl | c
  ·rfl
  ·rfl
  ·rfl
  rw [zda (Nat.lt_of_lt_of_le (by decide:7<2^3) (zai (by decide) c))]; simp; omega
 have g:∀j,3<=j->Nat.testBit d j=false:=λ j c=>zda (Nat.lt_of_lt_of_le (by omega:d<2^3) (zai (by decide) c))
 have o:7*2^k<2^64:=by
  have:2^(k+3)<=2^64:=zai (by decide) r;rw [zac] at this;have:=Nat.two_pow_pos k;omega
 apply Nat.eq_of_testBit_eq;intro j;rw [Nat.testBit_or,Nat.testBit_and,show 2^64-1-7*2^k=2^64-(7*2^k+1) by omega,Nat.testBit_two_pow_sub_succ o];rw [zas _ (2^k),zas 7,zas d,zas (a*8+d)];rw [zcy _ i,zcy _ i,Nat.testBit_two_pow_mul,Nat.testBit_two_pow_mul];by_cases c:j<k
 ·simp [c,Nat.not_le.2 c];intro hx;omega
 rw [if_neg c,if_neg c];have h:k<=j:=by omega
 simp only [h,ge_iff_le,decide_true,zan];rw [show a*8+7=2^3*a+7 by omega,show a*8+d=2^3*a+d by omega,zcy a (show 7<2^3 by decide),zcy a (show d<2^3 from p),n];by_cases l:j-k<3
 ·simp [l]
 rw [g _ (by omega)];simp only [l,if_false,decide_false,zap,zam,zao];by_cases f:j<64
 ·simp [f]
 simp only [f,decide_false,Bool.and_false];apply Eq.symm;apply zda;have e:(a*8+7)*2^k+b<2^j:=Nat.lt_of_lt_of_le m (zai (by decide) (by omega));have q:2^j=2^(j-k-3)*8*2^k:=by rw [show (8:Nat)=2^3 from rfl,<- zac,<- zac]; congr 1; omega
 rw [q] at e;have:(a*8+7)*2^k<2^(j-k-3)*8*2^k:=by omega
 have:=Nat.lt_of_mul_lt_mul_right this;omega
def iq (r:Nat) (z:Ei) (i:Nat):Nat:=((8^i-1)*8^(r-i)+val (r-i) z)*8^(12-r)+(8^(12-r)-1)
theorem ato (r:Nat) (z:Ei) (a:r<=12):iq r z r=68719476735:=by
 unfold iq;rw [Nat.sub_self,val,Nat.pow_zero,Nat.mul_one,Nat.add_zero,Nat.sub_mul,<- zac,show r+(12-r)=12 by omega,Nat.one_mul];have:8^(12-r)<=8^12:=zai (by decide) (by omega);have:=p8 (12-r);omega
theorem aq4 (k:Nat) (z:Ei):val (k+1) z=dg (anc k z)*8^k+val k z:=by
 induction k generalizing z with
 | zero=>simp [val,anc]
 | succ k ih=>
   rw [val,ih (pr z),val,anc,zcg];generalize dg (anc k (pr z))=e;generalize 8^k=p;generalize val k (pr z)=q;rw [zat,zae];omega
theorem ah1 (r:Nat) (z:Ei) (i:Nat) (c:i<=r) (d:r<=12):val (r-i) z*8^(12-r)+(8^(12-r)-1)<2^(36-3*i):=by
 have a:=aog (r-i) z
 have e:2^(36-3*i)=8^(r-i)*8^(12-r):=by
  rw [<- zac,show (8:Nat)=2^3 from rfl,<- zcp]; congr 1; omega
 rw [e];have f:=p8 (12-r);generalize 8^(12-r)=p at *;generalize val (r-i) z=v at *;have b:(v+1)*p<=8^(r-i)*p:=zdb _ a;rw [zat] at b;omega
theorem aez (r:Nat) (z:Ei) (i:Nat) (a:i<=r) (b:r<=12):iq r z i=(8^i-1)*2^(36-3*i)+(val (r-i) z*8^(12-r)+(8^(12-r)-1)):=by
 have e:2^(36-3*i)=8^(r-i)*8^(12-r):=by
  rw [<- zac,show (8:Nat)=2^3 from rfl,<- zcp]; congr 1; omega
 unfold iq;rw [e,zat,zae,Nat.add_assoc]
theorem abc (r:Nat) (z:Ei) (i:Nat) (a:i<=r) (b:r<=12):iq r z i<68719476736:=by
 rw [aez r z i a b];have h:=ah1 r z i a b
 have e:(8:Nat)^i*2^(36-3*i)=68719476736:=by
  rw [show (8:Nat)=2^3 from rfl,<- zcp,<- zac,show 3*i+(36-3*i)=36 by omega]
 rw [Nat.sub_mul,e,Nat.one_mul];have:=Nat.two_pow_pos (36-3*i);have:2^(36-3*i)<=2^36:=zai (by decide) (by omega);omega
theorem amw (r:Nat) (z:Ei) (i:Nat) (j:1<=i) (c:i<=r) (b:r<=12) :
 ((iq r z i &&& (2^64-1-7*2^(36-3*i))) ||| dg (anc (r-i) z)*2^(36-3*i))=iq r z (i-1):=by
 have f:=abc r z i c b;have a:=ah1 r z i c b;have k:=ab1 (anc (r-i) z)
 have h:(8:Nat)^i-1=(8^(i-1)-1)*8+7:=by
  have:(8:Nat)^i=8^(i-1)*8:=by conv=>lhs; rw [show i=i-1+1 by omega,zcg]
  have:=p8 (i-1);omega
 have e:=aez r z i c b;rw [h] at e;rw [e] at f |-;rw [avu a (by omega) (by omega) (by omega),aez r z (i-1) (by omega) b,show r-(i-1)=r-i+1 by omega,aq4];have g:2^(36-3*(i-1))=8*2^(36-3*i):=by rw [show (8:Nat)=2^3 from rfl,<- zac]; congr 1; omega
 have d:8^(r-i)*8^(12-r)=2^(36-3*i):=by
  rw [<- zac,show (8:Nat)=2^3 from rfl,<- zcp]; congr 1; omega
 rw [g,<- d];generalize 8^(i-1)-1=A;generalize 8^(r-i)=B;generalize 8^(12-r)=C;generalize dg (anc (r-i) z)=D;generalize val (r-i) z=V;simp only [zat,zae];omega
theorem atn (r:Nat) (z:Ei) (d:r<=12) (A B:Nat) (i:A<1024) (h:B<1024) (f:(anc r z).a+512=A) (g:(anc r z).b+512=B) :
 ((((iq r z 0 ||| 1152921504606846976) ||| r*2^56) ||| A*2^46) ||| B*2^36)=eh r z:=by
 have c:=abc r z 0 (by omega) d
 have e:eh r z=je r (anc r z)*2^36+iq r z 0:=by
  unfold eh iq;rw [zat,zae,<- zac,show r+(12-r)=12 by omega];simp;omega
 rw [e];generalize iq r z 0=w at *;rw [zcq,zcq,zcq,zaj,zcq,zcq,zcq]
 rw [zaj (B*2^36),qw (show w<2^36 from c),zaj (A*2^46),qw (show B*2^36+w<2^46 by omega),zaj (r*2^56),qw (show A*2^46+(B*2^36+w)<2^56 by omega),
  show (1152921504606846976:Nat)=1*2^60 from rfl,zaj (1*2^60),qw (show r*2^56+(A*2^46+(B*2^36+w))<2^60 by omega)]
 unfold je;omega

def tq:Mk P0 f72:={ x:=_ }
structure Til where
 z:Int
 x:Int
 y:Int
 r:Int
def Til.v (t:Til):AV:=.r (.agg [.v (.int .i64 t.z),.v (.int .i64 t.x),.v (.int .i64 t.y),.v (.int .i64 t.r)])
def Til.ok (t:Til):Prop:=b8 t.z/\b8 t.x/\b8 t.y/\b8 t.r
theorem at4 (k:Int) (d:0<=k) (c:k<=12):b5 P0 72 [int .i64 k] [] (int .i64 (7^k.toNat)) []:=by
 refine tq.t func72 ?_
 push_cast [tq,zaa]
 have b:=p7 k.toNat (by omega);have a:=aw6 7 k (by decide) (by unfold b8; omega);rw [if_neg (show ¬k<0 by omega)] at a;refine a7 a rfl trivial ?_
 push_cast [sm,if_pos (show b8 (7^k.toNat) by unfold b8; omega)]

def tu:Mk P0 f107:={ x:=_ }
def xa:Mk P0 f103:={ x:=_ }
def xc:Mk P0 f69:={ x:=_ }
def vr:Mk P0 f106:={ x:=_ }
def vm:Mk P0 f70:={ x:=_ }
def vl:Mk P0 f134:={ x:=_ }
def tn:Mk P0 f108:={ x:=_ }
def tt:Mk P0 f71:={ x:=_ }
def to:Mk P0 f38:={ x:=_ }
def vq:Mk P0 f43:={ x:=_ }
theorem aje (a b:Int) (d:b8 a) (k:b8 b):b5 P0 107 [int .i64 a,int .i64 b] [] (.tup [int .i64 (if 0<b then a/b else 0),int .i64 (if 0<b then a%b else 0),bl (decide (0<b))]) []:=by
 refine tu.t func107 ?_
 push_cast [tu,zaa]
 refine c7 (λ h=>?_) (λ h=>?_)
 ·push_cast
  simp at h;have:¬0<b:=by omega
  simp [this]
 push_cast
 simp at h;refine ⟨by omega,by omega,by kernel_rfl,?_⟩;obtain ⟨l,g,i⟩:=aep d h;have j:IntKind.i64.wrap (a.tdiv b)=a.tdiv b:=wrap_i64_tdiv a b d.1 d.2 (by omega);rw [j];refine c7 (λ c=>?_) (λ c=>?_)
 ·push_cast
  simp at c;obtain ⟨f,e⟩:=g c;refine amx (vh ?_) (vh ?_) (aiv ?_)
  ·rw [if_pos h,<- f,a6];unfold b8 at d; rw [f]; omega
  ·rw [if_pos h,<- e,a6];have m:=zag a h;have n:=zah a (show b≠0 by omega);rw [e];unfold b8 at k; omega
  simp [h]
 push_cast
 simp at c;obtain ⟨f,e⟩:=i c;refine amx (vh ?_) (vh ?_) (aiv ?_)
 ·rw [if_pos h,f]
 ·rw [if_pos h,e]
 simp [h]
theorem aw5 (a b:Int) (e:b8 a) (f:b8 b):b5 P0 103 [s6 a,s6 b] [] (.tup [Ei.v ⟨a,b⟩,bl true]) []:=by
 refine xa.t func103 ?_
 push_cast [xa,s6,zaa]
 have c:=e;have d:=f;unfold b8 at c d;refine b9 (as':=[s6 a]) rfl ?_;refine a7 (ahe a (by omega)) rfl trivial ?_;rw [abf e]
 push_cast
 refine b9 (as':=[s6 b]) rfl ?_;refine a7 (ahe b (by omega)) rfl trivial ?_;rw [abf f]
 push_cast [Ei.v,Ei.rv]
theorem af0 (x y:Ei) (hx:x.In M63) (hy:y.In M63) (c:(x.mul y).In M63):b5 P0 69 [x.v,y.v] [] (.tup [(x.mul y).v,bl true]) []:=by
 refine xc.t func69 ?_
 push_cast [xc,Ei.v,Ei.rv,zaa]
 refine a7 (aak x.b y.b hx.ok.2 hy.ok.2) rfl trivial ?_
 push_cast [s6]
 refine d9 (aak x.a y.a hx.ok.1 hy.ok.1) rfl trivial ?_
 push_cast [s6]
 refine x8 (as':=[s6 (x.b*y.b)]) rfl ?_;refine d9 (ae0 _) rfl trivial ?_
 push_cast [s6]
 refine x8 (as':=[s6 (x.a*y.a),s6 (-(x.b*y.b))]) rfl ?_;refine d9 (af5 _ _) rfl trivial ?_
 push_cast [s6]
 refine d9 (aak x.a y.b hx.ok.1 hy.ok.2) rfl trivial ?_
 push_cast [s6]
 refine d9 (aak x.b y.a hx.ok.2 hy.ok.1) rfl trivial ?_
 push_cast [s6]
 refine x8 (as':=[s6 (x.a*y.b),s6 (x.b*y.a)]) rfl ?_;refine d9 (af5 _ _) rfl trivial ?_
 push_cast [s6]
 refine x8 (as':=[s6 (x.a*y.b+x.b*y.a),s6 (x.b*y.b)]) rfl ?_;refine d9 (af5 _ _) rfl trivial ?_
 push_cast [s6]
 refine x8 (as':=[s6 (x.a*y.a + -(x.b*y.b)),s6 (x.a*y.b+x.b*y.a+x.b*y.b)]) rfl ?_;have e:x.a*y.a + -(x.b*y.b)=(x.mul y).a:=by simp only [Ei.mul]; omega
 have e':x.a*y.b+x.b*y.a+x.b*y.b=(x.mul y).b:=rfl;rw [e,e'];refine d9 (aw5 _ _ c.ok.1 c.ok.2) rfl trivial ?_
 push_cast [Ei.v,Ei.rv]
 kernel_rfl
theorem auu (k:Int) (m:0<=k/\k<=12):b5 P0 106 [int .i64 k] [] (.tup [(d5 k.toNat).v,bl true]) []:=by
 refine vr.t func106 ?_;have d:decide (k<0)=false:=by simp; omega
 have c2:decide (k>20)=false:=by simp; omega
 push_cast [vr,zaa,d,c2]
 refine c9 [(5,false),(0,false),(4,false),(2,false)] (λ vs pos c=>∃i:Int,0<=i/\i<=k/\vs=[int .i64 i,int .i64 k,.ptr 2000000 0 0,.ptr 2000001 0 0]/\pos=[]/\c=[.box [int .i64 (d5 i.toNat).a,int .i64 (d5 i.toNat).b],.box [int .i64 0,int .i64 0]])
  (λ vs _ _=>match vs with | .r (.v (.int _ j))::_=>(k-j).toNat | _=>0) rfl ?_ ?_
 ·push_cast
  exact ⟨0,by omega,by omega,rfl,rfl⟩
 rintro vs pos c ⟨i,l,g,rfl,rfl,rfl⟩
 push_cast
 refine c7 (λ h=>?_) (λ h=>?_)
 ·simp only [decide_eq_true_eq] at h
  push_cast
  have e:=ju i.toNat (by omega);have f:=ju (i.toNat+1) (by omega);refine b9 (as':=[(d5 i.toNat).v,cj.v]) rfl ?_;refine a7 (af0 _ _ (e.mono (by decide)) (by unfold Ei.In; decide) (f.mono (by decide))) rfl trivial ?_
  push_cast [Ei.v,Ei.rv]
  rw [show IntKind.i64.wrap (i+1)=i+1 from a6 (by omega)];refine ⟨⟨i+1,by omega,by omega,rfl,?_⟩,by omega⟩;rw [show (i+1).toNat=i.toNat+1 by omega]
  rfl
 simp only [decide_eq_false_iff_not] at h;have:i=k:=by omega
 subst this
 push_cast [Ei.v,Ei.rv]
theorem aut (k:Int) (b:0<=k/\k<=12):b5 P0 70 [int .i64 k] [] ((d5 k.toNat).conj.v) []:=by
 refine vm.t func70 ?_
 push_cast [vm,zaa]
 refine a7 (auu k b) rfl trivial ?_;have a:=ju k.toNat (by omega);unfold Ei.In at a
 push_cast [Ei.v,Ei.rv,Ei.conj]
 rw [a6 (by omega),a6 (by omega),Int.zero_sub]
theorem ahg (n:Int) (h:b8 n) (a:n≠-9223372036854775808):b5 P0 134 [int .i64 n] [] (int .i64 n.natAbs) []:=by
 refine vl.t func134 ?_
 push_cast [vl,zaa]
 unfold b8 at h;refine c7 (λ hc=>?_) (λ hc=>?_)
 ·simp at hc
  push_cast
  rw [a6 (by omega)];rw [show 0-n=(n.natAbs:Int) by omega]
 simp at hc
 push_cast
 rw [show n=(n.natAbs:Int) by omega];simp
theorem arg (s t d:Int) (f:-9007199254740992<=s/\s<=9007199254740992) (g:-9007199254740992<=t/\t<=9007199254740992):b5 P0 108 [int .i64 s,int .i64 t,int .i64 d] [] (bl (decide (g9 d s t))) []:=by
 refine tn.t func108 ?_
 push_cast [tn,zaa]
 rw [show IntKind.i64.wrap (2*s)=2*s from a6 (by omega),show IntKind.i64.wrap (2*s+t)=2*s+t from a6 (by omega)];refine a7 (ahg _ (by unfold b8; omega) (by omega)) rfl trivial ?_;by_cases c:((2*s+t).natAbs:Int)<=d
 ·have a:decide (((2*s+t).natAbs:Int)<=d)=true:=decide_eq_true c
  push_cast [a]
  rw [show IntKind.i64.wrap (2*t)=2*t from a6 (by omega),show IntKind.i64.wrap (s+2*t)=s+2*t from a6 (by omega)];refine a7 (ahg _ (by unfold b8; omega) (by omega)) rfl trivial ?_;by_cases e:((s+2*t).natAbs:Int)<=d
  ·have b:decide (((s+2*t).natAbs:Int)<=d)=true:=decide_eq_true e
   push_cast [b]
   rw [show IntKind.i64.wrap (s-t)=s-t from a6 (by omega)];refine a7 (ahg _ (by unfold b8; omega) (by omega)) rfl trivial ?_
   push_cast
   refine pt ?_;simp only [decide_eq_true_eq];unfold g9;omega
  have b:decide (((s+2*t).natAbs:Int)<=d)=false:=decide_eq_false e
  push_cast [b]
  rw [decide_eq_false (show ¬g9 d s t by unfold g9; omega)]
 have a:decide (((2*s+t).natAbs:Int)<=d)=false:=decide_eq_false c
 push_cast [a]
 rw [decide_eq_false (show ¬g9 d s t by unfold g9; omega)]
theorem ajc (u:Ei) (d:Int) (P:u.In 1152921504606846976) (I:1<=d/\d<=1125899906842624):b5 P0 71 [u.v,int .i64 d] [] (.tup [(u.round d).v,bl true]) []:=by
 refine tt.t func71 ?_;have q:=P;unfold Ei.In at q;have T:decide (d<1)=false:=by simp; omega
 have c2:decide (d>1125899906842624)=false:=by simp; omega
 have M:decide (u.a < -1152921504606846976)=false:=by simp; omega
 have L:decide (u.a>1152921504606846976)=false:=by simp; omega
 have U:decide (u.b < -1152921504606846976)=false:=by simp; omega
 have O:decide (u.b>1152921504606846976)=false:=by simp; omega
 have S:b8 u.a:=by unfold b8; omega
 have Q:b8 u.b:=by unfold b8; omega
 have J:b8 d:=by unfold b8; omega
 push_cast [tt,Ei.v,Ei.rv,zaa,T,c2,M,L,U,O]
 refine a7 (aje _ _ S J) rfl trivial ?_;have m:0<d:=by omega
 push_cast [m,if_true]
 refine a7 (aje _ _ Q J) rfl trivial ?_
 push_cast [m,if_true]
 have E:0<=u.a%d/\u.a%d<d:=⟨zah _ (by omega),zag _ m⟩
 have H:0<=u.b%d/\u.b%d<d:=⟨zah _ (by omega),zag _ m⟩
 have R:-1152921504606846976<=u.a/d/\u.a/d<=1152921504606846976:=agy q.1 I.1;have V:-1152921504606846976<=u.b/d/\u.b/d<=1152921504606846976:=agy q.2 I.1;have e:u.round d=⟨u.a/d+(cu d (u.a%d) (u.b%d)).a,u.b/d+(cu d (u.a%d) (u.b%d)).b⟩:=rfl;generalize u.a%d=a at *;generalize u.b%d=b at *;generalize u.a/d=K at *;generalize u.b/d=G at *
 have n:∀i:Int,-1<=i->i<=2->-1125899906842624<=i*d/\i*d<=2251799813685248:=λ i g o=>by
  rcases (show i=-1\/i=0\/i=1\/i=2 by omega) with rfl | rfl | rfl | rfl<;>omega
 refine c9 [(12,false),(1,false),(6,false),(7,false),(9,false),(10,false),(4,false)] (λ vs pos f=>∃i:Int,(-1<=i/\i<=3)/\(∀l c:Int,-1<=l->l<i->-1<=c->c<=2->¬g9 d (a-l*d) (b-c*d))/\vs=[int .i64 i,int .i64 d,int .i64 K,int .i64 a,int .i64 G,int .i64 b,.ptr 2000000 0 0]/\pos=[]/\f=[.box [int .i64 0,int .i64 0]])
  (λ vs _ _=>match vs with | .r (.v (.int _ j))::_=>(3-j).toNat | _=>0) rfl ?_ ?_
 ·push_cast
  exact ⟨-1,by omega,λ l c g o=>by omega,rfl⟩
 rintro vs pos f ⟨i,F,s,rfl,rfl,rfl⟩
 push_cast
 refine c7 (λ h=>?_) (λ h=>?_)
 ·have w:i<=2:=by simpa using h
  have X:=n i F.1 w
  push_cast
  refine c9 [(13,false),(12,false),(1,false),(6,false),(7,false),(9,false),(10,false),(4,false)] (λ vs pos f=>∃k:Int,(-1<=k/\k<=3)/\(∀c:Int,-1<=c->c<k->¬g9 d (a-i*d) (b-c*d))/\vs=[int .i64 k,int .i64 i,int .i64 d,int .i64 K,int .i64 a,int .i64 G,int .i64 b,.ptr 2000000 0 0]/\pos=[]/\f=[.box [int .i64 0,int .i64 0]])
   (λ vs _ _=>match vs with | .r (.v (.int _ j))::_=>(3-j).toNat | _=>0) rfl ?_ ?_
  ·push_cast
   exact ⟨-1,by omega,λ c g o=>by omega,rfl⟩
  rintro vs pos f ⟨k,D,p,rfl,rfl,rfl⟩
  push_cast
  refine c7 (λ h=>?_) (λ h=>?_)
  ·have y:k<=2:=by simpa using h
   have W:=n k D.1 y
   push_cast
   rw [show IntKind.i64.wrap (i*d)=i*d from a6 (by omega),show IntKind.i64.wrap (k*d)=k*d from a6 (by omega),show IntKind.i64.wrap (a-i*d)=a-i*d from a6 (by omega),show IntKind.i64.wrap (b-k*d)=b-k*d from a6 (by omega)];refine a7 (arg _ _ d (by omega) (by omega)) rfl trivial ?_
   push_cast
   refine c7 (λ h=>?_) (λ h=>?_)
   ·have A:g9 d (a-i*d) (b-k*d):=by simpa using h
    have N:=ak6 E H ⟨F.1,w⟩ ⟨D.1,y⟩ A (λ c g o=>p c g o) (λ l c g o x B=>s l c g o x B);rw [N] at e
    push_cast [e,Ei.v,Ei.rv]
    rw [a6 (by omega),a6 (by omega)]
   have A:¬g9 d (a-i*d) (b-k*d):=by simpa using h
   push_cast
   rw [a6 (by omega)];refine ⟨⟨k+1,by omega,λ c g o=>?_,rfl⟩,by omega⟩;by_cases C:c=k
   ·subst C; exact A
   exact p c g (by omega)
  have y:k=3:=by simp at h; omega
  subst y
  push_cast
  rw [a6 (by omega)];refine ⟨⟨i+1,by omega,λ l c g o x B=>?_,rfl⟩,by omega⟩;by_cases z:l=i
  ·subst z; exact p c x (by omega)
  exact s l c g (by omega) x B
 have w:i=3:=by simp at h; omega
 subst w;exact (ary E H s).elim
theorem arc (x y:Int):b5 P0 38 [int .i64 x,int .i64 y] [] (bl (decide (inW x y))) []:=by
 refine to.t func38 ?_
 push_cast [to,zaa]
 repeat refine And.intro (by simp +contextual) ?_
 refine pt ?_;unfold inW;by_cases a:0<=x<;>by_cases c:x<1073741824<;>by_cases d:0<=y<;>by_cases b:y<1073741824<;>simp [a,c,d,b]
theorem aus (x y r:Int) (h:inW x y) (g:0<=r/\r<=12):b5 P0 43 [int .i64 x,int .i64 y,int .i64 r] [] (.tup [(i7 x y r.toNat).v,bl true]) []:=by
 refine vq.t func43 ?_;have d:decide (r<0)=false:=by simp; omega
 have c2:decide (r>12)=false:=by simp; omega
 push_cast [vq,zaa]
 refine a7 (arc x y) rfl trivial ?_;rw [decide_eq_true h]
 push_cast [d,c2]
 have c:(12-r).toNat=12-r.toNat:=by omega
 have a:(12-r).toNat<=12:=by omega
 have f:=h;unfold inW at f;rw [show IntKind.i64.wrap (45*x)=45*x from a6 (by omega),show IntKind.i64.wrap (26*y)=26*y from a6 (by omega),show IntKind.i64.wrap (52*y)=52*y from a6 (by omega),show IntKind.i64.wrap (45*x-26*y)=45*x-26*y from a6 (by omega),show IntKind.i64.wrap (12-r)=12-r from a6 (by omega)];refine a7 (aut (12-r) (by omega)) rfl trivial ?_;have e:=ju (12-r).toNat a;have b:=aqu h a
 push_cast [Ei.v,Ei.rv]
 refine b9 (as':=[(ax x y).v,(d5 (12-r).toNat).conj.v]) rfl ?_;refine a7 (af0 _ _ ((an2 h).mono (by decide)) ((ahy e).mono (by decide)) (b.mono (by decide))) rfl trivial ?_
 push_cast [Ei.v,Ei.rv]
 rw [show IntKind.i64.wrap (12-r)=12-r from a6 (by omega)];refine d9 (at4 (12-r) (by omega) (by omega)) rfl trivial ?_
 push_cast
 have i:=p7 (12-r).toNat a;rw [show IntKind.i64.wrap (2340*7^(12-r).toNat)=2340*7^(12-r).toNat from a6 (by omega)];refine x8 (as':=[((ax x y).mul (d5 (12-r).toNat).conj).v,int .i64 (2340*7^(12-r).toNat)]) rfl ?_;refine d9 (ajc _ _ (b.mono (by decide)) (by omega)) rfl trivial ?_
 push_cast [Ei.v,Ei.rv,i7,c]
 kernel_rfl

def vp:Mk P0 f92:={ x:=_ }
def su:Mk P0 f56:={ x:=_ }
def yz:Mk P0 f55:={ x:=_ }
theorem Ei.mul_comm (x y:Ei):x.mul y=y.mul x:=by
 apply Ei.ext'<;>simp only [Ei.mul]
 ·rw [zcf x.a,zcf x.b]
 rw [zcf x.a y.b,zcf x.b y.a,zcf x.b y.b]; omega
theorem aup (k:Int) (a:0<=k/\k<6):b5 P0 92 [int .i64 k] [] ((uni k.toNat).v) []:=by
 refine vp.t func92 ?_
 have b:(IntKind.i64.wrap (Int.tmod k 6+6)).tmod 6=k:=by
  rw [zco a.1,a6 (by omega),zco (by omega)]; omega
 simp only [vp,b,Ei.v,Ei.rv,push_cast,↓reduceIte,reduceCtorEq,zB,zE,zA,zS,zL,zD,zM];refine ⟨by decide,by decide,a,by omega,?_⟩;rcases (show k=0\/k=1\/k=2\/k=3\/k=4\/k=5 by omega) with rfl | rfl | rfl | rfl | rfl | rfl
 all_goals
  simp only [Int.reduceToNat,Nat.zero_mul,Nat.add_zero,zcu,as5,as4,as3,as2,as1,as0,push_cast,↓reduceIte,reduceCtorEq,zB,zE,zA,zS,zL,zD,zM]
theorem ah6 (z:Ei) (h:z.In 1073741824):b5 P0 56 [z.v] [] (.tup [(pr z).v,int .i64 (dg z)]) []:=by
 refine su.t func56 ?_
 push_cast [su,Ei.v,Ei.rv,zaa]
 have m:(z.mul ⟨3,-1⟩).In 9663676416:=(ac6 h (show (⟨3,-1⟩:Ei).In 3 by unfold Ei.In; decide)).mono (by decide);have g:(pr z).In 1073741824:=am5 h (by decide);have w:((pr z).mul cj).In 6442450944:=(ac6 g (show cj.In 2 by unfold Ei.In; decide)).mono (by decide);have k:=ap7 z;refine b9 (as':=[z.v,Ei.v ⟨3,-1⟩]) rfl ?_;refine a7 (af0 _ _ (h.mono (by decide)) (show (⟨3,-1⟩:Ei).In _ by unfold Ei.In; decide) (m.mono (by decide))) rfl trivial ?_
 push_cast [Ei.v,Ei.rv]
 refine b9 (as':=[(z.mul ⟨3,-1⟩).v,int .i64 7]) rfl ?_;refine a7 (ajc _ 7 (m.mono (by decide)) (by decide)) rfl trivial ?_;rw [show (z.mul ⟨3,-1⟩).round 7=pr z from rfl]
 push_cast [Ei.v,Ei.rv]
 refine b9 (as':=[(pr z).v,cj.v]) rfl ?_;refine a7 (af0 _ _ (g.mono (by decide)) (show cj.In _ by unfold Ei.In; decide) (w.mono (by decide))) rfl trivial ?_;have o:z.a-((pr z).mul cj).a=(lft z).a:=rfl;have n:z.b-((pr z).mul cj).b=(lft z).b:=rfl;unfold Ei.In at k;rw [<- o,<- n] at k
 push_cast [Ei.v,Ei.rv]
 rw [show IntKind.i64.wrap (z.a-((pr z).mul cj).a)=(lft z).a by rw [<- o]; exact a6 (by omega),show IntKind.i64.wrap (z.b-((pr z).mul cj).b)=(lft z).b by rw [<- n]; exact a6 (by omega)];rw [show dg z=ado (lft z) from rfl];generalize lft z=l at *;generalize pr z=q at *
 refine c9 [(11,false),(10,false),(6,false),(2,false)] (λ vs pos d=>∃i:Int,(0<=i/\i<=6)/\(∀j:Nat,(j:Int)<i->uni j≠l)/\vs=[int .i64 i,.ptr 2000000 0 0,.ptr 2000001 0 0,.ptr 2000002 0 0]/\pos=[]/\d=[.box [int .i64 l.a,int .i64 l.b],.box [int .i64 q.a,int .i64 q.b],.box [int .i64 0,int .i64 0]])
  (λ vs _ _=>match vs with | .r (.v (.int _ j))::_=>(6-j).toNat | _=>0) rfl ?_ ?_
 ·push_cast
  exact ⟨0,by omega,λ j f=>by omega,rfl⟩
 rintro vs pos d ⟨i,p,f,rfl,rfl,rfl⟩
 push_cast
 refine c7 (λ h=>?_) (λ h=>?_)
 ·simp only [decide_eq_true_eq] at h
  push_cast
  refine d9 (aup i ⟨p.1,h⟩) rfl trivial ?_
  push_cast [Ei.v,Ei.rv]
  refine ⟨by kernel_rfl,c7 (λ c=>?_) (λ c=>?_)⟩
  ·have e:uni i.toNat=l:=by
    simp only [Bool.and_eq_true,beq_iff_eq] at c;exact Ei.ext' c.1 c.2
   push_cast
   rw [<- e,akh _ (by omega),a6 (by omega),show ((i.toNat+1:Nat):Int)=i+1 by omega]
  have e:uni i.toNat≠l:=λ e=>by rw [e] at c; simp at c
  push_cast
  rw [a6 (by omega)];refine ⟨⟨i+1,by omega,λ j u=>?_,rfl⟩,by omega⟩;by_cases x:(j:Int)=i
  ·rw [show j=i.toNat by omega]; exact e
  exact f j (by omega)
 have s:i=6:=by simp at h; omega
 subst s
 push_cast
 rw [amj l λ j y=>f j (by omega)]
 rfl
theorem axa (r:Int) (z:Ei) (w:0<=r) (h:okc r.toNat z):b5 P0 55 [cel r z] [] (bl true) []:=by
 refine yz.t func55 ?_;obtain ⟨p,f,e,g⟩:=h;have d:=f;unfold Ei.In at d;have q:decide (r<0)=false:=by simp; omega
 have c2:decide (r>12)=false:=by simp; omega
 have n:decide (z.a < -1073741824)=false:=by simp; omega
 have k:decide (z.a>1073741824)=false:=by simp; omega
 have s:decide (z.b < -1073741824)=false:=by simp; omega
 have o:decide (z.b>1073741824)=false:=by simp; omega
 push_cast [yz,cel,zaa,q,c2,n,k,s,o]
 refine c9 [(4,false),(1,false),(3,false)] (λ vs pos c=>∃i:Int,(0<=i/\i<=r)/\vs=[int .i64 i,.ptr 2000000 0 0,.ptr 2000001 0 0]/\pos=[]/\c=[.box [int .i64 r,int .i64 z.a,int .i64 z.b],.box [int .i64 (anc i.toNat z).a,int .i64 (anc i.toNat z).b]])
  (λ vs _ _=>match vs with | .r (.v (.int _ j))::_=>(r-j).toNat | _=>0) rfl ?_ ?_
 ·push_cast
  exact ⟨0,by omega,rfl,rfl⟩
 rintro vs pos c ⟨i,u,rfl,rfl,rfl⟩
 push_cast
 refine c7 (λ h=>?_) (λ h=>?_)
 ·simp only [decide_eq_true_eq] at h
  push_cast
  have l:=ag9 i.toNat f (by decide);refine b9 (as':=[(anc i.toNat z).v]) rfl ?_;refine a7 (ah6 _ l) rfl trivial ?_
  push_cast [Ei.v,Ei.rv]
  rw [show IntKind.i64.wrap (i+1)=i+1 from a6 (by omega)];refine ⟨⟨i+1,by omega,rfl,?_⟩,by omega⟩;rw [show (i+1).toNat=i.toNat+1 by omega,afo]
 have m:i=r:=by simp at h; omega
 subst m
 push_cast [ge_iff_le,e.1,e.2,g.1,g.2,decide_true]

def vn:Mk P0 f32:={ x:=_ }
theorem vt {a:Nat} (h:a<18446744073709551616):IntKind.u64.wrap (a:Int)=a:=by rw [IntKind.wrap_u64]; omega
theorem ofI (a:Nat) (h:a<18446744073709551616):(zab IntKind.u64.bits (a:Int)).toNat=a:=by
 rw [show IntKind.u64.bits=64 from rfl,BitVec.toNat_ofInt];omega
theorem abl {a:Nat} (c:a<18446744073709551616) (d:b<18446744073709551616):IntKind.u64.wrap (zab IntKind.u64.bits (a:Int) ||| zab IntKind.u64.bits (b:Int)).toNat=((a ||| b:Nat):Int):=by
 rw [BitVec.toNat_or,ofI a c,ofI b d];exact vt (zcr (n:=64) c d)
theorem apv (x:BitVec 64):(~~~ x).toNat=2^64-1-x.toNat:=BitVec.toNat_not
theorem asr {a:Nat} (c:a<18446744073709551616) (d:b<18446744073709551616):IntKind.u64.wrap (zab IntKind.u64.bits (a:Int) &&& ~~~ zab IntKind.u64.bits (b:Int)).toNat=((a &&& (2^64-1-b):Nat):Int):=by
 rw [BitVec.toNat_and,ofI a c,show (~~~ zab IntKind.u64.bits (b:Int)).toNat=2^64-1-(zab IntKind.u64.bits (b:Int)).toNat from apv _,ofI b d];exact vt (Nat.lt_of_le_of_lt Nat.and_le_left c)
theorem xg {a:Nat} (b:s.toNat=k) (c:k<=63) (h:a*2^k<18446744073709551616):IntKind.u64.wrap ((a:Int)*2^min s.toNat IntKind.u64.bits)=((a*2^k:Nat):Int):=by
 rw [b,show min k IntKind.u64.bits=k from Nat.min_eq_left (by simp [IntKind.bits]; omega),show (a:Int)*2^k=((a*2^k:Nat):Int) by simp];exact vt h
def uw (n:Nat):AV:=int .u64 n
theorem auo (r:Int) (z:Ei) (s:0<=r) (f:okc r.toNat z):b5 P0 32 [cel r z] [] (.tup [uw (eh r.toNat z),int .i64 0]) []:=by
 refine vn.t func32 ?_;have u:=f;obtain ⟨c,F,J,K⟩:=u;simp only [vn,cel,push_cast,↓reduceIte,reduceCtorEq,zB,zE,zA,zS,zL,zD,zM];refine b9 (as':=[cel r z]) rfl ?_;refine a7 (axa r z s f) rfl trivial ?_;simp only [push_cast,↓reduceIte,reduceCtorEq,zB,zE,zA,zS,zL,zD,zM];have l:=ato r.toNat z (by omega)
 refine c9 [(6,false),(1,false),(4,false),(5,false)] (λ vs pos d=>∃i:Int,(0<=i/\i<=r)/\vs=[int .i64 i,.ptr 2000000 0 0,.ptr 2000001 0 0,int .u64 (iq r.toNat z i.toNat)]/\pos=[]/\d=[.box [int .i64 r,int .i64 z.a,int .i64 z.b],.box [int .i64 (anc (r-i).toNat z).a,int .i64 (anc (r-i).toNat z).b]])
  (λ vs _ _=>match vs with | .r (.v (.int _ j))::_=>j.toNat | _=>0) rfl ?_ ?_
 ·simp only [push_cast,↓reduceIte,reduceCtorEq,zB,zE,zA,zS,zL,zD,zM];refine ⟨r,by omega,?_⟩;rw [l,Int.sub_self];exact ⟨rfl,rfl⟩
 rintro vs pos d ⟨i,I,rfl,rfl,rfl⟩;simp only [push_cast,↓reduceIte,reduceCtorEq,zB,zE,zA,zS,zL,zD,zM];refine c7 (λ h=>?_) (λ h=>?_)
 ·simp only [decide_eq_true_eq] at h;have w:=ag9 (r-i).toNat F (by decide);simp only [push_cast,↓reduceIte,reduceCtorEq,zB,zE,zA,zS,zL,zD,zM];refine b9 (as':=[(anc (r-i).toNat z).v]) rfl ?_;refine a7 (ah6 _ w) rfl trivial ?_;simp only [Ei.v,Ei.rv,push_cast,↓reduceIte,reduceCtorEq,zB,zE,zA,zS,zL,zD,zM];rw [show IntKind.i64.wrap (3*i)=3*i from a6 (by omega),show IntKind.i64.wrap (36-3*i)=36-3*i from a6 (by omega),show IntKind.i64.wrap (i-1)=i-1 from a6 (by omega)];have C:=abc r.toNat z i.toNat (by omega) c;have g:=amw r.toNat z i.toNat (by omega) (by omega) c;have L:=ab1 (anc (r-i).toNat z);have e:(36-3*i).toNat=36-3*i.toNat:=by omega
  have D:2^(36-3*i.toNat)<=2^33:=zai (by decide) (by omega);have G:dg (anc (r-i).toNat z)*2^(36-3*i.toNat)<=6*2^(36-3*i.toNat):=zdb _ (by omega);rw [vt (show dg (anc (r-i).toNat z)<18446744073709551616 by omega),show (7:Int)=((7:Nat):Int) from rfl,xg e (by omega) (by omega),xg e (by omega) (by omega),asr (by omega) (by omega),abl (Nat.lt_of_le_of_lt Nat.and_le_left (by omega)) (by omega)];rw [show (r-i).toNat=r.toNat-i.toNat by omega] at *;rw [g];refine ⟨by omega,by omega,by kernel_rfl,⟨i-1,by omega,?_,?_⟩,by omega⟩
  ·rw [show (i-1).toNat=i.toNat-1 by omega]
  rw [show (r-(i-1)).toNat=r.toNat-i.toNat+1 by omega,afo]
 have x:i=0:=by simp at h; omega
 subst x;simp only [push_cast,↓reduceIte,reduceCtorEq,zB,zE,zA,zS,zL,zD,zM];refine ⟨by decide,by decide,by decide,?_⟩;have C:=abc r.toNat z 0 (by omega) c;rw [show (r-0).toNat=r.toNat by omega];obtain ⟨A,m⟩:∃A:Nat,(anc r.toNat z).a+512=A:=⟨((anc r.toNat z).a+512).toNat,by omega⟩
 obtain ⟨B,p⟩:∃B:Nat,(anc r.toNat z).b+512=B:=⟨((anc r.toNat z).b+512).toNat,by omega⟩
 have E:=atn r.toNat z c A B (by omega) (by omega) m p;have y:=ahc r.toNat z f;obtain ⟨R,rfl⟩:∃R:Nat,r=R:=⟨r.toNat,by omega⟩
 rw [zcj] at *;rw [m,p,show IntKind.i64.wrap (A:Int)=A from a6 (by omega),show IntKind.i64.wrap (B:Int)=B from a6 (by omega),vt (show A<18446744073709551616 by omega),vt (show B<18446744073709551616 by omega),vt (show R<18446744073709551616 by omega)];rw [xg (k:=56) rfl (by decide) (by omega),xg (k:=46) rfl (by decide) (by omega),xg (k:=36) rfl (by decide) (by omega),show (1152921504606846976:Int)=((1152921504606846976:Nat):Int) from rfl,Int.toNat_zero];have o:iq R z 0 ||| 1152921504606846976<18446744073709551616:=zcr (n:=64) (by omega) (by omega);have q:iq R z 0 ||| 1152921504606846976 ||| R*2^56<18446744073709551616:=zcr (n:=64) o (by omega)
 have H:iq R z 0 ||| 1152921504606846976 ||| R*2^56 ||| A*2^46<18446744073709551616:=zcr (n:=64) q (by omega);rw [abl (by omega) (by omega),abl o (by omega),abl q (by omega),abl H (by omega),E]
 rfl
def ano (w:Nat):Bool:=decide (w/1152921504606846976=1)&&decide (abh w<=12)&&(List.range 13).all λ i=>decide (i=0)||(decide (dgt w i=7) == decide (abh w<i))
theorem ar6 (w:Nat):ano w=true↔isW w:=by
 simp only [ano,isW,Bool.and_eq_true,decide_eq_true_eq,List.all_eq_true,List.mem_range,Bool.or_eq_true,beq_iff_eq,decide_eq_decide];constructor
 ·rintro ⟨⟨a,b⟩,c⟩;refine ⟨a,b,λ i f g=>?_⟩;rcases c i (by omega) with h | h
  ·omega
  exact h
 rintro ⟨a,b,c⟩;refine ⟨⟨a,b⟩,λ i e=>?_⟩;by_cases d:i=0
 ·exact .inl d
 exact .inr (c i (by omega) (by omega))
theorem ap8 (h:okc r z):ano (eh r z)=true:=(ar6 _).2 (ai1 r z h).1

def ss:Mk P0 f23:={ x:=_ }
def ti:Mk P0 f80:={ x:=_ }
def aen:Mk P0 f50:={ x:=_ }
def afs (x y:Int) (r:Nat):Nat:=eh r (i7 x y r)
theorem aov (x y r:Int) (h:inW x y) (a:0<=r/\r<=12):b5 P0 23 [int .i64 x,int .i64 y,int .i64 r] [] (uw (afs x y r.toNat)) []:=by
 refine ss.t func23 ?_
 push_cast [ss,zaa]
 refine a7 (aus x y r h a) rfl trivial ?_
 push_cast [Ei.v,Ei.rv]
 refine b9 (as':=[cel r (i7 x y r.toNat)]) rfl ?_;refine a7 (auo r (i7 x y r.toNat) a.1 (afb x y r.toNat h.1 h.2 (by omega))) rfl trivial ?_
 push_cast [uw]
 rfl
def rb (w i:Nat):Nat:=w/8^(13-i)*8^(13-i)
theorem amv (w i:Nat) (g:1<=i) (f:i<=12):rb w i ||| dgt w i*2^(36-3*i)=rb w (i+1):=by
 unfold rb dgt;have d:13-(i+1)=12-i:=by omega
 have c:13-i=12-i+1:=by omega
 have b:2^(36-3*i)=8^(12-i):=by rw [show (8:Nat)=2^3 from rfl,<- zcp]; congr 1; omega
 have a:(8:Nat)^(12-i+1)=2^(3*(12-i+1)):=by rw [show (8:Nat)=2^3 from rfl,<- zcp]
 rw [d,c,b,zaj,show w/8^(12-i+1)*8^(12-i+1)=w/8^(12-i+1)*2^(3*(12-i+1)) by rw [a],qw]
 ·rw [<- a,zcg,<- zcw];have e:=Nat.div_add_mod (w/8^(12-i)) 8;generalize w/8^(12-i)=q at *;generalize 8^(12-i)=m at *;rw [zas m 8,<- zae,<- zat,zas (q/8) 8,e]
 rw [<- a,zcg,zas];exact Nat.mul_lt_mul_of_pos_left (Nat.mod_lt _ (by decide)) (p8 _)
theorem aod (w:Nat):rb w 13=w:=by simp [rb]
theorem aoc (r:Nat) (z:Ei) (g:r<=12) (A B:Nat) (j:A<1024) (i:B<1024) (c:(anc r z).a+512=A) (d:(anc r z).b+512=B) :
 (((1152921504606846976 ||| r*2^56) ||| A*2^46) ||| B*2^36)=rb (eh r z) 1:=by
 unfold rb;rw [show 13-1=12 by rfl,show (8:Nat)^12=68719476736 by decide,aey r z g,je,c,d,zcj,zcj]
 have e:1152921504606846976 ||| r*2^56=(16+r)*2^56:=by
  rw [zaj,show (1152921504606846976:Nat)=1*2^60 by decide,qw (show r*2^56<2^60 by omega)];omega
 have h:(16+r)*2^56 ||| A*2^46=((16+r)*1024+A)*2^46:=by
  rw [zaj,qw (show A*2^46<2^56 by omega)];omega
 have f:((16+r)*1024+A)*2^46 ||| B*2^36=(((16+r)*1024+A)*1024+B)*2^36:=by
  rw [zaj,qw (show B*2^36<2^46 by omega)];omega
 rw [e,h,f]
theorem aq2 {w:Nat} (h:w<18446744073709551616) (i:Nat):rb w i<18446744073709551616:=Nat.lt_of_le_of_lt (Nat.div_mul_le_self _ _) h
theorem ata (w d r:Nat) (b:w<18446744073709551616) (h:d<8) (f:1<=r) (g:r<=12):b5 P0 80 [.ptr 1000000 0 0,int .i64 r,int .u64 d] [.box [uw w]] (.tup []) [.box [uw (w ||| d*2^(36-3*r))]]:=by
 refine ti.t func80 ?_
 push_cast [ti,uw,zal,zaa]
 have c:IntKind.i64.wrap ((r:Int)-1)=(r:Int)-1:=a6 (by omega);have e:IntKind.i64.wrap (3*((r:Int)-1))=3*((r:Int)-1):=a6 (by omega);have a:IntKind.i64.wrap (33-3*((r:Int)-1))=((36-3*r:Nat):Int):=by rw [a6 (by omega)]; omega
 have j:2^(36-3*r)<=2^33:=zai (by decide) (by omega);have i:d*2^(36-3*r)<=7*2^(36-3*r):=zdb _ (by omega);rw [c,e,a,show IntKind.u64.wrap ((36-3*r:Nat):Int)=((36-3*r:Nat):Int) from vt (by omega),xg (zcj _) (by omega) (by omega),abl b (by omega)]
 repeat refine sI ?_
 rfl
theorem ash (r:Nat) (z:Ei) (l:List AV) (h:l.length<=13):List.map AV.r (ab0 r z 0)++List.drop (0+(ab0 r z 0).length) l=am r z 0:=by
 rw [List.drop_of_length_le (by simp [ab0]; omega),zaf];simp [ab0,am]
theorem asg (r:Nat) (z:Ei) (j:Nat) (a:1<=j) (b:j<=r) (c:r<=12):(am r z 0).getD j AV.undef=int .i64 (dg (anc (r-j) z)):=by
 rw [List.getD_eq_getElem?_getD];unfold am;rw [List.getElem?_map,List.getElem?_range (by omega)];simp only [zaq,zak];rw [if_pos (by omega)]
theorem awo (r:Int) (z:Ei) (D:0<=r) (u:okc r.toNat z):b5 P0 50 [cel r z] [] (.tup [uw (eh r.toNat z),int .i64 0]) []:=by
 refine aen.t func50 ?_;obtain ⟨E,s⟩:=azs D u;have q:=ahc r.toNat z u;obtain ⟨f,H,G,I⟩:=id u;simp only [aen,cel,push_cast,↓reduceIte,reduceCtorEq,zB,zE,zA,zS,zL,zD,zM];refine b9 (as':=[cel r z]) rfl ?_;refine a7 (aza r z E) rfl trivial ?_;rw [s];simp only [Ei.v,Ei.rv,push_cast,↓reduceIte,reduceCtorEq,zB,zE,zA,zS,zL,zD,zM];obtain ⟨A,x⟩:∃A:Nat,(anc r.toNat z).a+512=A:=⟨((anc r.toNat z).a+512).toNat,by omega⟩
 obtain ⟨B,C⟩:∃B:Nat,(anc r.toNat z).b+512=B:=⟨((anc r.toNat z).b+512).toNat,by omega⟩
 have l:=aoc r.toNat z f A B (by omega) (by omega) x C;obtain ⟨R,rfl⟩:∃R:Nat,r=R:=⟨r.toNat,by omega⟩
 rw [zcj] at *;rw [x,C,show IntKind.i64.wrap (A:Int)=A from a6 (by omega),show IntKind.i64.wrap (B:Int)=B from a6 (by omega),vt (show A<18446744073709551616 by omega),vt (show B<18446744073709551616 by omega),vt (show R<18446744073709551616 by omega)];rw [xg (k:=56) rfl (by decide) (by omega),xg (k:=46) rfl (by decide) (by omega),xg (k:=36) rfl (by decide) (by omega),show (1152921504606846976:Int)=((1152921504606846976:Nat):Int) from rfl];have y:1152921504606846976 ||| R*2^56<18446744073709551616:=zcr (n:=64) (by omega) (by omega);have F:1152921504606846976 ||| R*2^56 ||| A*2^46<18446744073709551616:=zcr (n:=64) y (by omega);rw [abl (by omega) (by omega),abl y (by omega),abl F (by omega),l]
 have w:=ql R z 0;simp only [ash R z [AV.r (RV.v (Value.int IntKind.i64 0)),AV.r (RV.v (Value.int IntKind.i64 0)),AV.r (RV.v (Value.int IntKind.i64 0)),AV.r (RV.v (Value.int IntKind.i64 0)),AV.r (RV.v (Value.int IntKind.i64 0)),AV.r (RV.v (Value.int IntKind.i64 0)),AV.r (RV.v (Value.int IntKind.i64 0)),AV.r (RV.v (Value.int IntKind.i64 0)),AV.r (RV.v (Value.int IntKind.i64 0)),AV.r (RV.v (Value.int IntKind.i64 0)),AV.r (RV.v (Value.int IntKind.i64 0)),AV.r (RV.v (Value.int IntKind.i64 0)),AV.r (RV.v (Value.int IntKind.i64 0))] (by simp)]
 repeat refine And.intro (by first | decide | (simp [ab0]; done) | kernel_rfl) ?_
 refine c9 [(9,false),(1,false),(5,false),(7,false),(8,false)] (λ vs pos p=>∃i:Nat,(1<=i/\i<=13)/\vs=[int .i64 i,.ptr 2000000 0 0,.ptr 2000001 0 0,.ptr 2000002 0 0,.fn (.func 80) [.ptr 2000002 0 0] 1]/\pos=[] /\
  p=[.box [int .i64 R,int .i64 z.a,int .i64 z.b],.box (am R z 0),.box [uw (rb (eh R z) i)]])
  (λ vs _ _=>match vs with | .r (.v (.int _ j))::_=>(13-j).toNat | _=>0) rfl ?_ ?_
 ·simp only [zp,abv,uw,push_cast,↓reduceIte,reduceCtorEq,zB,zE,zA,zS,zL,zD,zM];exact ⟨1,by omega,rfl,rfl⟩
 rintro vs pos p ⟨i,m,rfl,rfl,rfl⟩;simp only [uw,push_cast,↓reduceIte,reduceCtorEq,zB,zE,zA,zS,zL,zD,zM];refine c7 (λ h=>?_) (λ h=>?_)
 ·have c:i<=12:=by simp at h; omega
  have g:=aq2 q i;have d:=amv (eh R z) i m.1 c;simp only [push_cast,↓reduceIte,reduceCtorEq,zB,zE,zA,zS,zL,zD,zM];refine c7 (λ hc=>?_) (λ hc=>?_)
  ·have e:R<i:=by simp at hc; omega
   simp only [push_cast,↓reduceIte,reduceCtorEq,zB,zE,zA,zS,zL,zD,zM];refine ⟨by kernel_rfl,?_⟩;refine b9 (as':=[.ptr 1000000 0 0,int .i64 i,int .u64 (7:Nat)]) rfl ?_;refine a7 (ata (rb (eh R z) i) 7 i g (by decide) m.1 c) rfl ⟨rfl,trivial⟩ ?_;rw [afr R i z e c] at d;rw [d];simp only [zp,abv,uw,push_cast,↓reduceIte,reduceCtorEq,zB,zE,zA,zS,zL,zD,zM];rw [show IntKind.i64.wrap ((i:Int)+1)=((i+1:Nat):Int) by rw [a6 (by omega)]; omega];exact ⟨⟨i+1,by omega,rfl,rfl⟩,by omega⟩
  have e:i<=R:=by simp at hc; omega
  have J:=ab1 (anc (R-i) z);simp only [zcj,zcu,Nat.mul_one,asg R z i m.1 e f,w,push_cast,↓reduceIte,reduceCtorEq,zB,zE,zA,zS,zL,zD,zM];rw [vt (show dg (anc (R-i) z)<18446744073709551616 by omega)]
  repeat refine sI ?_
  refine a7 (ata (rb (eh R z) i) (dg (anc (R-i) z)) i g (by omega) m.1 c) rfl ⟨rfl,trivial⟩ ?_;rw [ai2 R i z f m.1 e] at d;rw [d];simp only [zp,abv,uw,push_cast,↓reduceIte,reduceCtorEq,zB,zE,zA,zS,zL,zD,zM];rw [show IntKind.i64.wrap ((i:Int)+1)=((i+1:Nat):Int) by rw [a6 (by omega)]; omega];exact ⟨⟨i+1,by omega,rfl,rfl⟩,by omega⟩
 have o:i=13:=by simp at h; omega
 subst o;simp only [aod,uw,push_cast,↓reduceIte,reduceCtorEq,zB,zE,zA,zS,zL,zD,zM]

def acs:Mk P0 f75:={ x:=_ }
def aal:Mk P0 f73:={ x:=_ }
def aaj:Mk P0 f76:={ x:=_ }
def acr:Mk P0 f47:={ x:=_ }
structure Ky where
 c:Int
 v:Int
 d:Int
deriving DecidableEq
def Ky.rv (k:Ky):RV:=.agg [.v (.int .u64 k.c),.v (.int .i64 k.v),.v (.int .i64 k.d)]
def Ky.av (k:Ky):AV:=.r k.rv
def kl (a b:Ky):Bool:=if a.c≠b.c then decide (a.c<b.c) else if a.v≠b.v then decide (a.v<b.v) else decide (a.d<b.d)
theorem aj0 (a b:Ky):b5 P0 75 [a.av,b.av] [] (bl (kl a b)) []:=by
 refine acs.t func75 ?_
 push_cast [acs,Ky.av,Ky.rv,kl,zaa]
 refine c7 (λ c=>?_) (λ c=>?_)
 ·push_cast
  simp at c;refine pt ?_;simp [c]
 push_cast
 simp at c;refine c7 (λ d=>?_) (λ d=>?_)
 ·push_cast
  simp at d;refine pt ?_;simp [c,d]
 push_cast
 simp at d;refine pt ?_;simp [c,d]

theorem ai7 (F:FuncId) (A B:List AV) (g:l8 A=[]) (j:l8 B=[]) (f:yo P0 F=true) (p:Nat->Bool) (n r:Nat) (J:n<=maxLen) (O:r<=n)
 (E:∀i,i<r->p i=false) (K:∀i,r<=i->i<n->p i=true)
 (H:∀i:Nat,i<n->b5 P0 F [int .i64 i,.ptr 1000000 0 0,.ptr 1000001 0 0] [.box A,.box B] (bl (p i)) [.box A,.box B]) :
 b5 P0 73 [int .i64 n,.fn (.func F) [.ptr 1000000 0 0,.ptr 1000001 0 0] 0] [.box A,.box B] (int .i64 r) [.box A,.box B]:=by
 refine aal.t func73 ?_;simp only [aal,push_cast,↓reduceIte,reduceCtorEq,zB,zE,zA,zS,zL,zD,zM];have D:=v6;have l:∀F,imL F A=A:=λ F=>mb F A g;have m:∀F,imL F B=B:=λ F=>mb F B j
 refine c9 [(1,false),(5,false),(6,false)] (λ vs pos q=>∃(c d:Int),0<=c/\c<=r/\(r:Int)<=d/\d<=n /\
  vs=[.fn (.func F) [.ptr 1000000 0 0,.ptr 1000001 0 0] 0,int .i64 c,int .i64 d]/\pos=[.box A,.box B]/\q=[])
  (λ vs _ _=>match vs with | [_,.r (.v (.int _ a)),.r (.v (.int _ b))]=>(b-a).toNat | _=>0) rfl ?_ ?_
 ·simp only [g,j,l,m,f,push_cast,↓reduceIte,reduceCtorEq,zB,zE,zA,zS,zL,zD,zM];refine ⟨0,n,by omega,by omega,by omega,by omega,?_⟩;simp
 rintro vs pos q ⟨c,d,Q,P,N,L,rfl,rfl,rfl⟩;simp only [g,j,l,m,f,push_cast,↓reduceIte,reduceCtorEq,zB,zE,zA,zS,zL,zD,zM];refine c7 (λ h=>?_) (λ h=>?_)
 ·simp only [g,j,l,m,f,push_cast,↓reduceIte,reduceCtorEq,zB,zE,zA,zS,zL,zD,zM];have k:c<d:=by simpa using h
  have G:(n:Int)<=9223372036854775807:=by have:=J; simp only [maxLen] at this; omega
  have u:IntKind.u64.wrap (IntKind.i64.wrap (c+d))=c+d:=by rw [IntKind.wrap_i64,IntKind.wrap_u64]; omega
  have I:(c+d).fdiv (2^min (zch 1) IntKind.u64.bits)=(c+d)/2:=azj (c+d) 1 (by decide);have s:IntKind.i64.wrap ((c+d)/2)=(c+d)/2:=a6 ⟨by omega,by omega⟩;obtain ⟨M,C⟩:∃M:Nat,(c+d)/2=M:=⟨((c+d)/2).toNat,by omega⟩
  rw [C] at s;simp only [u,I,C,s];refine ⟨by decide,a7 (H M (by omega)) rfl ⟨rfl,rfl,trivial⟩ ?_⟩;simp only [g,j,l,m,f,push_cast,↓reduceIte,reduceCtorEq,zB,zE,zA,zS,zL,zD,zM];have z:IntKind.i64.wrap ((M:Int)+1)=M+1:=a6 ⟨by omega,by omega⟩;refine c7 (λ w=>?_) (λ w=>?_)
  ·simp only [g,j,l,m,f,z,push_cast,↓reduceIte,reduceCtorEq,zB,zE,zA,zS,zL,zD,zM];have o:p M=false:=by simpa using w
   have y:M<r:=Nat.lt_of_not_le λ x=>by rw [K M x (by omega)] at o; cases o
   refine ⟨⟨M+1,d,by omega,by omega,by omega,by omega,?_⟩,by omega⟩;simp
  simp only [g,j,l,m,f,push_cast,↓reduceIte,reduceCtorEq,zB,zE,zA,zS,zL,zD,zM];have o:p M=true:=by simpa using w
  have y:r<=M:=Nat.le_of_not_lt λ k=>by rw [E M k] at o; cases o
  refine ⟨⟨c,M,by omega,by omega,by omega,by omega,?_⟩,by omega⟩;simp
 simp only [g,j,l,m,f,push_cast,↓reduceIte,reduceCtorEq,zB,zE,zA,zS,zL,zD,zM];have k:¬c<d:=by simpa using h
 have e:c=r:=by omega
 rw [e]

def z9 (l:List Ky):RV:=.sl 3 (l.map Ky.rv)
def Ky.cs (k:Ky):List AV:=[int .u64 k.c,int .i64 k.v,int .i64 k.d]
theorem avo (l:List Ky) (k q:Ky) (i:Nat) (f:i<l.length) (b:l[i]?=some q) (e:l.length<=maxLen):b5 P0 76 [int .i64 i,.ptr 1000000 0 0,.ptr 1000001 0 0] [.box [.r (z9 l)],.box k.cs]
 (bl (!kl q k)) [.box [.r (z9 l)],.box k.cs]:=by
 refine aaj.t func76 ?_
 have a:(l.map Ky.rv).getD ((i:Int)).toNat (.agg [.v (.int .u64 0),.v (.int .i64 0),.v (.int .i64 0)])=.agg [.v (.int .u64 q.c),.v (.int .i64 q.v),.v (.int .i64 q.d)]:=by
  simp [List.getD,b,Ky.rv]
 push_cast [aaj,z9,Ky.cs,zaa,zad,a]
 refine And.intro ⟨by omega,by omega⟩ ?_;refine d9 (aj0 q k) rfl trivial ?_
 push_cast
 kernel_rfl
structure Plc (l:List Ky) (k:Ky) (r:Nat):Prop where
 le:r<=l.length
 lo:∀(i:Nat) (q:Ky),i<r->l[i]?=some q->kl q k=true
 hi:∀(i:Nat) (q:Ky),r<=i->l[i]?=some q->kl q k=false
theorem ayg (l:List Ky) (k:Ky) (r:Nat) (f:Plc l k r) (g:l.length<=maxLen):b5 P0 47 [.r (z9 l),k.av] []
 (.tup [int .i64 r,bl (decide (l[r]?=some k))]) []:=by
 refine acr.t func47 ?_
 have p:∀i:Nat,i<l.length->b5 P0 76 [int .i64 i,.ptr 1000000 0 0,.ptr 1000001 0 0] [.box [.r (z9 l)],.box k.cs] (bl ((λ i=>match l[i]? with | some q=>!kl q k | none=>true) i)) [.box [.r (z9 l)],.box k.cs]:=λ i b=>by
  have a:l[i]?=some l[i]:=by simp [b]
  simp only [a];exact avo l k _ i b a g
 have o:=ai7 76 [.r (z9 l)] k.cs rfl rfl rfl (λ i=>match l[i]? with | some q=>!kl q k | none=>true) l.length r g f.le (λ i b=>by
  have a:l[i]?=some (l[i]'(by have:=f.le; omega)):=by simp [show i<l.length by have:=f.le; omega]
  simp only [a,f.lo i _ b a]; rfl) (λ i b m=>by
  have a:l[i]?=some l[i]:=by simp [m]
  simp only [a,f.hi i _ b a]; rfl) p
 push_cast [acr,z9,Ky.av,Ky.rv,zaa,zad]
 refine a7 o rfl ⟨rfl,rfl,trivial⟩ ?_;obtain ⟨q,e⟩:∃q:Ky,q=(l[r]?).getD ⟨0,0,0⟩:=⟨_,rfl⟩
 have n:(l.map Ky.rv).getD ((r:Int)).toNat (.agg [.v (.int .u64 0),.v (.int .i64 0),.v (.int .i64 0)])=.agg [.v (.int .u64 q.c),.v (.int .i64 q.v),.v (.int .i64 q.d)]:=by
  rw [e];rcases hr:l[r]? with _ | j<;>simp [List.getD,hr,Ky.rv]
 push_cast [z9,Ky.cs,zad,n]
 refine ⟨λ h=>⟨by omega,by simpa using h⟩,by kernel_rfl,?_⟩;congr 4;rcases hr:l[r]? with _ | j
 ·have:¬r<l.length:=λ h=>by simp [h] at hr
  simp [this]
 have s:=(List.getElem?_eq_some_iff.1 hr).1;have u:q=j:=by rw [e,hr]; rfl
 subst u;simp [s];cases q; cases k;simp
 rfl

def tf:Mk P0 f74:={ x:=_ }
def wu:Mk P0 f46:={ x:=_ }
def u6 (ns:List (List Ky)) (n:Int):List RV:=[.sl 1 (ns.map z9),.v (.int .i64 n)]
theorem au9 (ns:List (List Ky)) (n:Int) (k q:Ky) (x:List Ky) (i:Nat) (g:i<ns.length) (hx:ns[i]?=some (q::x)) (f:ns.length<=maxLen) (e:(q::x).length<=maxLen) :
 b5 P0 74 [int .i64 i,.ptr 1000000 0 0,.ptr 1000001 0 0] [.box k.cs,.box [.rp (u6 ns n)]] (bl (kl k q)) [.box k.cs,.box [.rp (u6 ns n)]]:=by
 refine tf.t func74 ?_
 have b:(ns.map z9).getD ((i:Int)).toNat (.sl 3 [])=.sl 3 (q.rv::x.map Ky.rv):=by
  simp [List.getD,hx,z9]
 have a:(q.rv::x.map Ky.rv).getD (zch 0) (.agg [.v (.int .u64 0),.v (.int .i64 0),.v (.int .i64 0)])=.agg [.v (.int .u64 q.c),.v (.int .i64 q.v),.v (.int .i64 q.d)]:=rfl;simp only [tf,u6,Ky.cs,b,a,push_cast,↓reduceIte,reduceCtorEq,zB,zE,zA,zS,zL,zD,zM];refine And.intro ⟨by omega,by omega⟩ (And.intro ⟨by omega,by omega⟩ ?_);refine d9 (aj0 k q) rfl trivial ?_;simp only [push_cast,↓reduceIte,reduceCtorEq,zB,zE,zA,zS,zL,zD,zM];kernel_rfl
structure Nod (ns:List (List Ky)) (k:Ky) (r:Nat):Prop where
 le:r<=ns.length
 len:ns.length<=maxLen
 ne:∀(i:Nat) (l:List Ky),ns[i]?=some l->l≠[]/\l.length<=maxLen
 lo:∀(i:Nat) (q:Ky) (x:List Ky),i<r->ns[i]?=some (q::x)->kl k q=false
 hi:∀(i:Nat) (q:Ky) (x:List Ky),r<=i->ns[i]?=some (q::x)->kl k q=true
def am9 (ns:List (List Ky)) (k:Ky) (i:Nat):Bool:=match ns[i]? with
 | some (q::_)=>kl k q
 | _=>true
theorem Nod.at_ {ns:List (List Ky)} {k:Ky} (h:Nod ns k r) (c:i<ns.length):∃q x,ns[i]?=some (q::x)/\(q::x).length<=maxLen:=by
 have a:ns[i]?=some ns[i]:=by simp [c]
 obtain ⟨d,b⟩:=h.ne i _ a;rcases hx:ns[i] with _ | ⟨q,x⟩
 ·exact absurd hx d
 rw [hx] at a b;exact ⟨q,x,a,b⟩
theorem apw (ns:List (List Ky)) (n:Int) (k:Ky) (r:Nat) (h:Nod ns k r):b5 P0 46 [.rp (u6 ns n),k.av] [] (int .i64 ((r-1:Nat):Int)) []:=by
 refine wu.t func46 ?_
 have d:=ai7 74 k.cs [.rp (u6 ns n)] rfl rfl rfl (am9 ns k) ns.length r h.len h.le (λ i c=>by
  obtain ⟨q,x,a,_⟩:=h.at_ (i:=i) (by have:=h.le; omega);simp only [am9,a,h.lo i q x c a]) (λ i c b=>by
  obtain ⟨q,x,a,_⟩:=h.at_ b;simp only [am9,a,h.hi i q x c a]) (λ i b=>by
  obtain ⟨q,x,a,e⟩:=h.at_ b;simp only [am9,a]
  exact au9 ns n k q x i b a h.len e)
 push_cast [wu,u6,Ky.av,Ky.rv,zaa,zad]
 refine a7 d rfl ⟨rfl,rfl,trivial⟩ ?_
 push_cast [u6,Ky.cs,zad]
 have g:(ns.length:Int)<=9223372036854775807:=by have:=h.len; simp only [maxLen] at this; omega
 have f:=h.le;rw [a6 ⟨by omega,by omega⟩,show max ((r:Int)-1) 0=((r-1:Nat):Int) by omega]


end
end Go.Ev

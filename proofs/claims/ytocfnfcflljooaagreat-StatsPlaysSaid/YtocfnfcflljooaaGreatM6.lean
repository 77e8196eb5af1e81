import Derived.Test.YtocfnfcflljooaaGreatChecked
import Derived.KernelRfl
import Derived.Test.YtocfnfcflljooaaGreatM5
open Nat renaming reduceBEq → zB, reduceEqDiff → zE, reduceAdd → zA, reduceSub → zS, reduceLT → zL, reduceLeDiff → zD, reduceMul → zM
open Go.Proofs.Tryz renaming prog → P0
open Go.Proofs.Tryz
open List renaming length_nil → zaa, append_nil → zaf, length_cons → zal, length_append → zar, range_zero → zau, length_map → zaw, map_cons → zax, map_nil → zay, getD_cons_zero → zaz, getD_cons_succ → zba, take_succ_cons → zbb, take_zero → zbc, drop_succ_cons → zbd, drop_zero → zbe, cons_append → zbf, nil_append → zbg, all_cons → zbh, all_nil → zbi, contains_cons → zbp, contains_nil → zbq, filter_cons → zbr, filter_nil → zbs, getElem?_cons_zero → zbu, getElem?_cons_succ → zbv, getElem?_nil → zbw, take_nil → zbx, drop_nil → zby
open BitVec renaming ofInt → zab, ofNat → zcl, toNat_ofNat → zdb
open Nat renaming pow_add → zac, pow_le_pow_right → zad, mul_assoc → zae, or_comm → zai, mul_comm → zas, add_mul → zat, reduceEqDiff → zca, reduceAdd → zcb, reduceSub → zcc, reduceLT → zcd, reduceLeDiff → zce, reduceMul → zcf, pow_succ → zch, pow_pos → zci, pow_mul → zck, mul_le_mul → zcm, or_assoc → zcq, or_lt_two_pow → zcr, add_mul_div_right → zct, zero_add → zcu, lt_of_le_of_lt → zcv, div_div_eq_div_mul → zcx, div_eq_of_lt → zcy, testBit_two_pow_mul_add → zcz, testBit_lt_two_pow → zdc, mul_le_mul_right → zdd
open Int renaming emod_lt_of_pos → zag, emod_nonneg → zah, toNat → zaj, mul_comm → zcg, toNat_natCast → zcj, lt_or_le → zcn, pow_succ → zco, tmod_eq_emod_of_nonneg → zcp, natAbs_mul → zcs, mul_ediv_add_emod → zcw, fdiv_eq_ediv_of_nonneg → zda
open Option renaming getD_some → zak, map_some → zaq, getD_none → zav, map_none → zbt
open Bool renaming and_true → zam, true_and → zan, or_false → zao, not_false → zap, false_and → zbj, and_self → zbk, or_true → zbl, true_or → zbm, false_or → zbn, not_true → zbo, false_eq_true → zbz
namespace Go.Ev
set_option maxHeartbeats 8000000
set_option maxRecDepth 100000
noncomputable section
open Go
set_option linter.unusedSectionVars false
set_option linter.unnecessarySimpa false
set_option linter.unusedSimpArgs false
set_option linter.unusedVariables false
def ajd:Mk P0 f135:={ x:=_ }
def ai9:Mk P0 f151:={ x:=_ }
def ajb:Mk P0 f136:={ x:=_ }
def ahe:Mk P0 f152:={ x:=_ }
def aey:Mk P0 f131:={ x:=_ }
def ajc:Mk P0 f139:={ x:=_ }
def afj:Mk P0 f145:={ x:=_ }
def sm (x:Int):AV:=.tup [int .i64 (if c9 x then x else 0),bl (decide (c9 x))]
variable {x y:Int}
theorem oa (h:x=y) (hx:c9 y):AV.tup [int .i64 x,bl true]=sm y:=by simp [sm,hx,h]
theorem ado (hx:¬c9 y):AV.tup [int .i64 0,bl false]=sm y:=by simp [sm,hx]
theorem a4u (n:Nat):(n:Int).fdiv (2^min (zaj 32) IntKind.u64.bits)=((n/4294967296:Nat):Int):=by
 have:(2:Int)^min (zaj 32) IntKind.u64.bits=4294967296:=by decide
 rw [this,zda _ (by decide)];omega
theorem a4k (n:Nat):IntKind.u64.wrap (n:Int)=((n%18446744073709551616:Nat):Int):=by
 rw [IntKind.wrap_u64]; omega
theorem a5t (n:Nat):(zab IntKind.u64.bits (n:Int) &&& zab IntKind.u64.bits 4294967295).toNat=n%4294967296:=by
 have a:zab IntKind.u64.bits (n:Int)=zcl 64 n:=by simp [IntKind.bits]
 have b:zab IntKind.u64.bits 4294967295=zcl 64 (2^32-1):=rfl;rw [a,b];show (zcl 64 n &&& zcl 64 (2^32-1)).toNat = _;rw [BitVec.toNat_and,zdb,zdb,show (2^32-1)%2^64=2^32-1 by decide,Nat.and_two_pow_sub_one_eq_mod];omega
variable {a b:Nat}
theorem at0 {x y c d:Nat} (hx:x=a*4294967296+b) (hy:y=c*4294967296+d):x*y=(a*c)*18446744073709551616+(a*d+b*c)*4294967296+b*d:=by
 subst hx; subst hy;rw [zat,Nat.mul_add,Nat.mul_add]
 have f:a*4294967296*(c*4294967296)=(a*c)*18446744073709551616:=by
  rw [Nat.mul_mul_mul_comm]
 have e:a*4294967296*d=(a*d)*4294967296:=Nat.mul_right_comm _ _ _;have g:b*(c*4294967296)=(b*c)*4294967296:=(zae _ _ _).symm;rw [f,e,g];omega
theorem abx (c:a<4294967296) (d:b<4294967296):a*b<=18446744065119617025:=by
 have:a*b<=4294967295*4294967295:=zcm (by omega) (by omega);omega
theorem ar6 (a b:Int) (f:c9 a) (g:c9 b):a9 P0 135 [int .i64 a,int .i64 b] [] (sm (a+b)) []:=by
 refine ajd.t func135 ?_
 push_cast [ajd,zaa]
 unfold c9 at f g;refine b9 (λ h=>?_) (λ h=>?_)
 ·push_cast
  refine ado ?_;rw [IntKind.wrap_i64] at h;unfold c9; by_cases c:(a+b+9223372036854775808)%18446744073709551616-9223372036854775808>a<;>by_cases e:b>0<;>by_cases d:b=0<;>simp only [c,e,d,decide_true,decide_false] at h<;>first | omega | (simp at h; done) | (simp at h; omega)
 push_cast
 rw [IntKind.wrap_i64] at h |-
 have:c9 (a+b):=by
  unfold c9; by_cases c:(a+b+9223372036854775808)%18446744073709551616-9223372036854775808>a<;>by_cases e:b>0<;>by_cases d:b=0<;>simp only [c,e,d,decide_true,decide_false] at h<;>first | omega | (simp at h; done) | (simp at h; omega)
 exact oa (by unfold c9 at this; omega) this
theorem aqw (a b:Int) (f:c9 a) (g:c9 b):a9 P0 151 [int .i64 a,int .i64 b] [] (sm (a-b)) []:=by
 refine ai9.t func151 ?_
 push_cast [ai9,zaa]
 unfold c9 at f g;refine b9 (λ h=>?_) (λ h=>?_)
 ·push_cast
  refine ado ?_;rw [IntKind.wrap_i64] at h;unfold c9; by_cases c:(a-b+9223372036854775808)%18446744073709551616-9223372036854775808<a<;>by_cases e:b>0<;>by_cases d:b=0<;>simp only [c,e,d,decide_true,decide_false] at h<;>first | omega | (simp at h; done) | (simp at h; omega)
 push_cast
 rw [IntKind.wrap_i64] at h |-
 have:c9 (a-b):=by
  unfold c9; by_cases c:(a-b+9223372036854775808)%18446744073709551616-9223372036854775808<a<;>by_cases e:b>0<;>by_cases d:b=0<;>simp only [c,e,d,decide_true,decide_false] at h<;>first | omega | (simp at h; done) | (simp at h; omega)
 exact oa (by unfold c9 at this; omega) this
theorem a45 (a:Int) (b:c9 a):a9 P0 136 [int .i64 a] [] (sm (-a)) []:=by
 refine ajb.t func136 ?_
 push_cast [ajb,zaa]
 refine a7 (aqw 0 a (by decide) b) rfl trivial ?_
 push_cast [sm]
 simp
theorem asq (a:Int) (b:c9 a):a9 P0 152 [int .i64 a] [] (int .u64 a.natAbs) []:=by
 refine ahe.t func152 ?_
 push_cast [ahe,zaa]
 unfold c9 at b;refine b9 (λ h=>?_) (λ h=>?_)
 ·push_cast
  simp at h;rw [IntKind.wrap_u64,IntKind.wrap_u64];congr 3;omega
 push_cast
 simp at h;rw [IntKind.wrap_u64];congr 3;omega
theorem akn (x y:Nat) (hx:x<18446744073709551616) (hy:y<18446744073709551616):a9 P0 131 [int .u64 x,int .u64 y] [] (.tup [int .u64 (x*y/18446744073709551616:Nat),int .u64 (x*y%18446744073709551616:Nat)]) []:=by
 refine aey.t func131 ?_;simp only [aey,push_cast,↓reduceIte,reduceCtorEq,zB,zE,zA,zS,zL,zD,zM];refine ⟨by decide,by decide,by decide,by decide,by decide,?_⟩;simp only [a4u,a5t,a4k,<- Int.natCast_mul,<- Int.natCast_add];have f:∀n:Nat,n%4294967296%18446744073709551616=n%4294967296:=λ n=>by omega
 simp only [f];have e:=at0 (x:=x) (y:=y) (a:=x/4294967296) (b:=x%4294967296) (c:=y/4294967296) (d:=y%4294967296) (by omega) (by omega);have h:=abx (a:=x/4294967296) (b:=y/4294967296) (by omega) (by omega);have j:=abx (a:=x/4294967296) (b:=y%4294967296) (by omega) (by omega);have g:=abx (a:=x%4294967296) (b:=y/4294967296) (by omega) (by omega);have i:=abx (a:=x%4294967296) (b:=y%4294967296) (by omega) (by omega);generalize x/4294967296*(y/4294967296)=p at *;generalize x/4294967296*(y%4294967296)=q at *;generalize x%4294967296*(y/4294967296)=r at *;generalize x%4294967296*(y%4294967296)=t at *;rw [e];congr 5;omega

theorem a47 (a b:Int) (l:c9 a) (n:c9 b):a9 P0 139 [int .i64 a,int .i64 b] [] (sm (a*b)) []:=by
 refine ajc.t func139 ?_;have f:=l;have j:=n;unfold c9 at f j
 simp only [ajc,zaa,pw,pa,pf,eu,fo,dz,pe,lj,iz,ij,me,br,pt,ku,pj,pq,lf,ir,pd,pi,pg,ez,kr,dp,qv,ft,jh,mf,fp,vr,lc,mc,jg,iq,la,pp,pz,uh,oz,pb,et,aaa,uf,qw,mj,qf,qe,li,uq,pu,lh,iu,lu,qn,lx,ma,dv,cg,je,lv,du,qo,jf,fj,ve,bg,lz,vg,ly,qu,cz,zau,ui,ue,iw,iy,aaq,aar,aan,aam,jl,ja,uu,acd,ph,ql,fi,fh,db,t9,cb,rc,uy,nq,xd,ss,rj,sr,zp,nf,sf,nl,nn,zg,si,xl,xr,toV,xb,xc,kh,de,jq,yes,aaz,bad,v5,ko,mmL,lm,zo,eq2,eql,AV.isA,PO.see,PO.act,Vs.q,Rs.and,AV.bare,AV.may,xx,abj,abi,xy,qd,un1,qp,sq,ia2,iab,leb,xm,ldb,ldr,ld1,uv,vd,fa1,xp,bnd,xg,rb,xq,src,ig,dt,n6,bi,PO.see.mayO,PO.see.bareO,l9,t5,go,nv,AV.rv,rvs,AV.elt,frz,freeze,q9,z7,stb,str,st2,rk,par,td,xw,sh,zf,am,gh,aa9,RV.cells,AV.cells,AV.one,RV.one,AV.boxable,RV.good,c8,x8,mz,rf,zj,aa5,aa4,nj,na,om,AV.isNil,qc,kp,bj,q7,gm,z6,o4,acf,s9,fwd,abf,ug,v9,m5,fu,gp,back,bw,imV,imL,imO,idx,az,obs,keep,bk,va,kj,sk,qg,oo,yb,Ob.own,Value.oneCell',mg,ji,↓reduceIte,true_and,and_true,and_self,true_implies,imp_self,implies_true,zak,zav,zal,zaa,zaw,zax,zay,zaz,zba,zbb,zbc,zbd,zbe,zbf,zbg,zaf,zbh,zbi,zam,zan,zbj,zbk,zbl,zbm,zbn,zao,zbo,zap,reduceCtorEq,zbp,zbq,zbr,zbs,decide_true,decide_false,if_true,if_false,false_and,and_false,not_true,not_false_eq_true,zaq,zbt,zbu,zbv,zbw,zar,beq_self_eq_true,zB,zbx,zby,false_implies,zbz,ne_eq,zca,zcb,zcc,zcd,zce,zcf,ul,uk,up,uo,um,ur]
 refine a7 (asq a l) rfl trivial ?_
 simp only [pw,pa,pf,eu,fo,dz,pe,lj,iz,ij,me,br,pt,ku,pj,pq,lf,ir,pd,pi,pg,ez,kr,dp,qv,ft,jh,mf,fp,vr,lc,mc,jg,iq,la,pp,pz,uh,oz,pb,et,aaa,uf,qw,mj,qf,qe,li,uq,pu,lh,iu,lu,qn,lx,ma,dv,cg,je,lv,du,qo,jf,fj,ve,bg,lz,vg,ly,qu,cz,zau,ui,ue,iw,iy,aaq,aar,aan,aam,jl,ja,uu,acd,ph,ql,fi,fh,db,t9,cb,rc,uy,nq,xd,ss,rj,sr,zp,nf,sf,nl,nn,zg,si,xl,xr,toV,xb,xc,kh,de,jq,yes,aaz,bad,v5,ko,mmL,lm,zo,eq2,eql,AV.isA,PO.see,PO.act,Vs.q,Rs.and,AV.bare,AV.may,xx,abj,abi,xy,qd,un1,qp,sq,ia2,iab,leb,xm,ldb,ldr,ld1,uv,vd,fa1,xp,bnd,xg,rb,xq,src,ig,dt,n6,bi,PO.see.mayO,PO.see.bareO,l9,t5,go,nv,AV.rv,rvs,AV.elt,frz,freeze,q9,z7,stb,str,st2,rk,par,td,xw,sh,zf,am,gh,aa9,RV.cells,AV.cells,AV.one,RV.one,AV.boxable,RV.good,c8,x8,mz,rf,zj,aa5,aa4,nj,na,om,AV.isNil,qc,kp,bj,q7,gm,z6,o4,acf,s9,fwd,abf,ug,v9,m5,fu,gp,back,bw,imV,imL,imO,idx,az,obs,keep,bk,va,kj,sk,qg,oo,yb,Ob.own,Value.oneCell',mg,ji,↓reduceIte,true_and,and_true,and_self,true_implies,imp_self,implies_true,zak,zav,zal,zaa,zaw,zax,zay,zaz,zba,zbb,zbc,zbd,zbe,zbf,zbg,zaf,zbh,zbi,zam,zan,zbj,zbk,zbl,zbm,zbn,zao,zbo,zap,reduceCtorEq,zbp,zbq,zbr,zbs,decide_true,decide_false,if_true,if_false,false_and,and_false,not_true,not_false_eq_true,zaq,zbt,zbu,zbv,zbw,zar,beq_self_eq_true,zB,zbx,zby,false_implies,zbz,ne_eq,zca,zcb,zcc,zcd,zce,zcf,ul,uk,up,uo,um,ur]
 refine a7 (asq b n) rfl trivial ?_
 simp only [pw,pa,pf,eu,fo,dz,pe,lj,iz,ij,me,br,pt,ku,pj,pq,lf,ir,pd,pi,pg,ez,kr,dp,qv,ft,jh,mf,fp,vr,lc,mc,jg,iq,la,pp,pz,uh,oz,pb,et,aaa,uf,qw,mj,qf,qe,li,uq,pu,lh,iu,lu,qn,lx,ma,dv,cg,je,lv,du,qo,jf,fj,ve,bg,lz,vg,ly,qu,cz,zau,ui,ue,iw,iy,aaq,aar,aan,aam,jl,ja,uu,acd,ph,ql,fi,fh,db,t9,cb,rc,uy,nq,xd,ss,rj,sr,zp,nf,sf,nl,nn,zg,si,xl,xr,toV,xb,xc,kh,de,jq,yes,aaz,bad,v5,ko,mmL,lm,zo,eq2,eql,AV.isA,PO.see,PO.act,Vs.q,Rs.and,AV.bare,AV.may,xx,abj,abi,xy,qd,un1,qp,sq,ia2,iab,leb,xm,ldb,ldr,ld1,uv,vd,fa1,xp,bnd,xg,rb,xq,src,ig,dt,n6,bi,PO.see.mayO,PO.see.bareO,l9,t5,go,nv,AV.rv,rvs,AV.elt,frz,freeze,q9,z7,stb,str,st2,rk,par,td,xw,sh,zf,am,gh,aa9,RV.cells,AV.cells,AV.one,RV.one,AV.boxable,RV.good,c8,x8,mz,rf,zj,aa5,aa4,nj,na,om,AV.isNil,qc,kp,bj,q7,gm,z6,o4,acf,s9,fwd,abf,ug,v9,m5,fu,gp,back,bw,imV,imL,imO,idx,az,obs,keep,bk,va,kj,sk,qg,oo,yb,Ob.own,Value.oneCell',mg,ji,↓reduceIte,true_and,and_true,and_self,true_implies,imp_self,implies_true,zak,zav,zal,zaa,zaw,zax,zay,zaz,zba,zbb,zbc,zbd,zbe,zbf,zbg,zaf,zbh,zbi,zam,zan,zbj,zbk,zbl,zbm,zbn,zao,zbo,zap,reduceCtorEq,zbp,zbq,zbr,zbs,decide_true,decide_false,if_true,if_false,false_and,and_false,not_true,not_false_eq_true,zaq,zbt,zbu,zbv,zbw,zar,beq_self_eq_true,zB,zbx,zby,false_implies,zbz,ne_eq,zca,zcb,zcc,zcd,zce,zcf,ul,uk,up,uo,um,ur]
 refine a7 (akn a.natAbs b.natAbs (by omega) (by omega)) rfl trivial ?_
 simp only [pw,pa,pf,eu,fo,dz,pe,lj,iz,ij,me,br,pt,ku,pj,pq,lf,ir,pd,pi,pg,ez,kr,dp,qv,ft,jh,mf,fp,vr,lc,mc,jg,iq,la,pp,pz,uh,oz,pb,et,aaa,uf,qw,mj,qf,qe,li,uq,pu,lh,iu,lu,qn,lx,ma,dv,cg,je,lv,du,qo,jf,fj,ve,bg,lz,vg,ly,qu,cz,zau,ui,ue,iw,iy,aaq,aar,aan,aam,jl,ja,uu,acd,ph,ql,fi,fh,db,t9,cb,rc,uy,nq,xd,ss,rj,sr,zp,nf,sf,nl,nn,zg,si,xl,xr,toV,xb,xc,kh,de,jq,yes,aaz,bad,v5,ko,mmL,lm,zo,eq2,eql,AV.isA,PO.see,PO.act,Vs.q,Rs.and,AV.bare,AV.may,xx,abj,abi,xy,qd,un1,qp,sq,ia2,iab,leb,xm,ldb,ldr,ld1,uv,vd,fa1,xp,bnd,xg,rb,xq,src,ig,dt,n6,bi,PO.see.mayO,PO.see.bareO,l9,t5,go,nv,AV.rv,rvs,AV.elt,frz,freeze,q9,z7,stb,str,st2,rk,par,td,xw,sh,zf,am,gh,aa9,RV.cells,AV.cells,AV.one,RV.one,AV.boxable,RV.good,c8,x8,mz,rf,zj,aa5,aa4,nj,na,om,AV.isNil,qc,kp,bj,q7,gm,z6,o4,acf,s9,fwd,abf,ug,v9,m5,fu,gp,back,bw,imV,imL,imO,idx,az,obs,keep,bk,va,kj,sk,qg,oo,yb,Ob.own,Value.oneCell',mg,ji,↓reduceIte,true_and,and_true,and_self,true_implies,imp_self,implies_true,zak,zav,zal,zaa,zaw,zax,zay,zaz,zba,zbb,zbc,zbd,zbe,zbf,zbg,zaf,zbh,zbi,zam,zan,zbj,zbk,zbl,zbm,zbn,zao,zbo,zap,reduceCtorEq,zbp,zbq,zbr,zbs,decide_true,decide_false,if_true,if_false,false_and,and_false,not_true,not_false_eq_true,zaq,zbt,zbu,zbv,zbw,zar,beq_self_eq_true,zB,zbx,zby,false_implies,zbz,ne_eq,zca,zcb,zcc,zcd,zce,zcf,ul,uk,up,uo,um,ur]
 have d:a.natAbs*b.natAbs=(a*b).natAbs:=(zcs a b).symm;rw [d];have p:(a*b).natAbs<=9223372036854775808*9223372036854775808:=by rw [<- d]; exact zcm (by omega) (by omega)
 have s:(a<0/\b<0->0<a*b)/\(a<0/\0<=b->a*b<=0)/\(0<=a/\b<0->a*b<=0)/\(0<=a/\0<=b->0<=a*b):=
  ⟨λ h=>Int.mul_pos_of_neg_of_neg h.1 h.2,λ h=>Int.mul_nonpos_of_nonpos_of_nonneg (by omega) h.2,λ h=>Int.mul_nonpos_of_nonneg_of_nonpos h.1 (by omega),λ h=>Int.mul_nonneg h.1 h.2⟩
 clear d;generalize a*b=m at *
 repeat refine And.intro (by simp +contextual) ?_
 refine b9 (λ h=>?_) (λ h=>?_)
 ·simp only [pw,pa,pf,eu,fo,dz,pe,lj,iz,ij,me,br,pt,ku,pj,pq,lf,ir,pd,pi,pg,ez,kr,dp,qv,ft,jh,mf,fp,vr,lc,mc,jg,iq,la,pp,pz,uh,oz,pb,et,aaa,uf,qw,mj,qf,qe,li,uq,pu,lh,iu,lu,qn,lx,ma,dv,cg,je,lv,du,qo,jf,fj,ve,bg,lz,vg,ly,qu,cz,zau,ui,ue,iw,iy,aaq,aar,aan,aam,jl,ja,uu,acd,ph,ql,fi,fh,db,t9,cb,rc,uy,nq,xd,ss,rj,sr,zp,nf,sf,nl,nn,zg,si,xl,xr,toV,xb,xc,kh,de,jq,yes,aaz,bad,v5,ko,mmL,lm,zo,eq2,eql,AV.isA,PO.see,PO.act,Vs.q,Rs.and,AV.bare,AV.may,xx,abj,abi,xy,qd,un1,qp,sq,ia2,iab,leb,xm,ldb,ldr,ld1,uv,vd,fa1,xp,bnd,xg,rb,xq,src,ig,dt,n6,bi,PO.see.mayO,PO.see.bareO,l9,t5,go,nv,AV.rv,rvs,AV.elt,frz,freeze,q9,z7,stb,str,st2,rk,par,td,xw,sh,zf,am,gh,aa9,RV.cells,AV.cells,AV.one,RV.one,AV.boxable,RV.good,c8,x8,mz,rf,zj,aa5,aa4,nj,na,om,AV.isNil,qc,kp,bj,q7,gm,z6,o4,acf,s9,fwd,abf,ug,v9,m5,fu,gp,back,bw,imV,imL,imO,idx,az,obs,keep,bk,va,kj,sk,qg,oo,yb,Ob.own,Value.oneCell',mg,ji,↓reduceIte,true_and,and_true,and_self,true_implies,imp_self,implies_true,zak,zav,zal,zaa,zaw,zax,zay,zaz,zba,zbb,zbc,zbd,zbe,zbf,zbg,zaf,zbh,zbi,zam,zan,zbj,zbk,zbl,zbm,zbn,zao,zbo,zap,reduceCtorEq,zbp,zbq,zbr,zbs,decide_true,decide_false,if_true,if_false,false_and,and_false,not_true,not_false_eq_true,zaq,zbt,zbu,zbv,zbw,zar,beq_self_eq_true,zB,zbx,zby,false_implies,zbz,ne_eq,zca,zcb,zcc,zcd,zce,zcf,ul,uk,up,uo,um,ur]
  refine ado ?_;unfold c9;by_cases g:m.natAbs/18446744073709551616=0<;>by_cases k:m.natAbs%18446744073709551616=9223372036854775808<;>by_cases e:a<0<;>by_cases c:b<0<;>simp [g,k,e,c] at h<;>omega
 have r:m.natAbs<=9223372036854775808/\(m.natAbs=9223372036854775808->(a<0/\0<=b)\/(0<=a/\b<0)):=by
  by_cases g:m.natAbs/18446744073709551616=0<;>by_cases k:m.natAbs%18446744073709551616=9223372036854775808<;>by_cases e:a<0<;>by_cases c:b<0<;>simp [g,k,e,c] at h<;>omega
 clear h
 simp only [pw,pa,pf,eu,fo,dz,pe,lj,iz,ij,me,br,pt,ku,pj,pq,lf,ir,pd,pi,pg,ez,kr,dp,qv,ft,jh,mf,fp,vr,lc,mc,jg,iq,la,pp,pz,uh,oz,pb,et,aaa,uf,qw,mj,qf,qe,li,uq,pu,lh,iu,lu,qn,lx,ma,dv,cg,je,lv,du,qo,jf,fj,ve,bg,lz,vg,ly,qu,cz,zau,ui,ue,iw,iy,aaq,aar,aan,aam,jl,ja,uu,acd,ph,ql,fi,fh,db,t9,cb,rc,uy,nq,xd,ss,rj,sr,zp,nf,sf,nl,nn,zg,si,xl,xr,toV,xb,xc,kh,de,jq,yes,aaz,bad,v5,ko,mmL,lm,zo,eq2,eql,AV.isA,PO.see,PO.act,Vs.q,Rs.and,AV.bare,AV.may,xx,abj,abi,xy,qd,un1,qp,sq,ia2,iab,leb,xm,ldb,ldr,ld1,uv,vd,fa1,xp,bnd,xg,rb,xq,src,ig,dt,n6,bi,PO.see.mayO,PO.see.bareO,l9,t5,go,nv,AV.rv,rvs,AV.elt,frz,freeze,q9,z7,stb,str,st2,rk,par,td,xw,sh,zf,am,gh,aa9,RV.cells,AV.cells,AV.one,RV.one,AV.boxable,RV.good,c8,x8,mz,rf,zj,aa5,aa4,nj,na,om,AV.isNil,qc,kp,bj,q7,gm,z6,o4,acf,s9,fwd,abf,ug,v9,m5,fu,gp,back,bw,imV,imL,imO,idx,az,obs,keep,bk,va,kj,sk,qg,oo,yb,Ob.own,Value.oneCell',mg,ji,↓reduceIte,true_and,and_true,and_self,true_implies,imp_self,implies_true,zak,zav,zal,zaa,zaw,zax,zay,zaz,zba,zbb,zbc,zbd,zbe,zbf,zbg,zaf,zbh,zbi,zam,zan,zbj,zbk,zbl,zbm,zbn,zao,zbo,zap,reduceCtorEq,zbp,zbq,zbr,zbs,decide_true,decide_false,if_true,if_false,false_and,and_false,not_true,not_false_eq_true,zaq,zbt,zbu,zbv,zbw,zar,beq_self_eq_true,zB,zbx,zby,false_implies,zbz,ne_eq,zca,zcb,zcc,zcd,zce,zcf,ul,uk,up,uo,um,ur]
 refine b9 (λ i=>?_) (λ i=>?_)
 ·simp only [pw,pa,pf,eu,fo,dz,pe,lj,iz,ij,me,br,pt,ku,pj,pq,lf,ir,pd,pi,pg,ez,kr,dp,qv,ft,jh,mf,fp,vr,lc,mc,jg,iq,la,pp,pz,uh,oz,pb,et,aaa,uf,qw,mj,qf,qe,li,uq,pu,lh,iu,lu,qn,lx,ma,dv,cg,je,lv,du,qo,jf,fj,ve,bg,lz,vg,ly,qu,cz,zau,ui,ue,iw,iy,aaq,aar,aan,aam,jl,ja,uu,acd,ph,ql,fi,fh,db,t9,cb,rc,uy,nq,xd,ss,rj,sr,zp,nf,sf,nl,nn,zg,si,xl,xr,toV,xb,xc,kh,de,jq,yes,aaz,bad,v5,ko,mmL,lm,zo,eq2,eql,AV.isA,PO.see,PO.act,Vs.q,Rs.and,AV.bare,AV.may,xx,abj,abi,xy,qd,un1,qp,sq,ia2,iab,leb,xm,ldb,ldr,ld1,uv,vd,fa1,xp,bnd,xg,rb,xq,src,ig,dt,n6,bi,PO.see.mayO,PO.see.bareO,l9,t5,go,nv,AV.rv,rvs,AV.elt,frz,freeze,q9,z7,stb,str,st2,rk,par,td,xw,sh,zf,am,gh,aa9,RV.cells,AV.cells,AV.one,RV.one,AV.boxable,RV.good,c8,x8,mz,rf,zj,aa5,aa4,nj,na,om,AV.isNil,qc,kp,bj,q7,gm,z6,o4,acf,s9,fwd,abf,ug,v9,m5,fu,gp,back,bw,imV,imL,imO,idx,az,obs,keep,bk,va,kj,sk,qg,oo,yb,Ob.own,Value.oneCell',mg,ji,↓reduceIte,true_and,and_true,and_self,true_implies,imp_self,implies_true,zak,zav,zal,zaa,zaw,zax,zay,zaz,zba,zbb,zbc,zbd,zbe,zbf,zbg,zaf,zbh,zbi,zam,zan,zbj,zbk,zbl,zbm,zbn,zao,zbo,zap,reduceCtorEq,zbp,zbq,zbr,zbs,decide_true,decide_false,if_true,if_false,false_and,and_false,not_true,not_false_eq_true,zaq,zbt,zbu,zbv,zbw,zar,beq_self_eq_true,zB,zbx,zby,false_implies,zbz,ne_eq,zca,zcb,zcc,zcd,zce,zcf,ul,uk,up,uo,um,ur]
  have o:m<=0:=by by_cases e:a<0<;>by_cases c:b<0<;>simp [e,c] at i<;>omega
  refine oa ?_ ?_
  ·rw [IntKind.wrap_i64,IntKind.wrap_i64];omega
  unfold c9; omega
 simp only [pw,pa,pf,eu,fo,dz,pe,lj,iz,ij,me,br,pt,ku,pj,pq,lf,ir,pd,pi,pg,ez,kr,dp,qv,ft,jh,mf,fp,vr,lc,mc,jg,iq,la,pp,pz,uh,oz,pb,et,aaa,uf,qw,mj,qf,qe,li,uq,pu,lh,iu,lu,qn,lx,ma,dv,cg,je,lv,du,qo,jf,fj,ve,bg,lz,vg,ly,qu,cz,zau,ui,ue,iw,iy,aaq,aar,aan,aam,jl,ja,uu,acd,ph,ql,fi,fh,db,t9,cb,rc,uy,nq,xd,ss,rj,sr,zp,nf,sf,nl,nn,zg,si,xl,xr,toV,xb,xc,kh,de,jq,yes,aaz,bad,v5,ko,mmL,lm,zo,eq2,eql,AV.isA,PO.see,PO.act,Vs.q,Rs.and,AV.bare,AV.may,xx,abj,abi,xy,qd,un1,qp,sq,ia2,iab,leb,xm,ldb,ldr,ld1,uv,vd,fa1,xp,bnd,xg,rb,xq,src,ig,dt,n6,bi,PO.see.mayO,PO.see.bareO,l9,t5,go,nv,AV.rv,rvs,AV.elt,frz,freeze,q9,z7,stb,str,st2,rk,par,td,xw,sh,zf,am,gh,aa9,RV.cells,AV.cells,AV.one,RV.one,AV.boxable,RV.good,c8,x8,mz,rf,zj,aa5,aa4,nj,na,om,AV.isNil,qc,kp,bj,q7,gm,z6,o4,acf,s9,fwd,abf,ug,v9,m5,fu,gp,back,bw,imV,imL,imO,idx,az,obs,keep,bk,va,kj,sk,qg,oo,yb,Ob.own,Value.oneCell',mg,ji,↓reduceIte,true_and,and_true,and_self,true_implies,imp_self,implies_true,zak,zav,zal,zaa,zaw,zax,zay,zaz,zba,zbb,zbc,zbd,zbe,zbf,zbg,zaf,zbh,zbi,zam,zan,zbj,zbk,zbl,zbm,zbn,zao,zbo,zap,reduceCtorEq,zbp,zbq,zbr,zbs,decide_true,decide_false,if_true,if_false,false_and,and_false,not_true,not_false_eq_true,zaq,zbt,zbu,zbv,zbw,zar,beq_self_eq_true,zB,zbx,zby,false_implies,zbz,ne_eq,zca,zcb,zcc,zcd,zce,zcf,ul,uk,up,uo,um,ur]
 have o:0<=m/\m.natAbs≠9223372036854775808:=by by_cases e:a<0<;>by_cases c:b<0<;>simp [e,c] at i<;>omega
 refine oa ?_ ?_
 ·rw [IntKind.wrap_i64];omega
 unfold c9; omega
theorem aqv {a b c d e c':AV} (f:a=d) (h:b=e) (g:c=c'):AV.tup [a,b,c]=AV.tup [d,e,c']:=by rw [f,h,g]
theorem yo {k:IntKind} {a b:Int} (h:a=b):int k a=int k b:=by rw [h]
theorem al3 {a b:Bool} (h:a=b):bl a=bl b:=by rw [h]
theorem ahk {a b:Int} (e:c9 a) (c:0<b):(-9223372036854775808<=a/b/\a/b<=9223372036854775807)/\(a.tmod b<0->a.tdiv b-1=a/b/\a.tmod b+b=a%b)/\(0<=a.tmod b->a.tdiv b=a/b/\a.tmod b=a%b):=by
 unfold c9 at e;have g:=Int.mul_tdiv_add_tmod a b;have l:a.tmod b<b:=Int.tmod_lt_of_pos a c
 have k:-b<a.tmod b:=by
  have:=Int.lt_tmod_of_pos a c;omega
 refine ⟨?_,λ h=>?_,λ h=>?_⟩
 ·have i:=zcw a b;have j:=zag a c;have f:=zah a (show b≠0 by omega);generalize a/b=q at *;generalize a%b=r at *;constructor
  ·rcases zcn q 0 with d | d
   ·have:b*(q+1)<=1*(q+1):=Int.mul_le_mul_of_nonpos_right (by omega) (by omega);rw [Int.mul_add] at this;omega
   omega
  rcases zcn q 0 with d | d
  ·omega
  have:1*q<=b*q:=Int.mul_le_mul_of_nonneg_right (by omega) d;omega
 ·have:=(Int.ediv_emod_unique (a:=a) (b:=b) (r:=a.tmod b+b) (q:=a.tdiv b-1) c).2 ⟨by rw [Int.mul_sub]; omega,by omega,by omega⟩;exact ⟨this.1.symm,this.2.symm⟩
 have:=(Int.ediv_emod_unique (a:=a) (b:=b) (r:=a.tmod b) (q:=a.tdiv b) c).2 ⟨by omega,by omega,by omega⟩;exact ⟨this.1.symm,this.2.symm⟩
theorem ap8 (a b:Int) (d:c9 a) (i:c9 b):a9 P0 145 [int .i64 a,int .i64 b] [] (.tup [int .i64 (if 0<b then a/b else 0),int .i64 (if 0<b then a%b else 0),bl (decide (0<b))]) []:=by
 refine afj.t func145 ?_
 push_cast [afj,zaa]
 refine b9 (λ h=>?_) (λ h=>?_)
 ·push_cast
  simp at h;have:¬0<b:=by omega
  simp [this]
 push_cast
 simp at h;refine ⟨by omega,by omega,by kernel_rfl,?_⟩;obtain ⟨n,j,k⟩:=ahk d h;have g:IntKind.i64.wrap (a.tdiv b)=a.tdiv b:=wrap_i64_tdiv a b d.1 d.2 (by omega);rw [g];refine b9 (λ c=>?_) (λ c=>?_)
 ·push_cast
  simp at c;obtain ⟨f,e⟩:=j c;refine aqv (yo ?_) (yo ?_) (al3 ?_)
  ·rw [if_pos h,<- f,a6];unfold c9 at d; rw [f]; omega
  ·rw [if_pos h,<- e,a6];have m:=zag a h;have l:=zah a (show b≠0 by omega);rw [e];unfold c9 at i; omega
  simp [h]
 push_cast
 simp at c;obtain ⟨f,e⟩:=k c;refine aqv (yo ?_) (yo ?_) (al3 ?_)
 ·rw [if_pos h,f]
 ·rw [if_pos h,e]
 simp [h]

def ab5:Mk P0 f150:={ x:=_ }
def ra:PC:=
 (.seq (.reg [p_a 2 (.box (.t 0)),p_a 3 (.box (.t 1)),p_a 4 (.new [(.r (.v (.int .u64 0))),(.r (.v (.int .u64 0)))])])
 (.seq (.reg [p_s 10 (.fa 1 (.t 2)),p_s 11 (.ld none (.t 10)),p_s 12 (.fa 1 (.t 3)),p_s 13 (.ld none (.t 12)),p_s 14 (.carry false (.t 11) (.t 13) (.c (.r (.v (.int .u64 0))))),
 p_m 9 14,p_s 15 (.ext (.t 9) 0),p_s 16 (.ext (.t 9) 1),p_m 5 15,p_m 6 16])
 (.seq (.reg [p_s 18 (.fa 0 (.t 2)),p_s 19 (.ld none (.t 18)),p_s 20 (.fa 0 (.t 3)),p_s 21 (.ld none (.t 20)),p_m 22 6,p_s 23 (.carry false (.t 19) (.t 21) (.t 22)),p_m 17 23,
 p_s 24 (.ext (.t 17) 0),p_s 25 (.ext (.t 17) 1),p_m 7 24,p_m 8 25])
 (.seq (.reg [p_m 26 7,p_m 27 5,p_s 28 (.build [(.r (.v (.int .u64 0))),(.r (.v (.int .u64 0)))] [(0,1,(.t 26)),(1,1,(.t 27))]),⟨none,none,0,.act (.st 2 (.t 4) (.t 28))⟩])
 .ret))))
theorem yx:Fun P0 104 2 [(4,false,some (169,(some 2)))] ra:=rr func104 rfl (by decide) (by kernel_rfl) (by decide) rfl (by kernel_rfl) (by kernel_rfl) (by decide)
def nt:Mk P0 f105:={ x:=_ }
def wh:Mk P0 f102:={ x:=_ }
def oq:Mk P0 f132:={ x:=_ }
def v8 (x:Int):AV:=.r (.agg [.v (.int .u64 (x/18446744073709551616%18446744073709551616)),.v (.int .u64 (x%18446744073709551616))])
theorem mr {a b:Int} (c:a=x/18446744073709551616%18446744073709551616) (d:b=x%18446744073709551616):AV.r (.agg [.v (.int .u64 a),.v (.int .u64 b)])=v8 x:=by rw [c,d]; rfl
theorem a4t (a:Int) (b:c9 a):a.fdiv (2^min (zaj 63) IntKind.i64.bits)=if a<0 then -1 else 0:=by
 have:(2:Int)^min (zaj 63) IntKind.i64.bits=9223372036854775808:=by decide
 rw [this,zda _ (by decide)];unfold c9 at b;split<;>omega
theorem w_t (a:Int) (b:c9 a):a9 P0 150 [int .i64 a] [] (v8 a) []:=by
 refine ab5.t func150 ?_;simp only [ab5,push_cast,↓reduceIte,reduceCtorEq,zB,zE,zA,zS,zL,zD,zM];refine ⟨by decide,mr ?_ ?_⟩
 ·rw [a4t a b,IntKind.wrap_u64];unfold c9 at b;split<;>omega
 rw [IntKind.wrap_u64]
theorem axz (c:0<=x) (d:x<18446744073709551616):IntKind.u64.wrap ((zab IntKind.u64.bits (if IntKind.u64.signed=true then -1 else IntKind.u64.max) ^^^ zab IntKind.u64.bits x).toNat)=18446744073709551615-x:=by
 obtain ⟨n,rfl⟩:=Int.eq_ofNat_of_zero_le c;have b:zab IntKind.u64.bits (if IntKind.u64.signed=true then -1 else IntKind.u64.max)=BitVec.allOnes 64:=by rfl
 have a:zab IntKind.u64.bits (n:Int)=zcl 64 n:=by simp [IntKind.bits]
 rw [b,a];show IntKind.u64.wrap ((BitVec.allOnes 64 ^^^ zcl 64 n).toNat:Int) = _;rw [BitVec.allOnes_xor,BitVec.toNat_not,zdb,IntKind.wrap_u64];omega
theorem ai6 (a b:Int):a9 P0 104 [v8 a,v8 b] [] (v8 (a+b)) []:=by
 refine yx rfl (by decide) ?_
 push_cast [ra,v8,zaa]
 refine ⟨by omega,by omega,mr (by omega) (by omega)⟩
theorem akb (a:Int) (h:-170141183460469231731687303715884105728<=a/\a<170141183460469231731687303715884105728):a9 P0 132 [v8 a] [] (sm a) []:=by
 refine oq.t func132 ?_
 push_cast [oq,v8,zaa]
 rw [IntKind.wrap_i64];refine g9 (w_t _ (by unfold c9; omega)) rfl trivial ?_
 push_cast [v8]
 refine ⟨by kernel_rfl,?_⟩;refine b9 (λ h=>?_) (λ h=>?_)
 ·push_cast
  refine ado ?_;unfold c9;simp at h;omega
 push_cast
 simp at h;refine oa ?_ ?_
 ·omega
 unfold c9; omega
theorem ahu (a:Int):a9 P0 105 [v8 a] [] (v8 (-a)) []:=by
 refine nt.t func105 ?_
 push_cast [nt,v8,zaa]
 rw [axz (by omega) (by omega),axz (by omega) (by omega)];refine b7 (as':=[v8 (-1-a),v8 1]) ?_ ?_
 ·congr 1;exact mr (by omega) (by omega)
 refine a7 (ai6 (-1-a) 1) rfl trivial ?_
 push_cast [v8]
 exact mr (by omega) (by omega)
theorem al5 (a:Int) (b:c9 a):(a<0->IntKind.u64.wrap (0-IntKind.u64.wrap a)=a.natAbs)/\(¬a<0->IntKind.u64.wrap a=a.natAbs):=by
 unfold c9 at b;rw [IntKind.wrap_u64,IntKind.wrap_u64];omega
theorem acq (a b:Int) (n:c9 a) (o:c9 b):a9 P0 102 [int .i64 a,int .i64 b] [] (v8 (a*b)) []:=by
 refine wh.t func102 ?_;have k:=n;have l:=o;unfold c9 at k l;obtain ⟨e,i⟩:=al5 a n;obtain ⟨f,j⟩:=al5 b o;have g:a.natAbs*b.natAbs=(a*b).natAbs:=(zcs a b).symm;have p:(a*b).natAbs<=9223372036854775808*9223372036854775808:=by rw [<- g]; exact zcm (by omega) (by omega)
 have q:(a<0/\b<0->0<a*b)/\(a<0/\0<=b->a*b<=0)/\(0<=a/\b<0->a*b<=0)/\(0<=a/\0<=b->0<=a*b):=
  ⟨λ h=>Int.mul_pos_of_neg_of_neg h.1 h.2,λ h=>Int.mul_nonpos_of_nonpos_of_nonneg (by omega) h.2,λ h=>Int.mul_nonpos_of_nonneg_of_nonpos h.1 (by omega),λ h=>Int.mul_nonneg h.1 h.2⟩
 push_cast [wh,zaa]
 refine b9 (λ c=>?_) (λ c=>?_)<;>push_cast<;>refine b9 (λ d=>?_) (λ d=>?_)<;>push_cast
 all_goals
  simp only [decide_eq_true_eq,decide_eq_false_iff_not] at c d;refine b7 (as':=[int .u64 a.natAbs,int .u64 b.natAbs]) (by first | rw [e c,f d] | rw [e c,j d] | rw [i c,f d] | rw [i c,j d]) ?_;refine a7 (akn a.natAbs b.natAbs (by omega) (by omega)) rfl trivial ?_;rw [g]
  push_cast [c,d,Bool.true_beq,Bool.false_beq]
  generalize a*b=m at *
 ·exact mr (by omega) (by omega)
 ·refine b7 (as':=[v8 (-m)]) (by congr 1; exact mr (by omega) (by omega)) ?_;refine a7 (ahu (-m)) rfl trivial ?_
  push_cast [v8]
  exact mr (by omega) (by omega)
 ·refine b7 (as':=[v8 (-m)]) (by congr 1; exact mr (by omega) (by omega)) ?_;refine a7 (ahu (-m)) rfl trivial ?_
  push_cast [v8]
  exact mr (by omega) (by omega)
 exact mr (by omega) (by omega)

def afi:Mk P0 f138:={ x:=_ }
def aja:Mk P0 f114:={ x:=_ }
def zx:Mk P0 f109:={ x:=_ }
theorem avd (x a:Int) (y:Bool) (hx:c9 x) (b:c9 a):a9 P0 138 [.ptr 1000000 0 0,.ptr 1000001 0 0,.ptr 1000002 0 0] [.box [int .i64 x],.box [int .i64 a],.box [bl y]] (.tup [])
 [.box [int .i64 (if c9 (x*a) then x*a else 0)],.box [int .i64 a],.box [bl (decide (c9 (x*a)))]]:=by
 refine afi.t func138 ?_
 push_cast [afi,zaa]
 refine a7 (a47 x a hx b) rfl trivial ?_
 push_cast [sm]
theorem atm {a:Int} (c:-1<=a) (f:a<=1) (n:Nat):a^(min n (2-n%2))=a^n:=by
 have b:∀m:Nat,1<=m->a^(m+2)=a^m:=λ m d=>by
  have:a=-1\/a=0\/a=1:=by omega
  rcases this with rfl | rfl | rfl
  ·rw [zco,zco]; omega
  ·rw [Int.zero_pow (by omega),Int.zero_pow (by omega)]
  rw [Int.one_pow,Int.one_pow]
 induction n using Nat.strongRecOn with
 | ind n ih=>
   rcases (show n=0\/n=1\/n=2\/3<=n by omega) with h | h | h | h
   ·subst h; rfl
   ·subst h; rfl
   ·subst h; rfl
   have:=ih (n-2) (by omega);have e:=b (n-2) (by omega);rw [show n-2+2=n by omega] at e;rw [e,<- this];congr 1;omega
theorem apl {a T:Int} {n:Nat} (b:-1<=a/\a<=1->-1<=x/\x<=1) (hx:c9 x) (l:c9 a) (h:¬c9 (x*a)) (c:x*a*a^n=T):¬c9 T:=by
 have d:¬(-1<=a/\a<=1):=λ i=>by
  have:=b i;have d:a=-1\/a=0\/a=1:=by omega
  apply h;unfold c9;rcases d with rfl | rfl | rfl<;>omega
 have g:2<=a.natAbs:=by omega
 have e:9223372036854775808<=(x*a).natAbs:=by unfold c9 at h; omega
 have k:T.natAbs=(x*a).natAbs*a.natAbs^n:=by rw [<- c,zcs,Int.natAbs_pow]
 cases n with
 | zero=>
   simp at c;rw [<- c]; exact h
 | succ n=>
   have f:2<=a.natAbs^(n+1):=Nat.le_trans g (Nat.le_self_pow (by omega) _);have j:9223372036854775808*2<=(x*a).natAbs*a.natAbs^(n+1):=zcm e f;rw [<- k] at j;unfold c9;omega
theorem a4z (a k:Int) (E:c9 a) (O:c9 k):a9 P0 114 [int .i64 a,int .i64 k] [] (if k<0 then .tup [int .i64 0,bl false] else sm (a^k.toNat)) []:=by
 refine aja.t func114 ?_;simp only [aja,push_cast,↓reduceIte,reduceCtorEq,zB,zE,zA,zS,zL,zD,zM];refine b9 (λ l=>?_) (λ l=>?_)
 ·simp only [decide_eq_true_eq] at l;simp only [if_pos l,push_cast,↓reduceIte,reduceCtorEq,zB,zE,zA,zS,zL,zD,zM]
 simp only [decide_eq_false_iff_not] at l;simp only [if_neg l,push_cast,↓reduceIte,reduceCtorEq,zB,zE,zA,zS,zL,zD,zM];generalize H:a^k.toNat=T;refine xu (λ e ob=>∃b,e 1=int .i64 b/\e 2=.ptr 2 0 0/\0<=b/\c9 b/\a^b.toNat=T/\(a=-1\/a=0\/a=1->b<=2)/\ob=upd 2 (0,.box [int .i64 a]) (λ _=>none)) ?_ (λ z=>?_) (λ z=>?_)
 ·rintro e ob ⟨b,i,d,C,w,s,I,rfl⟩;simp only [i,d,push_cast,↓reduceIte,reduceCtorEq,zB,zE,zA,zS,zL,zD,zM]
  refine c7 [(1,false),(6,false),(2,false),(7,false),(8,false)] (λ vs pos o=>∃(j x:Int) (y:Bool),0<=j/\c9 j/\c9 x/\(y=true->x*a^j.toNat=T)/\(y=false->x=0/\¬c9 T)/\(-1<=a/\a<=1->-1<=x/\x<=1) /\
   vs=[int .i64 j,.ptr 2000000 0 0,.ptr 2000001 0 0,.ptr 2000002 0 0,.fn (.func 138) [.ptr 2000000 0 0,.ptr 2000001 0 0,.ptr 2000002 0 0]]/\pos=[]/\o=[.box [int .i64 x],.box [int .i64 a],.box [bl y]])
   (λ vs _ _=>match vs with | .r (.v (.int _ j))::_=>j.toNat | _=>0) rfl ?_ ?_
  ·simp only [i,d,push_cast,↓reduceIte,reduceCtorEq,zB,zE,zA,zS,zL,zD,zM];exact ⟨b,1,true,C,w,by decide,λ _=>by rw [Int.one_mul,s],by simp,λ _=>by decide,rfl,rfl⟩
  rintro vs pos o ⟨j,x,y,P,G,D,n,u,g,rfl,rfl,rfl⟩;simp only [push_cast,↓reduceIte,reduceCtorEq,zB,zE,zA,zS,zL,zD,zM];refine b9 (λ h=>?_) (λ h=>?_)
  ·have A:0<j:=by
    rcases zcn 0 j with f | f
    ·exact f
    simp [show ¬j>0 by omega] at h
   have hy:y=true:=by simpa [A] using h
   simp only [push_cast,↓reduceIte,reduceCtorEq,zB,zE,zA,zS,zL,zD,zM];refine ⟨by kernel_rfl,?_⟩;refine a7 (avd x a y D E) rfl ⟨rfl,rfl,rfl,trivial⟩ ?_;simp only [push_cast,↓reduceIte,reduceCtorEq,zB,zE,zA,zS,zL,zD,zM];have K:IntKind.i64.wrap (j-1)=j-1:=a6 (by unfold c9 at G; omega);rw [K];have B:j.toNat=(j-1).toNat+1:=by omega
   have m:x*a*a^(j-1).toNat=T:=by
    rw [<- n hy,B,zco,Int.mul_assoc,zcg a]
   refine ⟨⟨j-1,_,_,by omega,by unfold c9 at G |-; omega,?_,?_,?_,?_,rfl,rfl⟩,by omega⟩
   ·split
    ·assumption
    decide
   ·intro c;rw [if_pos (of_decide_eq_true c)];exact m
   ·intro c;have c:=of_decide_eq_false c;rw [if_neg c];refine ⟨rfl,?_⟩;exact apl g D E c m
   intro J;have:=g J;have F:a=-1\/a=0\/a=1:=by omega
   split
   ·rcases F with rfl | rfl | rfl<;>omega
   omega
  simp only [push_cast,↓reduceIte,reduceCtorEq,zB,zE,zA,zS,zL,zD,zM];refine ⟨by kernel_rfl,?_⟩;cases y with
  | true=>
    have A:j=0:=by
     rcases zcn 0 j with f | f
     ·simp [f] at h
     omega
    subst A;have:=n rfl;simp at this;subst this;exact oa rfl D
  | false=>
    obtain ⟨rfl,M⟩:=u rfl;exact ado M
 ·simp only [push_cast,↓reduceIte,reduceCtorEq,zB,zE,zA,zS,zL,zD,zM]
  have F:a=-1\/a=0\/a=1:=by
   by_cases p:a>=-1<;>by_cases q:a<=1<;>simp [p,q] at z<;>omega
  have L:k.tmod 2=k%2:=by
   rw [zcp (by omega)]
  have N:IntKind.i64.wrap (2-k.tmod 2)=2-k%2:=by rw [L]; exact a6 (by omega)
  rw [N];refine ⟨by decide,min k (2-k%2),rfl,by omega,by unfold c9 at *; omega,?_,by omega⟩;rw [show (min k (2-k%2)).toNat=min k.toNat (2-k.toNat%2) by omega,atm (by omega) (by omega),H]
 simp only [push_cast,↓reduceIte,reduceCtorEq,zB,zE,zA,zS,zL,zD,zM];refine ⟨k,rfl,by omega,O,H,λ h=>?_⟩;rcases h with rfl | rfl | rfl<;>simp at z

theorem av4 {a:Int} (h:-1<=a/\a<=1) (n:Nat):-1<=a^n/\a^n<=1:=by
 induction n with
 | zero=>simp
 | succ n ih=>
   rw [zco];have:a=-1\/a=0\/a=1:=by omega
   rcases this with rfl | rfl | rfl<;>omega
theorem agp (n:Nat):(-1:Int)^n=if n%2=1 then -1 else 1:=by
 induction n with
 | zero=>rfl
 | succ n ih=>
   rw [zco,ih];split<;>split<;>omega
theorem a2b (a k:Int) (o:c9 a) (y:c9 k):a9 P0 109 [int .i64 a,int .i64 k] [] (if k<0 then .tup [int .i64 0,bl false] else sm (a^k.toNat)) []:=by
 refine zx.t func109 ?_;simp only [zx,push_cast,↓reduceIte,reduceCtorEq,zB,zE,zA,zS,zL,zD,zM];refine b9 (λ e=>?_) (λ e=>?_)
 ·simp only [decide_eq_true_eq] at e;simp only [if_pos e,push_cast,↓reduceIte,reduceCtorEq,zB,zE,zA,zS,zL,zD,zM]
 simp only [decide_eq_false_iff_not] at e;simp only [if_neg e,push_cast,↓reduceIte,reduceCtorEq,zB,zE,zA,zS,zL,zD,zM]
 refine c7 [(0,false),(1,false),(6,false),(7,false)] (λ vs pos g=>∃(n i:Int),0<=i/\i<=k/\c9 n/\n=a^i.toNat/\vs=[int .i64 a,int .i64 k,int .i64 n,int .i64 i]/\pos=[]/\g=[])
  (λ vs _ _=>match vs with | [_,_,_,.r (.v (.int _ j))]=>(k-j).toNat | _=>0) rfl ?_ ?_
 ·simp only [push_cast,↓reduceIte,reduceCtorEq,zB,zE,zA,zS,zL,zD,zM];exact ⟨1,0,by omega,by omega,by decide,by simp,rfl⟩
 rintro vs pos g ⟨n,i,A,z,m,b,rfl,rfl,rfl⟩;simp only [push_cast,↓reduceIte,reduceCtorEq,zB,zE,zA,zS,zL,zD,zM];unfold c9 at y;refine b9 (λ h=>?_) (λ h=>?_)
 ·simp only [decide_eq_true_eq] at h;simp only [push_cast,↓reduceIte,reduceCtorEq,zB,zE,zA,zS,zL,zD,zM]
  repeat refine And.intro (by simp +contextual) ?_
  have s:n*a*a^(k-i-1).toNat=a^k.toNat:=by
   rw [b,Int.mul_assoc,<- Int.pow_succ',<- Int.pow_add];congr 1;omega
  refine b9 (λ u=>?_) (λ u=>?_)
  ·simp only [push_cast,↓reduceIte,reduceCtorEq,zB,zE,zA,zS,zL,zD,zM]
   have c:n=0\/a=1:=by
    by_cases p:n=0<;>by_cases q:n=1<;>by_cases r:a=1<;>simp [p,q,r] at u |-
   refine oa ?_ ?_
   ·rcases c with c | c
    ·rw [<- s,c]; simp
    rw [b,c,Int.one_pow,Int.one_pow]
   rcases c with c | c
   ·rw [<- s,c]; simp; decide
   rw [c,Int.one_pow]; decide
  simp only [push_cast,↓reduceIte,reduceCtorEq,zB,zE,zA,zS,zL,zD,zM];refine b9 (λ l=>?_) (λ l=>?_)
  ·simp only [push_cast,↓reduceIte,reduceCtorEq,zB,zE,zA,zS,zL,zD,zM];have l:a=-1:=by simpa using l
   subst l;have x:k.tmod 2=k%2:=zcp (by omega);refine ⟨by decide,?_⟩;rw [x];refine b9 (λ f=>?_) (λ f=>?_)
   ·simp only [push_cast,↓reduceIte,reduceCtorEq,zB,zE,zA,zS,zL,zD,zM];have f:k%2=1:=by simpa using f
    exact oa (by rw [agp,if_pos (by omega)]) (by rw [agp,if_pos (by omega)]; decide)
   simp only [push_cast,↓reduceIte,reduceCtorEq,zB,zE,zA,zS,zL,zD,zM];have f:¬k%2=1:=by simpa using f
   exact oa (by rw [agp,if_neg (by omega)]) (by rw [agp,if_neg (by omega)]; decide)
  simp only [push_cast,↓reduceIte,reduceCtorEq,zB,zE,zA,zS,zL,zD,zM];refine a7 (acq n a m o) rfl trivial ?_;simp only [v8,push_cast,↓reduceIte,reduceCtorEq,zB,zE,zA,zS,zL,zD,zM]
  have B:(n*a).natAbs<=9223372036854775808*9223372036854775808:=by
   rw [zcs];unfold c9 at m o;exact zcm (by omega) (by omega)
  refine b7 (as':=[v8 (n*a)]) rfl ?_;refine a7 (akb (n*a) (by omega)) rfl trivial ?_;simp only [sm,push_cast,↓reduceIte,reduceCtorEq,zB,zE,zA,zS,zL,zD,zM];refine b9 (λ d=>?_) (λ d=>?_)
  ·simp only [push_cast,↓reduceIte,reduceCtorEq,zB,zE,zA,zS,zL,zD,zM];have d:¬c9 (n*a):=by simpa using d
   refine ado ?_;exact apl (λ w=>by rw [b]; exact av4 w _) m o d s
  simp only [push_cast,↓reduceIte,reduceCtorEq,zB,zE,zA,zS,zL,zD,zM];have d:c9 (n*a):=by simpa using d
  rw [if_pos d,show IntKind.i64.wrap (i+1)=i+1 from a6 (by omega)];refine ⟨⟨n*a,i+1,by omega,by omega,d,?_,rfl⟩,by omega⟩;rw [show (i+1).toNat=i.toNat+1 by omega,zco,<- b]
 simp only [decide_eq_false_iff_not] at h;simp only [push_cast,↓reduceIte,reduceCtorEq,zB,zE,zA,zS,zL,zD,zM];have:i=k:=by omega
 subst this;exact oa b (by rw [<- b]; exact m)

def ahr:Mk P0 f52:={ x:=_ }
def aez:PC:=
 (.seq (.reg [p_s 2 (.mov (o_i 0))])
 (.seq (.seq (.reg [p_m 3 0,p_s 4 (.bin .geq (.t 3) (.c (.r (.v (.int .u64 4294967296)))))])
 (.cond (.t 4)
 (.seq (.reg [p_m 5 0,p_s 6 (.bin .shr (.t 5) (.c (.r (.v (.int .u64 32))))),p_m 0 6])
 (.reg [p_s 2 (.mov (o_i 32))]))
 .skip))
 (.seq (.seq (.reg [p_m 7 0,p_s 8 (.bin .geq (.t 7) (.c (.r (.v (.int .u64 65536)))))])
 (.cond (.t 8)
 (.seq (.reg [p_m 9 0,p_s 10 (.bin .shr (.t 9) (.c (.r (.v (.int .u64 16))))),p_m 0 10])
 (.reg [p_m 11 2,p_s 12 (.bin .add (.t 11) (o_i 16)),p_m 2 12]))
 .skip))
 (.seq (.seq (.reg [p_m 13 0,p_s 14 (.bin .geq (.t 13) (.c (.r (.v (.int .u64 256)))))])
 (.cond (.t 14)
 (.seq (.reg [p_m 15 0,p_s 16 (.bin .shr (.t 15) (.c (.r (.v (.int .u64 8))))),p_m 0 16])
 (.reg [p_m 17 2,p_s 18 (.bin .add (.t 17) (o_i 8)),p_m 2 18]))
 .skip))
 (.seq (.reg [p_m 19 2,p_m 20 0,p_s 21 (.conv .u8 (.t 20)),p_s 22 (.ixs (.c (.r (.v (.string ⟨#[0,1,2,2,3,3,3,3,4,4,4,4,4,4,4,4,5,5,5,5,5,5,5,5,5,5,5,5,5,5,5,5,6,6,6,6,6,6,6,6,6,6,6,6,6,6,6,6,6,6,6,6,6,6,6,6,6,6,6,6,6,6,6,6,7,7,7,7,7,7,7,7,7,7,7,7,7,7,7,7,7,7,7,7,7,7,7,7,7,7,7,7,7,7,7,7,7,7,7,7,7,7,7,7,7,7,7,7,7,7,7,7,7,7,7,7,7,7,7,7,7,7,7,7,7,7,7,7,8,8,8,8,8,8,8,8,8,8,8,8,8,8,8,8,8,8,8,8,8,8,8,8,8,8,8,8,8,8,8,8,8,8,8,8,8,8,8,8,8,8,8,8,8,8,8,8,8,8,8,8,8,8,8,8,8,8,8,8,8,8,8,8,8,8,8,8,8,8,8,8,8,8,8,8,8,8,8,8,8,8,8,8,8,8,8,8,8,8,8,8,8,8,8,8,8,8,8,8,8,8,8,8,8,8,8,8,8,8,8,8,8,8,8,8,8,8,8,8,8,8,8,8,8,8,8,8]⟩)))) (.t 21)),
 p_s 23 (.conv .i64 (.t 22)),p_s 24 (.bin .add (.t 19) (.t 23)),p_m 2 24])
 .ret)))))
theorem ag8:Fun P0 91 1 [(2,false,none)] aez:=rr func91 rfl (by decide) (by kernel_rfl) (by decide) rfl (by kernel_rfl) (by kernel_rfl) (by decide)

structure Ei where
 a:Int
 b:Int
deriving DecidableEq
def Ei.rv (z:Ei):RV:=.agg [.v (.int .i64 z.a),.v (.int .i64 z.b)]
def Ei.v (z:Ei):AV:=.r z.rv
def Ei.mul (x y:Ei):Ei:=⟨x.a*y.a-x.b*y.b,x.a*y.b+x.b*y.a+x.b*y.b⟩
def Ei.add (x y:Ei):Ei:=⟨x.a+y.a,x.b+y.b⟩
def Ei.sub (x y:Ei):Ei:=⟨x.a-y.a,x.b-y.b⟩
def Ei.conj (x:Ei):Ei:=⟨x.a+x.b,-x.b⟩
def Ei.In (z:Ei) (n:Int):Prop:=(-n<=z.a/\z.a<=n)/\(-n<=z.b/\z.b<=n)
def Ei.H (z:Ei) (n:Int):Prop:=(-n<=z.a/\z.a<=n)/\(-n<=z.b/\z.b<=n)/\(-n<=z.a+z.b/\z.a+z.b<=n)
theorem Ei.ext' {x y:Ei} (c:x.a=y.a) (d:x.b=y.b):x=y:=by cases x; cases y; simp_all
variable {n m:Int} {z:Ei}
theorem Ei.In.mono (h:z.In n) (a:n<=m):z.In m:=by unfold Ei.In at *; omega
theorem Ei.H.mono (h:z.H n) (a:n<=m):z.H m:=by unfold Ei.H at *; omega
theorem Ei.H.in (h:z.H n):z.In n:=by unfold Ei.H Ei.In at *; omega
def y7:Ei:=⟨2,1⟩
theorem yj (a:-n<=x/\x<=n) (c:-m<=y/\y<=m):-(n*m)<=x*y/\x*y<=n*m:=by
 have h:(x*y).natAbs<=n.toNat*m.toNat:=by rw [zcs]; exact zcm (by omega) (by omega)
 have b:((n.toNat*m.toNat:Nat):Int)=n*m:=by
  rw [Int.natCast_mul,Int.toNat_of_nonneg (by omega),Int.toNat_of_nonneg (by omega)]
 omega
def l5 (d s t:Int):Prop:=(-d<=2*s+t/\2*s+t<=d)/\(-d<=s+2*t/\s+2*t<=d)/\(-d<=s-t/\s-t<=d)
instance (d s t:Int):Decidable (l5 d s t):=inferInstanceAs (Decidable (_/\_/\_))
def fb (d s t:Int):Ei:=if l5 d s t then ⟨0,0⟩ else if l5 d s (t-d) then ⟨0,1⟩ else if l5 d (s-d) t then ⟨1,0⟩ else ⟨1,1⟩
def Ei.round (u:Ei) (d:Int):Ei:=⟨u.a/d+(fb d (u.a%d) (u.b%d)).a,u.b/d+(fb d (u.a%d) (u.b%d)).b⟩
variable {d s t:Int}
theorem ajf (e:0<=s/\s<d) (c:0<=t/\t<d) :
 l5 d (s-(fb d s t).a*d) (t-(fb d s t).b*d)/\(0<=(fb d s t).a/\(fb d s t).a<=1)/\(0<=(fb d s t).b/\(fb d s t).b<=1):=by
 unfold fb;split
 ·next h=>unfold l5 at *; dsimp only; omega
 split
 ·next h=>unfold l5 at *; dsimp only; omega
 split
 ·next h=>unfold l5 at *; dsimp only; omega
 next h=>unfold l5 at *; dsimp only; omega
theorem aou {i k:Int} (q:0<=s/\s<d) (o:0<=t/\t<d) (p:-1<=i/\i<=2) (u:-1<=k/\k<=2)
 (h:l5 d (s-i*d) (t-k*d)) (b:∀a,-1<=a->a<k->¬l5 d (s-i*d) (t-a*d))
 (e:∀f a,-1<=f->f<i->-1<=a->a<=2->¬l5 d (s-f*d) (t-a*d)):fb d s t=⟨i,k⟩:=by
 have n:i=-1\/i=0\/i=1\/i=2:=by omega
 have g:k=-1\/k=0\/k=1\/k=2:=by omega
 have r:(-1:Int)*d=-d:=by omega
 have l:(0<i\/(i=0/\0<k))->¬l5 d s t:=λ c=>by
  rcases c with c | ⟨c,c'⟩
  ·have:=e 0 0 (by omega) c (by omega) (by omega); simpa using this
  have:=b 0 (by omega) c'; rw [c] at this; simpa using this
 have m:(0<i\/(i=0/\1<k))->¬l5 d s (t-d):=λ c=>by
  rcases c with c | ⟨c,c'⟩
  ·have:=e 0 1 (by omega) c (by omega) (by omega); simpa using this
  have:=b 1 (by omega) c'; rw [c] at this; simpa using this
 have j:(1<i\/(i=1/\0<k))->¬l5 d (s-d) t:=λ c=>by
  rcases c with c | ⟨c,c'⟩
  ·have:=e 1 0 (by omega) c (by omega) (by omega); simpa using this
  have:=b 0 (by omega) c'; rw [c] at this; simpa using this
 clear b e
 rcases n with rfl | rfl | rfl | rfl<;>rcases g with rfl | rfl | rfl | rfl <;>
  first
  | (exfalso; unfold l5 at h; omega)
  | (simp only [Int.zero_mul,Int.one_mul,Int.sub_zero] at h
     simp [fb,h]; done)
  | (simp only [Int.zero_mul,Int.one_mul,Int.sub_zero] at h
     simp [fb,h,l,m,j])
theorem awe (e:0<=s/\s<d) (c:0<=t/\t<d)
 (f:∀a b,-1<=a->a<3->-1<=b->b<=2->¬l5 d (s-a*d) (t-b*d)):False:=by
 obtain ⟨h,g,i⟩:=ajf e c;exact f _ _ (by omega) (by omega) (by omega) (by omega) h
def fr (d a b:Int) (z:Ei):Int:=d*(z.a*z.a+z.a*z.b+z.b*z.b)-z.a*(2*a+b)-z.b*(a+2*b)
def pk (d a b:Int) (p:Int×Ei) (z:Ei):Int×Ei:=if fr d a b z<p.1 then (fr d a b z,z) else p
def yd:List Ei:=[⟨0,1⟩,⟨1,0⟩,⟨1,1⟩]
theorem aot {a b:Int} (i:0<=a/\a<d) (j:0<=b/\b<d):(yd.foldl (pk d a b) (0,⟨0,0⟩)).2=fb d a b:=by
 simp only [yd,List.foldl_cons,List.foldl_nil];have g:fr d a b ⟨0,1⟩=d-(a+2*b):=by simp [fr]
 have f:fr d a b ⟨1,0⟩=d-(2*a+b):=by simp [fr]
 have h:fr d a b ⟨1,1⟩=d*3-(2*a+b)-(a+2*b):=by simp [fr]
 unfold fb;by_cases e:d-(a+2*b)<0
 ·by_cases c2:d-(2*a+b)<d-(a+2*b)
  ·by_cases c:d*3-(2*a+b)-(a+2*b)<d-(2*a+b)
   ·simp only [pk,g,f,h,e,c2,c,if_true];rw [if_neg (by unfold l5; omega),if_neg (by unfold l5; omega),if_neg (by unfold l5; omega)]
   simp only [pk,g,f,h,e,c2,c,if_true,if_false];rw [if_neg (by unfold l5; omega),if_neg (by unfold l5; omega),if_pos (by unfold l5; omega)]
  by_cases c:d*3-(2*a+b)-(a+2*b)<d-(a+2*b)
  ·simp only [pk,g,f,h,e,c2,c,if_true,if_false];rw [if_neg (by unfold l5; omega),if_neg (by unfold l5; omega),if_neg (by unfold l5; omega)]
  simp only [pk,g,f,h,e,c2,c,if_true,if_false];rw [if_neg (by unfold l5; omega),if_pos (by unfold l5; omega)]
 by_cases c2:d-(2*a+b)<0
 ·by_cases c:d*3-(2*a+b)-(a+2*b)<d-(2*a+b)
  ·simp only [pk,g,f,h,e,c2,c,if_true,if_false];rw [if_neg (by unfold l5; omega),if_neg (by unfold l5; omega),if_neg (by unfold l5; omega)]
  simp only [pk,g,f,h,e,c2,c,if_true,if_false];rw [if_neg (by unfold l5; omega),if_neg (by unfold l5; omega),if_pos (by unfold l5; omega)]
 by_cases c:d*3-(2*a+b)-(a+2*b)<0
 ·exfalso; omega
 simp only [pk,g,f,h,e,c2,c,if_true,if_false];rw [if_pos (by unfold l5; omega)]
theorem m9 (u:Ei) (c:0<d):l5 d (u.a-(u.round d).a*d) (u.b-(u.round d).b*d):=by
 have l:=zcw u.a d;have m:=zcw u.b d;have k:=zag u.a c;have f:=zah u.a (show d≠0 by omega);have g:=zag u.b c;have e:=zah u.b (show d≠0 by omega);obtain ⟨h,_⟩:=ajf (d:=d) (s:=u.a%d) (t:=u.b%d) ⟨f,k⟩ ⟨e,g⟩
 have j:u.a-(u.round d).a*d=u.a%d-(fb d (u.a%d) (u.b%d)).a*d:=by
  simp only [Ei.round,Int.add_mul];rw [zcg (u.a/d) d];omega
 have i:u.b-(u.round d).b*d=u.b%d-(fb d (u.a%d) (u.b%d)).b*d:=by
  simp only [Ei.round,Int.add_mul];rw [zcg (u.b/d) d];omega
 rw [j,i]; exact h
def pr (z:Ei):Ei:=(z.mul ⟨3,-1⟩).round 7
def lft (z:Ei):Ei:=z.sub ((pr z).mul y7)
def af7 (l:Ei):Nat:=if l=⟨1,0⟩ then 1 else if l=⟨0,1⟩ then 2 else if l=⟨-1,1⟩ then 3 else if l=⟨-1,0⟩ then 4 else if l=⟨0,-1⟩ then 5 else if l=⟨1,-1⟩ then 6 else 0
def dg (z:Ei):Nat:=af7 (lft z)
def uni (d:Nat):Ei:=match d with | 0=>⟨1,0⟩ | 1=>⟨0,1⟩ | 2=>⟨-1,1⟩ | 3=>⟨-1,0⟩ | 4=>⟨0,-1⟩ | _=>⟨1,-1⟩
def sg (z:Ei) (d:Nat):Ei:=if d=0 then z.mul y7 else (z.mul y7).add (uni (d-1))
theorem aed (z:Ei):dg z<7:=by
 unfold dg af7; repeat' split
 all_goals omega
theorem acw (z:Ei):∃l:Ei,lft z=l/\l.H 1/\z.a=2*(pr z).a-(pr z).b+l.a/\z.b=(pr z).a+3*(pr z).b+l.b:=by
 have h:=m9 (z.mul ⟨3,-1⟩) (d:=7) (by decide);refine ⟨lft z,rfl,?_,?_,?_⟩
 ·unfold l5 at h;unfold Ei.H lft Ei.sub pr;simp only [Ei.mul,y7] at *;generalize Ei.round _ 7=q at *;simp only [Int.mul_one,Int.mul_neg] at *;omega
 ·simp only [lft,Ei.sub,Ei.mul,y7]; omega
 simp only [lft,Ei.sub,Ei.mul,y7]; omega
def anc:Nat->Ei->Ei
 | 0,z=>z
 | k+1,z=>anc k (pr z)
theorem aiq (k:Nat) (z:Ei):anc (k+1) z=pr (anc k z):=by
 induction k generalizing z with
 | zero=>rfl
 | succ k ih=>rw [anc,ih]; rfl
def val:Nat->Ei->Nat
 | 0,_=>0
 | r+1,z=>val r (pr z)*8+dg z
theorem ash (r:Nat) (z:Ei):val r z<8^r:=by
 induction r generalizing z with
 | zero=>simp [val]
 | succ r ih=>
   have:=ih (pr z);have:=aed z;rw [val,zch];omega
theorem ayg (r i:Nat) (z:Ei) (h:i<=r):val r z/8^i=val (r-i) (anc i z):=by
 induction i generalizing r z with
 | zero=>simp [anc]
 | succ i ih=>
   obtain ⟨r,rfl⟩:∃m,r=m+1:=⟨r-1,by omega⟩
   rw [show r+1-(i+1)=r-i by omega,anc,<- ih r (pr z) (by omega),zch,zas,<- zcx,val];have:=aed z;congr 1;omega
def okc (r:Nat) (z:Ei):Prop:=r<=12/\z.In 1073741824/\(-512<=(anc r z).a/\(anc r z).a<=511)/\(-512<=(anc r z).b/\(anc r z).b<=511)
instance (r:Nat) (z:Ei):Decidable (okc r z):=by unfold okc Ei.In; infer_instance
def ln (r:Nat) (q:Ei):Nat:=((16+r)*1024+(q.a+512).toNat)*1024+(q.b+512).toNat
def gv (r:Nat) (z:Ei):Nat:=(ln r (anc r z)*8^r+val r z)*8^(12-r)+(8^(12-r)-1)
def dgt (w i:Nat):Nat:=w/8^(12-i)%8
def o6 (w:Nat):Nat:=w/72057594037927936%16
def ax8 (w:Nat):Ei:=⟨((w/70368744177664%1024:Nat):Int)-512,((w/68719476736%1024:Nat):Int)-512⟩
def x9 (w:Nat):Nat->Ei
 | 0=>ax8 w
 | i+1=>sg (x9 w i) (dgt w (i+1))
def isW (w:Nat):Prop:=w/1152921504606846976=1/\o6 w<=12/\∀i,1<=i->i<=12->(dgt w i=7↔o6 w<i)
theorem ahs (r:Nat) (z:Ei) (f:r<=12):gv r z/68719476736=ln r (anc r z):=by
 have d:=ash r z;have e:(68719476736:Nat)=8^r*8^(12-r):=by rw [<- zac,show r+(12-r)=12 by omega]
 have b:0<8^(12-r):=zci (by decide);have c:0<8^r:=zci (by decide);rw [e,zas (8^r),<- zcx,gv]
 have a:((ln r (anc r z)*8^r+val r z)*8^(12-r)+(8^(12-r)-1))/8^(12-r)=ln r (anc r z)*8^r+val r z:=by
  rw [Nat.add_comm,zct _ _ b,zcy (by omega)]; omega
 rw [a,Nat.add_comm,zct _ _ c,zcy d]; omega
theorem ama (r i:Nat) (z:Ei) (f:r<=12) (d:1<=i) (g:i<=r):dgt (gv r z) i=dg (anc (r-i) z):=by
 have a:0<8^(12-r):=zci (by decide);have e:8^(12-i)=8^(12-r)*8^(r-i):=by rw [<- zac,show 12-r+(r-i)=12-i by omega]
 unfold dgt gv;rw [e,<- zcx]
 have c:((ln r (anc r z)*8^r+val r z)*8^(12-r)+(8^(12-r)-1))/8^(12-r)=ln r (anc r z)*8^r+val r z:=by
  rw [Nat.add_comm,zct _ _ a,zcy (by omega)]; omega
 rw [c]
 have b:ln r (anc r z)*8^r=ln r (anc r z)*8^(i-1)*8*8^(r-i):=by
  rw [zae (ln r (anc r z)),<- zch,zae,<- zac,show i-1+1+(r-i)=r by omega]
 rw [b,Nat.add_comm,zct _ _ (zci (by decide)),ayg r (r-i) z (by omega),show r-(r-i)=(i-1)+1 by omega,val];have:=aed (anc (r-i) z);generalize ln r (anc r z)*8^(i-1)=m;omega
theorem ait (r i:Nat) (z:Ei) (d:r<i) (h:i<=12):dgt (gv r z) i=7:=by
 unfold dgt gv;have e:8^(12-r)=8^(i-r-1)*8*8^(12-i):=by rw [<- zch,<- zac,show i-r-1+1+(12-i)=12-r by omega]
 have c:0<8^(12-i):=zci (by decide);have a:0<8^(i-r-1):=zci (by decide);rw [e];generalize ln r (anc r z)*8^r+val r z=m;generalize hx:8^(i-r-1)=x at *;generalize hy:8^(12-i)=y at *
 have b:m*(x*8*y)+(x*8*y-1)=(y-1)+(m*(x*8)+(x*8-1))*y:=by
  have:(x*8-1)*y=x*8*y-y:=by rw [Nat.sub_mul,Nat.one_mul]
  have g:y<=x*8*y:=Nat.le_mul_of_pos_left _ (by omega);rw [zat,this,<- zae];omega
 rw [b,zct _ _ c,zcy (by omega)];have f:m*(x*8)=m*x*8:=(zae _ _ _).symm;omega
theorem ajq (r:Nat) (q:Ei) (d:r<=12) (c:-512<=q.a/\q.a<=511) (e:-512<=q.b/\q.b<=511) :
 ln r q/16777216=1/\ln r q/1048576%16=r/\((ln r q/1024%1024:Nat):Int)-512=q.a/\((ln r q%1024:Nat):Int)-512=q.b:=by
 unfold ln;omega
theorem aj9 (r:Nat) (z:Ei) (h:okc r z):gv r z<18446744073709551616:=by
 have a:=ahs r z h.1;have b:=ajq r (anc r z) h.1 h.2.2.1 h.2.2.2;omega
theorem al9 (r:Nat) (z:Ei) (h:okc r z):isW (gv r z)/\o6 (gv r z)=r:=by
 have e:=ahs r z h.1;have f:=ajq r (anc r z) h.1 h.2.2.1 h.2.2.2;have b:o6 (gv r z)=r:=by unfold o6; omega
 refine ⟨⟨by omega,by rw [b]; exact h.1,λ i d c=>?_⟩,b⟩;rw [b];by_cases a:r<i
 ·simp [a,ait r i z a c]
 simp only [a,iff_false];rw [ama r i z h.1 d (by omega)];have:=aed (anc (r-i) z);omega

def i8:Nat->Ei
 | 0=>⟨1,0⟩
 | k+1=>(i8 k).mul y7
theorem mh (k:Nat) (h:k<=12):(i8 k).In 120000:=by
 have:∀j:Fin 13,(i8 j.val).In 120000:=by unfold Ei.In; decide
 exact this ⟨k,by omega⟩
def ax (x y:Int):Ei:=⟨45*x-26*y,52*y⟩
def l8 (x y:Int) (r:Nat):Ei:=((ax x y).mul (i8 (12-r)).conj).round (2340*7^(12-r))
theorem zi (h:z.H n) (b:3*n+4<7*(m+1)):(pr z).H m:=by
 have a:=m9 (z.mul ⟨3,-1⟩) (d:=7) (by decide);unfold l5 at a;unfold Ei.H pr at *;simp only [Ei.mul] at *;generalize Ei.round _ 7=q at *;simp only [Int.mul_one,Int.mul_neg] at *;omega
theorem cw (h:z.H n) (g:19*n+330<343*(m+1)):(anc 3 z).H m:=by
 obtain ⟨e,_,a,l,c⟩:=acw z;obtain ⟨d,_,p,i,k⟩:=acw (pr z);obtain ⟨b,_,f,r,s⟩:=acw (pr (pr z));show (pr (pr (pr z))).H m;generalize pr (pr (pr z))=q at *;generalize pr (pr z)=j at *;generalize pr z=o at *;unfold Ei.H at *;omega
theorem ap0 (x y:Int) (hx:0<=x/\x<1073741824) (hy:0<=y/\y<1073741824):(l8 x y 0).H 260:=by
 have h:=m9 ((ax x y).mul (i8 (12-0)).conj) (d:=2340*7^(12-0)) (by decide);have e:(i8 (12-0)).conj=⟨-128231,102960⟩:=by decide
 have a:(2340*7^(12-0):Int)=32388612050340:=by decide
 unfold l8;generalize Ei.round _ _=q at *;rw [e,a] at h;unfold l5 Ei.H at *;simp only [Ei.mul,ax] at *;omega
theorem apz (x y:Int) (hx:0<=x/\x<1073741824) (hy:0<=y/\y<1073741824):(l8 x y 1).H 734:=by
 have h:=m9 ((ax x y).mul (i8 (12-1)).conj) (d:=2340*7^(12-1)) (by decide);have e:(i8 (12-1)).conj=⟨-51346,25807⟩:=by decide
 have a:(2340*7^(12-1):Int)=4626944578620:=by decide
 unfold l8;generalize Ei.round _ _=q at *;rw [e,a] at h;unfold l5 Ei.H at *;simp only [Ei.mul,ax] at *;omega
theorem apy (x y:Int) (hx:0<=x/\x<1073741824) (hy:0<=y/\y<1073741824):(l8 x y 2).H 2004:=by
 have h:=m9 ((ax x y).mul (i8 (12-2)).conj) (d:=2340*7^(12-2)) (by decide);have e:(i8 (12-2)).conj=⟨-18357,3725⟩:=by decide
 have a:(2340*7^(12-2):Int)=660992082660:=by decide
 unfold l8;generalize Ei.round _ _=q at *;rw [e,a] at h;unfold l5 Ei.H at *;simp only [Ei.mul,ax] at *;omega
theorem apx (x y:Int) (hx:0<=x/\x<1073741824) (hy:0<=y/\y<1073741824):(l8 x y 3).H 4887:=by
 have h:=m9 ((ax x y).mul (i8 (12-3)).conj) (d:=2340*7^(12-3)) (by decide);have e:(i8 (12-3)).conj=⟨-5777,-1026⟩:=by decide
 have a:(2340*7^(12-3):Int)=94427440380:=by decide
 unfold l8;generalize Ei.round _ _=q at *;rw [e,a] at h;unfold l5 Ei.H at *;simp only [Ei.mul,ax] at *;omega
theorem apw (x y:Int) (hx:0<=x/\x<1073741824) (hy:0<=y/\y<1073741824):(l8 x y 4).H 13376:=by
 have h:=m9 ((ax x y).mul (i8 (12-4)).conj) (d:=2340*7^(12-4)) (by decide);have e:(i8 (12-4)).conj=⟨-1504,-1265⟩:=by decide
 have a:(2340*7^(12-4):Int)=13489634340:=by decide
 unfold l8;generalize Ei.round _ _=q at *;rw [e,a] at h;unfold l5 Ei.H at *;simp only [Ei.mul,ax] at *;omega
theorem apv (x y:Int) (hx:0<=x/\x<1073741824) (hy:0<=y/\y<1073741824):(l8 x y 5).H 37163:=by
 have h:=m9 ((ax x y).mul (i8 (12-5)).conj) (d:=2340*7^(12-5)) (by decide);have e:(i8 (12-5)).conj=⟨-249,-757⟩:=by decide
 have a:(2340*7^(12-5):Int)=1927090620:=by decide
 unfold l8;generalize Ei.round _ _=q at *;rw [e,a] at h;unfold l5 Ei.H at *;simp only [Ei.mul,ax] at *;omega
theorem apu (x y:Int) (hx:0<=x/\x<1073741824) (hy:0<=y/\y<1073741824):(l8 x y 6).H 92189:=by
 have h:=m9 ((ax x y).mul (i8 (12-6)).conj) (d:=2340*7^(12-6)) (by decide);have e:(i8 (12-6)).conj=⟨37,-360⟩:=by decide
 have a:(2340*7^(12-6):Int)=275298660:=by decide
 unfold l8;generalize Ei.round _ _=q at *;rw [e,a] at h;unfold l5 Ei.H at *;simp only [Ei.mul,ax] at *;omega
theorem apt (x y:Int) (hx:0<=x/\x<1073741824) (hy:0<=y/\y<1073741824):(l8 x y 7).H 243699:=by
 have h:=m9 ((ax x y).mul (i8 (12-7)).conj) (d:=2340*7^(12-7)) (by decide);have e:(i8 (12-7)).conj=⟨62,-149⟩:=by decide
 have a:(2340*7^(12-7):Int)=39328380:=by decide
 unfold l8;generalize Ei.round _ _=q at *;rw [e,a] at h;unfold l5 Ei.H at *;simp only [Ei.mul,ax] at *;omega
theorem aps (x y:Int) (hx:0<=x/\x<1073741824) (hy:0<=y/\y<1073741824):(l8 x y 8).H 688202:=by
 have h:=m9 ((ax x y).mul (i8 (12-8)).conj) (d:=2340*7^(12-8)) (by decide);have e:(i8 (12-8)).conj=⟨39,-55⟩:=by decide
 have a:(2340*7^(12-8):Int)=5618340:=by decide
 unfold l8;generalize Ei.round _ _=q at *;rw [e,a] at h;unfold l5 Ei.H at *;simp only [Ei.mul,ax] at *;omega
theorem apr (x y:Int) (hx:0<=x/\x<1073741824) (hy:0<=y/\y<1073741824):(l8 x y 9).H 1735123:=by
 have h:=m9 ((ax x y).mul (i8 (12-9)).conj) (d:=2340*7^(12-9)) (by decide);have e:(i8 (12-9)).conj=⟨19,-18⟩:=by decide
 have a:(2340*7^(12-9):Int)=802620:=by decide
 unfold l8;generalize Ei.round _ _=q at *;rw [e,a] at h;unfold l5 Ei.H at *;simp only [Ei.mul,ax] at *;omega
theorem ana (x y:Int) (hx:0<=x/\x<1073741824) (hy:0<=y/\y<1073741824):(l8 x y 10).H 4429444:=by
 have h:=m9 ((ax x y).mul (i8 (12-10)).conj) (d:=2340*7^(12-10)) (by decide);have e:(i8 (12-10)).conj=⟨8,-5⟩:=by decide
 have a:(2340*7^(12-10):Int)=114660:=by decide
 unfold l8;generalize Ei.round _ _=q at *;rw [e,a] at h;unfold l5 Ei.H at *;simp only [Ei.mul,ax] at *;omega
theorem am9 (x y:Int) (hx:0<=x/\x<1073741824) (hy:0<=y/\y<1073741824):(l8 x y 11).H 12717090:=by
 have h:=m9 ((ax x y).mul (i8 (12-11)).conj) (d:=2340*7^(12-11)) (by decide);have e:(i8 (12-11)).conj=⟨3,-1⟩:=by decide
 have a:(2340*7^(12-11):Int)=16380:=by decide
 unfold l8;generalize Ei.round _ _=q at *;rw [e,a] at h;unfold l5 Ei.H at *;simp only [Ei.mul,ax] at *;omega
theorem am8 (x y:Int) (hx:0<=x/\x<1073741824) (hy:0<=y/\y<1073741824):(l8 x y 12).H 32579347:=by
 have h:=m9 ((ax x y).mul (i8 (12-12)).conj) (d:=2340*7^(12-12)) (by decide);have e:(i8 (12-12)).conj=⟨1,0⟩:=by decide
 have a:(2340*7^(12-12):Int)=2340:=by decide
 unfold l8;generalize Ei.round _ _=q at *;rw [e,a] at h;unfold l5 Ei.H at *;simp only [Ei.mul,ax] at *;omega
theorem a4d (a:z.H 260):(anc 0 z).H 511:=by
 exact a.mono (by decide)
theorem ari (x y:Int) (hx:0<=x/\x<1073741824) (hy:0<=y/\y<1073741824):(anc 0 (l8 x y 0)).H 511:=a4d (ap0 x y hx hy)
theorem a4c (b:z.H 734):(anc 1 z).H 511:=by
 have a:=zi (m:=315) b (by decide);exact a.mono (by decide)
theorem arh (x y:Int) (hx:0<=x/\x<1073741824) (hy:0<=y/\y<1073741824):(anc 1 (l8 x y 1)).H 511:=a4c (apz x y hx hy)
theorem a4b (a:z.H 2004):(anc 2 z).H 511:=by
 have b:=zi (m:=859) a (by decide);have c:=zi (m:=368) b (by decide);exact c.mono (by decide)
theorem arg (x y:Int) (hx:0<=x/\x<1073741824) (hy:0<=y/\y<1073741824):(anc 2 (l8 x y 2)).H 511:=a4b (apy x y hx hy)
theorem a4a (b:z.H 4887):(anc 3 z).H 511:=by
 have a:=cw (m:=271) b (by decide);exact a.mono (by decide)
theorem arf (x y:Int) (hx:0<=x/\x<1073741824) (hy:0<=y/\y<1073741824):(anc 3 (l8 x y 3)).H 511:=a4a (apx x y hx hy)
theorem a39 (a:z.H 13376):(anc 4 z).H 511:=by
 have b:=zi (m:=5733) a (by decide);have c:=cw (m:=318) b (by decide);exact c.mono (by decide)
theorem are (x y:Int) (hx:0<=x/\x<1073741824) (hy:0<=y/\y<1073741824):(anc 4 (l8 x y 4)).H 511:=a39 (apw x y hx hy)
theorem a38 (a:z.H 37163):(anc 5 z).H 511:=by
 have b:=zi (m:=15927) a (by decide);have d:=zi (m:=6826) b (by decide);have c:=cw (m:=379) d (by decide);exact c.mono (by decide)
theorem ard (x y:Int) (hx:0<=x/\x<1073741824) (hy:0<=y/\y<1073741824):(anc 5 (l8 x y 5)).H 511:=a38 (apv x y hx hy)
theorem a37 (a:z.H 92189):(anc 6 z).H 511:=by
 have b:=cw (m:=5107) a (by decide);have c:=cw (m:=283) b (by decide);exact c.mono (by decide)
theorem arc (x y:Int) (hx:0<=x/\x<1073741824) (hy:0<=y/\y<1073741824):(anc 6 (l8 x y 6)).H 511:=a37 (apu x y hx hy)
theorem a36 (a:z.H 243699):(anc 7 z).H 511:=by
 have b:=zi (m:=104443) a (by decide);have d:=cw (m:=5786) b (by decide);have c:=cw (m:=321) d (by decide);exact c.mono (by decide)
theorem arb (x y:Int) (hx:0<=x/\x<1073741824) (hy:0<=y/\y<1073741824):(anc 7 (l8 x y 7)).H 511:=a36 (apt x y hx hy)
theorem a35 (d:z.H 688202):(anc 8 z).H 511:=by
 have a:=zi (m:=294944) d (by decide);have e:=zi (m:=126405) a (by decide);have c:=cw (m:=7002) e (by decide);have b:=cw (m:=388) c (by decide);exact b.mono (by decide)
theorem ara (x y:Int) (hx:0<=x/\x<1073741824) (hy:0<=y/\y<1073741824):(anc 8 (l8 x y 8)).H 511:=a35 (aps x y hx hy)
theorem a34 (a:z.H 1735123):(anc 9 z).H 511:=by
 have b:=cw (m:=96115) a (by decide);have d:=cw (m:=5325) b (by decide);have c:=cw (m:=295) d (by decide);exact c.mono (by decide)
theorem aq9 (x y:Int) (hx:0<=x/\x<1073741824) (hy:0<=y/\y<1073741824):(anc 9 (l8 x y 9)).H 511:=a34 (apr x y hx hy)
theorem a01 (d:z.H 4429444):(anc 10 z).H 511:=by
 have a:=zi (m:=1898333) d (by decide);have e:=cw (m:=105156) a (by decide);have c:=cw (m:=5825) e (by decide);have b:=cw (m:=323) c (by decide);exact b.mono (by decide)
theorem aos (x y:Int) (hx:0<=x/\x<1073741824) (hy:0<=y/\y<1073741824):(anc 10 (l8 x y 10)).H 511:=a01 (ana x y hx hy)
theorem a00 (e:z.H 12717090):(anc 11 z).H 511:=by
 have a:=zi (m:=5450182) e (by decide);have f:=zi (m:=2335792) a (by decide);have d:=cw (m:=129388) f (by decide);have b:=cw (m:=7168) d (by decide);have c:=cw (m:=398) b (by decide);exact c.mono (by decide)
theorem aor (x y:Int) (hx:0<=x/\x<1073741824) (hy:0<=y/\y<1073741824):(anc 11 (l8 x y 11)).H 511:=a00 (am9 x y hx hy)
theorem a0z (d:z.H 32579347):(anc 12 z).H 511:=by
 have a:=cw (m:=1804687) d (by decide);have e:=cw (m:=99969) a (by decide);have c:=cw (m:=5538) e (by decide);have b:=cw (m:=307) c (by decide);exact b.mono (by decide)
theorem aoq (x y:Int) (hx:0<=x/\x<1073741824) (hy:0<=y/\y<1073741824):(anc 12 (l8 x y 12)).H 511:=a0z (am8 x y hx hy)
theorem a21 (x y:Int) (r:Nat) (hx:0<=x/\x<1073741824) (hy:0<=y/\y<1073741824) (a:r<=12):(l8 x y r).H 32579347:=by
 rcases (show r=0\/r=1\/r=2\/r=3\/r=4\/r=5\/r=6\/r=7\/r=8\/r=9\/r=10\/r=11\/r=12 by omega) with rfl | rfl | rfl | rfl | rfl | rfl | rfl | rfl | rfl | rfl | rfl | rfl | rfl
 ·exact (ap0 x y hx hy).mono (by decide)
 ·exact (apz x y hx hy).mono (by decide)
 ·exact (apy x y hx hy).mono (by decide)
 ·exact (apx x y hx hy).mono (by decide)
 ·exact (apw x y hx hy).mono (by decide)
 ·exact (apv x y hx hy).mono (by decide)
 ·exact (apu x y hx hy).mono (by decide)
 ·exact (apt x y hx hy).mono (by decide)
 ·exact (aps x y hx hy).mono (by decide)
 ·exact (apr x y hx hy).mono (by decide)
 ·exact (ana x y hx hy).mono (by decide)
 ·exact (am9 x y hx hy).mono (by decide)
 exact (am8 x y hx hy).mono (by decide)
theorem atz (x y:Int) (r:Nat) (hx:0<=x/\x<1073741824) (hy:0<=y/\y<1073741824) (a:r<=12):(anc r (l8 x y r)).H 511:=by
 rcases (show r=0\/r=1\/r=2\/r=3\/r=4\/r=5\/r=6\/r=7\/r=8\/r=9\/r=10\/r=11\/r=12 by omega) with rfl | rfl | rfl | rfl | rfl | rfl | rfl | rfl | rfl | rfl | rfl | rfl | rfl
 ·exact ari x y hx hy
 ·exact arh x y hx hy
 ·exact arg x y hx hy
 ·exact arf x y hx hy
 ·exact are x y hx hy
 ·exact ard x y hx hy
 ·exact arc x y hx hy
 ·exact arb x y hx hy
 ·exact ara x y hx hy
 ·exact aq9 x y hx hy
 ·exact aos x y hx hy
 ·exact aor x y hx hy
 exact aoq x y hx hy
theorem ah9 (x y:Int) (r:Nat) (hx:0<=x/\x<1073741824) (hy:0<=y/\y<1073741824) (a:r<=12):okc r (l8 x y r):=by
 have b:=a21 x y r hx hy a;have c:=atz x y r hx hy a;unfold okc;unfold Ei.In;unfold Ei.H at b c;omega

def ada:Mk P0 f141:={ x:=_ }
def yp:PC:=
 (.seq (.reg [p_a 2 (.box (.t 0)),p_a 3 (.box (.t 1)),p_a 4 (.new [(.r (.v (.int .i64 0))),(.r (.v (.int .u64 0)))])])
 (.seq (.reg [p_s 8 (.fa 1 (.t 2)),p_s 9 (.ld none (.t 8)),p_s 10 (.fa 1 (.t 3)),p_s 11 (.ld none (.t 10)),p_s 12 (.carry false (.t 9) (.t 11) (.c (.r (.v (.int .u64 0))))),
 p_m 7 12,p_s 13 (.ext (.t 7) 0),p_s 14 (.ext (.t 7) 1),p_m 5 13,p_m 6 14])
 (.seq (.reg [p_s 15 (.fa 0 (.t 2)),p_s 16 (.ld none (.t 15)),p_s 17 (.fa 0 (.t 3)),p_s 18 (.ld none (.t 17)),p_s 19 (.bin .add (.t 16) (.t 18)),p_m 20 6,p_s 21 (.conv .i64 (.t 20)),
 p_s 22 (.bin .add (.t 19) (.t 21)),p_m 23 5,p_s 24 (.build [(.r (.v (.int .i64 0))),(.r (.v (.int .u64 0)))] [(0,1,(.t 22)),(1,1,(.t 23))]),⟨none,none,0,.act (.st 2 (.t 4) (.t 24))⟩])
 .ret)))
theorem acg:Fun P0 140 2 [(4,false,some (206,(some 2)))] yp:=rr func140 rfl (by decide) (by kernel_rfl) (by decide) rfl (by kernel_rfl) (by kernel_rfl) (by decide)
def wa:PC:=
 (.seq (.reg [p_a 2 (.box (.t 0)),p_a 3 (.box (.t 1)),p_a 4 (.new [(.r (.v (.int .i64 0))),(.r (.v (.int .u64 0)))])])
 (.seq (.reg [p_s 8 (.fa 1 (.t 2)),p_s 9 (.ld none (.t 8)),p_s 10 (.fa 1 (.t 3)),p_s 11 (.ld none (.t 10)),p_s 12 (.carry true (.t 9) (.t 11) (.c (.r (.v (.int .u64 0))))),
 p_m 7 12,p_s 13 (.ext (.t 7) 0),p_s 14 (.ext (.t 7) 1),p_m 5 13,p_m 6 14])
 (.seq (.reg [p_s 15 (.fa 0 (.t 2)),p_s 16 (.ld none (.t 15)),p_s 17 (.fa 0 (.t 3)),p_s 18 (.ld none (.t 17)),p_s 19 (.bin .sub (.t 16) (.t 18)),p_m 20 6,p_s 21 (.conv .i64 (.t 20)),
 p_s 22 (.bin .sub (.t 19) (.t 21)),p_m 23 5,p_s 24 (.build [(.r (.v (.int .i64 0))),(.r (.v (.int .u64 0)))] [(0,1,(.t 22)),(1,1,(.t 23))]),⟨none,none,0,.act (.st 2 (.t 4) (.t 24))⟩])
 .ret)))
theorem abo:Fun P0 142 2 [(4,false,some (206,(some 2)))] wa:=rr func142 rfl (by decide) (by kernel_rfl) (by decide) rfl (by kernel_rfl) (by kernel_rfl) (by decide)
def vz:Mk P0 f143:={ x:=_ }
def aeq:Mk P0 f137:={ x:=_ }
def af5:Mk P0 f115:={ x:=_ }
def wid (x:Int):AV:=.r (.agg [.v (.int .i64 (IntKind.i64.wrap (x/18446744073709551616))),.v (.int .u64 (x%18446744073709551616))])
theorem amb {a b:Int} (c:a=IntKind.i64.wrap (x/18446744073709551616)) (d:b=x%18446744073709551616):AV.r (.agg [.v (.int .i64 a),.v (.int .u64 b)])=wid x:=by rw [c,d]; rfl
theorem aoz (a b:Int):a9 P0 140 [wid a,wid b] [] (wid (a+b)) []:=by
 refine acg rfl (by decide) ?_
 push_cast [yp,wid,zaa]
 refine ⟨by omega,amb ?_ ?_⟩
 ·simp only [IntKind.wrap_i64]; omega
 omega
theorem au9 (a b:Int):a9 P0 142 [wid a,wid b] [] (wid (a-b)) []:=by
 refine abo rfl (by decide) ?_
 push_cast [wa,wid,zaa]
 refine ⟨by omega,amb ?_ ?_⟩
 ·simp only [IntKind.wrap_i64]; omega
 omega
theorem al4 (a:Int) (h:-170141183460469231731687303715884105728<=a/\a<170141183460469231731687303715884105728):a9 P0 143 [wid a] [] (sm a) []:=by
 refine vz.t func143 ?_
 push_cast [vz,wid,zaa]
 rw [IntKind.wrap_i64,IntKind.wrap_i64];have e:c9 a->(a%18446744073709551616+9223372036854775808)%18446744073709551616-9223372036854775808=a:=by unfold c9; omega
 have i:(a/18446744073709551616+9223372036854775808)%18446744073709551616-9223372036854775808=a/18446744073709551616:=by omega
 rw [i];have g:a/18446744073709551616=0->(a%18446744073709551616+9223372036854775808)%18446744073709551616-9223372036854775808>=0->c9 a:=by unfold c9; omega
 have f:a/18446744073709551616=-1->(a%18446744073709551616+9223372036854775808)%18446744073709551616-9223372036854775808<0->c9 a:=by unfold c9; omega
 have j:c9 a->(a/18446744073709551616=0/\(a%18446744073709551616+9223372036854775808)%18446744073709551616-9223372036854775808>=0)\/(a/18446744073709551616=-1/\(a%18446744073709551616+9223372036854775808)%18446744073709551616-9223372036854775808<0):=by unfold c9; omega
 generalize a/18446744073709551616=q at *;generalize (a%18446744073709551616+9223372036854775808)%18446744073709551616-9223372036854775808=n at *;refine ⟨by simp +contextual,by simp +contextual; omega,b9 (λ hc=>?_) (λ hc=>?_)⟩
 ·push_cast
  have hy:c9 a:=by
   by_cases b:n<0
   ·by_cases c2:q=-1
    ·exact f c2 b
    simp [b,c2] at hc; omega
   by_cases c2:q=0
   ·exact g c2 (by omega)
   simp [b,c2] at hc
  exact oa (e hy) hy
 push_cast
 refine ado λ hy=>?_;rcases j hy with ⟨d,c⟩ | ⟨d,c⟩
 ·simp [d,c] at hc
 simp [d,c] at hc
theorem agu {a:Int} (b:c9 a):IntKind.u64.wrap a=if a<0 then a+18446744073709551616 else a:=by
 unfold c9 at b;rw [IntKind.wrap_u64];split<;>omega
theorem adi (a b:Int) (c:c9 a) (d:c9 b):a9 P0 141 [int .i64 a,int .i64 b] [] (wid (a*b)) []:=by
 refine ada.t func141 ?_
 push_cast [ada,zaa]
 have g:=c;have i:=d;unfold c9 at g i
 have f:∀x:Int,c9 x->((IntKind.u64.wrap x).toNat:Int)=if x<0 then x+18446744073709551616 else x:=λ x hx=>by
  rw [agu hx];unfold c9 at hx;split<;>omega
 have e:∀x:Int,c9 x->(IntKind.u64.wrap x).toNat<18446744073709551616:=λ x hx=>by
  rw [agu hx];unfold c9 at hx;split<;>omega
 refine b7 (as':=[int .u64 (IntKind.u64.wrap a).toNat,int .u64 (IntKind.u64.wrap b).toNat]) (by rw [f a c,f b d,agu c,agu d]) ?_;refine a7 (akn _ _ (e a c) (e b d)) rfl trivial ?_
 push_cast
 have k:((IntKind.u64.wrap a).toNat:Int)*((IntKind.u64.wrap b).toNat:Int)=a*b+(if a<0 then b*18446744073709551616 else 0)+(if b<0 then a*18446744073709551616 else 0)+(if a<0 then if b<0 then 340282366920938463463374607431768211456 else 0 else 0):=by
  rw [f a c,f b d];split<;>split<;>(try simp only [Int.add_mul,Int.mul_add])<;>omega
 rw [k];generalize a*b=m;refine b9 (λ h=>?_) (λ h=>?_)<;>push_cast<;>refine b9 (λ j=>?_) (λ j=>?_)<;>push_cast
 all_goals
  simp only [decide_eq_true_eq,decide_eq_false_iff_not] at h j;simp only [h,j,if_true,if_false];refine amb ?_ ?_
  ·simp only [IntKind.wrap_i64]; omega
  omega
theorem aj5 (a b:Int):a9 P0 137 [int .i64 a,bl true,int .i64 b,bl true] [] (.tup [Ei.v ⟨a,b⟩,bl true]) []:=by
 refine aeq.t func137 ?_
 push_cast [aeq,Ei.v,Ei.rv,zaa]
abbrev M63:Int:=9223372036854775807
theorem Ei.In.ok (h:z.In M63):c9 z.a/\c9 z.b:=by unfold Ei.In M63 at h; unfold c9; omega
theorem a2t {x y:Ei} (hx:x.In 4611686018427387904) (hy:y.In 4611686018427387904):(-21267647932558653966460912964485513216<=x.a*y.a/\x.a*y.a<=21267647932558653966460912964485513216)/\(-21267647932558653966460912964485513216<=x.a*y.b/\x.a*y.b<=21267647932558653966460912964485513216)/\(-21267647932558653966460912964485513216<=x.b*y.a/\x.b*y.a<=21267647932558653966460912964485513216)/\(-21267647932558653966460912964485513216<=x.b*y.b/\x.b*y.b<=21267647932558653966460912964485513216):=
 ⟨yj hx.1 hy.1,yj hx.1 hy.2,yj hx.2 hy.1,yj hx.2 hy.2⟩
theorem af2 (x y:Ei) (hx:x.In 4611686018427387904) (hy:y.In 4611686018427387904) (g:(x.mul y).In M63):a9 P0 115 [x.v,y.v] [] (.tup [(x.mul y).v,bl true]) []:=by
 refine af5.t func115 ?_;have e:=g.ok.1;have f:=g.ok.2;simp only [Ei.mul] at e f
 push_cast [af5,Ei.v,Ei.rv,zaa]
 have c:c9 x.a/\c9 x.b:=by unfold Ei.In at hx; unfold c9; omega
 have d:c9 y.a/\c9 y.b:=by unfold Ei.In at hy; unfold c9; omega
 refine a7 (adi x.b y.b c.2 d.2) rfl trivial ?_
 push_cast [wid]
 refine g9 (adi x.a y.a c.1 d.1) rfl trivial ?_
 push_cast [wid]
 refine n9 (as':=[wid (x.a*y.a),wid (x.b*y.b)]) rfl ?_;refine g9 (au9 _ _) rfl trivial ?_
 push_cast [wid]
 refine n9 (as':=[wid (x.a*y.a-x.b*y.b)]) rfl ?_;refine g9 (al4 _ ?_) rfl trivial ?_
 ·have:=a2t hx hy;omega
 push_cast [sm,e,if_pos]
 refine And.intro (by kernel_rfl) ?_;refine g9 (adi x.a y.b c.1 d.2) rfl trivial ?_
 push_cast [wid]
 refine g9 (adi x.b y.a c.2 d.1) rfl trivial ?_
 push_cast [wid]
 refine And.intro (by kernel_rfl) ?_;refine n9 (as':=[wid (x.a*y.b),wid (x.b*y.a)]) rfl ?_;refine g9 (aoz _ _) rfl trivial ?_
 push_cast [wid]
 refine And.intro (by kernel_rfl) ?_;refine n9 (as':=[wid (x.a*y.b+x.b*y.a),wid (x.b*y.b)]) rfl ?_;refine g9 (aoz _ _) rfl trivial ?_
 push_cast [wid]
 refine n9 (as':=[wid (x.a*y.b+x.b*y.a+x.b*y.b)]) rfl ?_;refine g9 (al4 _ ?_) rfl trivial ?_
 ·have:=a2t hx hy;omega
 push_cast [sm,f,if_pos]
 refine And.intro (by kernel_rfl) ?_;refine a7 (aj5 _ _) rfl trivial ?_
 push_cast [Ei.v,Ei.rv,Ei.mul]

def qm:Mk P0 f148:={ x:=_ }
def af6:Mk P0 f128:={ x:=_ }
def af4:Mk P0 f146:={ x:=_ }
def aes:Mk P0 f113:={ x:=_ }
def aer:Mk P0 f129:={ x:=_ }
def aet:Mk P0 f112:={ x:=_ }
def aen:Mk P0 f144:={ x:=_ }
def adb:Mk P0 f116:={ x:=_ }
theorem aad (h:c9 x):sm x=.tup [int .i64 x,bl true]:=by simp [sm,h]
theorem a3q (x y:Ei) (hx:x.In M63) (hy:y.In M63) (c:(x.add y).In M63):a9 P0 128 [x.v,y.v] [] (.tup [(x.add y).v,bl true]) []:=by
 have d:a9 P0 148 [x.v,y.v,.fn (.func 135) []] [] (.tup [(x.add y).v,bl true]) []:=by
  refine qm.t func148 ?_
  push_cast [qm,Ei.v,Ei.rv,zaa]
  refine ⟨by kernel_rfl,?_⟩;refine a7 (ar6 _ _ hx.ok.1 hy.ok.1) rfl trivial ?_;rw [aad (show c9 (x.a+y.a) from c.ok.1)]
  push_cast
  refine ⟨by kernel_rfl,?_⟩;refine a7 (ar6 _ _ hx.ok.2 hy.ok.2) rfl trivial ?_;rw [aad (show c9 (x.b+y.b) from c.ok.2)]
  push_cast
  refine a7 (aj5 _ _) rfl trivial ?_
  push_cast [Ei.v,Ei.rv,Ei.add]
 refine af6.t func128 ?_
 push_cast [af6,Ei.v,Ei.rv,zaa]
 refine b7 (as':=[x.v,y.v,.fn (.func 135) []]) rfl ?_;refine a7 d rfl trivial ?_
 push_cast [Ei.v,Ei.rv,Ei.add]
theorem a3p (x y:Ei) (hx:x.In M63) (hy:y.In M63) (c:(x.sub y).In M63):a9 P0 146 [x.v,y.v] [] (.tup [(x.sub y).v,bl true]) []:=by
 have d:a9 P0 148 [x.v,y.v,.fn (.func 151) []] [] (.tup [(x.sub y).v,bl true]) []:=by
  refine qm.t func148 ?_
  push_cast [qm,Ei.v,Ei.rv,zaa]
  refine ⟨by kernel_rfl,?_⟩;refine a7 (aqw _ _ hx.ok.1 hy.ok.1) rfl trivial ?_;rw [aad (show c9 (x.a-y.a) from c.ok.1)]
  push_cast
  refine ⟨by kernel_rfl,?_⟩;refine a7 (aqw _ _ hx.ok.2 hy.ok.2) rfl trivial ?_;rw [aad (show c9 (x.b-y.b) from c.ok.2)]
  push_cast
  refine a7 (aj5 _ _) rfl trivial ?_
  push_cast [Ei.v,Ei.rv,Ei.sub]
 refine af4.t func146 ?_
 push_cast [af4,Ei.v,Ei.rv,zaa]
 refine b7 (as':=[x.v,y.v,.fn (.func 151) []]) rfl ?_;refine a7 d rfl trivial ?_
 push_cast [Ei.v,Ei.rv,Ei.sub]
theorem aqc (x:Ei) (hx:x.In 4611686018427387903):a9 P0 113 [x.v] [] (.tup [x.conj.v,bl true]) []:=by
 refine aes.t func113 ?_;have h:=hx;unfold Ei.In at h
 push_cast [aes,Ei.v,Ei.rv,zaa]
 refine a7 (ar6 _ _ (by unfold c9; omega) (by unfold c9; omega)) rfl trivial ?_;rw [aad (by unfold c9; omega)]
 push_cast
 refine a7 (a45 _ (by unfold c9; omega)) rfl trivial ?_;rw [aad (by unfold c9; omega)]
 push_cast
 refine a7 (aj5 _ _) rfl trivial ?_
 push_cast [Ei.v,Ei.rv,Ei.conj]
theorem axp:uni 0=⟨1,0⟩:=rfl
theorem axo:uni 1=⟨0,1⟩:=rfl
theorem axn:uni 2=⟨-1,1⟩:=rfl
theorem axm:uni 3=⟨-1,0⟩:=rfl
theorem axl:uni 4=⟨0,-1⟩:=rfl
theorem axk:uni 5=⟨1,-1⟩:=rfl
theorem aqa (k:Int) (a:0<=k/\k<6):a9 P0 129 [int .i64 k] [] (uni k.toNat).v []:=by
 refine aer.t func129 ?_
 have b:(IntKind.i64.wrap (Int.tmod k 6+6)).tmod 6=k:=by
  rw [zcp a.1,a6 (by omega),zcp (by omega)]; omega
 simp only [aer,b,Ei.v,Ei.rv,push_cast,↓reduceIte,reduceCtorEq,zB,zE,zA,zS,zL,zD,zM];refine ⟨by decide,by decide,a,by omega,?_⟩;rcases (show k=0\/k=1\/k=2\/k=3\/k=4\/k=5 by omega) with rfl | rfl | rfl | rfl | rfl | rfl
 all_goals
  simp only [Int.reduceToNat,Nat.zero_mul,Nat.add_zero,zcu,axp,axo,axn,axm,axl,axk,push_cast,↓reduceIte,reduceCtorEq,zB,zE,zA,zS,zL,zD,zM]
  first | done | trace_state
theorem adk (a m:Int) (e:c9 a) (f:0<=m/\m<=4611686018427387904):a9 P0 144 [int .i64 a,int .i64 m] [] (bl (decide (-m<=a/\a<=m))) []:=by
 refine aen.t func144 ?_
 push_cast [aen,zaa]
 rw [show IntKind.i64.wrap (0-m)=-m by rw [a6 (by omega)]; omega];refine sa ?_;by_cases b:-m<=a<;>by_cases d:a<=m<;>by_cases c:a=-9223372036854775808<;>simp [b,d,c]
 all_goals omega
theorem a0p (k:Int) (m:0<=k/\k<=12):a9 P0 112 [int .i64 k] [] (.tup [(i8 k.toNat).v,bl true]) []:=by
 refine aet.t func112 ?_;have d:decide (k<0)=false:=by simp; omega
 have c2:decide (k>20)=false:=by simp; omega
 push_cast [aet,zaa,d,c2]
 refine c7 [(14,false),(15,false),(2,false),(3,false),(4,false),(5,false)] (λ vs pos c=>∃i:Int,0<=i/\i<=k/\vs=[int .i64 k,int .i64 i,.ptr 2000000 0 0,bl false,.ptr 2000001 0 0,bl true]/\pos=[]/\c=[.box [int .i64 0,int .i64 0],.box [int .i64 (i8 i.toNat).a,int .i64 (i8 i.toNat).b]])
  (λ vs _ _=>match vs with | [_,.r (.v (.int _ j)),_,_,_,_]=>(k-j).toNat | _=>0) rfl ?_ ?_
 ·push_cast
  exact ⟨0,by omega,by omega,rfl,rfl⟩
 rintro vs pos c ⟨i,l,g,rfl,rfl,rfl⟩
 push_cast
 refine b9 (λ h=>?_) (λ h=>?_)
 ·simp only [decide_eq_true_eq] at h
  push_cast
  have e:=mh i.toNat (by omega);have f:=mh (i.toNat+1) (by omega);refine b7 (as':=[(i8 i.toNat).v,y7.v]) rfl ?_;refine a7 (af2 _ _ (e.mono (by decide)) (by unfold Ei.In; decide) (f.mono (by decide))) rfl trivial ?_
  push_cast [Ei.v,Ei.rv]
  rw [show IntKind.i64.wrap (i+1)=i+1 from a6 (by omega)];refine ⟨⟨i+1,by omega,by omega,rfl,?_⟩,by omega⟩;rw [show (i+1).toNat=i.toNat+1 by omega]
  rfl
 simp only [decide_eq_false_iff_not] at h;have:i=k:=by omega
 subst this
 push_cast [Ei.v,Ei.rv]

def pkN (d a b:Int) (i:Nat):Int×Ei:=(yd.take i).foldl (pk d a b) (0,⟨0,0⟩)
theorem am0 (d a b:Int) (i:Nat) (z:Ei) (h:yd[i]?=some z):pkN d a b (i+1)=pk d a b (pkN d a b i) z:=by
 unfold pkN;rw [List.take_add_one,h];simp
theorem azx {a b:Int} (c:0<=a/\a<d) (e:0<=b/\b<d):(pkN d a b 3).2=fb d a b:=aot c e
theorem ato (d a b:Int):∀i,(0<=(pkN d a b i).2.a/\(pkN d a b i).2.a<=1)/\(0<=(pkN d a b i).2.b/\(pkN d a b i).2.b<=1)
 | 0=>by simp [pkN]
 | i+1=>by
   have c:=ato d a b i;rcases h:yd[i]? with _ | z
   ·have:pkN d a b (i+1)=pkN d a b i:=by unfold pkN; rw [List.take_add_one,h]; simp
    rw [this]; exact c
   rw [am0 d a b i z h];unfold pk;split
   ·have:z∈yd:=List.mem_of_getElem? h;simp [yd] at this;rcases this with rfl | rfl | rfl<;>simp
   exact c
theorem ajw {a:Int} (h:-n<=a/\a<=n) (g:1<=d):-n<=a/d/\a/d<=n:=by
 have e:=zcw a d;have f:=zag a (show 0<d by omega);have c:=zah a (show d≠0 by omega);generalize a/d=q at *;generalize a%d=r at *;constructor
 ·rcases zcn q 0 with b | b
  ·have:d*(q+1)<=1*(q+1):=Int.mul_le_mul_of_nonpos_right (by omega) (by omega);rw [Int.mul_add] at this;omega
  omega
 rcases zcn q 0 with b | b
 ·omega
 have:1*q<=d*q:=Int.mul_le_mul_of_nonneg_right (by omega) b;omega
theorem an0 (u:Ei) (d:Int) (D:u.In 1152921504606846976) (w:1<=d/\d<=1125899906842624):a9 P0 116 [u.v,int .i64 d] [] (.tup [(u.round d).v,bl true]) []:=by
 refine adb.t func116 ?_;have c:=D;unfold Ei.In at c;have x:decide (d<1)=false:=by simp; omega
 have c2:decide (d>1125899906842624)=false:=by simp; omega
 have q:c9 u.a:=by unfold c9; omega
 have o:c9 u.b:=by unfold c9; omega
 have s:c9 d:=by unfold c9; omega
 push_cast [adb,Ei.v,Ei.rv,zaa,x,c2]
 refine a7 (adk _ _ q (by decide)) rfl trivial ?_;rw [show decide (-1152921504606846976<=u.a/\u.a<=1152921504606846976)=true from decide_eq_true c.1]
 push_cast
 refine a7 (adk _ _ o (by decide)) rfl trivial ?_;rw [show decide (-1152921504606846976<=u.b/\u.b<=1152921504606846976)=true from decide_eq_true c.2]
 push_cast
 refine a7 (ap8 _ _ q s) rfl trivial ?_;have e:0<d:=by omega
 push_cast [e,if_true]
 refine a7 (ap8 _ _ o s) rfl trivial ?_
 push_cast [e,if_true]
 have C:0<=u.a%d/\u.a%d<d:=⟨zah _ (by omega),zag _ e⟩
 have L:0<=u.b%d/\u.b%d<d:=⟨zah _ (by omega),zag _ e⟩
 have G:-1152921504606846976<=u.a/d/\u.a/d<=1152921504606846976:=ajw c.1 w.1;have A:-1152921504606846976<=u.b/d/\u.b/d<=1152921504606846976:=ajw c.2 w.1;generalize I:u.a%d=a at *;generalize K:u.b%d=b at *;generalize n:u.a/d=E at *;generalize m:u.b/d=F at *;refine ⟨by simp,?_⟩
 refine c7 [(57,false),(58,false),(59,false),(1,false),(4,false),(5,false),(6,false),(7,false),(9,false),(10,false),(12,false),(13,false)] (λ vs pos g=>∃i:Nat,i<=3/\vs=[.own 2000000 0 0 3,int .i64 3,int .i64 i,int .i64 d,.ptr 2000001 0 0,bl false,int .i64 E,int .i64 a,int .i64 F,int .i64 b,int .i64 (pkN d a b i).1,.ptr 2000002 0 0]/\pos=[] /\
  g=[.row 2 (Ei.rv ⟨0,0⟩) true true (yd.map Ei.rv),.box [int .i64 0,int .i64 0],.box [int .i64 (pkN d a b i).2.a,int .i64 (pkN d a b i).2.b]])
  (λ vs _ _=>match vs with | _::_ :: .r (.v (.int _ j))::_=>(3-j).toNat | _=>0) rfl ?_ ?_
 ·push_cast
  exact ⟨0,by omega,rfl,rfl⟩
 rintro vs pos g ⟨i,N,rfl,rfl,rfl⟩
 push_cast
 refine b9 (λ h=>?_) (λ h=>?_)
 ·have B:i=0\/i=1\/i=2:=by simp at h; omega
  obtain ⟨z,p,k⟩:∃z,yd[i]?=some z/\((z=⟨0,1⟩\/z=⟨1,0⟩\/z=⟨1,1⟩)):=by
   rcases B with rfl | rfl | rfl
   ·exact ⟨_,rfl,by simp⟩
   ·exact ⟨_,rfl,by simp⟩
   exact ⟨_,rfl,by simp⟩
  have J:(List.map Ei.rv yd).getD i (Ei.rv ⟨0,0⟩)=.agg [.v (.int .i64 z.a),.v (.int .i64 z.b)]:=by
   rw [List.getD_eq_getElem?_getD,List.getElem?_map,p]; rfl
  have H:(IntKind.i64.wrap (IntKind.i64.wrap (IntKind.i64.wrap (z.a*z.a)+IntKind.i64.wrap (z.a*z.b))+IntKind.i64.wrap (z.b*z.b)))=z.a*z.a+z.a*z.b+z.b*z.b:=by
   rcases k with rfl | rfl | rfl<;>decide
  have y:IntKind.i64.wrap (IntKind.i64.wrap (IntKind.i64.wrap (d*(z.a*z.a+z.a*z.b+z.b*z.b))-IntKind.i64.wrap (z.a*IntKind.i64.wrap (IntKind.i64.wrap (2*a)+b)))-IntKind.i64.wrap (z.b*IntKind.i64.wrap (a+IntKind.i64.wrap (2*b))))=fr d a b z:=by
   rw [show IntKind.i64.wrap (2*a)=2*a from a6 (by omega),show IntKind.i64.wrap (2*b)=2*b from a6 (by omega),show IntKind.i64.wrap (2*a+b)=2*a+b from a6 (by omega),show IntKind.i64.wrap (a+2*b)=a+2*b from a6 (by omega)];rcases k with rfl | rfl | rfl<;>simp only [fr,Int.zero_mul,Int.mul_zero,Int.one_mul,Int.mul_one,Int.add_zero,Int.zero_add,IntKind.wrap_i64]<;>omega
  have l:=am0 d a b i z p
  push_cast [zcj,zcu,J,H,y]
  refine ⟨by omega,?_⟩;refine b9 (λ f=>?_) (λ f=>?_)
  ·simp only [decide_eq_true_eq] at f
   push_cast
   refine ⟨by kernel_rfl,?_⟩;rw [show IntKind.i64.wrap (i+1)=i+1 from a6 (by omega)];refine ⟨⟨i+1,by omega,?_,?_⟩,by omega⟩
   ·rw [l,pk,if_pos f]<;>rfl
   rw [l,pk,if_pos f]<;>rfl
  simp only [decide_eq_false_iff_not] at f
  push_cast
  rw [show IntKind.i64.wrap (i+1)=i+1 from a6 (by omega)];refine ⟨⟨i+1,by omega,?_,?_⟩,by omega⟩
  ·rw [l,pk,if_neg f]<;>rfl
  rw [l,pk,if_neg f]<;>rfl
 have:i=3:=by simp at h; omega
 subst this
 push_cast
 have M:=ato d a b 3;rw [a6 (by omega),a6 (by omega),azx C L,<- n,<- m,<- I,<- K]
 rfl

def acy:Mk P0 f111:={ x:=_ }
def ahd:Mk P0 f77:={ x:=_ }
def acz:Mk P0 f110:={ x:=_ }
def aem:Mk P0 f78:={ x:=_ }
theorem p2 (n:Nat) (h:n<=36):1<=(2:Int)^n/\(2:Int)^n<=68719476736:=by
 have a:2^n<=2^36:=zad (by decide) h;have c:1<=2^n:=Nat.one_le_two_pow;have b:((2^n:Nat):Int)=(2:Int)^n:=by simp
 omega
theorem p7 (n:Nat) (h:n<=12):1<=(7:Int)^n/\(7:Int)^n<=13841287201:=by
 have a:7^n<=7^12:=zad (by decide) h;have c:1<=7^n:=Nat.one_le_pow _ _ (by decide);have b:((7^n:Nat):Int)=(7:Int)^n:=by simp
 omega
theorem a0b (r:Int):a9 P0 111 [int .i64 r] [] (bl (decide (0<=r/\r<=12))) []:=by
 refine acy.t func111 ?_
 push_cast [acy,zaa]
 refine sa ?_;simp
theorem aa7 {x y:Ei} (hx:x.In n) (hy:y.In m):(x.mul y).In (3*(n*m)):=by
 have a:=yj hx.1 hy.1;have d:=yj hx.1 hy.2;have c:=yj hx.2 hy.1;have b:=yj hx.2 hy.2;unfold Ei.In Ei.mul;dsimp only;generalize n*m=q at *;omega
theorem ak0 {x:Ei} (hx:x.In n):x.conj.In (2*n):=by
 unfold Ei.In Ei.conj at *;dsimp only;omega
def inW (x y:Int):Prop:=(0<=x/\x<1073741824)/\(0<=y/\y<1073741824)
instance (x y:Int):Decidable (inW x y):=inferInstanceAs (Decidable (_/\_))
theorem ar2 (h:inW x y):(ax x y).In 60000000000:=by
 unfold inW at h;unfold ax Ei.In;dsimp only;omega
variable {k:Nat}
theorem au0 (h:inW x y) (a:k<=12):((ax x y).mul (i8 k).conj).In 43200000000000000:=
 (aa7 (ar2 h) (ak0 (mh k a))).mono (by decide)
theorem axw (x y:Int):a9 P0 77 [int .i64 x,int .i64 y] [] (bl (decide (inW x y))) []:=by
 refine ahd.t func77 ?_
 push_cast [ahd,zaa]
 repeat refine And.intro (by simp +contextual) ?_
 refine sa ?_;unfold inW;by_cases a:0<=x<;>by_cases d:x<1073741824<;>by_cases c:0<=y<;>by_cases b:y<1073741824<;>simp [a,d,c,b]
theorem a07 (x y:Int) (h:inW x y):a9 P0 110 [int .i64 x,int .i64 y] [] (.tup [(ax x y).v,bl true]) []:=by
 refine acz.t func110 ?_
 push_cast [acz,zaa]
 refine a7 (axw x y) rfl trivial ?_;rw [decide_eq_true h]
 push_cast
 unfold inW at h;rw [show IntKind.i64.wrap (45*x)=45*x from a6 (by omega),show IntKind.i64.wrap (26*y)=26*y from a6 (by omega),show IntKind.i64.wrap (52*y)=52*y from a6 (by omega),show IntKind.i64.wrap (45*x-26*y)=45*x-26*y from a6 (by omega)];simp only [ax,Ei.v,Ei.rv]
theorem a20 (x y r:Int) (h:inW x y) (e:0<=r/\r<=12):a9 P0 78 [int .i64 x,int .i64 y,int .i64 r] [] (.tup [(l8 x y r.toNat).v,bl true]) []:=by
 refine aem.t func78 ?_
 push_cast [aem,zaa]
 refine a7 (a07 x y h) rfl trivial ?_
 push_cast [Ei.v,Ei.rv]
 refine a7 (a0b r) rfl trivial ?_;rw [decide_eq_true e]
 push_cast
 have f:(12-r).toNat=12-r.toNat:=by omega
 have a:(12-r).toNat<=12:=by omega
 rw [show IntKind.i64.wrap (12-r)=12-r from a6 (by omega)];refine a7 (a0p (12-r) (by omega)) rfl trivial ?_;have d:=mh (12-r).toNat a
 push_cast [Ei.v,Ei.rv]
 refine b7 (as':=[(i8 (12-r).toNat).v]) rfl ?_;refine a7 (aqc _ (d.mono (by decide))) rfl trivial ?_
 push_cast [Ei.v,Ei.rv]
 have g:=p7 (12-r).toNat a;rw [show IntKind.i64.wrap (12-r)=12-r from a6 (by omega)];have b:=a4z 7 (12-r) (by decide) (by unfold c9; omega);rw [if_neg (show ¬12-r<0 by omega),aad (by unfold c9; omega)] at b;refine a7 b rfl trivial ?_
 push_cast
 have c:=au0 h a;refine b7 (as':=[(ax x y).v,(i8 (12-r).toNat).conj.v]) rfl ?_;refine a7 (af2 _ _ ((ar2 h).mono (by decide)) ((ak0 d).mono (by decide)) (c.mono (by decide))) rfl trivial ?_
 push_cast [Ei.v,Ei.rv]
 rw [show IntKind.i64.wrap (2340*7^(12-r).toNat)=2340*7^(12-r).toNat from a6 (by omega)];refine b7 (as':=[((ax x y).mul (i8 (12-r).toNat).conj).v,int .i64 (2340*7^(12-r).toNat)]) rfl ?_;refine a7 (an0 _ _ (c.mono (by decide)) (by omega)) rfl trivial ?_
 push_cast [Ei.v,Ei.rv,l8,f]

def vv (i:Nat):Ei:=match i with | 0=>⟨1,1⟩ | 1=>⟨-1,2⟩ | 2=>⟨-2,1⟩ | 3=>⟨-1,-1⟩ | 4=>⟨1,-2⟩ | _=>⟨2,-1⟩
def hc (z:Ei) (r i:Nat):Ei:=(i8 (12-r)).mul ⟨3*z.a+(vv i).a,3*z.b+(vv i).b⟩
def hx (z:Ei) (r i:Nat):Int:=52*(hc z r i).a+26*(hc z r i).b
def hy (z:Ei) (r i:Nat):Int:=45*(hc z r i).b
def cx (z:Ei) (r:Nat):Int:=52*((i8 (12-r)).mul z).a+26*((i8 (12-r)).mul z).b
def cy (z:Ei) (r:Nat):Int:=45*((i8 (12-r)).mul z).b
def kx (r i:Nat):Int:=52*((i8 (12-r)).mul (vv i)).a+26*((i8 (12-r)).mul (vv i)).b
def ky (r i:Nat):Int:=45*((i8 (12-r)).mul (vv i)).b
theorem qk (z:Ei) (r i:Nat):hx z r i=3*cx z r+kx r i:=by
 simp only [hx,cx,kx,hc,Ei.mul,Int.mul_add,Int.mul_left_comm _ (3:Int)];omega
theorem qj (z:Ei) (r i:Nat):hy z r i=3*cy z r+ky r i:=by
 simp only [hy,cy,ky,hc,Ei.mul,Int.mul_add,Int.mul_left_comm _ (3:Int)];omega
def crs (z:Ei) (r i j:Nat) (x y:Int):Int:=(kx r j-kx r i)*(y-hy z r i)-(ky r j-ky r i)*(x-hx z r i)
def vt (x y:Int) (z:Ei) (r:Nat):Prop:=
 ((-50000000<=cx z r-x/\cx z r-x<=50000000)/\(-50000000<=cy z r-y/\cy z r-y<=50000000)) /\
 (∀i,i<6->0<=crs z r i ((i+1)%6) (3*x) (3*y)) /\
 (∃i,i<6/\hx z r i<=3*x)/\(∃i,i<6/\3*x<=hx z r i)/\(∃i,i<6/\hy z r i<=3*y)/\(∃i,i<6/\3*y<=hy z r i)
theorem lt6 {i:Nat} (h:i<6):i=0\/i=1\/i=2\/i=3\/i=4\/i=5:=by omega
theorem a5i (x y:Int):vt x y (l8 x y 0) 0:=by
 have h:=m9 ((ax x y).mul (i8 (12-0)).conj) (d:=2340*7^(12-0)) (by decide);have e:(i8 (12-0)).conj=⟨-128231,102960⟩:=by decide
 have z:(2340*7^(12-0):Int)=32388612050340:=by decide
 have v:i8 (12-0)=⟨-25271,-102960⟩:=by decide
 unfold l8;generalize Ei.round _ _=q at *;rw [e,z] at h;have ex:cx q 0=52*(-25271*q.a - -102960*q.b)+26*(-25271*q.b + -102960*q.a + -102960*q.b):=by simp only [cx,v,Ei.mul]
 have B:cy q 0=45*(-25271*q.b + -102960*q.a + -102960*q.b):=by simp only [cy,v,Ei.mul]
 have u:kx 0 0=-1971138:=by decide
 have n:ky 0 0=-10403595:=by decide
 have o:kx 0 1=8030880:=by decide
 have m:ky 0 1=-6907590:=by decide
 have c:kx 0 2=10002018:=by decide
 have j:ky 0 2=3496005:=by decide
 have s:kx 0 3=1971138:=by decide
 have k:ky 0 3=10403595:=by decide
 have t:kx 0 4=-8030880:=by decide
 have r:ky 0 4=6907590:=by decide
 have l:kx 0 5=-10002018:=by decide
 have p:ky 0 5=-3496005:=by decide
 unfold l5 at h;simp only [Ei.mul,ax] at h;have g:∀i,hx q 0 i=3*cx q 0+kx 0 i:=λ i=>qk q 0 i;have f:∀i,hy q 0 i=3*cy q 0+ky 0 i:=λ i=>qj q 0 i;have C:=h.1;have D:=h.2.1;have A:=h.2.2;refine ⟨by omega,λ i w=>?_,⟨5,by decide,?_⟩,⟨2,by decide,?_⟩,⟨0,by decide,?_⟩,⟨3,by decide,?_⟩⟩
 ·rcases lt6 w with rfl | rfl | rfl | rfl | rfl | rfl<;>simp only [crs,g,f,u,o,c,s,t,l,n,m,j,k,r,p]<;>omega
 ·simp only [g,u,o,c,s,t,l]; omega
 ·simp only [g,u,o,c,s,t,l]; omega
 ·simp only [f,n,m,j,k,r,p]; omega
 simp only [f,n,m,j,k,r,p]; omega
theorem a5h (x y:Int):vt x y (l8 x y 1) 1:=by
 have h:=m9 ((ax x y).mul (i8 (12-1)).conj) (d:=2340*7^(12-1)) (by decide);have e:(i8 (12-1)).conj=⟨-51346,25807⟩:=by decide
 have z:(2340*7^(12-1):Int)=4626944578620:=by decide
 have v:i8 (12-1)=⟨-25539,-25807⟩:=by decide
 unfold l8;generalize Ei.round _ _=q at *;rw [e,z] at h;have ex:cx q 1=52*(-25539*q.a - -25807*q.b)+26*(-25539*q.b + -25807*q.a + -25807*q.b):=by simp only [cx,v,Ei.mul]
 have B:cy q 1=45*(-25539*q.b + -25807*q.a + -25807*q.b):=by simp only [cy,v,Ei.mul]
 have u:kx 1 0=-1992042:=by decide
 have n:ky 1 0=-3471885:=by decide
 have o:kx 1 1=2012946:=by decide
 have m:ky 1 1=-3459825:=by decide
 have c:kx 1 2=4004988:=by decide
 have j:ky 1 2=12060:=by decide
 have s:kx 1 3=1992042:=by decide
 have k:ky 1 3=3471885:=by decide
 have t:kx 1 4=-2012946:=by decide
 have r:ky 1 4=3459825:=by decide
 have l:kx 1 5=-4004988:=by decide
 have p:ky 1 5=-12060:=by decide
 unfold l5 at h;simp only [Ei.mul,ax] at h;have g:∀i,hx q 1 i=3*cx q 1+kx 1 i:=λ i=>qk q 1 i;have f:∀i,hy q 1 i=3*cy q 1+ky 1 i:=λ i=>qj q 1 i;have C:=h.1;have D:=h.2.1;have A:=h.2.2;refine ⟨by omega,λ i w=>?_,⟨5,by decide,?_⟩,⟨2,by decide,?_⟩,⟨0,by decide,?_⟩,⟨3,by decide,?_⟩⟩
 ·rcases lt6 w with rfl | rfl | rfl | rfl | rfl | rfl<;>simp only [crs,g,f,u,o,c,s,t,l,n,m,j,k,r,p]<;>omega
 ·simp only [g,u,o,c,s,t,l]; omega
 ·simp only [g,u,o,c,s,t,l]; omega
 ·simp only [f,n,m,j,k,r,p]; omega
 simp only [f,n,m,j,k,r,p]; omega
theorem a5g (x y:Int):vt x y (l8 x y 2) 2:=by
 have h:=m9 ((ax x y).mul (i8 (12-2)).conj) (d:=2340*7^(12-2)) (by decide);have e:(i8 (12-2)).conj=⟨-18357,3725⟩:=by decide
 have z:(2340*7^(12-2):Int)=660992082660:=by decide
 have v:i8 (12-2)=⟨-14632,-3725⟩:=by decide
 unfold l8;generalize Ei.round _ _=q at *;rw [e,z] at h;have ex:cx q 2=52*(-14632*q.a - -3725*q.b)+26*(-14632*q.b + -3725*q.a + -3725*q.b):=by simp only [cx,v,Ei.mul]
 have B:cy q 2=45*(-14632*q.b + -3725*q.a + -3725*q.b):=by simp only [cy,v,Ei.mul]
 have u:kx 2 0=-1141296:=by decide
 have n:ky 2 0=-993690:=by decide
 have o:kx 2 1=290550:=by decide
 have m:ky 2 1=-1484505:=by decide
 have c:kx 2 2=1431846:=by decide
 have j:ky 2 2=-490815:=by decide
 have s:kx 2 3=1141296:=by decide
 have k:ky 2 3=993690:=by decide
 have t:kx 2 4=-290550:=by decide
 have r:ky 2 4=1484505:=by decide
 have l:kx 2 5=-1431846:=by decide
 have p:ky 2 5=490815:=by decide
 unfold l5 at h;simp only [Ei.mul,ax] at h;have g:∀i,hx q 2 i=3*cx q 2+kx 2 i:=λ i=>qk q 2 i;have f:∀i,hy q 2 i=3*cy q 2+ky 2 i:=λ i=>qj q 2 i;have C:=h.1;have D:=h.2.1;have A:=h.2.2;refine ⟨by omega,λ i w=>?_,⟨5,by decide,?_⟩,⟨2,by decide,?_⟩,⟨1,by decide,?_⟩,⟨4,by decide,?_⟩⟩
 ·rcases lt6 w with rfl | rfl | rfl | rfl | rfl | rfl<;>simp only [crs,g,f,u,o,c,s,t,l,n,m,j,k,r,p]<;>omega
 ·simp only [g,u,o,c,s,t,l]; omega
 ·simp only [g,u,o,c,s,t,l]; omega
 ·simp only [f,n,m,j,k,r,p]; omega
 simp only [f,n,m,j,k,r,p]; omega
theorem a5f (x y:Int):vt x y (l8 x y 3) 3:=by
 have h:=m9 ((ax x y).mul (i8 (12-3)).conj) (d:=2340*7^(12-3)) (by decide);have e:(i8 (12-3)).conj=⟨-5777,-1026⟩:=by decide
 have z:(2340*7^(12-3):Int)=94427440380:=by decide
 have v:i8 (12-3)=⟨-6803,1026⟩:=by decide
 unfold l8;generalize Ei.round _ _=q at *;rw [e,z] at h;have ex:cx q 3=52*(-6803*q.a-1026*q.b)+26*(-6803*q.b+1026*q.a+1026*q.b):=by simp only [cx,v,Ei.mul]
 have B:cy q 3=45*(-6803*q.b+1026*q.a+1026*q.b):=by simp only [cy,v,Ei.mul]
 have u:kx 3 0=-530634:=by decide
 have n:ky 3 0=-213795:=by decide
 have o:kx 3 1=-80028:=by decide
 have m:ky 3 1=-566100:=by decide
 have c:kx 3 2=450606:=by decide
 have j:ky 3 2=-352305:=by decide
 have s:kx 3 3=530634:=by decide
 have k:ky 3 3=213795:=by decide
 have t:kx 3 4=80028:=by decide
 have r:ky 3 4=566100:=by decide
 have l:kx 3 5=-450606:=by decide
 have p:ky 3 5=352305:=by decide
 unfold l5 at h;simp only [Ei.mul,ax] at h;have g:∀i,hx q 3 i=3*cx q 3+kx 3 i:=λ i=>qk q 3 i;have f:∀i,hy q 3 i=3*cy q 3+ky 3 i:=λ i=>qj q 3 i;have C:=h.1;have D:=h.2.1;have A:=h.2.2;refine ⟨by omega,λ i w=>?_,⟨0,by decide,?_⟩,⟨3,by decide,?_⟩,⟨1,by decide,?_⟩,⟨4,by decide,?_⟩⟩
 ·rcases lt6 w with rfl | rfl | rfl | rfl | rfl | rfl<;>simp only [crs,g,f,u,o,c,s,t,l,n,m,j,k,r,p]<;>omega
 ·simp only [g,u,o,c,s,t,l]; omega
 ·simp only [g,u,o,c,s,t,l]; omega
 ·simp only [f,n,m,j,k,r,p]; omega
 simp only [f,n,m,j,k,r,p]; omega
theorem a5e (x y:Int):vt x y (l8 x y 4) 4:=by
 have h:=m9 ((ax x y).mul (i8 (12-4)).conj) (d:=2340*7^(12-4)) (by decide);have e:(i8 (12-4)).conj=⟨-1504,-1265⟩:=by decide
 have z:(2340*7^(12-4):Int)=13489634340:=by decide
 have v:i8 (12-4)=⟨-2769,1265⟩:=by decide
 unfold l8;generalize Ei.round _ _=q at *;rw [e,z] at h;have ex:cx q 4=52*(-2769*q.a-1265*q.b)+26*(-2769*q.b+1265*q.a+1265*q.b):=by simp only [cx,v,Ei.mul]
 have B:cy q 4=45*(-2769*q.b+1265*q.a+1265*q.b):=by simp only [cy,v,Ei.mul]
 have u:kx 4 0=-215982:=by decide
 have n:ky 4 0=-10755:=by decide
 have o:kx 4 1=-98670:=by decide
 have m:ky 4 1=-192285:=by decide
 have c:kx 4 2=117312:=by decide
 have j:ky 4 2=-181530:=by decide
 have s:kx 4 3=215982:=by decide
 have k:ky 4 3=10755:=by decide
 have t:kx 4 4=98670:=by decide
 have r:ky 4 4=192285:=by decide
 have l:kx 4 5=-117312:=by decide
 have p:ky 4 5=181530:=by decide
 unfold l5 at h;simp only [Ei.mul,ax] at h;have g:∀i,hx q 4 i=3*cx q 4+kx 4 i:=λ i=>qk q 4 i;have f:∀i,hy q 4 i=3*cy q 4+ky 4 i:=λ i=>qj q 4 i;have C:=h.1;have D:=h.2.1;have A:=h.2.2;refine ⟨by omega,λ i w=>?_,⟨0,by decide,?_⟩,⟨3,by decide,?_⟩,⟨1,by decide,?_⟩,⟨4,by decide,?_⟩⟩
 ·rcases lt6 w with rfl | rfl | rfl | rfl | rfl | rfl<;>simp only [crs,g,f,u,o,c,s,t,l,n,m,j,k,r,p]<;>omega
 ·simp only [g,u,o,c,s,t,l]; omega
 ·simp only [g,u,o,c,s,t,l]; omega
 ·simp only [f,n,m,j,k,r,p]; omega
 simp only [f,n,m,j,k,r,p]; omega
theorem a5d (x y:Int):vt x y (l8 x y 5) 5:=by
 have h:=m9 ((ax x y).mul (i8 (12-5)).conj) (d:=2340*7^(12-5)) (by decide);have e:(i8 (12-5)).conj=⟨-249,-757⟩:=by decide
 have z:(2340*7^(12-5):Int)=1927090620:=by decide
 have v:i8 (12-5)=⟨-1006,757⟩:=by decide
 unfold l8;generalize Ei.round _ _=q at *;rw [e,z] at h;have ex:cx q 5=52*(-1006*q.a-757*q.b)+26*(-1006*q.b+757*q.a+757*q.b):=by simp only [cx,v,Ei.mul]
 have B:cy q 5=45*(-1006*q.b+757*q.a+757*q.b):=by simp only [cy,v,Ei.mul]
 have u:kx 5 0=-78468:=by decide
 have n:ky 5 0=22860:=by decide
 have o:kx 5 1=-59046:=by decide
 have m:ky 5 1=-56475:=by decide
 have c:kx 5 2=19422:=by decide
 have j:ky 5 2=-79335:=by decide
 have s:kx 5 3=78468:=by decide
 have k:ky 5 3=-22860:=by decide
 have t:kx 5 4=59046:=by decide
 have r:ky 5 4=56475:=by decide
 have l:kx 5 5=-19422:=by decide
 have p:ky 5 5=79335:=by decide
 unfold l5 at h;simp only [Ei.mul,ax] at h;have g:∀i,hx q 5 i=3*cx q 5+kx 5 i:=λ i=>qk q 5 i;have f:∀i,hy q 5 i=3*cy q 5+ky 5 i:=λ i=>qj q 5 i;have C:=h.1;have D:=h.2.1;have A:=h.2.2;refine ⟨by omega,λ i w=>?_,⟨0,by decide,?_⟩,⟨3,by decide,?_⟩,⟨2,by decide,?_⟩,⟨5,by decide,?_⟩⟩
 ·rcases lt6 w with rfl | rfl | rfl | rfl | rfl | rfl<;>simp only [crs,g,f,u,o,c,s,t,l,n,m,j,k,r,p]<;>omega
 ·simp only [g,u,o,c,s,t,l]; omega
 ·simp only [g,u,o,c,s,t,l]; omega
 ·simp only [f,n,m,j,k,r,p]; omega
 simp only [f,n,m,j,k,r,p]; omega
theorem a5c (x y:Int):vt x y (l8 x y 6) 6:=by
 have h:=m9 ((ax x y).mul (i8 (12-6)).conj) (d:=2340*7^(12-6)) (by decide);have e:(i8 (12-6)).conj=⟨37,-360⟩:=by decide
 have z:(2340*7^(12-6):Int)=275298660:=by decide
 have v:i8 (12-6)=⟨-323,360⟩:=by decide
 unfold l8;generalize Ei.round _ _=q at *;rw [e,z] at h;have ex:cx q 6=52*(-323*q.a-360*q.b)+26*(-323*q.b+360*q.a+360*q.b):=by simp only [cx,v,Ei.mul]
 have B:cy q 6=45*(-323*q.b+360*q.a+360*q.b):=by simp only [cy,v,Ei.mul]
 have u:kx 6 0=-25194:=by decide
 have n:ky 6 0=17865:=by decide
 have o:kx 6 1=-28080:=by decide
 have m:ky 6 1=-12870:=by decide
 have c:kx 6 2=-2886:=by decide
 have j:ky 6 2=-30735:=by decide
 have s:kx 6 3=25194:=by decide
 have k:ky 6 3=-17865:=by decide
 have t:kx 6 4=28080:=by decide
 have r:ky 6 4=12870:=by decide
 have l:kx 6 5=2886:=by decide
 have p:ky 6 5=30735:=by decide
 unfold l5 at h;simp only [Ei.mul,ax] at h;have g:∀i,hx q 6 i=3*cx q 6+kx 6 i:=λ i=>qk q 6 i;have f:∀i,hy q 6 i=3*cy q 6+ky 6 i:=λ i=>qj q 6 i;have C:=h.1;have D:=h.2.1;have A:=h.2.2;refine ⟨by omega,λ i w=>?_,⟨1,by decide,?_⟩,⟨4,by decide,?_⟩,⟨2,by decide,?_⟩,⟨5,by decide,?_⟩⟩
 ·rcases lt6 w with rfl | rfl | rfl | rfl | rfl | rfl<;>simp only [crs,g,f,u,o,c,s,t,l,n,m,j,k,r,p]<;>omega
 ·simp only [g,u,o,c,s,t,l]; omega
 ·simp only [g,u,o,c,s,t,l]; omega
 ·simp only [f,n,m,j,k,r,p]; omega
 simp only [f,n,m,j,k,r,p]; omega
theorem a5b (x y:Int):vt x y (l8 x y 7) 7:=by
 have h:=m9 ((ax x y).mul (i8 (12-7)).conj) (d:=2340*7^(12-7)) (by decide);have e:(i8 (12-7)).conj=⟨62,-149⟩:=by decide
 have z:(2340*7^(12-7):Int)=39328380:=by decide
 have v:i8 (12-7)=⟨-87,149⟩:=by decide
 unfold l8;generalize Ei.round _ _=q at *;rw [e,z] at h;have ex:cx q 7=52*(-87*q.a-149*q.b)+26*(-87*q.b+149*q.a+149*q.b):=by simp only [cx,v,Ei.mul]
 have B:cy q 7=45*(-87*q.b+149*q.a+149*q.b):=by simp only [cy,v,Ei.mul]
 have u:kx 7 0=-6786:=by decide
 have n:ky 7 0=9495:=by decide
 have o:kx 7 1=-11622:=by decide
 have m:ky 7 1=-1125:=by decide
 have c:kx 7 2=-4836:=by decide
 have j:ky 7 2=-10620:=by decide
 have s:kx 7 3=6786:=by decide
 have k:ky 7 3=-9495:=by decide
 have t:kx 7 4=11622:=by decide
 have r:ky 7 4=1125:=by decide
 have l:kx 7 5=4836:=by decide
 have p:ky 7 5=10620:=by decide
 unfold l5 at h;simp only [Ei.mul,ax] at h;have g:∀i,hx q 7 i=3*cx q 7+kx 7 i:=λ i=>qk q 7 i;have f:∀i,hy q 7 i=3*cy q 7+ky 7 i:=λ i=>qj q 7 i;have C:=h.1;have D:=h.2.1;have A:=h.2.2;refine ⟨by omega,λ i w=>?_,⟨1,by decide,?_⟩,⟨4,by decide,?_⟩,⟨2,by decide,?_⟩,⟨5,by decide,?_⟩⟩
 ·rcases lt6 w with rfl | rfl | rfl | rfl | rfl | rfl<;>simp only [crs,g,f,u,o,c,s,t,l,n,m,j,k,r,p]<;>omega
 ·simp only [g,u,o,c,s,t,l]; omega
 ·simp only [g,u,o,c,s,t,l]; omega
 ·simp only [f,n,m,j,k,r,p]; omega
 simp only [f,n,m,j,k,r,p]; omega
theorem a5a (x y:Int):vt x y (l8 x y 8) 8:=by
 have h:=m9 ((ax x y).mul (i8 (12-8)).conj) (d:=2340*7^(12-8)) (by decide);have e:(i8 (12-8)).conj=⟨39,-55⟩:=by decide
 have z:(2340*7^(12-8):Int)=5618340:=by decide
 have v:i8 (12-8)=⟨-16,55⟩:=by decide
 unfold l8;generalize Ei.round _ _=q at *;rw [e,z] at h;have ex:cx q 8=52*(-16*q.a-55*q.b)+26*(-16*q.b+55*q.a+55*q.b):=by simp only [cx,v,Ei.mul]
 have B:cy q 8=45*(-16*q.b+55*q.a+55*q.b):=by simp only [cy,v,Ei.mul]
 have u:kx 8 0=-1248:=by decide
 have n:ky 8 0=4230:=by decide
 have o:kx 8 1=-4290:=by decide
 have m:ky 8 1=1035:=by decide
 have c:kx 8 2=-3042:=by decide
 have j:ky 8 2=-3195:=by decide
 have s:kx 8 3=1248:=by decide
 have k:ky 8 3=-4230:=by decide
 have t:kx 8 4=4290:=by decide
 have r:ky 8 4=-1035:=by decide
 have l:kx 8 5=3042:=by decide
 have p:ky 8 5=3195:=by decide
 unfold l5 at h;simp only [Ei.mul,ax] at h;have g:∀i,hx q 8 i=3*cx q 8+kx 8 i:=λ i=>qk q 8 i;have f:∀i,hy q 8 i=3*cy q 8+ky 8 i:=λ i=>qj q 8 i;have C:=h.1;have D:=h.2.1;have A:=h.2.2;refine ⟨by omega,λ i w=>?_,⟨1,by decide,?_⟩,⟨4,by decide,?_⟩,⟨3,by decide,?_⟩,⟨0,by decide,?_⟩⟩
 ·rcases lt6 w with rfl | rfl | rfl | rfl | rfl | rfl<;>simp only [crs,g,f,u,o,c,s,t,l,n,m,j,k,r,p]<;>omega
 ·simp only [g,u,o,c,s,t,l]; omega
 ·simp only [g,u,o,c,s,t,l]; omega
 ·simp only [f,n,m,j,k,r,p]; omega
 simp only [f,n,m,j,k,r,p]; omega
theorem a49 (x y:Int):vt x y (l8 x y 9) 9:=by
 have h:=m9 ((ax x y).mul (i8 (12-9)).conj) (d:=2340*7^(12-9)) (by decide);have e:(i8 (12-9)).conj=⟨19,-18⟩:=by decide
 have z:(2340*7^(12-9):Int)=802620:=by decide
 have v:i8 (12-9)=⟨1,18⟩:=by decide
 unfold l8;generalize Ei.round _ _=q at *;rw [e,z] at h;have ex:cx q 9=52*(1*q.a-18*q.b)+26*(1*q.b+18*q.a+18*q.b):=by simp only [cx,v,Ei.mul]
 have B:cy q 9=45*(1*q.b+18*q.a+18*q.b):=by simp only [cy,v,Ei.mul]
 have u:kx 9 0=78:=by decide
 have n:ky 9 0=1665:=by decide
 have o:kx 9 1=-1404:=by decide
 have m:ky 9 1=900:=by decide
 have c:kx 9 2=-1482:=by decide
 have j:ky 9 2=-765:=by decide
 have s:kx 9 3=-78:=by decide
 have k:ky 9 3=-1665:=by decide
 have t:kx 9 4=1404:=by decide
 have r:ky 9 4=-900:=by decide
 have l:kx 9 5=1482:=by decide
 have p:ky 9 5=765:=by decide
 unfold l5 at h;simp only [Ei.mul,ax] at h;have g:∀i,hx q 9 i=3*cx q 9+kx 9 i:=λ i=>qk q 9 i;have f:∀i,hy q 9 i=3*cy q 9+ky 9 i:=λ i=>qj q 9 i;have C:=h.1;have D:=h.2.1;have A:=h.2.2;refine ⟨by omega,λ i w=>?_,⟨2,by decide,?_⟩,⟨5,by decide,?_⟩,⟨3,by decide,?_⟩,⟨0,by decide,?_⟩⟩
 ·rcases lt6 w with rfl | rfl | rfl | rfl | rfl | rfl<;>simp only [crs,g,f,u,o,c,s,t,l,n,m,j,k,r,p]<;>omega
 ·simp only [g,u,o,c,s,t,l]; omega
 ·simp only [g,u,o,c,s,t,l]; omega
 ·simp only [f,n,m,j,k,r,p]; omega
 simp only [f,n,m,j,k,r,p]; omega
theorem a29 (x y:Int):vt x y (l8 x y 10) 10:=by
 have h:=m9 ((ax x y).mul (i8 (12-10)).conj) (d:=2340*7^(12-10)) (by decide);have e:(i8 (12-10)).conj=⟨8,-5⟩:=by decide
 have z:(2340*7^(12-10):Int)=114660:=by decide
 have v:i8 (12-10)=⟨3,5⟩:=by decide
 unfold l8;generalize Ei.round _ _=q at *;rw [e,z] at h;have ex:cx q 10=52*(3*q.a-5*q.b)+26*(3*q.b+5*q.a+5*q.b):=by simp only [cx,v,Ei.mul]
 have B:cy q 10=45*(3*q.b+5*q.a+5*q.b):=by simp only [cy,v,Ei.mul]
 have u:kx 10 0=234:=by decide
 have n:ky 10 0=585:=by decide
 have o:kx 10 1=-390:=by decide
 have m:ky 10 1=495:=by decide
 have c:kx 10 2=-624:=by decide
 have j:ky 10 2=-90:=by decide
 have s:kx 10 3=-234:=by decide
 have k:ky 10 3=-585:=by decide
 have t:kx 10 4=390:=by decide
 have r:ky 10 4=-495:=by decide
 have l:kx 10 5=624:=by decide
 have p:ky 10 5=90:=by decide
 unfold l5 at h;simp only [Ei.mul,ax] at h;have g:∀i,hx q 10 i=3*cx q 10+kx 10 i:=λ i=>qk q 10 i;have f:∀i,hy q 10 i=3*cy q 10+ky 10 i:=λ i=>qj q 10 i;have C:=h.1;have D:=h.2.1;have A:=h.2.2;refine ⟨by omega,λ i w=>?_,⟨2,by decide,?_⟩,⟨5,by decide,?_⟩,⟨3,by decide,?_⟩,⟨0,by decide,?_⟩⟩
 ·rcases lt6 w with rfl | rfl | rfl | rfl | rfl | rfl<;>simp only [crs,g,f,u,o,c,s,t,l,n,m,j,k,r,p]<;>omega
 ·simp only [g,u,o,c,s,t,l]; omega
 ·simp only [g,u,o,c,s,t,l]; omega
 ·simp only [f,n,m,j,k,r,p]; omega
 simp only [f,n,m,j,k,r,p]; omega
theorem a28 (x y:Int):vt x y (l8 x y 11) 11:=by
 have h:=m9 ((ax x y).mul (i8 (12-11)).conj) (d:=2340*7^(12-11)) (by decide);have e:(i8 (12-11)).conj=⟨3,-1⟩:=by decide
 have z:(2340*7^(12-11):Int)=16380:=by decide
 have v:i8 (12-11)=⟨2,1⟩:=by decide
 unfold l8;generalize Ei.round _ _=q at *;rw [e,z] at h;have ex:cx q 11=52*(2*q.a-1*q.b)+26*(2*q.b+1*q.a+1*q.b):=by simp only [cx,v,Ei.mul]
 have B:cy q 11=45*(2*q.b+1*q.a+1*q.b):=by simp only [cy,v,Ei.mul]
 have u:kx 11 0=156:=by decide
 have n:ky 11 0=180:=by decide
 have o:kx 11 1=-78:=by decide
 have m:ky 11 1=225:=by decide
 have c:kx 11 2=-234:=by decide
 have j:ky 11 2=45:=by decide
 have s:kx 11 3=-156:=by decide
 have k:ky 11 3=-180:=by decide
 have t:kx 11 4=78:=by decide
 have r:ky 11 4=-225:=by decide
 have l:kx 11 5=234:=by decide
 have p:ky 11 5=-45:=by decide
 unfold l5 at h;simp only [Ei.mul,ax] at h;have g:∀i,hx q 11 i=3*cx q 11+kx 11 i:=λ i=>qk q 11 i;have f:∀i,hy q 11 i=3*cy q 11+ky 11 i:=λ i=>qj q 11 i;have C:=h.1;have D:=h.2.1;have A:=h.2.2;refine ⟨by omega,λ i w=>?_,⟨2,by decide,?_⟩,⟨5,by decide,?_⟩,⟨4,by decide,?_⟩,⟨1,by decide,?_⟩⟩
 ·rcases lt6 w with rfl | rfl | rfl | rfl | rfl | rfl<;>simp only [crs,g,f,u,o,c,s,t,l,n,m,j,k,r,p]<;>omega
 ·simp only [g,u,o,c,s,t,l]; omega
 ·simp only [g,u,o,c,s,t,l]; omega
 ·simp only [f,n,m,j,k,r,p]; omega
 simp only [f,n,m,j,k,r,p]; omega
theorem a27 (x y:Int):vt x y (l8 x y 12) 12:=by
 have h:=m9 ((ax x y).mul (i8 (12-12)).conj) (d:=2340*7^(12-12)) (by decide);have e:(i8 (12-12)).conj=⟨1,0⟩:=by decide
 have z:(2340*7^(12-12):Int)=2340:=by decide
 have v:i8 (12-12)=⟨1,0⟩:=by decide
 unfold l8;generalize Ei.round _ _=q at *;rw [e,z] at h;have ex:cx q 12=52*(1*q.a-0*q.b)+26*(1*q.b+0*q.a+0*q.b):=by simp only [cx,v,Ei.mul]
 have B:cy q 12=45*(1*q.b+0*q.a+0*q.b):=by simp only [cy,v,Ei.mul]
 have u:kx 12 0=78:=by decide
 have n:ky 12 0=45:=by decide
 have o:kx 12 1=0:=by decide
 have m:ky 12 1=90:=by decide
 have c:kx 12 2=-78:=by decide
 have j:ky 12 2=45:=by decide
 have s:kx 12 3=-78:=by decide
 have k:ky 12 3=-45:=by decide
 have t:kx 12 4=0:=by decide
 have r:ky 12 4=-90:=by decide
 have l:kx 12 5=78:=by decide
 have p:ky 12 5=-45:=by decide
 unfold l5 at h;simp only [Ei.mul,ax] at h;have g:∀i,hx q 12 i=3*cx q 12+kx 12 i:=λ i=>qk q 12 i;have f:∀i,hy q 12 i=3*cy q 12+ky 12 i:=λ i=>qj q 12 i;have C:=h.1;have D:=h.2.1;have A:=h.2.2;refine ⟨by omega,λ i w=>?_,⟨2,by decide,?_⟩,⟨0,by decide,?_⟩,⟨4,by decide,?_⟩,⟨1,by decide,?_⟩⟩
 ·rcases lt6 w with rfl | rfl | rfl | rfl | rfl | rfl<;>simp only [crs,g,f,u,o,c,s,t,l,n,m,j,k,r,p]<;>omega
 ·simp only [g,u,o,c,s,t,l]; omega
 ·simp only [g,u,o,c,s,t,l]; omega
 ·simp only [f,n,m,j,k,r,p]; omega
 simp only [f,n,m,j,k,r,p]; omega
theorem a50 (x y:Int) (r:Nat) (a:r<=12):vt x y (l8 x y r) r:=by
 match r,a with
 | 0,_=>exact a5i x y
 | 1,_=>exact a5h x y
 | 2,_=>exact a5g x y
 | 3,_=>exact a5f x y
 | 4,_=>exact a5e x y
 | 5,_=>exact a5d x y
 | 6,_=>exact a5c x y
 | 7,_=>exact a5b x y
 | 8,_=>exact a5a x y
 | 9,_=>exact a49 x y
 | 10,_=>exact a29 x y
 | 11,_=>exact a28 x y
 | 12,_=>exact a27 x y
 | r+13,h=>omega

variable {r:Nat}
theorem lb (a:r<=12):(i8 (12-r)).In 120000:=mh _ (by omega)

def aeu:Mk P0 f118:={ x:=_ }
def aev:Mk P0 f117:={ x:=_ }
def aew:Mk P0 f119:={ x:=_ }
def aex:Mk P0 f120:={ x:=_ }
def ahq:Mk P0 f79:={ x:=_ }
def aj0:Mk P0 f49:={ x:=_ }
theorem aq5 (h:z.In n) (c:2<=n):(pr z).In n:=by
 obtain ⟨l,_,a,d,b⟩:=acw z;generalize pr z=q at *;unfold Ei.H at a;unfold Ei.In at *;omega
theorem aj7 (k:Nat) (h:z.In n) (a:2<=n):(anc k z).In n:=by
 induction k generalizing z with
 | zero=>exact h
 | succ k ih=>exact ih (aq5 h a)
theorem aua (z:Ei):(lft z).In 1:=by
 obtain ⟨l,e,a,_⟩:=acw z;rw [e];exact a.in
theorem ayo (z:Ei) (h:z.In 1073741824):a9 P0 118 [z.v] [] (.tup [(pr z).v,(lft z).v]) []:=by
 refine aeu.t func118 ?_
 push_cast [aeu,Ei.v,Ei.rv,zaa]
 refine b7 (as':=[y7.v]) rfl ?_;refine a7 (aqc y7 (by unfold Ei.In; decide)) rfl trivial ?_
 push_cast [Ei.v,Ei.rv]
 have a:(z.mul ⟨3,-1⟩).In 9663676416:=(aa7 h (show (⟨3,-1⟩:Ei).In 3 by unfold Ei.In; decide)).mono (by decide);refine b7 (as':=[z.v,Ei.v ⟨3,-1⟩]) rfl ?_;refine a7 (af2 _ _ (h.mono (by decide)) (show (⟨3,-1⟩:Ei).In _ by unfold Ei.In; decide) (a.mono (by decide))) rfl trivial ?_
 push_cast [Ei.v,Ei.rv]
 refine b7 (as':=[(z.mul ⟨3,-1⟩).v,int .i64 7]) rfl ?_;refine a7 (an0 _ 7 (a.mono (by decide)) (by decide)) rfl trivial ?_;rw [show (z.mul ⟨3,-1⟩).round 7=pr z from rfl];have c:(pr z).In 1073741824:=aq5 h (by decide);have b:((pr z).mul y7).In 6442450944:=(aa7 c (show y7.In 2 by unfold Ei.In; decide)).mono (by decide)
 push_cast [Ei.v,Ei.rv]
 refine b7 (as':=[(pr z).v,y7.v]) rfl ?_;refine a7 (af2 _ _ (c.mono (by decide)) (show y7.In _ by unfold Ei.In; decide) (b.mono (by decide))) rfl trivial ?_
 push_cast [Ei.v,Ei.rv]
 refine b7 (as':=[z.v,((pr z).mul y7).v]) rfl ?_;refine a7 (a3p _ _ (h.mono (by decide)) (b.mono (by decide)) ((aua z).mono (by decide))) rfl trivial ?_;rw [show z.sub ((pr z).mul y7)=lft z from rfl]
 push_cast [Ei.v,Ei.rv]
 kernel_rfl
def cel (r:Int) (z:Ei):AV:=.r (.agg [.v (.int .i64 r),.v (.int .i64 z.a),.v (.int .i64 z.b)])
instance (z:Ei) (n:Int):Decidable (z.In n):=inferInstanceAs (Decidable (_/\_))
def mn (r:Int) (z:Ei):Bool:=decide ((0<=r/\r<=12)/\z.In 1073741824)
theorem ayq (r:Int) (z:Ei) (f:z.In M63):a9 P0 117 [cel r z] [] (bl (mn r z)) []:=by
 refine aev.t func117 ?_
 push_cast [aev,cel,zaa]
 by_cases g:0<=r
 ·by_cases h:r<=12
  ·have b:decide (r>=0)=true:=by simp; omega
   have e:decide (r<=12)=true:=by simp; omega
   push_cast [b,e]
   refine a7 (adk _ _ f.ok.1 (by decide)) rfl trivial ?_;by_cases d:-1073741824<=z.a/\z.a<=1073741824
   ·rw [decide_eq_true d]
    push_cast
    refine a7 (adk _ _ f.ok.2 (by decide)) rfl trivial ?_
    push_cast
    refine sa ?_;simp [mn,Ei.In,g,h,d.1,d.2]
   rw [decide_eq_false d]
   push_cast
   have:mn r z=false:=by simp only [mn,Ei.In]; exact decide_eq_false λ c=>d c.2.1
   rw [this]
  have b:decide (r>=0)=true:=by simp; omega
  have e:decide (r<=12)=false:=by simp; omega
  push_cast [b,e]
  have:mn r z=false:=by simp only [mn,decide_eq_false_iff_not]; omega
  rw [this]
 have b:decide (r>=0)=false:=by simp; omega
 push_cast [b]
 have:mn r z=false:=by simp only [mn,decide_eq_false_iff_not]; omega
 rw [this]
theorem an3 (i:Nat) (h:i<6):af7 (uni i)=i+1:=by
 rcases lt6 h with rfl | rfl | rfl | rfl | rfl | rfl<;>decide
theorem aqd (l:Ei) (h:∀j:Nat,j<6->uni j≠l):af7 l=0:=by
 have e:=h 0 (by decide); have a:=h 1 (by decide); have f:=h 2 (by decide); have d:=h 3 (by decide); have b:=h 4 (by decide); have c:=h 5 (by decide);unfold af7;rw [if_neg (show ¬l=⟨1,0⟩ from Ne.symm e),if_neg (show ¬l=⟨0,1⟩ from Ne.symm a),if_neg (show ¬l=⟨-1,1⟩ from Ne.symm f),if_neg (show ¬l=⟨-1,0⟩ from Ne.symm d),if_neg (show ¬l=⟨0,-1⟩ from Ne.symm b),if_neg (show ¬l=⟨1,-1⟩ from Ne.symm c)]
theorem a0r (l:Ei):a9 P0 119 [l.v] [] (int .i64 (af7 l)) []:=by
 refine aew.t func119 ?_
 push_cast [aew,Ei.v,Ei.rv,zaa]
 refine c7 [(4,false),(1,false)] (λ vs pos d=>∃i:Int,(0<=i/\i<=6)/\(∀j:Nat,(j:Int)<i->uni j≠l)/\vs=[int .i64 i,.ptr 2000000 0 0]/\pos=[]/\d=[.box [int .i64 l.a,int .i64 l.b]])
  (λ vs _ _=>match vs with | .r (.v (.int _ j))::_=>(6-j).toNat | _=>0) rfl ?_ ?_
 ·push_cast
  exact ⟨0,by omega,λ j f=>by omega,rfl⟩
 rintro vs pos d ⟨i,k,f,rfl,rfl,rfl⟩
 push_cast
 refine b9 (λ h=>?_) (λ h=>?_)
 ·simp only [decide_eq_true_eq] at h
  push_cast
  refine g9 (aqa i ⟨k.1,h⟩) rfl trivial ?_
  push_cast [Ei.v,Ei.rv]
  refine ⟨by kernel_rfl,b9 (λ c=>?_) (λ c=>?_)⟩
  ·have e:uni i.toNat=l:=by
    simp only [Bool.and_eq_true,beq_iff_eq] at c;exact Ei.ext' c.1 c.2
   push_cast
   rw [<- e,an3 _ (by omega),a6 (by omega),show ((i.toNat+1:Nat):Int)=i+1 by omega]
  have e:uni i.toNat≠l:=λ e=>by rw [e] at c; simp at c
  push_cast
  rw [a6 (by omega)];refine ⟨⟨i+1,by omega,λ j g=>?_,rfl⟩,by omega⟩;by_cases m:(j:Int)=i
  ·rw [show j=i.toNat by omega]; exact e
  exact f j (by omega)
 have n:i=6:=by simp at h; omega
 subst n
 push_cast
 rw [aqd l λ j o=>f j (by omega)]
 rfl
theorem a3h (n:Int):a9 P0 120 [int .i64 n] [] (bl (decide (-512<=n/\n<=511))) []:=by
 refine aex.t func120 ?_
 push_cast [aex,zaa]
 refine sa ?_;by_cases a:-512<=n<;>by_cases b:n<512<;>simp [a,b]<;>omega
def bp (r:Nat) (z:Ei) (i:Nat):List AV:=(List.range 13).map λ j=>int .i64 (if i<j/\j<=r then (dg (anc (r-j) z):Int) else 0)
theorem su (r:Nat) (z:Ei) (i:Nat):(bp r z i).length=13:=by simp [bp]
theorem aum (r:Nat) (z:Ei):bp r z r=[int .i64 0,int .i64 0,int .i64 0,int .i64 0,int .i64 0,int .i64 0,int .i64 0,int .i64 0,int .i64 0,int .i64 0,int .i64 0,int .i64 0,int .i64 0]:=by
 have:∀j,¬(r<j/\j<=r):=λ j=>by omega
 simp only [bp,this,if_false]
 rfl
theorem aun (r:Nat) (z:Ei) (i:Nat) (l:1<=i) (h:i<=r) (m:r<=12):c8 (bp r z i) i [int .i64 (dg (anc (r-i) z))]=bp r z (i-1):=by
 have b:=su r z i;apply List.ext_getElem
 ·simp [c8,b,su]; omega
 intro j g f;rw [su] at f;have e:∀(k:Nat) (a:k<(bp r z i).length),(bp r z i)[k]=int .i64 (if i<k/\k<=r then (dg (anc (r-k) z):Int) else 0):=λ k a=>by simp [bp]
 have e':∀(k:Nat) (a:k<(bp r z (i-1)).length),(bp r z (i-1))[k]=int .i64 (if i-1<k/\k<=r then (dg (anc (r-k) z):Int) else 0):=λ k a=>by simp [bp]
 rw [e'];have d:min i 13=i:=by omega
 simp only [c8,List.getElem_append,zar,List.length_take,List.length_singleton,b,List.getElem_take,List.getElem_drop,e,d];by_cases c:j<i
 ·rw [dif_pos (by omega),dif_pos c,if_neg (by omega),if_neg (by omega)]
 by_cases c2:j=i
 ·subst c2;rw [dif_pos (by omega),dif_neg (by omega),if_pos (by omega)];simp
 rw [dif_neg (by omega)];rw [show i+1+(j-(i+1))=j by omega];by_cases n:j<=r
 ·rw [if_pos (by omega),if_pos (by omega)]
 rw [if_neg (by omega),if_neg (by omega)]
theorem aue (f:Nat->Int) (l:List Nat):o4 (l.map λ j=>int .i64 (f j))=[]:=by
 induction l with
 | nil=>rfl
 | cons a l ih=>show z6 _++o4 _=[]; rw [ih]; rfl
theorem awp (F:Ren) (f:Nat->Int) (l:List Nat):imL F (l.map λ j=>int .i64 (f j))=l.map λ j=>int .i64 (f j):=by
 induction l with
 | nil=>rfl
 | cons a l ih=>show imV F _::imL F _ = _; rw [ih]; rfl
theorem ab3 (r:Nat) (z:Ei) (i:Nat):o4 (bp r z i)=[]:=aue _ _
theorem ad7 (F:Ren) (r:Nat) (z:Ei) (i:Nat):imL F (bp r z i)=bp r z i:=awp F _ _
theorem asn (r:Nat) (z:Ei) (i:Nat):List.take 13 (bp r z i)=bp r z i:=List.take_of_length_le (by rw [su]; exact Nat.le_refl _)
def aec (r:Nat) (z:Ei) (i:Nat):List RV:=(List.range 13).map λ j=>.v (.int .i64 (if i<j/\j<=r then (dg (anc (r-j) z):Int) else 0))
theorem avn (ob:Obs) (f:Nat->Int) (l:List Nat):rvs ob (l.map λ j=>int .i64 (f j))=some (l.map λ j=>.v (.int .i64 (f j)),[]):=by
 induction l with
 | nil=>rfl
 | cons a l ih=>show rvs ob (_::_) = _; simp only [rvs,AV.rv,ih]; rfl
theorem avo (ob:Obs) (r:Nat) (z:Ei) (i:Nat):rvs ob (bp r z i)=some (aec r z i,[]):=avn ob _ _
theorem att (r:Nat) (z:Ei) (i:Nat):bp r z i++List.drop 13 (bp r z i)=bp r z i:=by
 rw [List.drop_of_length_le (by rw [su]; exact Nat.le_refl _),zaf]
attribute [push_cast high] avo att
attribute [push_cast high] ab3 ad7 asn su
theorem awx (r:Nat) (z:Ei) (i:Nat) (a:1<=i) (c:i<=r) (b:r<=12):List.take (0+i*1) (bp r z i)++[int .i64 (af7 (lft (anc (r-i) z)))]++List.drop (0+i*1+1) (bp r z i)=bp r z (i-1):=by
 rw [<- aun r z i a c b,c8,Nat.mul_one,zcu]
 rfl
def aj6 (q:Ei):Bool:=decide ((-512<=q.a/\q.a<=511)/\(-512<=q.b/\q.b<=511))
theorem a4l (r:Int) (z:Ei) (h:mn r z=true):a9 P0 79 [cel r z] [] (.tup [(anc r.toNat z).v,.r (.agg (aec r.toNat z 0)),bl (aj6 (anc r.toNat z))]) []:=by
 refine ahq.t func79 ?_;have g:=h;simp only [mn,decide_eq_true_eq] at g;simp only [ahq,cel,push_cast,↓reduceIte,reduceCtorEq,zB,zE,zA,zS,zL,zD,zM];refine b7 (as':=[cel r z]) rfl ?_;refine a7 (ayq r z (g.2.mono (by decide))) rfl trivial ?_;rw [h];simp only [push_cast,↓reduceIte,reduceCtorEq,zB,zE,zA,zS,zL,zD,zM];obtain ⟨⟨o,n⟩,l⟩:=g
 refine c7 [(6,false),(5,false),(3,false),(2,false)] (λ vs pos d=>∃i:Int,(0<=i/\i<=r)/\vs=[int .i64 i,.ptr 2000000 0 0,.ptr 2000001 0 0,.ptr 2000002 0 0]/\pos=[]/\d=[.box [int .i64 (anc (r-i).toNat z).a,int .i64 (anc (r-i).toNat z).b],.box (bp r.toNat z i.toNat),.box [int .i64 0,int .i64 0]])
  (λ vs _ _=>match vs with | .r (.v (.int _ j))::_=>j.toNat | _=>0) rfl ?_ ?_
 ·simp only [push_cast,↓reduceIte,reduceCtorEq,zB,zE,zA,zS,zL,zD,zM];refine ⟨r,by omega,?_⟩;rw [aum,Int.sub_self];exact ⟨rfl,rfl⟩
 rintro vs pos d ⟨i,p,rfl,rfl,rfl⟩;simp only [push_cast,↓reduceIte,reduceCtorEq,zB,zE,zA,zS,zL,zD,zM];refine b9 (λ h=>?_) (λ h=>?_)
 ·simp only [decide_eq_true_eq] at h;simp only [push_cast,↓reduceIte,reduceCtorEq,zB,zE,zA,zS,zL,zD,zM];have k:=aj7 (r-i).toNat l (by decide);refine b7 (as':=[(anc (r-i).toNat z).v]) rfl ?_;refine a7 (ayo _ k) rfl trivial ?_;simp only [Ei.v,Ei.rv,push_cast,↓reduceIte,reduceCtorEq,zB,zE,zA,zS,zL,zD,zM];refine n9 (as':=[(lft (anc (r-i).toNat z)).v]) rfl ?_;refine g9 (a0r _) rfl trivial ?_;have e:=awx r.toNat z i.toNat (by omega) (by omega) (by omega);rw [show r.toNat-i.toNat=(r-i).toNat by omega] at e;have f:pr (anc (r-i).toNat z)=anc (r-(i-1)).toNat z:=by rw [<- aiq,show (r-i).toNat+1=(r-(i-1)).toNat by omega]
  simp only [Ei.v,Ei.rv,e,push_cast,↓reduceIte,reduceCtorEq,zB,zE,zA,zS,zL,zD,zM];rw [show IntKind.i64.wrap (i-1)=i-1 from a6 (by omega),f];refine ⟨by omega,by omega,by kernel_rfl,⟨i-1,by omega,rfl,?_⟩,by omega⟩;rw [show (i-1).toNat=i.toNat-1 by omega]
 have m:i=0:=by simp at h; omega
 subst m;have k:=aj7 r.toNat l (by decide);simp only [push_cast,↓reduceIte,reduceCtorEq,zB,zE,zA,zS,zL,zD,zM];rw [show (r-0).toNat=r.toNat by omega,show zaj 0=0 from rfl];refine ⟨by kernel_rfl,?_⟩;refine g9 (a3h _) rfl trivial ?_;by_cases c:-512<=(anc r.toNat z).a/\(anc r.toNat z).a<=511
 ·rw [decide_eq_true c];simp only [push_cast,↓reduceIte,reduceCtorEq,zB,zE,zA,zS,zL,zD,zM];refine ⟨by kernel_rfl,?_⟩;refine g9 (a3h _) rfl trivial ?_;simp only [Ei.v,Ei.rv,push_cast,↓reduceIte,reduceCtorEq,zB,zE,zA,zS,zL,zD,zM];refine ⟨by kernel_rfl,?_⟩;simp [aj6,c.1,c.2];kernel_rfl
 rw [decide_eq_false c];simp only [Ei.v,Ei.rv,push_cast,↓reduceIte,reduceCtorEq,zB,zE,zA,zS,zL,zD,zM];refine ⟨by kernel_rfl,?_⟩;simp only [aj6,c,false_and,decide_false];exact ⟨by kernel_rfl,trivial⟩
theorem a42 {r:Int} (c:0<=r) (h:okc r.toNat z):mn r z=true/\aj6 (anc r.toNat z)=true:=by
 obtain ⟨e,d,b,a⟩:=h;simp only [mn,aj6,decide_eq_true_eq];exact ⟨⟨⟨c,by omega⟩,d⟩,b,a⟩
theorem a5p (x y r:Int) (h:inW x y) (a:0<=r/\r<=12):a9 P0 49 [int .i64 x,int .i64 y,int .i64 r] [] (.tup [cel r (l8 x y r.toNat),int .i64 0]) []:=by
 refine aj0.t func49 ?_
 push_cast [aj0,cel,zaa]
 refine a7 (axw x y) rfl trivial ?_;rw [decide_eq_true h]
 push_cast
 refine a7 (a20 x y r h a) rfl trivial ?_
 push_cast [Ei.v,Ei.rv]

theorem tn (h:a<2^k):a ||| b*2^k=b*2^k+a:=by
 rw [zai,<- Nat.shiftLeft_eq,Nat.shiftLeft_add_eq_or_of_lt h]
theorem p8 (n:Nat):0<8^n:=zci (by decide)
theorem a0s {d:Nat} (i:b<2^k) (p:d<8) (q:k+3<=64) (m:(a*8+7)*2^k+b<2^64) :
 (((a*8+7)*2^k+b) &&& (2^64-1-7*2^k)) ||| d*2^k=(a*8+d)*2^k+b:=by
 have r:∀j,Nat.testBit 7 j=decide (j<3):=λ j=>by
  rcases (show j=0\/j=1\/j=2\/3<=j by omega) with rfl | rfl | rfl | c
  ·rfl
  ·rfl
  ·rfl
  rw [zdc (Nat.lt_of_lt_of_le (by decide:7<2^3) (zad (by decide) c))]; simp; omega
 have g:∀j,3<=j->Nat.testBit d j=false:=λ j c=>zdc (Nat.lt_of_lt_of_le (by omega:d<2^3) (zad (by decide) c))
 have n:7*2^k<2^64:=by
  have:2^(k+3)<=2^64:=zad (by decide) q;rw [zac] at this;have:=Nat.two_pow_pos k;omega
 apply Nat.eq_of_testBit_eq;intro j;rw [Nat.testBit_or,Nat.testBit_and,show 2^64-1-7*2^k=2^64-(7*2^k+1) by omega,Nat.testBit_two_pow_sub_succ n];rw [zas _ (2^k),zas 7,zas d,zas (a*8+d)];rw [zcz _ i,zcz _ i,Nat.testBit_two_pow_mul,Nat.testBit_two_pow_mul];by_cases c:j<k
 ·simp [c,Nat.not_le.2 c];intro hx;omega
 rw [if_neg c,if_neg c];have h:k<=j:=by omega
 simp only [h,ge_iff_le,decide_true,zan];rw [show a*8+7=2^3*a+7 by omega,show a*8+d=2^3*a+d by omega,zcz a (show 7<2^3 by decide),zcz a (show d<2^3 from p),r];by_cases l:j-k<3
 ·simp [l]
 rw [g _ (by omega)];simp only [l,if_false,decide_false,zap,zam,zao];by_cases f:j<64
 ·simp [f]
 simp only [f,decide_false,Bool.and_false];apply Eq.symm;apply zdc;have e:(a*8+7)*2^k+b<2^j:=Nat.lt_of_lt_of_le m (zad (by decide) (by omega));have o:2^j=2^(j-k-3)*8*2^k:=by rw [show (8:Nat)=2^3 from rfl,<- zac,<- zac]; congr 1; omega
 rw [o] at e;have:(a*8+7)*2^k<2^(j-k-3)*8*2^k:=by omega
 have:=Nat.lt_of_mul_lt_mul_right this;omega
def kq (r:Nat) (z:Ei) (i:Nat):Nat:=((8^i-1)*8^(r-i)+val (r-i) z)*8^(12-r)+(8^(12-r)-1)
theorem ayc (r:Nat) (z:Ei) (a:r<=12):kq r z r=68719476735:=by
 unfold kq;rw [Nat.sub_self,val,Nat.pow_zero,Nat.mul_one,Nat.add_zero,Nat.sub_mul,<- zac,show r+(12-r)=12 by omega,Nat.one_mul];have:8^(12-r)<=8^12:=zad (by decide) (by omega);have:=p8 (12-r);omega
theorem ava (k:Nat) (z:Ei):val (k+1) z=dg (anc k z)*8^k+val k z:=by
 induction k generalizing z with
 | zero=>simp [val,anc]
 | succ k ih=>
   rw [val,ih (pr z),val,anc,zch];generalize dg (anc k (pr z))=e;generalize 8^k=p;generalize val k (pr z)=q;rw [zat,zae];omega
theorem ak3 (r:Nat) (z:Ei) (i:Nat) (d:i<=r) (f:r<=12):val (r-i) z*8^(12-r)+(8^(12-r)-1)<2^(36-3*i):=by
 have a:=ash (r-i) z
 have e:2^(36-3*i)=8^(r-i)*8^(12-r):=by
  rw [<- zac,show (8:Nat)=2^3 from rfl,<- zck]; congr 1; omega
 rw [e];have c:=p8 (12-r);generalize 8^(12-r)=p at *;generalize val (r-i) z=v at *;have b:(v+1)*p<=8^(r-i)*p:=zdd _ a;rw [zat] at b;omega
theorem aht (r:Nat) (z:Ei) (i:Nat) (a:i<=r) (b:r<=12):kq r z i=(8^i-1)*2^(36-3*i)+(val (r-i) z*8^(12-r)+(8^(12-r)-1)):=by
 have e:2^(36-3*i)=8^(r-i)*8^(12-r):=by
  rw [<- zac,show (8:Nat)=2^3 from rfl,<- zck]; congr 1; omega
 unfold kq;rw [e,zat,zae,Nat.add_assoc]
theorem adj (r:Nat) (z:Ei) (i:Nat) (a:i<=r) (b:r<=12):kq r z i<68719476736:=by
 rw [aht r z i a b];have h:=ak3 r z i a b
 have e:(8:Nat)^i*2^(36-3*i)=68719476736:=by
  rw [show (8:Nat)=2^3 from rfl,<- zck,<- zac,show 3*i+(36-3*i)=36 by omega]
 rw [Nat.sub_mul,e,Nat.one_mul];have:=Nat.two_pow_pos (36-3*i);have:2^(36-3*i)<=2^36:=zad (by decide) (by omega);omega
theorem aqt (r:Nat) (z:Ei) (i:Nat) (j:1<=i) (c:i<=r) (b:r<=12) :
 ((kq r z i &&& (2^64-1-7*2^(36-3*i))) ||| dg (anc (r-i) z)*2^(36-3*i))=kq r z (i-1):=by
 have h:=adj r z i c b;have a:=ak3 r z i c b;have k:=aed (anc (r-i) z)
 have f:(8:Nat)^i-1=(8^(i-1)-1)*8+7:=by
  have:(8:Nat)^i=8^(i-1)*8:=by conv=>lhs; rw [show i=i-1+1 by omega,zch]
  have:=p8 (i-1);omega
 have e:=aht r z i c b;rw [f] at e;rw [e] at h |-;rw [a0s a (by omega) (by omega) (by omega),aht r z (i-1) (by omega) b,show r-(i-1)=r-i+1 by omega,ava];have g:2^(36-3*(i-1))=8*2^(36-3*i):=by rw [show (8:Nat)=2^3 from rfl,<- zac]; congr 1; omega
 have d:8^(r-i)*8^(12-r)=2^(36-3*i):=by
  rw [<- zac,show (8:Nat)=2^3 from rfl,<- zck]; congr 1; omega
 rw [g,<- d];generalize 8^(i-1)-1=A;generalize 8^(r-i)=B;generalize 8^(12-r)=C;generalize dg (anc (r-i) z)=D;generalize val (r-i) z=V;simp only [zat,zae];omega
theorem ayb (r:Nat) (z:Ei) (f:r<=12) (A B:Nat) (i:A<1024) (h:B<1024) (c:(anc r z).a+512=A) (d:(anc r z).b+512=B) :
 ((((kq r z 0 ||| 1152921504606846976) ||| r*2^56) ||| A*2^46) ||| B*2^36)=gv r z:=by
 have g:=adj r z 0 (by omega) f
 have e:gv r z=ln r (anc r z)*2^36+kq r z 0:=by
  unfold gv kq;rw [zat,zae,<- zac,show r+(12-r)=12 by omega];simp;omega
 rw [e];generalize kq r z 0=w at *;rw [zcq,zcq,zcq,zai,zcq,zcq,zcq]
 rw [zai (B*2^36),tn (show w<2^36 from g),zai (A*2^46),tn (show B*2^36+w<2^46 by omega),zai (r*2^56),tn (show A*2^46+(B*2^36+w)<2^56 by omega),
  show (1152921504606846976:Nat)=1*2^60 from rfl,zai (1*2^60),tn (show r*2^56+(A*2^46+(B*2^36+w))<2^60 by omega)]
 unfold ln;omega

def wu:Mk P0 f72:={ x:=_ }
structure Til where
 z:Int
 x:Int
 y:Int
 r:Int
def Til.v (t:Til):AV:=.r (.agg [.v (.int .i64 t.z),.v (.int .i64 t.x),.v (.int .i64 t.y),.v (.int .i64 t.r)])
def Til.ok (t:Til):Prop:=c9 t.z/\c9 t.x/\c9 t.y/\c9 t.r
theorem ayr (k:Int) (d:0<=k) (b:k<=12):a9 P0 72 [int .i64 k] [] (int .i64 (7^k.toNat)) []:=by
 refine wu.t func72 ?_
 push_cast [wu,zaa]
 have c:=p7 k.toNat (by omega);have a:=a2b 7 k (by decide) (by unfold c9; omega);rw [if_neg (show ¬k<0 by omega)] at a;refine a7 a rfl trivial ?_
 push_cast [sm,if_pos (show c9 (7^k.toNat) by unfold c9; omega)]

def ww:Mk P0 f107:={ x:=_ }
def zu:Mk P0 f103:={ x:=_ }
def zy:Mk P0 f69:={ x:=_ }
def zc:Mk P0 f106:={ x:=_ }
def yu:Mk P0 f70:={ x:=_ }
def yt:Mk P0 f134:={ x:=_ }
def we:Mk P0 f108:={ x:=_ }
def wv:Mk P0 f71:={ x:=_ }
def wg:Mk P0 f38:={ x:=_ }
def za:Mk P0 f43:={ x:=_ }
theorem amq (a b:Int) (d:c9 a) (i:c9 b):a9 P0 107 [int .i64 a,int .i64 b] [] (.tup [int .i64 (if 0<b then a/b else 0),int .i64 (if 0<b then a%b else 0),bl (decide (0<b))]) []:=by
 refine ww.t func107 ?_
 push_cast [ww,zaa]
 refine b9 (λ h=>?_) (λ h=>?_)
 ·push_cast
  simp at h;have:¬0<b:=by omega
  simp [this]
 push_cast
 simp at h;refine ⟨by omega,by omega,by kernel_rfl,?_⟩;obtain ⟨n,j,k⟩:=ahk d h;have g:IntKind.i64.wrap (a.tdiv b)=a.tdiv b:=wrap_i64_tdiv a b d.1 d.2 (by omega);rw [g];refine b9 (λ c=>?_) (λ c=>?_)
 ·push_cast
  simp at c;obtain ⟨f,e⟩:=j c;refine aqv (yo ?_) (yo ?_) (al3 ?_)
  ·rw [if_pos h,<- f,a6];unfold c9 at d; rw [f]; omega
  ·rw [if_pos h,<- e,a6];have m:=zag a h;have l:=zah a (show b≠0 by omega);rw [e];unfold c9 at i; omega
  simp [h]
 push_cast
 simp at c;obtain ⟨f,e⟩:=k c;refine aqv (yo ?_) (yo ?_) (al3 ?_)
 ·rw [if_pos h,f]
 ·rw [if_pos h,e]
 simp [h]
theorem a2a (a b:Int) (e:c9 a) (f:c9 b):a9 P0 103 [v8 a,v8 b] [] (.tup [Ei.v ⟨a,b⟩,bl true]) []:=by
 refine zu.t func103 ?_
 push_cast [zu,v8,zaa]
 have c:=e;have d:=f;unfold c9 at c d;refine b7 (as':=[v8 a]) rfl ?_;refine a7 (akb a (by omega)) rfl trivial ?_;rw [aad e]
 push_cast
 refine b7 (as':=[v8 b]) rfl ?_;refine a7 (akb b (by omega)) rfl trivial ?_;rw [aad f]
 push_cast [Ei.v,Ei.rv]
theorem afb (x y:Ei) (hx:x.In M63) (hy:y.In M63) (c:(x.mul y).In M63):a9 P0 69 [x.v,y.v] [] (.tup [(x.mul y).v,bl true]) []:=by
 refine zy.t func69 ?_
 push_cast [zy,Ei.v,Ei.rv,zaa]
 refine a7 (acq x.b y.b hx.ok.2 hy.ok.2) rfl trivial ?_
 push_cast [v8]
 refine g9 (acq x.a y.a hx.ok.1 hy.ok.1) rfl trivial ?_
 push_cast [v8]
 refine n9 (as':=[v8 (x.b*y.b)]) rfl ?_;refine g9 (ahu _) rfl trivial ?_
 push_cast [v8]
 refine n9 (as':=[v8 (x.a*y.a),v8 (-(x.b*y.b))]) rfl ?_;refine g9 (ai6 _ _) rfl trivial ?_
 push_cast [v8]
 refine g9 (acq x.a y.b hx.ok.1 hy.ok.2) rfl trivial ?_
 push_cast [v8]
 refine g9 (acq x.b y.a hx.ok.2 hy.ok.1) rfl trivial ?_
 push_cast [v8]
 refine n9 (as':=[v8 (x.a*y.b),v8 (x.b*y.a)]) rfl ?_;refine g9 (ai6 _ _) rfl trivial ?_
 push_cast [v8]
 refine n9 (as':=[v8 (x.a*y.b+x.b*y.a),v8 (x.b*y.b)]) rfl ?_;refine g9 (ai6 _ _) rfl trivial ?_
 push_cast [v8]
 refine n9 (as':=[v8 (x.a*y.a + -(x.b*y.b)),v8 (x.a*y.b+x.b*y.a+x.b*y.b)]) rfl ?_;have e:x.a*y.a + -(x.b*y.b)=(x.mul y).a:=by simp only [Ei.mul]; omega
 have e':x.a*y.b+x.b*y.a+x.b*y.b=(x.mul y).b:=rfl;rw [e,e'];refine g9 (a2a _ _ c.ok.1 c.ok.2) rfl trivial ?_
 push_cast [Ei.v,Ei.rv]
 kernel_rfl
theorem azm (k:Int) (m:0<=k/\k<=12):a9 P0 106 [int .i64 k] [] (.tup [(i8 k.toNat).v,bl true]) []:=by
 refine zc.t func106 ?_;have d:decide (k<0)=false:=by simp; omega
 have c2:decide (k>20)=false:=by simp; omega
 push_cast [zc,zaa,d,c2]
 refine c7 [(5,false),(0,false),(4,false),(2,false)] (λ vs pos c=>∃i:Int,0<=i/\i<=k/\vs=[int .i64 i,int .i64 k,.ptr 2000000 0 0,.ptr 2000001 0 0]/\pos=[]/\c=[.box [int .i64 (i8 i.toNat).a,int .i64 (i8 i.toNat).b],.box [int .i64 0,int .i64 0]])
  (λ vs _ _=>match vs with | .r (.v (.int _ j))::_=>(k-j).toNat | _=>0) rfl ?_ ?_
 ·push_cast
  exact ⟨0,by omega,by omega,rfl,rfl⟩
 rintro vs pos c ⟨i,l,g,rfl,rfl,rfl⟩
 push_cast
 refine b9 (λ h=>?_) (λ h=>?_)
 ·simp only [decide_eq_true_eq] at h
  push_cast
  have e:=mh i.toNat (by omega);have f:=mh (i.toNat+1) (by omega);refine b7 (as':=[(i8 i.toNat).v,y7.v]) rfl ?_;refine a7 (afb _ _ (e.mono (by decide)) (by unfold Ei.In; decide) (f.mono (by decide))) rfl trivial ?_
  push_cast [Ei.v,Ei.rv]
  rw [show IntKind.i64.wrap (i+1)=i+1 from a6 (by omega)];refine ⟨⟨i+1,by omega,by omega,rfl,?_⟩,by omega⟩;rw [show (i+1).toNat=i.toNat+1 by omega]
  rfl
 simp only [decide_eq_false_iff_not] at h;have:i=k:=by omega
 subst this
 push_cast [Ei.v,Ei.rv]
theorem azk (k:Int) (a:0<=k/\k<=12):a9 P0 70 [int .i64 k] [] ((i8 k.toNat).conj.v) []:=by
 refine yu.t func70 ?_
 push_cast [yu,zaa]
 refine a7 (azm k a) rfl trivial ?_;have b:=mh k.toNat (by omega);unfold Ei.In at b
 push_cast [Ei.v,Ei.rv,Ei.conj]
 rw [a6 (by omega),a6 (by omega),Int.zero_sub]
theorem akd (n:Int) (h:c9 n) (a:n≠-9223372036854775808):a9 P0 134 [int .i64 n] [] (int .i64 n.natAbs) []:=by
 refine yt.t func134 ?_
 push_cast [yt,zaa]
 unfold c9 at h;refine b9 (λ hc=>?_) (λ hc=>?_)
 ·simp at hc
  push_cast
  rw [a6 (by omega)];rw [show 0-n=(n.natAbs:Int) by omega]
 simp at hc
 push_cast
 rw [show n=(n.natAbs:Int) by omega];simp
theorem avq (s t d:Int) (g:-9007199254740992<=s/\s<=9007199254740992) (f:-9007199254740992<=t/\t<=9007199254740992):a9 P0 108 [int .i64 s,int .i64 t,int .i64 d] [] (bl (decide (l5 d s t))) []:=by
 refine we.t func108 ?_
 push_cast [we,zaa]
 rw [show IntKind.i64.wrap (2*s)=2*s from a6 (by omega),show IntKind.i64.wrap (2*s+t)=2*s+t from a6 (by omega)];refine a7 (akd _ (by unfold c9; omega) (by omega)) rfl trivial ?_;by_cases c:((2*s+t).natAbs:Int)<=d
 ·have a:decide (((2*s+t).natAbs:Int)<=d)=true:=decide_eq_true c
  push_cast [a]
  rw [show IntKind.i64.wrap (2*t)=2*t from a6 (by omega),show IntKind.i64.wrap (s+2*t)=s+2*t from a6 (by omega)];refine a7 (akd _ (by unfold c9; omega) (by omega)) rfl trivial ?_;by_cases e:((s+2*t).natAbs:Int)<=d
  ·have b:decide (((s+2*t).natAbs:Int)<=d)=true:=decide_eq_true e
   push_cast [b]
   rw [show IntKind.i64.wrap (s-t)=s-t from a6 (by omega)];refine a7 (akd _ (by unfold c9; omega) (by omega)) rfl trivial ?_
   push_cast
   refine sa ?_;simp only [decide_eq_true_eq];unfold l5;omega
  have b:decide (((s+2*t).natAbs:Int)<=d)=false:=decide_eq_false e
  push_cast [b]
  rw [decide_eq_false (show ¬l5 d s t by unfold l5; omega)]
 have a:decide (((2*s+t).natAbs:Int)<=d)=false:=decide_eq_false c
 push_cast [a]
 rw [decide_eq_false (show ¬l5 d s t by unfold l5; omega)]
theorem amo (u:Ei) (d:Int) (R:u.In 1152921504606846976) (K:1<=d/\d<=1125899906842624):a9 P0 71 [u.v,int .i64 d] [] (.tup [(u.round d).v,bl true]) []:=by
 refine wv.t func71 ?_;have p:=R;unfold Ei.In at p;have L:decide (d<1)=false:=by simp; omega
 have c2:decide (d>1125899906842624)=false:=by simp; omega
 have O:decide (u.a < -1152921504606846976)=false:=by simp; omega
 have N:decide (u.a>1152921504606846976)=false:=by simp; omega
 have V:decide (u.b < -1152921504606846976)=false:=by simp; omega
 have P:decide (u.b>1152921504606846976)=false:=by simp; omega
 have U:c9 u.a:=by unfold c9; omega
 have Q:c9 u.b:=by unfold c9; omega
 have J:c9 d:=by unfold c9; omega
 push_cast [wv,Ei.v,Ei.rv,zaa,L,c2,O,N,V,P]
 refine a7 (amq _ _ U J) rfl trivial ?_;have m:0<d:=by omega
 push_cast [m,if_true]
 refine a7 (amq _ _ Q J) rfl trivial ?_
 push_cast [m,if_true]
 have E:0<=u.a%d/\u.a%d<d:=⟨zah _ (by omega),zag _ m⟩
 have I:0<=u.b%d/\u.b%d<d:=⟨zah _ (by omega),zag _ m⟩
 have S:-1152921504606846976<=u.a/d/\u.a/d<=1152921504606846976:=ajw p.1 K.1;have M:-1152921504606846976<=u.b/d/\u.b/d<=1152921504606846976:=ajw p.2 K.1;have e:u.round d=⟨u.a/d+(fb d (u.a%d) (u.b%d)).a,u.b/d+(fb d (u.a%d) (u.b%d)).b⟩:=rfl;generalize u.a%d=a at *;generalize u.b%d=b at *;generalize u.a/d=G at *;generalize u.b/d=H at *
 have o:∀i:Int,-1<=i->i<=2->-1125899906842624<=i*d/\i*d<=2251799813685248:=λ i g n=>by
  rcases (show i=-1\/i=0\/i=1\/i=2 by omega) with rfl | rfl | rfl | rfl<;>omega
 refine c7 [(12,false),(1,false),(6,false),(7,false),(9,false),(10,false),(4,false)] (λ vs pos f=>∃i:Int,(-1<=i/\i<=3)/\(∀l c:Int,-1<=l->l<i->-1<=c->c<=2->¬l5 d (a-l*d) (b-c*d))/\vs=[int .i64 i,int .i64 d,int .i64 G,int .i64 a,int .i64 H,int .i64 b,.ptr 2000000 0 0]/\pos=[]/\f=[.box [int .i64 0,int .i64 0]])
  (λ vs _ _=>match vs with | .r (.v (.int _ j))::_=>(3-j).toNat | _=>0) rfl ?_ ?_
 ·push_cast
  exact ⟨-1,by omega,λ l c g n=>by omega,rfl⟩
 rintro vs pos f ⟨i,F,q,rfl,rfl,rfl⟩
 push_cast
 refine b9 (λ h=>?_) (λ h=>?_)
 ·have x:i<=2:=by simpa using h
  have X:=o i F.1 x
  push_cast
  refine c7 [(13,false),(12,false),(1,false),(6,false),(7,false),(9,false),(10,false),(4,false)] (λ vs pos f=>∃k:Int,(-1<=k/\k<=3)/\(∀c:Int,-1<=c->c<k->¬l5 d (a-i*d) (b-c*d))/\vs=[int .i64 k,int .i64 i,int .i64 d,int .i64 G,int .i64 a,int .i64 H,int .i64 b,.ptr 2000000 0 0]/\pos=[]/\f=[.box [int .i64 0,int .i64 0]])
   (λ vs _ _=>match vs with | .r (.v (.int _ j))::_=>(3-j).toNat | _=>0) rfl ?_ ?_
  ·push_cast
   exact ⟨-1,by omega,λ c g n=>by omega,rfl⟩
  rintro vs pos f ⟨k,D,s,rfl,rfl,rfl⟩
  push_cast
  refine b9 (λ h=>?_) (λ h=>?_)
  ·have y:k<=2:=by simpa using h
   have W:=o k D.1 y
   push_cast
   rw [show IntKind.i64.wrap (i*d)=i*d from a6 (by omega),show IntKind.i64.wrap (k*d)=k*d from a6 (by omega),show IntKind.i64.wrap (a-i*d)=a-i*d from a6 (by omega),show IntKind.i64.wrap (b-k*d)=b-k*d from a6 (by omega)];refine a7 (avq _ _ d (by omega) (by omega)) rfl trivial ?_
   push_cast
   refine b9 (λ h=>?_) (λ h=>?_)
   ·have B:l5 d (a-i*d) (b-k*d):=by simpa using h
    have T:=aou E I ⟨F.1,x⟩ ⟨D.1,y⟩ B (λ c g n=>s c g n) (λ l c g n w C=>q l c g n w C);rw [T] at e
    push_cast [e,Ei.v,Ei.rv]
    rw [a6 (by omega),a6 (by omega)]
   have B:¬l5 d (a-i*d) (b-k*d):=by simpa using h
   push_cast
   rw [a6 (by omega)];refine ⟨⟨k+1,by omega,λ c g n=>?_,rfl⟩,by omega⟩;by_cases A:c=k
   ·subst A; exact B
   exact s c g (by omega)
  have y:k=3:=by simp at h; omega
  subst y
  push_cast
  rw [a6 (by omega)];refine ⟨⟨i+1,by omega,λ l c g n w C=>?_,rfl⟩,by omega⟩;by_cases z:l=i
  ·subst z; exact s c w (by omega)
  exact q l c g (by omega) w C
 have x:i=3:=by simp at h; omega
 subst x;exact (awe E I q).elim
theorem amj (x y:Int):a9 P0 38 [int .i64 x,int .i64 y] [] (bl (decide (inW x y))) []:=by
 refine wg.t func38 ?_
 push_cast [wg,zaa]
 repeat refine And.intro (by simp +contextual) ?_
 refine sa ?_;unfold inW;by_cases a:0<=x<;>by_cases d:x<1073741824<;>by_cases c:0<=y<;>by_cases b:y<1073741824<;>simp [a,d,c,b]
theorem azi (x y r:Int) (h:inW x y) (i:0<=r/\r<=12):a9 P0 43 [int .i64 x,int .i64 y,int .i64 r] [] (.tup [(l8 x y r.toNat).v,bl true]) []:=by
 refine za.t func43 ?_;have c:decide (r<0)=false:=by simp; omega
 have c2:decide (r>12)=false:=by simp; omega
 push_cast [za,zaa]
 refine a7 (amj x y) rfl trivial ?_;rw [decide_eq_true h]
 push_cast [c,c2]
 have e:(12-r).toNat=12-r.toNat:=by omega
 have a:(12-r).toNat<=12:=by omega
 have f:=h;unfold inW at f;rw [show IntKind.i64.wrap (45*x)=45*x from a6 (by omega),show IntKind.i64.wrap (26*y)=26*y from a6 (by omega),show IntKind.i64.wrap (52*y)=52*y from a6 (by omega),show IntKind.i64.wrap (45*x-26*y)=45*x-26*y from a6 (by omega),show IntKind.i64.wrap (12-r)=12-r from a6 (by omega)];refine a7 (azk (12-r) (by omega)) rfl trivial ?_;have d:=mh (12-r).toNat a;have b:=au0 h a
 push_cast [Ei.v,Ei.rv]
 refine b7 (as':=[(ax x y).v,(i8 (12-r).toNat).conj.v]) rfl ?_;refine a7 (afb _ _ ((ar2 h).mono (by decide)) ((ak0 d).mono (by decide)) (b.mono (by decide))) rfl trivial ?_
 push_cast [Ei.v,Ei.rv]
 rw [show IntKind.i64.wrap (12-r)=12-r from a6 (by omega)];refine g9 (ayr (12-r) (by omega) (by omega)) rfl trivial ?_
 push_cast
 have g:=p7 (12-r).toNat a;rw [show IntKind.i64.wrap (2340*7^(12-r).toNat)=2340*7^(12-r).toNat from a6 (by omega)];refine n9 (as':=[((ax x y).mul (i8 (12-r).toNat).conj).v,int .i64 (2340*7^(12-r).toNat)]) rfl ?_;refine g9 (amo _ _ (b.mono (by decide)) (by omega)) rfl trivial ?_
 push_cast [Ei.v,Ei.rv,l8,e]
 kernel_rfl

def yy:Mk P0 f92:={ x:=_ }
def vn:Mk P0 f56:={ x:=_ }
def abk:Mk P0 f55:={ x:=_ }
theorem Ei.mul_comm (x y:Ei):x.mul y=y.mul x:=by
 apply Ei.ext'<;>simp only [Ei.mul]
 ·rw [zcg x.a,zcg x.b]
 rw [zcg x.a y.b,zcg x.b y.a,zcg x.b y.b]; omega
theorem apd (k:Int) (a:0<=k/\k<6):a9 P0 92 [int .i64 k] [] ((uni k.toNat).v) []:=by
 refine yy.t func92 ?_
 have b:(IntKind.i64.wrap (Int.tmod k 6+6)).tmod 6=k:=by
  rw [zcp a.1,a6 (by omega),zcp (by omega)]; omega
 simp only [yy,b,Ei.v,Ei.rv,push_cast,↓reduceIte,reduceCtorEq,zB,zE,zA,zS,zL,zD,zM];refine ⟨by decide,by decide,a,by omega,?_⟩;rcases (show k=0\/k=1\/k=2\/k=3\/k=4\/k=5 by omega) with rfl | rfl | rfl | rfl | rfl | rfl
 all_goals
  simp only [Int.reduceToNat,Nat.zero_mul,Nat.add_zero,zcu,axp,axo,axn,axm,axl,axk,push_cast,↓reduceIte,reduceCtorEq,zB,zE,zA,zS,zL,zD,zM]
theorem ala (z:Ei) (h:z.In 1073741824):a9 P0 56 [z.v] [] (.tup [(pr z).v,int .i64 (dg z)]) []:=by
 refine vn.t func56 ?_
 push_cast [vn,Ei.v,Ei.rv,zaa]
 have k:(z.mul ⟨3,-1⟩).In 9663676416:=(aa7 h (show (⟨3,-1⟩:Ei).In 3 by unfold Ei.In; decide)).mono (by decide);have n:(pr z).In 1073741824:=aq5 h (by decide);have s:((pr z).mul y7).In 6442450944:=(aa7 n (show y7.In 2 by unfold Ei.In; decide)).mono (by decide);have o:=aua z;refine b7 (as':=[z.v,Ei.v ⟨3,-1⟩]) rfl ?_;refine a7 (afb _ _ (h.mono (by decide)) (show (⟨3,-1⟩:Ei).In _ by unfold Ei.In; decide) (k.mono (by decide))) rfl trivial ?_
 push_cast [Ei.v,Ei.rv]
 refine b7 (as':=[(z.mul ⟨3,-1⟩).v,int .i64 7]) rfl ?_;refine a7 (amo _ 7 (k.mono (by decide)) (by decide)) rfl trivial ?_;rw [show (z.mul ⟨3,-1⟩).round 7=pr z from rfl]
 push_cast [Ei.v,Ei.rv]
 refine b7 (as':=[(pr z).v,y7.v]) rfl ?_;refine a7 (afb _ _ (n.mono (by decide)) (show y7.In _ by unfold Ei.In; decide) (s.mono (by decide))) rfl trivial ?_;have m:z.a-((pr z).mul y7).a=(lft z).a:=rfl;have g:z.b-((pr z).mul y7).b=(lft z).b:=rfl;unfold Ei.In at o;rw [<- m,<- g] at o
 push_cast [Ei.v,Ei.rv]
 rw [show IntKind.i64.wrap (z.a-((pr z).mul y7).a)=(lft z).a by rw [<- m]; exact a6 (by omega),show IntKind.i64.wrap (z.b-((pr z).mul y7).b)=(lft z).b by rw [<- g]; exact a6 (by omega)];rw [show dg z=af7 (lft z) from rfl];generalize lft z=l at *;generalize pr z=q at *
 refine c7 [(11,false),(10,false),(6,false),(2,false)] (λ vs pos d=>∃i:Int,(0<=i/\i<=6)/\(∀j:Nat,(j:Int)<i->uni j≠l)/\vs=[int .i64 i,.ptr 2000000 0 0,.ptr 2000001 0 0,.ptr 2000002 0 0]/\pos=[]/\d=[.box [int .i64 l.a,int .i64 l.b],.box [int .i64 q.a,int .i64 q.b],.box [int .i64 0,int .i64 0]])
  (λ vs _ _=>match vs with | .r (.v (.int _ j))::_=>(6-j).toNat | _=>0) rfl ?_ ?_
 ·push_cast
  exact ⟨0,by omega,λ j f=>by omega,rfl⟩
 rintro vs pos d ⟨i,p,f,rfl,rfl,rfl⟩
 push_cast
 refine b9 (λ h=>?_) (λ h=>?_)
 ·simp only [decide_eq_true_eq] at h
  push_cast
  refine g9 (apd i ⟨p.1,h⟩) rfl trivial ?_
  push_cast [Ei.v,Ei.rv]
  refine ⟨by kernel_rfl,b9 (λ c=>?_) (λ c=>?_)⟩
  ·have e:uni i.toNat=l:=by
    simp only [Bool.and_eq_true,beq_iff_eq] at c;exact Ei.ext' c.1 c.2
   push_cast
   rw [<- e,an3 _ (by omega),a6 (by omega),show ((i.toNat+1:Nat):Int)=i+1 by omega]
  have e:uni i.toNat≠l:=λ e=>by rw [e] at c; simp at c
  push_cast
  rw [a6 (by omega)];refine ⟨⟨i+1,by omega,λ j w=>?_,rfl⟩,by omega⟩;by_cases x:(j:Int)=i
  ·rw [show j=i.toNat by omega]; exact e
  exact f j (by omega)
 have u:i=6:=by simp at h; omega
 subst u
 push_cast
 rw [aqd l λ j y=>f j (by omega)]
 rfl
theorem a2f (r:Int) (z:Ei) (w:0<=r) (h:okc r.toNat z):a9 P0 55 [cel r z] [] (bl true) []:=by
 refine abk.t func55 ?_;obtain ⟨p,f,e,g⟩:=h;have d:=f;unfold Ei.In at d;have k:decide (r<0)=false:=by simp; omega
 have c2:decide (r>12)=false:=by simp; omega
 have o:decide (z.a < -1073741824)=false:=by simp; omega
 have n:decide (z.a>1073741824)=false:=by simp; omega
 have s:decide (z.b < -1073741824)=false:=by simp; omega
 have q:decide (z.b>1073741824)=false:=by simp; omega
 push_cast [abk,cel,zaa,k,c2,o,n,s,q]
 refine c7 [(4,false),(1,false),(3,false)] (λ vs pos c=>∃i:Int,(0<=i/\i<=r)/\vs=[int .i64 i,.ptr 2000000 0 0,.ptr 2000001 0 0]/\pos=[]/\c=[.box [int .i64 r,int .i64 z.a,int .i64 z.b],.box [int .i64 (anc i.toNat z).a,int .i64 (anc i.toNat z).b]])
  (λ vs _ _=>match vs with | .r (.v (.int _ j))::_=>(r-j).toNat | _=>0) rfl ?_ ?_
 ·push_cast
  exact ⟨0,by omega,rfl,rfl⟩
 rintro vs pos c ⟨i,u,rfl,rfl,rfl⟩
 push_cast
 refine b9 (λ h=>?_) (λ h=>?_)
 ·simp only [decide_eq_true_eq] at h
  push_cast
  have l:=aj7 i.toNat f (by decide);refine b7 (as':=[(anc i.toNat z).v]) rfl ?_;refine a7 (ala _ l) rfl trivial ?_
  push_cast [Ei.v,Ei.rv]
  rw [show IntKind.i64.wrap (i+1)=i+1 from a6 (by omega)];refine ⟨⟨i+1,by omega,rfl,?_⟩,by omega⟩;rw [show (i+1).toNat=i.toNat+1 by omega,aiq]
 have m:i=r:=by simp at h; omega
 subst m
 push_cast [ge_iff_le,e.1,e.2,g.1,g.2,decide_true]

def yw:Mk P0 f32:={ x:=_ }
def zb:Mk P0 f63:={ x:=_ }
theorem xa (h:a<18446744073709551616):IntKind.u64.wrap (a:Int)=a:=by rw [IntKind.wrap_u64]; omega
theorem ofI (a:Nat) (h:a<18446744073709551616):(zab IntKind.u64.bits (a:Int)).toNat=a:=by
 rw [show IntKind.u64.bits=64 from rfl,BitVec.toNat_ofInt];omega
theorem adu (c:a<18446744073709551616) (d:b<18446744073709551616):IntKind.u64.wrap (zab IntKind.u64.bits (a:Int) ||| zab IntKind.u64.bits (b:Int)).toNat=((a ||| b:Nat):Int):=by
 rw [BitVec.toNat_or,ofI a c,ofI b d];exact xa (zcr (n:=64) c d)
theorem aty (x:BitVec 64):(~~~ x).toNat=2^64-1-x.toNat:=BitVec.toNat_not
theorem axa (c:a<18446744073709551616) (d:b<18446744073709551616):IntKind.u64.wrap (zab IntKind.u64.bits (a:Int) &&& ~~~ zab IntKind.u64.bits (b:Int)).toNat=((a &&& (2^64-1-b):Nat):Int):=by
 rw [BitVec.toNat_and,ofI a c,show (~~~ zab IntKind.u64.bits (b:Int)).toNat=2^64-1-(zab IntKind.u64.bits (b:Int)).toNat from aty _,ofI b d];exact xa (zcv Nat.and_le_left c)
theorem a5s {n:Nat} (m:Int) (e:m=2^n-1) (c:n<=62) (b:a<18446744073709551616):IntKind.u64.wrap (zab IntKind.u64.bits (a:Int) &&& zab IntKind.u64.bits m).toNat=((a%2^n:Nat):Int):=by
 have g:2^n<=2^62:=zad (by decide) c;have h:=Nat.two_pow_pos n;have f:((2^n:Nat):Int)=(2:Int)^n:=by simp
 have d:m=((2^n-1:Nat):Int):=by rw [e,<- f]; omega
 rw [d,BitVec.toNat_and,ofI a b,ofI _ (by omega),Nat.and_two_pow_sub_one_eq_mod];exact xa (zcv (Nat.mod_le _ _) b)
theorem aae (b:s.toNat=k) (c:k<=63) (h:a*2^k<18446744073709551616):IntKind.u64.wrap ((a:Int)*2^min s.toNat IntKind.u64.bits)=((a*2^k:Nat):Int):=by
 rw [b,show min k IntKind.u64.bits=k from Nat.min_eq_left (by simp [IntKind.bits]; omega),show (a:Int)*2^k=((a*2^k:Nat):Int) by simp];exact xa h
def uw (n:Nat):AV:=int .u64 n
theorem azd (r:Int) (z:Ei) (F:0<=r) (l:okc r.toNat z):a9 P0 32 [cel r z] [] (.tup [uw (gv r.toNat z),int .i64 0]) []:=by
 refine yw.t func32 ?_;have u:=l;obtain ⟨c,D,K,L⟩:=u;simp only [yw,cel,push_cast,↓reduceIte,reduceCtorEq,zB,zE,zA,zS,zL,zD,zM];refine b7 (as':=[cel r z]) rfl ?_;refine a7 (a2f r z F l) rfl trivial ?_;simp only [push_cast,↓reduceIte,reduceCtorEq,zB,zE,zA,zS,zL,zD,zM];have f:=ayc r.toNat z (by omega)
 refine c7 [(6,false),(1,false),(4,false),(5,false)] (λ vs pos e=>∃i:Int,(0<=i/\i<=r)/\vs=[int .i64 i,.ptr 2000000 0 0,.ptr 2000001 0 0,int .u64 (kq r.toNat z i.toNat)]/\pos=[]/\e=[.box [int .i64 r,int .i64 z.a,int .i64 z.b],.box [int .i64 (anc (r-i).toNat z).a,int .i64 (anc (r-i).toNat z).b]])
  (λ vs _ _=>match vs with | .r (.v (.int _ j))::_=>j.toNat | _=>0) rfl ?_ ?_
 ·simp only [push_cast,↓reduceIte,reduceCtorEq,zB,zE,zA,zS,zL,zD,zM];refine ⟨r,by omega,?_⟩;rw [f,Int.sub_self];exact ⟨rfl,rfl⟩
 rintro vs pos e ⟨i,I,rfl,rfl,rfl⟩;simp only [push_cast,↓reduceIte,reduceCtorEq,zB,zE,zA,zS,zL,zD,zM];refine b9 (λ h=>?_) (λ h=>?_)
 ·simp only [decide_eq_true_eq] at h;have x:=aj7 (r-i).toNat D (by decide);simp only [push_cast,↓reduceIte,reduceCtorEq,zB,zE,zA,zS,zL,zD,zM];refine b7 (as':=[(anc (r-i).toNat z).v]) rfl ?_;refine a7 (ala _ x) rfl trivial ?_;simp only [Ei.v,Ei.rv,push_cast,↓reduceIte,reduceCtorEq,zB,zE,zA,zS,zL,zD,zM];rw [show IntKind.i64.wrap (3*i)=3*i from a6 (by omega),show IntKind.i64.wrap (36-3*i)=36-3*i from a6 (by omega),show IntKind.i64.wrap (i-1)=i-1 from a6 (by omega)];have H:=adj r.toNat z i.toNat (by omega) c;have g:=aqt r.toNat z i.toNat (by omega) (by omega) c;have J:=aed (anc (r-i).toNat z);have d:(36-3*i).toNat=36-3*i.toNat:=by omega
  have G:2^(36-3*i.toNat)<=2^33:=zad (by decide) (by omega);have E:dg (anc (r-i).toNat z)*2^(36-3*i.toNat)<=6*2^(36-3*i.toNat):=zdd _ (by omega);rw [xa (show dg (anc (r-i).toNat z)<18446744073709551616 by omega),show (7:Int)=((7:Nat):Int) from rfl,aae d (by omega) (by omega),aae d (by omega) (by omega),axa (by omega) (by omega),adu (zcv Nat.and_le_left (by omega)) (by omega)];rw [show (r-i).toNat=r.toNat-i.toNat by omega] at *;rw [g];refine ⟨by omega,by omega,by kernel_rfl,⟨i-1,by omega,?_,?_⟩,by omega⟩
  ·rw [show (i-1).toNat=i.toNat-1 by omega]
  rw [show (r-(i-1)).toNat=r.toNat-i.toNat+1 by omega,aiq]
 have y:i=0:=by simp at h; omega
 subst y;simp only [push_cast,↓reduceIte,reduceCtorEq,zB,zE,zA,zS,zL,zD,zM];refine ⟨by decide,by decide,by decide,?_⟩;have H:=adj r.toNat z 0 (by omega) c;rw [show (r-0).toNat=r.toNat by omega];obtain ⟨A,q⟩:∃A:Nat,(anc r.toNat z).a+512=A:=⟨((anc r.toNat z).a+512).toNat,by omega⟩
 obtain ⟨B,p⟩:∃B:Nat,(anc r.toNat z).b+512=B:=⟨((anc r.toNat z).b+512).toNat,by omega⟩
 have C:=ayb r.toNat z c A B (by omega) (by omega) q p;have w:=aj9 r.toNat z l;obtain ⟨R,rfl⟩:∃R:Nat,r=R:=⟨r.toNat,by omega⟩
 rw [zcj] at *;rw [q,p,show IntKind.i64.wrap (A:Int)=A from a6 (by omega),show IntKind.i64.wrap (B:Int)=B from a6 (by omega),xa (show A<18446744073709551616 by omega),xa (show B<18446744073709551616 by omega),xa (show R<18446744073709551616 by omega)];rw [aae (k:=56) rfl (by decide) (by omega),aae (k:=46) rfl (by decide) (by omega),aae (k:=36) rfl (by decide) (by omega),show (1152921504606846976:Int)=((1152921504606846976:Nat):Int) from rfl,Int.toNat_zero];have m:kq R z 0 ||| 1152921504606846976<18446744073709551616:=zcr (n:=64) (by omega) (by omega);have o:kq R z 0 ||| 1152921504606846976 ||| R*2^56<18446744073709551616:=zcr (n:=64) m (by omega)
 have s:kq R z 0 ||| 1152921504606846976 ||| R*2^56 ||| A*2^46<18446744073709551616:=zcr (n:=64) o (by omega);rw [adu (by omega) (by omega),adu m (by omega),adu o (by omega),adu s (by omega),C]
 rfl
def jv (w:Nat):Bool:=decide (w/1152921504606846976=1)&&decide (o6 w<=12)&&(List.range 13).all λ i=>decide (i=0)||(decide (dgt w i=7) == decide (o6 w<i))
theorem xn (w:Nat):jv w=true↔isW w:=by
 simp only [jv,isW,Bool.and_eq_true,decide_eq_true_eq,List.all_eq_true,List.mem_range,Bool.or_eq_true,beq_iff_eq,decide_eq_decide];constructor
 ·rintro ⟨⟨a,c⟩,b⟩;refine ⟨a,c,λ i g f=>?_⟩;rcases b i (by omega) with h | h
  ·omega
  exact h
 rintro ⟨a,c,b⟩;refine ⟨⟨a,c⟩,λ i e=>?_⟩;by_cases d:i=0
 ·exact .inl d
 exact .inr (b i (by omega) (by omega))
theorem aub (h:okc r z):jv (gv r z)=true:=(xn _).2 (al9 r z h).1
variable {w:Nat}
theorem ac2 (h:¬isW w):jv w=false:=by
 cases hb:jv w with
 | false=>rfl
 | true=>exact absurd ((xn w).1 hb) h
theorem avg (b:s.toNat=k) (c:k<=63):(a:Int).fdiv (2^min s.toNat IntKind.u64.bits)=((a/2^k:Nat):Int):=by
 rw [b,show min k IntKind.u64.bits=k from Nat.min_eq_left (by simp [IntKind.bits]; omega)];rw [zda _ (by have:=Int.pow_pos (n:=2) (m:=k) (by decide); omega)];simp
theorem th {n:Nat} (e:s.toNat=k) (f:k<=63) (d:m=2^n-1) (c:n<=62) (b:a<18446744073709551616) :
 IntKind.u64.wrap (zab IntKind.u64.bits ((a:Int).fdiv (2^min s.toNat IntKind.u64.bits)) &&& zab IntKind.u64.bits m).toNat=((a/2^k%2^n:Nat):Int):=by
 rw [avg e f,a5s m d c (zcv (Nat.div_le_self _ _) b)]
theorem ag4 (w:Nat) (i:Nat) (u:i<=12):(x9 w i).In 1000000000000:=by
 have h:∀i:Nat,∀n:Int,(x9 w i).In n->1<=n->(x9 w (i+1)).In (5*n):=λ i n s c=>by
  have t:∀d,(uni d).In 1:=λ d=>by unfold uni; split<;>unfold Ei.In<;>decide
  have r:=t (dgt w (i+1)-1);unfold Ei.In at s r |-;rw [x9,sg];split<;>simp only [Ei.mul,y7,Ei.add]<;>omega
 have o:(x9 w 0).In 512:=by
  unfold Ei.In x9 ax8;dsimp only;omega
 have c:=h 0 _ o (by decide);have q:=h 1 _ c (by decide);have f:=h 2 _ q (by decide);have l:=h 3 _ f (by decide);have m:=h 4 _ l (by decide);have j:=h 5 _ m (by decide);have p:=h 6 _ j (by decide);have k:=h 7 _ p (by decide);have g:=h 8 _ k (by decide);have a:=h 9 _ g (by decide);have b:=h 10 _ a (by decide);have e:=h 11 _ b (by decide);rcases (show i=0\/i=1\/i=2\/i=3\/i=4\/i=5\/i=6\/i=7\/i=8\/i=9\/i=10\/i=11\/i=12 by omega) with rfl | rfl | rfl | rfl | rfl | rfl | rfl | rfl | rfl | rfl | rfl | rfl | rfl
 ·exact o.mono (by decide)
 ·exact c.mono (by decide)
 ·exact q.mono (by decide)
 ·exact f.mono (by decide)
 ·exact l.mono (by decide)
 ·exact m.mono (by decide)
 ·exact j.mono (by decide)
 ·exact p.mono (by decide)
 ·exact k.mono (by decide)
 ·exact g.mono (by decide)
 ·exact a.mono (by decide)
 ·exact b.mono (by decide)
 exact e.mono (by decide)
theorem azl (w:Nat) (A:w<18446744073709551616):a9 P0 63 [uw w] [] (.tup (if jv w then [cel (o6 w) (x9 w (o6 w)),int .i64 0] else [cel 0 ⟨0,0⟩,int .i64 5])) []:=by
 refine zb.t func63 ?_;simp only [zb,cel,uw,push_cast,↓reduceIte,reduceCtorEq,zB,zE,zA,zS,zL,zD,zM];have S:(w:Int).fdiv (2^min (zaj 60) IntKind.u64.bits)=((w/1152921504606846976:Nat):Int):=avg (k:=60) rfl (by decide)
 have P:IntKind.i64.wrap (IntKind.u64.wrap (zab IntKind.u64.bits ((w:Int).fdiv (2^min (zaj 56) IntKind.u64.bits)) &&& zab IntKind.u64.bits 15).toNat)=(o6 w:Int):=by
  rw [th (k:=56) (n:=4) rfl (by decide) (by decide) (by decide) A];exact a6 (by omega)
 have U:IntKind.i64.wrap (IntKind.i64.wrap (IntKind.u64.wrap (zab IntKind.u64.bits ((w:Int).fdiv (2^min (zaj 46) IntKind.u64.bits)) &&& zab IntKind.u64.bits 1023).toNat)-512)=(x9 w 0).a:=by
  rw [th (k:=46) (n:=10) rfl (by decide) (by decide) (by decide) A,show ∀x:Nat,x<1024->IntKind.i64.wrap (IntKind.i64.wrap (x:Int)-512)=x-512 from λ x hx=>by rw [a6 (x:=(x:Int)) (by omega),a6 (by omega)]]
  ·rfl
  omega
 have V:IntKind.i64.wrap (IntKind.i64.wrap (IntKind.u64.wrap (zab IntKind.u64.bits ((w:Int).fdiv (2^min (zaj 36) IntKind.u64.bits)) &&& zab IntKind.u64.bits 1023).toNat)-512)=(x9 w 0).b:=by
  rw [th (k:=36) (n:=10) rfl (by decide) (by decide) (by decide) A,show ∀x:Nat,x<1024->IntKind.i64.wrap (IntKind.i64.wrap (x:Int)-512)=x-512 from λ x hx=>by rw [a6 (x:=(x:Int)) (by omega),a6 (by omega)]]
  ·rfl
  omega
 rw [S,P];obtain ⟨T,Y⟩:∃T:Int,((w/1152921504606846976:Nat):Int)=T:=⟨_,rfl⟩
 obtain ⟨R,N⟩:∃R:Int,(o6 w:Int)=R:=⟨_,rfl⟩
 have L:o6 w<16:=by unfold o6; omega
 rw [Y,N];refine ⟨by decide,by decide,λ h=>by simp [h],?_⟩;refine b9 (λ h=>?_) (λ h=>?_)
 ·have d:jv w=false:=ac2 λ y=>by
   obtain ⟨Z,w2,_⟩:=y;have:¬R>12:=by omega
   have l:T=1:=by omega
   rw [l] at h;simp [this] at h
  rw [d];simp only [push_cast,↓reduceIte,reduceCtorEq,zB,zE,zA,zS,zL,zD,zM]
 have l:T=1:=by
  by_cases hc:T=1
  ·exact hc
  have:(T != 1)=true:=by simp [hc]
  rw [this] at h;cases h
 rw [l] at h;have J:R<=12:=by simpa using h
 simp only [push_cast,↓reduceIte,reduceCtorEq,zB,zE,zA,zS,zL,zD,zM];rw [U,V];refine ⟨by decide,by decide,?_⟩
 refine c7 [(6,false),(0,false),(4,false),(5,false),(2,false)] (λ vs pos u=>∃i:Nat,(1<=i/\i<=13)/\(∀j,1<=j->j<i->(dgt w j=7↔o6 w<j))/\vs=[int .i64 i,int .u64 w,int .i64 R,.ptr 2000000 0 0,.ptr 2000001 0 0]/\pos=[]/\u=[.box [int .i64 (x9 w (min (i-1) (o6 w))).a,int .i64 (x9 w (min (i-1) (o6 w))).b],.box [int .i64 0,int .i64 0,int .i64 0]])
  (λ vs _ _=>match vs with | .r (.v (.int _ j))::_=>(13-j).toNat | _=>0) rfl ?_ ?_
 ·simp only [push_cast,↓reduceIte,reduceCtorEq,zB,zE,zA,zS,zL,zD,zM];refine ⟨1,by omega,λ j q G=>by omega,rfl,?_⟩;rw [show min (1-1) (o6 w)=0 by omega]
 rintro vs pos u ⟨i,I,H,rfl,rfl,rfl⟩;simp only [push_cast,↓reduceIte,reduceCtorEq,zB,zE,zA,zS,zL,zD,zM];refine b9 (λ e=>?_) (λ e=>?_)
 ·have e:i<=12:=by simp at e; omega
  have X:IntKind.i64.wrap (IntKind.u64.wrap (zab IntKind.u64.bits ((w:Int).fdiv (2^min (36-3*(i:Int)).toNat IntKind.u64.bits)) &&& zab IntKind.u64.bits 7).toNat)=(dgt w i:Int):=by
   rw [th (k:=36-3*i) (n:=3) (by omega) (by omega) (by decide) (by decide) A];rw [show 2^(36-3*i)=8^(12-i) by rw [show (8:Nat)=2^3 from rfl,<- zck]; congr 1; omega];have:w/8^(12-i)%2^3=dgt w i:=rfl;rw [this];have:dgt w i<8:=Nat.mod_lt _ (by decide);exact a6 (by omega)
  have M:dgt w i<8:=Nat.mod_lt _ (by decide);simp only [push_cast,↓reduceIte,reduceCtorEq,zB,zE,zA,zS,zL,zD,zM];rw [show IntKind.i64.wrap (3*(i:Int))=3*i from a6 (by omega),show IntKind.i64.wrap (36-3*(i:Int))=36-3*i from a6 (by omega),X];obtain ⟨D,O⟩:∃D:Int,(dgt w i:Int)=D:=⟨_,rfl⟩
  rw [O];refine ⟨by omega,?_⟩;refine b9 (λ hc=>?_) (λ hc=>?_)
  ·have p:o6 w<i:=by simp at hc; omega
   simp only [push_cast,↓reduceIte,reduceCtorEq,zB,zE,zA,zS,zL,zD,zM];refine b9 (λ g=>?_) (λ g=>?_)
   ·have d:jv w=false:=ac2 λ y=>by
     have:=(y.2.2 i I.1 e).2 p;have:D=7:=by omega
     rw [this] at g;cases g
    rw [d];simp only [push_cast,↓reduceIte,reduceCtorEq,zB,zE,zA,zS,zL,zD,zM]
   have s:D=7:=by simpa using g
   simp only [push_cast,↓reduceIte,reduceCtorEq,zB,zE,zA,zS,zL,zD,zM];rw [show IntKind.i64.wrap ((i:Int)+1)=((i+1:Nat):Int) by rw [a6 (by omega)]; omega];refine ⟨⟨i+1,by omega,λ j q G=>?_,rfl,?_⟩,by omega⟩
   ·by_cases o:j=i
    ·subst o;constructor
     ·intro _; exact p
     intro _; omega
    exact H j q (by omega)
   rw [show min (i+1-1) (o6 w)=min (i-1) (o6 w) by omega]
  have p:i<=o6 w:=by simp at hc; omega
  simp only [push_cast,↓reduceIte,reduceCtorEq,zB,zE,zA,zS,zL,zD,zM];refine b9 (λ g=>?_) (λ g=>?_)
  ·have d:jv w=false:=ac2 λ y=>by
    have s:D=7:=by simpa using g
    have:=(y.2.2 i I.1 e).1 (by omega);omega
   rw [d];simp only [push_cast,↓reduceIte,reduceCtorEq,zB,zE,zA,zS,zL,zD,zM]
  have s:D≠7:=by simpa using g
  have K:=ag4 w (i-1) (by omega);have C:=ag4 w i e;have F:((x9 w (i-1)).mul y7).In 10000000000000:=(aa7 K (show y7.In 2 by unfold Ei.In; decide)).mono (by decide)
  have c:x9 w i=sg (x9 w (i-1)) (dgt w i):=by
   conv=>lhs; rw [show i=i-1+1 by omega]
   rw [x9,show i-1+1=i by omega]
  rw [show min (i-1) (o6 w)=i-1 by omega];simp only [push_cast,↓reduceIte,reduceCtorEq,zB,zE,zA,zS,zL,zD,zM];refine b7 (as':=[(x9 w (i-1)).v,y7.v]) rfl ?_;refine a7 (afb _ _ (K.mono (by decide)) (show y7.In _ by unfold Ei.In; decide) (F.mono (by decide))) rfl trivial ?_;simp only [Ei.v,Ei.rv,push_cast,↓reduceIte,reduceCtorEq,zB,zE,zA,zS,zL,zD,zM]
  have f:∀j,1<=j->j<i+1->(dgt w j=7↔o6 w<j):=λ j q G=>by
   by_cases o:j=i
   ·subst o;constructor
    ·intro h; omega
    intro h; omega
   exact H j q (by omega)
  refine b9 (λ E=>?_) (λ E=>?_)
  ·have B:0<D:=by simpa using E
   simp only [push_cast,↓reduceIte,reduceCtorEq,zB,zE,zA,zS,zL,zD,zM];rw [show IntKind.i64.wrap (D-1)=D-1 from a6 (by omega)];refine a7 (apd (D-1) (by omega)) rfl trivial ?_;simp only [Ei.v,Ei.rv,push_cast,↓reduceIte,reduceCtorEq,zB,zE,zA,zS,zL,zD,zM];rw [show IntKind.i64.wrap ((i:Int)+1)=((i+1:Nat):Int) by rw [a6 (by omega)]; omega];rw [show (D-1).toNat=dgt w i-1 by omega]
   have m:sg (x9 w (i-1)) (dgt w i)=((x9 w (i-1)).mul y7).add (uni (dgt w i-1)):=by
    unfold sg;rw [if_neg (by omega)]
   rw [m] at c;have W:((x9 w (i-1)).mul y7).a+(uni (dgt w i-1)).a=(x9 w i).a:=by rw [c]; rfl
   have Q:((x9 w (i-1)).mul y7).b+(uni (dgt w i-1)).b=(x9 w i).b:=by rw [c]; rfl
   unfold Ei.In at C;rw [W,Q,a6 (by omega),a6 (by omega)];refine ⟨⟨i+1,by omega,f,rfl,?_⟩,by omega⟩;rw [show min (i+1-1) (o6 w)=i by omega]
  have B:D=0:=by simp at E; omega
  simp only [push_cast,↓reduceIte,reduceCtorEq,zB,zE,zA,zS,zL,zD,zM];rw [show IntKind.i64.wrap ((i:Int)+1)=((i+1:Nat):Int) by rw [a6 (by omega)]; omega]
  have m:sg (x9 w (i-1)) (dgt w i)=(x9 w (i-1)).mul y7:=by
   unfold sg;rw [if_pos (by omega)]
  rw [m] at c;refine ⟨⟨i+1,by omega,f,rfl,?_⟩,by omega⟩;rw [show min (i+1-1) (o6 w)=i by omega,c]
 have e:i=13:=by simp at e; omega
 subst e;have z:jv w=true:=(xn w).2 ⟨by omega,by omega,λ j q G=>H j q (by omega)⟩;rw [z];simp only [push_cast,↓reduceIte,reduceCtorEq,zB,zE,zA,zS,zL,zD,zM];rw [show min (13-1) (o6 w)=o6 w by omega]

def vl:Mk P0 f23:={ x:=_ }
def vy:Mk P0 f80:={ x:=_ }
def ahi:Mk P0 f50:={ x:=_ }
def uc (x y:Int) (r:Nat):Nat:=gv r (l8 x y r)
theorem yh (x y r:Int) (h:inW x y) (a:0<=r/\r<=12):a9 P0 23 [int .i64 x,int .i64 y,int .i64 r] [] (uw (uc x y r.toNat)) []:=by
 refine vl.t func23 ?_
 push_cast [vl,zaa]
 refine a7 (azi x y r h a) rfl trivial ?_
 push_cast [Ei.v,Ei.rv]
 refine b7 (as':=[cel r (l8 x y r.toNat)]) rfl ?_;refine a7 (azd r (l8 x y r.toNat) a.1 (ah9 x y r.toNat h.1 h.2 (by omega))) rfl trivial ?_
 push_cast [uw]
 rfl
def ub (w i:Nat):Nat:=w/8^(13-i)*8^(13-i)
theorem aqs (w i:Nat) (f:1<=i) (g:i<=12):ub w i ||| dgt w i*2^(36-3*i)=ub w (i+1):=by
 unfold ub dgt;have c:13-(i+1)=12-i:=by omega
 have b:13-i=12-i+1:=by omega
 have e:2^(36-3*i)=8^(12-i):=by rw [show (8:Nat)=2^3 from rfl,<- zck]; congr 1; omega
 have a:(8:Nat)^(12-i+1)=2^(3*(12-i+1)):=by rw [show (8:Nat)=2^3 from rfl,<- zck]
 rw [c,b,e,zai,show w/8^(12-i+1)*8^(12-i+1)=w/8^(12-i+1)*2^(3*(12-i+1)) by rw [a],tn]
 ·rw [<- a,zch,<- zcx];have d:=Nat.div_add_mod (w/8^(12-i)) 8;generalize w/8^(12-i)=q at *;generalize 8^(12-i)=m at *;rw [zas m 8,<- zae,<- zat,zas (q/8) 8,d]
 rw [<- a,zch,zas];exact Nat.mul_lt_mul_of_pos_left (Nat.mod_lt _ (by decide)) (p8 _)
theorem ase (w:Nat):ub w 13=w:=by simp [ub]
theorem asd (r:Nat) (z:Ei) (f:r<=12) (A B:Nat) (j:A<1024) (i:B<1024) (c:(anc r z).a+512=A) (d:(anc r z).b+512=B) :
 (((1152921504606846976 ||| r*2^56) ||| A*2^46) ||| B*2^36)=ub (gv r z) 1:=by
 unfold ub;rw [show 13-1=12 by rfl,show (8:Nat)^12=68719476736 by decide,ahs r z f,ln,c,d,zcj,zcj]
 have g:1152921504606846976 ||| r*2^56=(16+r)*2^56:=by
  rw [zai,show (1152921504606846976:Nat)=1*2^60 by decide,tn (show r*2^56<2^60 by omega)];omega
 have e:(16+r)*2^56 ||| A*2^46=((16+r)*1024+A)*2^46:=by
  rw [zai,tn (show A*2^46<2^56 by omega)];omega
 have h:((16+r)*1024+A)*2^46 ||| B*2^36=(((16+r)*1024+A)*1024+B)*2^36:=by
  rw [zai,tn (show B*2^36<2^46 by omega)];omega
 rw [g,e,h]
theorem au8 (h:w<18446744073709551616) (i:Nat):ub w i<18446744073709551616:=zcv (Nat.div_mul_le_self _ _) h
theorem axv (w d r:Nat) (a:w<18446744073709551616) (j:d<8) (f:1<=r) (i:r<=12):a9 P0 80 [.ptr 1000000 0 0,int .i64 r,int .u64 d] [.box [uw w]] (.tup []) [.box [uw (w ||| d*2^(36-3*r))]]:=by
 refine vy.t func80 ?_
 push_cast [vy,uw,zal,zaa]
 have c:IntKind.i64.wrap ((r:Int)-1)=(r:Int)-1:=a6 (by omega);have b:IntKind.i64.wrap (3*((r:Int)-1))=3*((r:Int)-1):=a6 (by omega);have e:IntKind.i64.wrap (33-3*((r:Int)-1))=((36-3*r:Nat):Int):=by rw [a6 (by omega)]; omega
 have h:2^(36-3*r)<=2^33:=zad (by decide) (by omega);have g:d*2^(36-3*r)<=7*2^(36-3*r):=zdd _ (by omega);rw [c,b,e,show IntKind.u64.wrap ((36-3*r:Nat):Int)=((36-3*r:Nat):Int) from xa (by omega),aae (zcj _) (by omega) (by omega),adu a (by omega)]
 repeat refine sI ?_
 rfl
theorem awz (r:Nat) (z:Ei) (l:List AV) (h:l.length<=13):List.map AV.r (aec r z 0)++List.drop (0+(aec r z 0).length) l=bp r z 0:=by
 rw [List.drop_of_length_le (by simp [aec]; omega),zaf];simp [aec,bp]
theorem awy (r:Nat) (z:Ei) (j:Nat) (a:1<=j) (c:j<=r) (b:r<=12):(bp r z 0).getD j AV.undef=int .i64 (dg (anc (r-j) z)):=by
 rw [List.getD_eq_getElem?_getD];unfold bp;rw [List.getElem?_map,List.getElem?_range (by omega)];simp only [zaq,zak];rw [if_pos (by omega)]
theorem a1q (r:Int) (z:Ei) (F:0<=r) (w:okc r.toNat z):a9 P0 50 [cel r z] [] (.tup [uw (gv r.toNat z),int .i64 0]) []:=by
 refine ahi.t func50 ?_;obtain ⟨D,u⟩:=a42 F w;have q:=aj9 r.toNat z w;obtain ⟨f,H,G,I⟩:=id w;simp only [ahi,cel,push_cast,↓reduceIte,reduceCtorEq,zB,zE,zA,zS,zL,zD,zM];refine b7 (as':=[cel r z]) rfl ?_;refine a7 (a4l r z D) rfl trivial ?_;rw [u];simp only [Ei.v,Ei.rv,push_cast,↓reduceIte,reduceCtorEq,zB,zE,zA,zS,zL,zD,zM];obtain ⟨A,C⟩:∃A:Nat,(anc r.toNat z).a+512=A:=⟨((anc r.toNat z).a+512).toNat,by omega⟩
 obtain ⟨B,y⟩:∃B:Nat,(anc r.toNat z).b+512=B:=⟨((anc r.toNat z).b+512).toNat,by omega⟩
 have p:=asd r.toNat z f A B (by omega) (by omega) C y;obtain ⟨R,rfl⟩:∃R:Nat,r=R:=⟨r.toNat,by omega⟩
 rw [zcj] at *;rw [C,y,show IntKind.i64.wrap (A:Int)=A from a6 (by omega),show IntKind.i64.wrap (B:Int)=B from a6 (by omega),xa (show A<18446744073709551616 by omega),xa (show B<18446744073709551616 by omega),xa (show R<18446744073709551616 by omega)];rw [aae (k:=56) rfl (by decide) (by omega),aae (k:=46) rfl (by decide) (by omega),aae (k:=36) rfl (by decide) (by omega),show (1152921504606846976:Int)=((1152921504606846976:Nat):Int) from rfl];have x:1152921504606846976 ||| R*2^56<18446744073709551616:=zcr (n:=64) (by omega) (by omega);have E:1152921504606846976 ||| R*2^56 ||| A*2^46<18446744073709551616:=zcr (n:=64) x (by omega)
 rw [adu (by omega) (by omega),adu x (by omega),adu E (by omega),p];have s:=su R z 0;simp only [awz R z [AV.r (RV.v (Value.int IntKind.i64 0)),AV.r (RV.v (Value.int IntKind.i64 0)),AV.r (RV.v (Value.int IntKind.i64 0)),AV.r (RV.v (Value.int IntKind.i64 0)),AV.r (RV.v (Value.int IntKind.i64 0)),AV.r (RV.v (Value.int IntKind.i64 0)),AV.r (RV.v (Value.int IntKind.i64 0)),AV.r (RV.v (Value.int IntKind.i64 0)),AV.r (RV.v (Value.int IntKind.i64 0)),AV.r (RV.v (Value.int IntKind.i64 0)),AV.r (RV.v (Value.int IntKind.i64 0)),AV.r (RV.v (Value.int IntKind.i64 0)),AV.r (RV.v (Value.int IntKind.i64 0))] (by simp)]
 repeat refine And.intro (by first | decide | (simp [aec]; done) | kernel_rfl) ?_
 refine c7 [(9,false),(1,false),(5,false),(7,false),(8,false)] (λ vs pos l=>∃i:Nat,(1<=i/\i<=13)/\vs=[int .i64 i,.ptr 2000000 0 0,.ptr 2000001 0 0,.ptr 2000002 0 0,.fn (.func 80) [.ptr 2000002 0 0] 1]/\pos=[] /\
  l=[.box [int .i64 R,int .i64 z.a,int .i64 z.b],.box (bp R z 0),.box [uw (ub (gv R z) i)]])
  (λ vs _ _=>match vs with | .r (.v (.int _ j))::_=>(13-j).toNat | _=>0) rfl ?_ ?_
 ·simp only [ab3,ad7,uw,push_cast,↓reduceIte,reduceCtorEq,zB,zE,zA,zS,zL,zD,zM];exact ⟨1,by omega,rfl,rfl⟩
 rintro vs pos l ⟨i,m,rfl,rfl,rfl⟩;simp only [uw,push_cast,↓reduceIte,reduceCtorEq,zB,zE,zA,zS,zL,zD,zM];refine b9 (λ h=>?_) (λ h=>?_)
 ·have c:i<=12:=by simp at h; omega
  have o:=au8 q i;have d:=aqs (gv R z) i m.1 c;simp only [push_cast,↓reduceIte,reduceCtorEq,zB,zE,zA,zS,zL,zD,zM];refine b9 (λ hc=>?_) (λ hc=>?_)
  ·have e:R<i:=by simp at hc; omega
   simp only [push_cast,↓reduceIte,reduceCtorEq,zB,zE,zA,zS,zL,zD,zM];refine ⟨by kernel_rfl,?_⟩;refine b7 (as':=[.ptr 1000000 0 0,int .i64 i,int .u64 (7:Nat)]) rfl ?_;refine a7 (axv (ub (gv R z) i) 7 i o (by decide) m.1 c) rfl ⟨rfl,trivial⟩ ?_;rw [ait R i z e c] at d;rw [d];simp only [ab3,ad7,uw,push_cast,↓reduceIte,reduceCtorEq,zB,zE,zA,zS,zL,zD,zM];rw [show IntKind.i64.wrap ((i:Int)+1)=((i+1:Nat):Int) by rw [a6 (by omega)]; omega];exact ⟨⟨i+1,by omega,rfl,rfl⟩,by omega⟩
  have e:i<=R:=by simp at hc; omega
  have J:=aed (anc (R-i) z);simp only [zcj,zcu,Nat.mul_one,awy R z i m.1 e f,s,push_cast,↓reduceIte,reduceCtorEq,zB,zE,zA,zS,zL,zD,zM];rw [xa (show dg (anc (R-i) z)<18446744073709551616 by omega)]
  repeat refine sI ?_
  refine a7 (axv (ub (gv R z) i) (dg (anc (R-i) z)) i o (by omega) m.1 c) rfl ⟨rfl,trivial⟩ ?_;rw [ama R i z f m.1 e] at d;rw [d];simp only [ab3,ad7,uw,push_cast,↓reduceIte,reduceCtorEq,zB,zE,zA,zS,zL,zD,zM];rw [show IntKind.i64.wrap ((i:Int)+1)=((i+1:Nat):Int) by rw [a6 (by omega)]; omega];exact ⟨⟨i+1,by omega,rfl,rfl⟩,by omega⟩
 have g:i=13:=by simp at h; omega
 subst g;simp only [ase,uw,push_cast,↓reduceIte,reduceCtorEq,zB,zE,zA,zS,zL,zD,zM]

end
end Go.Ev

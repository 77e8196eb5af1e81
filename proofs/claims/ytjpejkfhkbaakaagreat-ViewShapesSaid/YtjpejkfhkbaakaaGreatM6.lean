import Derived.Test.YtjpejkfhkbaakaaGreatChecked
import Derived.KernelRfl
import Derived.Test.YtjpejkfhkbaakaaGreatM5
open Nat renaming reduceBEq → zB, reduceEqDiff → zE, reduceAdd → zA, reduceSub → zS, reduceLT → zL, reduceLeDiff → zD, reduceMul → zM
open Go.Proofs.Tryz renaming prog → P0
open Go.Proofs.Tryz
open List renaming length_nil → zaa, append_nil → zah, length_append → zam, range_zero → zan, length_cons → zaq, length_map → zar, map_cons → zas, map_nil → zat, getD_cons_zero → zau, getD_cons_succ → zav, take_succ_cons → zaw, take_zero → zax, drop_succ_cons → zay, drop_zero → zaz, cons_append → zba, nil_append → zbb, all_cons → zbc, all_nil → zbd, contains_cons → zbk, contains_nil → zbl, filter_cons → zbm, filter_nil → zbn, getElem?_cons_zero → zbq, getElem?_cons_succ → zbr, getElem?_nil → zbs, take_nil → zbt, drop_nil → zbu
open BitVec renaming ofInt → zab, ofNat → zce, toNat_ofNat → zdb
open Nat renaming pow_add → zac, pow_le_pow_right → zad, mul_assoc → zag, reduceEqDiff → zbw, reduceAdd → zbx, reduceSub → zby, reduceLT → zbz, reduceLeDiff → zca, reduceMul → zcb, add_mul → zcc, pow_pos → zcd, mul_le_mul → zcf, pow_succ → zcl, mul_comm → zcm, or_comm → zcn, or_assoc → zco, add_mul_div_right → zcr, zero_add → zcs, div_eq_of_lt → zcv, min_eq_left → zcw, testBit_two_pow_mul_add → zcx, or_lt_two_pow → zcy, lt_of_le_of_lt → zcz, div_div_eq_div_mul → zdc, testBit_lt_two_pow → zdd
open Int renaming emod_lt_of_pos → zae, emod_nonneg → zaf, lt_or_le → zcg, mul_add → zch, pow_succ → zci, one_mul → zcj, tmod_eq_emod_of_nonneg → zck, natAbs_mul → zcp, mul_nonneg → zcq, mul_ediv_add_emod → zct, mul_le_mul_of_nonneg_right → zcu, fdiv_eq_ediv_of_nonneg → zda
open Bool renaming and_true → zai, true_and → zaj, or_false → zak, not_false → zal, false_and → zbe, and_self → zbf, or_true → zbg, true_or → zbh, false_or → zbi, not_true → zbj, false_eq_true → zbv
open Option renaming getD_some → zao, getD_none → zap, map_some → zbo, map_none → zbp
namespace Go.Ev
set_option maxHeartbeats 8000000
set_option maxRecDepth 100000
noncomputable section
open Go
set_option linter.unusedSectionVars false
set_option linter.unnecessarySimpa false
set_option linter.unusedSimpArgs false
set_option linter.unusedVariables false
def adl:Mk P0 f93:={ x:=_ }
def adh:Mk P0 f182:={ x:=_ }
def adj:Mk P0 f179:={ x:=_ }
def abr:Mk P0 f147:={ x:=_ }
def zo:Mk P0 f119:={ x:=_ }
def adk:Mk P0 f113:={ x:=_ }
def aae:Mk P0 f66:={ x:=_ }
def sm (x:Int):AV:=.tup [int .i64 (if b7 x then x else 0),bl (decide (b7 x))]
variable {x y:Int}
theorem iu (h:x=y) (hx:b7 y):AV.tup [int .i64 x,bl true]=sm y:=by simp [sm,hx,h]
theorem xz (hx:¬b7 y):AV.tup [int .i64 0,bl false]=sm y:=by simp [sm,hx]
theorem axd (n:Nat):(n:Int).fdiv (2^min (Int.toNat 32) IntKind.u64.bits)=((n/4294967296:Nat):Int):=by
 have:(2:Int)^min (Int.toNat 32) IntKind.u64.bits=4294967296:=by decide
 rw [this,zda _ (by decide)];omega
theorem aw9 (n:Nat):IntKind.u64.wrap (n:Int)=((n%18446744073709551616:Nat):Int):=by
 rw [IntKind.wrap_u64]; omega
theorem ax2 (n:Nat):(zab IntKind.u64.bits (n:Int) &&& zab IntKind.u64.bits 4294967295).toNat=n%4294967296:=by
 have a:zab IntKind.u64.bits (n:Int)=zce 64 n:=by simp [IntKind.bits]
 have b:zab IntKind.u64.bits 4294967295=zce 64 (2^32-1):=rfl;rw [a,b];show (zce 64 n &&& zce 64 (2^32-1)).toNat = _;rw [BitVec.toNat_and,zdb,zdb,show (2^32-1)%2^64=2^32-1 by decide,Nat.and_two_pow_sub_one_eq_mod];omega
variable {a:Nat}
theorem an0 {x y b c d:Nat} (hx:x=a*4294967296+b) (hy:y=c*4294967296+d):x*y=(a*c)*18446744073709551616+(a*d+b*c)*4294967296+b*d:=by
 subst hx; subst hy;rw [zcc,Nat.mul_add,Nat.mul_add]
 have g:a*4294967296*(c*4294967296)=(a*c)*18446744073709551616:=by
  rw [Nat.mul_mul_mul_comm]
 have f:a*4294967296*d=(a*d)*4294967296:=Nat.mul_right_comm _ _ _;have e:b*(c*4294967296)=(b*c)*4294967296:=(zag _ _ _).symm;rw [g,f,e];omega
theorem vn {b:Nat} (c:a<4294967296) (d:b<4294967296):a*b<=18446744065119617025:=by
 have:a*b<=4294967295*4294967295:=zcf (by omega) (by omega);omega
theorem al7 (a b:Int) (g:b7 a) (f:b7 b):a9 P0 93 [int .i64 a,int .i64 b] [] (sm (a+b)) []:=by
 refine adl.t func93 ?_
 push_cast [adl,zaa]
 unfold b7 at g f;refine b8 (fun h=>?_) (fun h=>?_)
 ·push_cast
  refine xz ?_;rw [IntKind.wrap_i64] at h;unfold b7; by_cases e:(a+b+9223372036854775808)%18446744073709551616-9223372036854775808>a<;>by_cases c:b>0<;>by_cases d:b=0<;>simp only [e,c,d,decide_true,decide_false] at h<;>first | omega | (simp at h; done) | (simp at h; omega)
 push_cast
 rw [IntKind.wrap_i64] at h |-
 have:b7 (a+b):=by
  unfold b7; by_cases e:(a+b+9223372036854775808)%18446744073709551616-9223372036854775808>a<;>by_cases c:b>0<;>by_cases d:b=0<;>simp only [e,c,d,decide_true,decide_false] at h<;>first | omega | (simp at h; done) | (simp at h; omega)
 exact iu (by unfold b7 at this; omega) this
theorem akz (a b:Int) (g:b7 a) (f:b7 b):a9 P0 182 [int .i64 a,int .i64 b] [] (sm (a-b)) []:=by
 refine adh.t func182 ?_
 push_cast [adh,zaa]
 unfold b7 at g f;refine b8 (fun h=>?_) (fun h=>?_)
 ·push_cast
  refine xz ?_;rw [IntKind.wrap_i64] at h;unfold b7; by_cases e:(a-b+9223372036854775808)%18446744073709551616-9223372036854775808<a<;>by_cases c:b>0<;>by_cases d:b=0<;>simp only [e,c,d,decide_true,decide_false] at h<;>first | omega | (simp at h; done) | (simp at h; omega)
 push_cast
 rw [IntKind.wrap_i64] at h |-
 have:b7 (a-b):=by
  unfold b7; by_cases e:(a-b+9223372036854775808)%18446744073709551616-9223372036854775808<a<;>by_cases c:b>0<;>by_cases d:b=0<;>simp only [e,c,d,decide_true,decide_false] at h<;>first | omega | (simp at h; done) | (simp at h; omega)
 exact iu (by unfold b7 at this; omega) this
theorem axf (a:Int) (b:b7 a):a9 P0 179 [int .i64 a] [] (sm (-a)) []:=by
 refine adj.t func179 ?_
 push_cast [adj,zaa]
 refine a7 (akz 0 a (by decide) b) rfl trivial ?_
 push_cast [sm]
 simp
theorem amo (a:Int) (b:b7 a):a9 P0 147 [int .i64 a] [] (int .u64 a.natAbs) []:=by
 refine abr.t func147 ?_
 push_cast [abr,zaa]
 unfold b7 at b;refine b8 (fun h=>?_) (fun h=>?_)
 ·push_cast
  simp at h;rw [IntKind.wrap_u64,IntKind.wrap_u64];congr 3;omega
 push_cast
 simp at h;rw [IntKind.wrap_u64];congr 3;omega
theorem aer (x y:Nat) (hx:x<18446744073709551616) (hy:y<18446744073709551616):a9 P0 119 [int .u64 x,int .u64 y] [] (.tup [int .u64 (x*y/18446744073709551616:Nat),int .u64 (x*y%18446744073709551616:Nat)]) []:=by
 refine zo.t func119 ?_;simp only [zo,push_cast,↓reduceIte,reduceCtorEq,zB,zE,zA,zS,zL,zD,zM];refine ⟨by decide,by decide,by decide,by decide,by decide,?_⟩;simp only [axd,ax2,aw9,<- Int.natCast_mul,<- Int.natCast_add];have f:∀n:Nat,n%4294967296%18446744073709551616=n%4294967296:=fun n=>by omega
 simp only [f];have e:=an0 (x:=x) (y:=y) (a:=x/4294967296) (b:=x%4294967296) (c:=y/4294967296) (d:=y%4294967296) (by omega) (by omega);have i:=vn (a:=x/4294967296) (b:=y/4294967296) (by omega) (by omega);have g:=vn (a:=x/4294967296) (b:=y%4294967296) (by omega) (by omega);have h:=vn (a:=x%4294967296) (b:=y/4294967296) (by omega) (by omega);have j:=vn (a:=x%4294967296) (b:=y%4294967296) (by omega) (by omega);generalize x/4294967296*(y/4294967296)=p at *;generalize x/4294967296*(y%4294967296)=q at *;generalize x%4294967296*(y/4294967296)=r at *;generalize x%4294967296*(y%4294967296)=t at *;rw [e];congr 5;omega

theorem axg (a b:Int) (n:b7 a) (l:b7 b):a9 P0 113 [int .i64 a,int .i64 b] [] (sm (a*b)) []:=by
 refine adk.t func113 ?_;have g:=n;have i:=l;unfold b7 at g i
 simp only [adk,zaa,jx,ji,jn,au,bd,ae,jm,eo,co,bz,fk,v5,jv,eg,jr,ju,ej,ce,jl,jq,jo,av,ef,z6,ko,bf,da,fm,be,ol,ei,fj,cw,cd,eh,jt,jy,na,jh,jk,ar,tg,mw,kp,fu,kc,kb,en,ni,jw,ek,cg,eu,ki,fb,fh,aa,w9,ct,ez,z9,kj,cu,bc,nt,t8,fg,nu,ff,kn,y6,zan,nb,mv,ci,ck,tu,tv,tp,to,de,cp,nl,wh,jp,kg,ba,az,y7,n8,v9,kz,nq,ip,pl,mb,lc,ma,wm,lf,ll,ij,io,sk,lq,qd,qk,toV,ph,pi,dm,er,gs,yes,ug,bad,n7,du,mmL,et,su,eq2,eql,AV.isA,PO.see,PO.act,Vs.q,Rs.and,AV.bare,AV.may,qm,vb,va,qn,ka,un1,kl,lw,ia2,iab,leb,qe,ldb,ldr,ld1,nm,ns,fa1,qh,bnd,pt,kw,qi,src,bw,z8,i8,t9,PO.see.mayO,PO.see.bareO,g7,l7,bq,nv,AV.rv,rvs,AV.elt,frz,freeze,k8,s4,stb,str,st2,le,par,mc,ql,ln,sj,s5,bj,uo,RV.cells,AV.cells,AV.one,RV.one,AV.boxable,RV.good,c7,o7,gt,la,sp,ul,uk,ig,ic,ix,AV.isNil,jz,ft,u0,j9,bp,q9,l9,wl,l6,fwd,uu,my,o4,g8,bg,bt,back,v8,imV,imL,imO,idx,t5,obs,keep,u7,nr,dp,lr,ke,iy,qr,Ob.own,Value.oneCell',fo,dc,↓reduceIte,true_and,and_true,and_self,true_implies,imp_self,implies_true,zao,zap,zaq,zaa,zar,zas,zat,zau,zav,zaw,zax,zay,zaz,zba,zbb,zah,zbc,zbd,zai,zaj,zbe,zbf,zbg,zbh,zbi,zak,zbj,zal,reduceCtorEq,zbk,zbl,zbm,zbn,decide_true,decide_false,if_true,if_false,false_and,and_false,not_true,not_false_eq_true,zbo,zbp,zbq,zbr,zbs,zam,beq_self_eq_true,zB,zbt,zbu,false_implies,zbv,ne_eq,zbw,zbx,zby,zbz,zca,zcb,nd,nc,nh,ng,nf,nj]
 refine a7 (amo a n) rfl trivial ?_
 simp only [jx,ji,jn,au,bd,ae,jm,eo,co,bz,fk,v5,jv,eg,jr,ju,ej,ce,jl,jq,jo,av,ef,z6,ko,bf,da,fm,be,ol,ei,fj,cw,cd,eh,jt,jy,na,jh,jk,ar,tg,mw,kp,fu,kc,kb,en,ni,jw,ek,cg,eu,ki,fb,fh,aa,w9,ct,ez,z9,kj,cu,bc,nt,t8,fg,nu,ff,kn,y6,zan,nb,mv,ci,ck,tu,tv,tp,to,de,cp,nl,wh,jp,kg,ba,az,y7,n8,v9,kz,nq,ip,pl,mb,lc,ma,wm,lf,ll,ij,io,sk,lq,qd,qk,toV,ph,pi,dm,er,gs,yes,ug,bad,n7,du,mmL,et,su,eq2,eql,AV.isA,PO.see,PO.act,Vs.q,Rs.and,AV.bare,AV.may,qm,vb,va,qn,ka,un1,kl,lw,ia2,iab,leb,qe,ldb,ldr,ld1,nm,ns,fa1,qh,bnd,pt,kw,qi,src,bw,z8,i8,t9,PO.see.mayO,PO.see.bareO,g7,l7,bq,nv,AV.rv,rvs,AV.elt,frz,freeze,k8,s4,stb,str,st2,le,par,mc,ql,ln,sj,s5,bj,uo,RV.cells,AV.cells,AV.one,RV.one,AV.boxable,RV.good,c7,o7,gt,la,sp,ul,uk,ig,ic,ix,AV.isNil,jz,ft,u0,j9,bp,q9,l9,wl,l6,fwd,uu,my,o4,g8,bg,bt,back,v8,imV,imL,imO,idx,t5,obs,keep,u7,nr,dp,lr,ke,iy,qr,Ob.own,Value.oneCell',fo,dc,↓reduceIte,true_and,and_true,and_self,true_implies,imp_self,implies_true,zao,zap,zaq,zaa,zar,zas,zat,zau,zav,zaw,zax,zay,zaz,zba,zbb,zah,zbc,zbd,zai,zaj,zbe,zbf,zbg,zbh,zbi,zak,zbj,zal,reduceCtorEq,zbk,zbl,zbm,zbn,decide_true,decide_false,if_true,if_false,false_and,and_false,not_true,not_false_eq_true,zbo,zbp,zbq,zbr,zbs,zam,beq_self_eq_true,zB,zbt,zbu,false_implies,zbv,ne_eq,zbw,zbx,zby,zbz,zca,zcb,nd,nc,nh,ng,nf,nj]
 refine a7 (amo b l) rfl trivial ?_
 simp only [jx,ji,jn,au,bd,ae,jm,eo,co,bz,fk,v5,jv,eg,jr,ju,ej,ce,jl,jq,jo,av,ef,z6,ko,bf,da,fm,be,ol,ei,fj,cw,cd,eh,jt,jy,na,jh,jk,ar,tg,mw,kp,fu,kc,kb,en,ni,jw,ek,cg,eu,ki,fb,fh,aa,w9,ct,ez,z9,kj,cu,bc,nt,t8,fg,nu,ff,kn,y6,zan,nb,mv,ci,ck,tu,tv,tp,to,de,cp,nl,wh,jp,kg,ba,az,y7,n8,v9,kz,nq,ip,pl,mb,lc,ma,wm,lf,ll,ij,io,sk,lq,qd,qk,toV,ph,pi,dm,er,gs,yes,ug,bad,n7,du,mmL,et,su,eq2,eql,AV.isA,PO.see,PO.act,Vs.q,Rs.and,AV.bare,AV.may,qm,vb,va,qn,ka,un1,kl,lw,ia2,iab,leb,qe,ldb,ldr,ld1,nm,ns,fa1,qh,bnd,pt,kw,qi,src,bw,z8,i8,t9,PO.see.mayO,PO.see.bareO,g7,l7,bq,nv,AV.rv,rvs,AV.elt,frz,freeze,k8,s4,stb,str,st2,le,par,mc,ql,ln,sj,s5,bj,uo,RV.cells,AV.cells,AV.one,RV.one,AV.boxable,RV.good,c7,o7,gt,la,sp,ul,uk,ig,ic,ix,AV.isNil,jz,ft,u0,j9,bp,q9,l9,wl,l6,fwd,uu,my,o4,g8,bg,bt,back,v8,imV,imL,imO,idx,t5,obs,keep,u7,nr,dp,lr,ke,iy,qr,Ob.own,Value.oneCell',fo,dc,↓reduceIte,true_and,and_true,and_self,true_implies,imp_self,implies_true,zao,zap,zaq,zaa,zar,zas,zat,zau,zav,zaw,zax,zay,zaz,zba,zbb,zah,zbc,zbd,zai,zaj,zbe,zbf,zbg,zbh,zbi,zak,zbj,zal,reduceCtorEq,zbk,zbl,zbm,zbn,decide_true,decide_false,if_true,if_false,false_and,and_false,not_true,not_false_eq_true,zbo,zbp,zbq,zbr,zbs,zam,beq_self_eq_true,zB,zbt,zbu,false_implies,zbv,ne_eq,zbw,zbx,zby,zbz,zca,zcb,nd,nc,nh,ng,nf,nj]
 refine a7 (aer a.natAbs b.natAbs (by omega) (by omega)) rfl trivial ?_
 simp only [jx,ji,jn,au,bd,ae,jm,eo,co,bz,fk,v5,jv,eg,jr,ju,ej,ce,jl,jq,jo,av,ef,z6,ko,bf,da,fm,be,ol,ei,fj,cw,cd,eh,jt,jy,na,jh,jk,ar,tg,mw,kp,fu,kc,kb,en,ni,jw,ek,cg,eu,ki,fb,fh,aa,w9,ct,ez,z9,kj,cu,bc,nt,t8,fg,nu,ff,kn,y6,zan,nb,mv,ci,ck,tu,tv,tp,to,de,cp,nl,wh,jp,kg,ba,az,y7,n8,v9,kz,nq,ip,pl,mb,lc,ma,wm,lf,ll,ij,io,sk,lq,qd,qk,toV,ph,pi,dm,er,gs,yes,ug,bad,n7,du,mmL,et,su,eq2,eql,AV.isA,PO.see,PO.act,Vs.q,Rs.and,AV.bare,AV.may,qm,vb,va,qn,ka,un1,kl,lw,ia2,iab,leb,qe,ldb,ldr,ld1,nm,ns,fa1,qh,bnd,pt,kw,qi,src,bw,z8,i8,t9,PO.see.mayO,PO.see.bareO,g7,l7,bq,nv,AV.rv,rvs,AV.elt,frz,freeze,k8,s4,stb,str,st2,le,par,mc,ql,ln,sj,s5,bj,uo,RV.cells,AV.cells,AV.one,RV.one,AV.boxable,RV.good,c7,o7,gt,la,sp,ul,uk,ig,ic,ix,AV.isNil,jz,ft,u0,j9,bp,q9,l9,wl,l6,fwd,uu,my,o4,g8,bg,bt,back,v8,imV,imL,imO,idx,t5,obs,keep,u7,nr,dp,lr,ke,iy,qr,Ob.own,Value.oneCell',fo,dc,↓reduceIte,true_and,and_true,and_self,true_implies,imp_self,implies_true,zao,zap,zaq,zaa,zar,zas,zat,zau,zav,zaw,zax,zay,zaz,zba,zbb,zah,zbc,zbd,zai,zaj,zbe,zbf,zbg,zbh,zbi,zak,zbj,zal,reduceCtorEq,zbk,zbl,zbm,zbn,decide_true,decide_false,if_true,if_false,false_and,and_false,not_true,not_false_eq_true,zbo,zbp,zbq,zbr,zbs,zam,beq_self_eq_true,zB,zbt,zbu,false_implies,zbv,ne_eq,zbw,zbx,zby,zbz,zca,zcb,nd,nc,nh,ng,nf,nj]
 have c:a.natAbs*b.natAbs=(a*b).natAbs:=(zcp a b).symm;rw [c];have p:(a*b).natAbs<=9223372036854775808*9223372036854775808:=by rw [<- c]; exact zcf (by omega) (by omega)
 have s:(a<0/\b<0->0<a*b)/\(a<0/\0<=b->a*b<=0)/\(0<=a/\b<0->a*b<=0)/\(0<=a/\0<=b->0<=a*b):=
  ⟨fun h=>Int.mul_pos_of_neg_of_neg h.1 h.2,fun h=>Int.mul_nonpos_of_nonpos_of_nonneg (by omega) h.2,fun h=>Int.mul_nonpos_of_nonneg_of_nonpos h.1 (by omega),fun h=>zcq h.1 h.2⟩
 clear c;generalize a*b=m at *
 repeat refine And.intro (by simp +contextual) ?_
 refine b8 (fun h=>?_) (fun h=>?_)
 ·simp only [jx,ji,jn,au,bd,ae,jm,eo,co,bz,fk,v5,jv,eg,jr,ju,ej,ce,jl,jq,jo,av,ef,z6,ko,bf,da,fm,be,ol,ei,fj,cw,cd,eh,jt,jy,na,jh,jk,ar,tg,mw,kp,fu,kc,kb,en,ni,jw,ek,cg,eu,ki,fb,fh,aa,w9,ct,ez,z9,kj,cu,bc,nt,t8,fg,nu,ff,kn,y6,zan,nb,mv,ci,ck,tu,tv,tp,to,de,cp,nl,wh,jp,kg,ba,az,y7,n8,v9,kz,nq,ip,pl,mb,lc,ma,wm,lf,ll,ij,io,sk,lq,qd,qk,toV,ph,pi,dm,er,gs,yes,ug,bad,n7,du,mmL,et,su,eq2,eql,AV.isA,PO.see,PO.act,Vs.q,Rs.and,AV.bare,AV.may,qm,vb,va,qn,ka,un1,kl,lw,ia2,iab,leb,qe,ldb,ldr,ld1,nm,ns,fa1,qh,bnd,pt,kw,qi,src,bw,z8,i8,t9,PO.see.mayO,PO.see.bareO,g7,l7,bq,nv,AV.rv,rvs,AV.elt,frz,freeze,k8,s4,stb,str,st2,le,par,mc,ql,ln,sj,s5,bj,uo,RV.cells,AV.cells,AV.one,RV.one,AV.boxable,RV.good,c7,o7,gt,la,sp,ul,uk,ig,ic,ix,AV.isNil,jz,ft,u0,j9,bp,q9,l9,wl,l6,fwd,uu,my,o4,g8,bg,bt,back,v8,imV,imL,imO,idx,t5,obs,keep,u7,nr,dp,lr,ke,iy,qr,Ob.own,Value.oneCell',fo,dc,↓reduceIte,true_and,and_true,and_self,true_implies,imp_self,implies_true,zao,zap,zaq,zaa,zar,zas,zat,zau,zav,zaw,zax,zay,zaz,zba,zbb,zah,zbc,zbd,zai,zaj,zbe,zbf,zbg,zbh,zbi,zak,zbj,zal,reduceCtorEq,zbk,zbl,zbm,zbn,decide_true,decide_false,if_true,if_false,false_and,and_false,not_true,not_false_eq_true,zbo,zbp,zbq,zbr,zbs,zam,beq_self_eq_true,zB,zbt,zbu,false_implies,zbv,ne_eq,zbw,zbx,zby,zbz,zca,zcb,nd,nc,nh,ng,nf,nj]
  refine xz ?_;unfold b7;by_cases k:m.natAbs/18446744073709551616=0<;>by_cases j:m.natAbs%18446744073709551616=9223372036854775808<;>by_cases e:a<0<;>by_cases d:b<0<;>simp [k,j,e,d] at h<;>omega
 have r:m.natAbs<=9223372036854775808/\(m.natAbs=9223372036854775808->(a<0/\0<=b)\/(0<=a/\b<0)):=by
  by_cases k:m.natAbs/18446744073709551616=0<;>by_cases j:m.natAbs%18446744073709551616=9223372036854775808<;>by_cases e:a<0<;>by_cases d:b<0<;>simp [k,j,e,d] at h<;>omega
 clear h
 simp only [jx,ji,jn,au,bd,ae,jm,eo,co,bz,fk,v5,jv,eg,jr,ju,ej,ce,jl,jq,jo,av,ef,z6,ko,bf,da,fm,be,ol,ei,fj,cw,cd,eh,jt,jy,na,jh,jk,ar,tg,mw,kp,fu,kc,kb,en,ni,jw,ek,cg,eu,ki,fb,fh,aa,w9,ct,ez,z9,kj,cu,bc,nt,t8,fg,nu,ff,kn,y6,zan,nb,mv,ci,ck,tu,tv,tp,to,de,cp,nl,wh,jp,kg,ba,az,y7,n8,v9,kz,nq,ip,pl,mb,lc,ma,wm,lf,ll,ij,io,sk,lq,qd,qk,toV,ph,pi,dm,er,gs,yes,ug,bad,n7,du,mmL,et,su,eq2,eql,AV.isA,PO.see,PO.act,Vs.q,Rs.and,AV.bare,AV.may,qm,vb,va,qn,ka,un1,kl,lw,ia2,iab,leb,qe,ldb,ldr,ld1,nm,ns,fa1,qh,bnd,pt,kw,qi,src,bw,z8,i8,t9,PO.see.mayO,PO.see.bareO,g7,l7,bq,nv,AV.rv,rvs,AV.elt,frz,freeze,k8,s4,stb,str,st2,le,par,mc,ql,ln,sj,s5,bj,uo,RV.cells,AV.cells,AV.one,RV.one,AV.boxable,RV.good,c7,o7,gt,la,sp,ul,uk,ig,ic,ix,AV.isNil,jz,ft,u0,j9,bp,q9,l9,wl,l6,fwd,uu,my,o4,g8,bg,bt,back,v8,imV,imL,imO,idx,t5,obs,keep,u7,nr,dp,lr,ke,iy,qr,Ob.own,Value.oneCell',fo,dc,↓reduceIte,true_and,and_true,and_self,true_implies,imp_self,implies_true,zao,zap,zaq,zaa,zar,zas,zat,zau,zav,zaw,zax,zay,zaz,zba,zbb,zah,zbc,zbd,zai,zaj,zbe,zbf,zbg,zbh,zbi,zak,zbj,zal,reduceCtorEq,zbk,zbl,zbm,zbn,decide_true,decide_false,if_true,if_false,false_and,and_false,not_true,not_false_eq_true,zbo,zbp,zbq,zbr,zbs,zam,beq_self_eq_true,zB,zbt,zbu,false_implies,zbv,ne_eq,zbw,zbx,zby,zbz,zca,zcb,nd,nc,nh,ng,nf,nj]
 refine b8 (fun f=>?_) (fun f=>?_)
 ·simp only [jx,ji,jn,au,bd,ae,jm,eo,co,bz,fk,v5,jv,eg,jr,ju,ej,ce,jl,jq,jo,av,ef,z6,ko,bf,da,fm,be,ol,ei,fj,cw,cd,eh,jt,jy,na,jh,jk,ar,tg,mw,kp,fu,kc,kb,en,ni,jw,ek,cg,eu,ki,fb,fh,aa,w9,ct,ez,z9,kj,cu,bc,nt,t8,fg,nu,ff,kn,y6,zan,nb,mv,ci,ck,tu,tv,tp,to,de,cp,nl,wh,jp,kg,ba,az,y7,n8,v9,kz,nq,ip,pl,mb,lc,ma,wm,lf,ll,ij,io,sk,lq,qd,qk,toV,ph,pi,dm,er,gs,yes,ug,bad,n7,du,mmL,et,su,eq2,eql,AV.isA,PO.see,PO.act,Vs.q,Rs.and,AV.bare,AV.may,qm,vb,va,qn,ka,un1,kl,lw,ia2,iab,leb,qe,ldb,ldr,ld1,nm,ns,fa1,qh,bnd,pt,kw,qi,src,bw,z8,i8,t9,PO.see.mayO,PO.see.bareO,g7,l7,bq,nv,AV.rv,rvs,AV.elt,frz,freeze,k8,s4,stb,str,st2,le,par,mc,ql,ln,sj,s5,bj,uo,RV.cells,AV.cells,AV.one,RV.one,AV.boxable,RV.good,c7,o7,gt,la,sp,ul,uk,ig,ic,ix,AV.isNil,jz,ft,u0,j9,bp,q9,l9,wl,l6,fwd,uu,my,o4,g8,bg,bt,back,v8,imV,imL,imO,idx,t5,obs,keep,u7,nr,dp,lr,ke,iy,qr,Ob.own,Value.oneCell',fo,dc,↓reduceIte,true_and,and_true,and_self,true_implies,imp_self,implies_true,zao,zap,zaq,zaa,zar,zas,zat,zau,zav,zaw,zax,zay,zaz,zba,zbb,zah,zbc,zbd,zai,zaj,zbe,zbf,zbg,zbh,zbi,zak,zbj,zal,reduceCtorEq,zbk,zbl,zbm,zbn,decide_true,decide_false,if_true,if_false,false_and,and_false,not_true,not_false_eq_true,zbo,zbp,zbq,zbr,zbs,zam,beq_self_eq_true,zB,zbt,zbu,false_implies,zbv,ne_eq,zbw,zbx,zby,zbz,zca,zcb,nd,nc,nh,ng,nf,nj]
  have o:m<=0:=by by_cases e:a<0<;>by_cases d:b<0<;>simp [e,d] at f<;>omega
  refine iu ?_ ?_
  ·rw [IntKind.wrap_i64,IntKind.wrap_i64];omega
  unfold b7; omega
 simp only [jx,ji,jn,au,bd,ae,jm,eo,co,bz,fk,v5,jv,eg,jr,ju,ej,ce,jl,jq,jo,av,ef,z6,ko,bf,da,fm,be,ol,ei,fj,cw,cd,eh,jt,jy,na,jh,jk,ar,tg,mw,kp,fu,kc,kb,en,ni,jw,ek,cg,eu,ki,fb,fh,aa,w9,ct,ez,z9,kj,cu,bc,nt,t8,fg,nu,ff,kn,y6,zan,nb,mv,ci,ck,tu,tv,tp,to,de,cp,nl,wh,jp,kg,ba,az,y7,n8,v9,kz,nq,ip,pl,mb,lc,ma,wm,lf,ll,ij,io,sk,lq,qd,qk,toV,ph,pi,dm,er,gs,yes,ug,bad,n7,du,mmL,et,su,eq2,eql,AV.isA,PO.see,PO.act,Vs.q,Rs.and,AV.bare,AV.may,qm,vb,va,qn,ka,un1,kl,lw,ia2,iab,leb,qe,ldb,ldr,ld1,nm,ns,fa1,qh,bnd,pt,kw,qi,src,bw,z8,i8,t9,PO.see.mayO,PO.see.bareO,g7,l7,bq,nv,AV.rv,rvs,AV.elt,frz,freeze,k8,s4,stb,str,st2,le,par,mc,ql,ln,sj,s5,bj,uo,RV.cells,AV.cells,AV.one,RV.one,AV.boxable,RV.good,c7,o7,gt,la,sp,ul,uk,ig,ic,ix,AV.isNil,jz,ft,u0,j9,bp,q9,l9,wl,l6,fwd,uu,my,o4,g8,bg,bt,back,v8,imV,imL,imO,idx,t5,obs,keep,u7,nr,dp,lr,ke,iy,qr,Ob.own,Value.oneCell',fo,dc,↓reduceIte,true_and,and_true,and_self,true_implies,imp_self,implies_true,zao,zap,zaq,zaa,zar,zas,zat,zau,zav,zaw,zax,zay,zaz,zba,zbb,zah,zbc,zbd,zai,zaj,zbe,zbf,zbg,zbh,zbi,zak,zbj,zal,reduceCtorEq,zbk,zbl,zbm,zbn,decide_true,decide_false,if_true,if_false,false_and,and_false,not_true,not_false_eq_true,zbo,zbp,zbq,zbr,zbs,zam,beq_self_eq_true,zB,zbt,zbu,false_implies,zbv,ne_eq,zbw,zbx,zby,zbz,zca,zcb,nd,nc,nh,ng,nf,nj]
 have o:0<=m/\m.natAbs≠9223372036854775808:=by by_cases e:a<0<;>by_cases d:b<0<;>simp [e,d] at f<;>omega
 refine iu ?_ ?_
 ·rw [IntKind.wrap_i64];omega
 unfold b7; omega
theorem akx {a b c d e c':AV} (h:a=d) (f:b=e) (g:c=c'):AV.tup [a,b,c]=AV.tup [d,e,c']:=by rw [h,f,g]
variable {b:Int}
theorem re {k:IntKind} {a:Int} (h:a=b):int k a=int k b:=by rw [h]
theorem agc {a b:Bool} (h:a=b):bl a=bl b:=by rw [h]
theorem abu {a:Int} (e:b7 a) (c:0<b):(-9223372036854775808<=a/b/\a/b<=9223372036854775807)/\(a.tmod b<0->a.tdiv b-1=a/b/\a.tmod b+b=a%b)/\(0<=a.tmod b->a.tdiv b=a/b/\a.tmod b=a%b):=by
 unfold b7 at e;have l:=Int.mul_tdiv_add_tmod a b;have g:a.tmod b<b:=Int.tmod_lt_of_pos a c
 have k:-b<a.tmod b:=by
  have:=Int.lt_tmod_of_pos a c;omega
 refine ⟨?_,fun h=>?_,fun h=>?_⟩
 ·have i:=zct a b;have f:=zae a c;have j:=zaf a (show b≠0 by omega);generalize a/b=q at *;generalize a%b=r at *;constructor
  ·rcases zcg q 0 with d | d
   ·have:b*(q+1)<=1*(q+1):=Int.mul_le_mul_of_nonpos_right (by omega) (by omega);rw [zch] at this;omega
   omega
  rcases zcg q 0 with d | d
  ·omega
  have:1*q<=b*q:=zcu (by omega) d;omega
 ·have:=(Int.ediv_emod_unique (a:=a) (b:=b) (r:=a.tmod b+b) (q:=a.tdiv b-1) c).2 ⟨by rw [Int.mul_sub]; omega,by omega,by omega⟩;exact ⟨this.1.symm,this.2.symm⟩
 have:=(Int.ediv_emod_unique (a:=a) (b:=b) (r:=a.tmod b) (q:=a.tdiv b) c).2 ⟨by omega,by omega,by omega⟩;exact ⟨this.1.symm,this.2.symm⟩
theorem go (a b:Int) (d:b7 a) (i:b7 b):a9 P0 66 [int .i64 a,int .i64 b] [] (.tup [int .i64 (if 0<b then a/b else 0),int .i64 (if 0<b then a%b else 0),bl (decide (0<b))]) []:=by
 refine aae.t func66 ?_
 push_cast [aae,zaa]
 refine b8 (fun h=>?_) (fun h=>?_)
 ·push_cast
  simp at h;have:¬0<b:=by omega
  simp [this]
 push_cast
 simp at h;refine ⟨by omega,by omega,by kernel_rfl,?_⟩;obtain ⟨m,k,j⟩:=abu d h;have g:IntKind.i64.wrap (a.tdiv b)=a.tdiv b:=wrap_i64_tdiv a b d.1 d.2 (by omega);rw [g];refine b8 (fun c=>?_) (fun c=>?_)
 ·push_cast
  simp at c;obtain ⟨f,e⟩:=k c;refine akx (re ?_) (re ?_) (agc ?_)
  ·rw [if_pos h,<- f,a5];unfold b7 at d; rw [f]; omega
  ·rw [if_pos h,<- e,a5];have l:=zae a h;have n:=zaf a (show b≠0 by omega);rw [e];unfold b7 at i; omega
  simp [h]
 push_cast
 simp at c;obtain ⟨f,e⟩:=j c;refine akx (re ?_) (re ?_) (agc ?_)
 ·rw [if_pos h,f]
 ·rw [if_pos h,e]
 simp [h]

def vw:Mk P0 f159:={ x:=_ }
def kr:PC:=
 (.seq (.reg [p_a 2 (.box (.t 0)),p_a 3 (.box (.t 1)),p_a 4 (.new [(.r (.v (.int .u64 0))),(.r (.v (.int .u64 0)))])])
 (.seq (.reg [p_s 10 (.fa 1 (.t 2)),p_s 11 (.ld none (.t 10)),p_s 12 (.fa 1 (.t 3)),p_s 13 (.ld none (.t 12)),p_s 14 (.carry false (.t 11) (.t 13) (.c (.r (.v (.int .u64 0))))),
 p_m 9 14,p_s 15 (.ext (.t 9) 0),p_s 16 (.ext (.t 9) 1),p_m 5 15,p_m 6 16])
 (.seq (.reg [p_s 18 (.fa 0 (.t 2)),p_s 19 (.ld none (.t 18)),p_s 20 (.fa 0 (.t 3)),p_s 21 (.ld none (.t 20)),p_m 22 6,p_s 23 (.carry false (.t 19) (.t 21) (.t 22)),p_m 17 23,
 p_s 24 (.ext (.t 17) 0),p_s 25 (.ext (.t 17) 1),p_m 7 24,p_m 8 25])
 (.seq (.reg [p_m 26 7,p_m 27 5,p_s 28 (.build [(.r (.v (.int .u64 0))),(.r (.v (.int .u64 0)))] [(0,1,(.t 26)),(1,1,(.t 27))]),⟨none,none,0,.act (.st 2 (.t 4) (.t 28))⟩])
 .ret))))
theorem sb:Fun P0 81 2 [(4,false,some (132,(some 2)))] kr:=aak func81 rfl (by decide) (by kernel_rfl) (by decide) rfl (by kernel_rfl) (by kernel_rfl) (by decide)
def iq:Mk P0 f82:={ x:=_ }
def pa:Mk P0 f79:={ x:=_ }
def ja:Mk P0 f118:={ x:=_ }
def i9 (x:Int):AV:=.r (.agg [.v (.int .u64 (x/18446744073709551616%18446744073709551616)),.v (.int .u64 (x%18446744073709551616))])
theorem gi {a:Int} (d:a=x/18446744073709551616%18446744073709551616) (c:b=x%18446744073709551616):AV.r (.agg [.v (.int .u64 a),.v (.int .u64 b)])=i9 x:=by rw [d,c]; rfl
theorem axc (a:Int) (b:b7 a):a.fdiv (2^min (Int.toNat 63) IntKind.i64.bits)=if a<0 then -1 else 0:=by
 have:(2:Int)^min (Int.toNat 63) IntKind.i64.bits=9223372036854775808:=by decide
 rw [this,zda _ (by decide)];unfold b7 at b;split<;>omega
theorem w_t (a:Int) (b:b7 a):a9 P0 159 [int .i64 a] [] (i9 a) []:=by
 refine vw.t func159 ?_;simp only [vw,push_cast,↓reduceIte,reduceCtorEq,zB,zE,zA,zS,zL,zD,zM];refine ⟨by decide,gi ?_ ?_⟩
 ·rw [axc a b,IntKind.wrap_u64];unfold b7 at b;split<;>omega
 rw [IntKind.wrap_u64]
theorem ar3 (c:0<=x) (d:x<18446744073709551616):IntKind.u64.wrap ((zab IntKind.u64.bits (if IntKind.u64.signed=true then -1 else IntKind.u64.max) ^^^ zab IntKind.u64.bits x).toNat)=18446744073709551615-x:=by
 obtain ⟨n,rfl⟩:=Int.eq_ofNat_of_zero_le c;have b:zab IntKind.u64.bits (if IntKind.u64.signed=true then -1 else IntKind.u64.max)=BitVec.allOnes 64:=by rfl
 have a:zab IntKind.u64.bits (n:Int)=zce 64 n:=by simp [IntKind.bits]
 rw [b,a];show IntKind.u64.wrap ((BitVec.allOnes 64 ^^^ zce 64 n).toNat:Int) = _;rw [BitVec.allOnes_xor,BitVec.toNat_not,zdb,IntKind.wrap_u64];omega
theorem aaa (a b:Int):a9 P0 81 [i9 a,i9 b] [] (i9 (a+b)) []:=by
 refine sb rfl (by decide) ?_
 push_cast [kr,i9,zaa]
 refine ⟨by omega,by omega,gi (by omega) (by omega)⟩
theorem aek (a:Int) (h:-170141183460469231731687303715884105728<=a/\a<170141183460469231731687303715884105728):a9 P0 118 [i9 a] [] (sm a) []:=by
 refine ja.t func118 ?_
 push_cast [ja,i9,zaa]
 rw [IntKind.wrap_i64];refine c8 (w_t _ (by unfold b7; omega)) rfl trivial ?_
 push_cast [i9]
 refine ⟨by kernel_rfl,?_⟩;refine b8 (fun h=>?_) (fun h=>?_)
 ·push_cast
  refine xz ?_;unfold b7;simp at h;omega
 push_cast
 simp at h;refine iu ?_ ?_
 ·omega
 unfold b7; omega
theorem xx (a:Int):a9 P0 82 [i9 a] [] (i9 (-a)) []:=by
 refine iq.t func82 ?_
 push_cast [iq,i9,zaa]
 rw [ar3 (by omega) (by omega),ar3 (by omega) (by omega)];refine b5 (as':=[i9 (-1-a),i9 1]) ?_ ?_
 ·congr 1;exact gi (by omega) (by omega)
 refine a7 (aaa (-1-a) 1) rfl trivial ?_
 push_cast [i9]
 exact gi (by omega) (by omega)
theorem age (a:Int) (b:b7 a):(a<0->IntKind.u64.wrap (0-IntKind.u64.wrap a)=a.natAbs)/\(¬a<0->IntKind.u64.wrap a=a.natAbs):=by
 unfold b7 at b;rw [IntKind.wrap_u64,IntKind.wrap_u64];omega
theorem pj (a b:Int) (o:b7 a) (n:b7 b):a9 P0 79 [int .i64 a,int .i64 b] [] (i9 (a*b)) []:=by
 refine pa.t func79 ?_;have k:=o;have l:=n;unfold b7 at k l;obtain ⟨g,e⟩:=age a o;obtain ⟨i,f⟩:=age b n;have j:a.natAbs*b.natAbs=(a*b).natAbs:=(zcp a b).symm;have p:(a*b).natAbs<=9223372036854775808*9223372036854775808:=by rw [<- j]; exact zcf (by omega) (by omega)
 have q:(a<0/\b<0->0<a*b)/\(a<0/\0<=b->a*b<=0)/\(0<=a/\b<0->a*b<=0)/\(0<=a/\0<=b->0<=a*b):=
  ⟨fun h=>Int.mul_pos_of_neg_of_neg h.1 h.2,fun h=>Int.mul_nonpos_of_nonpos_of_nonneg (by omega) h.2,fun h=>Int.mul_nonpos_of_nonneg_of_nonpos h.1 (by omega),fun h=>zcq h.1 h.2⟩
 push_cast [pa,zaa]
 refine b8 (fun d=>?_) (fun d=>?_)<;>push_cast<;>refine b8 (fun c=>?_) (fun c=>?_)<;>push_cast
 all_goals
  simp only [decide_eq_true_eq,decide_eq_false_iff_not] at d c;refine b5 (as':=[int .u64 a.natAbs,int .u64 b.natAbs]) (by first | rw [g d,i c] | rw [g d,f c] | rw [e d,i c] | rw [e d,f c]) ?_;refine a7 (aer a.natAbs b.natAbs (by omega) (by omega)) rfl trivial ?_;rw [j]
  push_cast [d,c,Bool.true_beq,Bool.false_beq]
  generalize a*b=m at *
 ·exact gi (by omega) (by omega)
 ·refine b5 (as':=[i9 (-m)]) (by congr 1; exact gi (by omega) (by omega)) ?_;refine a7 (xx (-m)) rfl trivial ?_
  push_cast [i9]
  exact gi (by omega) (by omega)
 ·refine b5 (as':=[i9 (-m)]) (by congr 1; exact gi (by omega) (by omega)) ?_;refine a7 (xx (-m)) rfl trivial ?_
  push_cast [i9]
  exact gi (by omega) (by omega)
 exact gi (by omega) (by omega)

def aad:Mk P0 f112:={ x:=_ }
def adi:Mk P0 f75:={ x:=_ }
def te:Mk P0 f78:={ x:=_ }
theorem apn (x a:Int) (y:Bool) (hx:b7 x) (b:b7 a):a9 P0 112 [.ptr 1000000 0 0,.ptr 1000001 0 0,.ptr 1000002 0 0] [.box [int .i64 x],.box [int .i64 a],.box [bl y]] (.tup [])
 [.box [int .i64 (if b7 (x*a) then x*a else 0)],.box [int .i64 a],.box [bl (decide (b7 (x*a)))]]:=by
 refine aad.t func112 ?_
 push_cast [aad,zaa]
 refine a7 (axg x a hx b) rfl trivial ?_
 push_cast [sm]
theorem anl {a:Int} (f:-1<=a) (c:a<=1) (n:Nat):a^(min n (2-n%2))=a^n:=by
 have b:∀m:Nat,1<=m->a^(m+2)=a^m:=fun m d=>by
  have:a=-1\/a=0\/a=1:=by omega
  rcases this with rfl | rfl | rfl
  ·rw [zci,zci]; omega
  ·rw [Int.zero_pow (by omega),Int.zero_pow (by omega)]
  rw [Int.one_pow,Int.one_pow]
 induction n using Nat.strongRecOn with
 | ind n ih=>
   rcases (show n=0\/n=1\/n=2\/3<=n by omega) with h | h | h | h
   ·subst h; rfl
   ·subst h; rfl
   ·subst h; rfl
   have:=ih (n-2) (by omega);have e:=b (n-2) (by omega);rw [show n-2+2=n by omega] at e;rw [e,<- this];congr 1;omega
theorem ajn {a T:Int} {n:Nat} (c:-1<=a/\a<=1->-1<=x/\x<=1) (hx:b7 x) (l:b7 a) (h:¬b7 (x*a)) (b:x*a*a^n=T):¬b7 T:=by
 have d:¬(-1<=a/\a<=1):=fun k=>by
  have:=c k;have d:a=-1\/a=0\/a=1:=by omega
  apply h;unfold b7;rcases d with rfl | rfl | rfl<;>omega
 have e:2<=a.natAbs:=by omega
 have j:9223372036854775808<=(x*a).natAbs:=by unfold b7 at h; omega
 have f:T.natAbs=(x*a).natAbs*a.natAbs^n:=by rw [<- b,zcp,Int.natAbs_pow]
 cases n with
 | zero=>
   simp at b;rw [<- b]; exact h
 | succ n=>
   have i:2<=a.natAbs^(n+1):=Nat.le_trans e (Nat.le_self_pow (by omega) _);have g:9223372036854775808*2<=(x*a).natAbs*a.natAbs^(n+1):=zcf j i;rw [<- f] at g;unfold b7;omega
theorem axe (a k:Int) (G:b7 a) (J:b7 k):a9 P0 75 [int .i64 a,int .i64 k] [] (if k<0 then .tup [int .i64 0,bl false] else sm (a^k.toNat)) []:=by
 refine adi.t func75 ?_;simp only [adi,push_cast,↓reduceIte,reduceCtorEq,zB,zE,zA,zS,zL,zD,zM];refine b8 (fun i=>?_) (fun i=>?_)
 ·simp only [decide_eq_true_eq] at i;simp only [if_pos i,push_cast,↓reduceIte,reduceCtorEq,zB,zE,zA,zS,zL,zD,zM]
 simp only [decide_eq_false_iff_not] at i;simp only [if_neg i,push_cast,↓reduceIte,reduceCtorEq,zB,zE,zA,zS,zL,zD,zM];generalize E:a^k.toNat=T;refine aq8 (fun e ob=>∃b,e 1=int .i64 b/\e 2=.ptr 2 0 0/\0<=b/\b7 b/\a^b.toNat=T/\(a=-1\/a=0\/a=1->b<=2)/\ob=upd 2 (0,.box [int .i64 a]) (fun _=>none)) ?_ (fun A=>?_) (fun A=>?_)
 ·rintro e ob ⟨b,l,f,C,w,u,O,rfl⟩;simp only [l,f,push_cast,↓reduceIte,reduceCtorEq,zB,zE,zA,zS,zL,zD,zM]
  refine c9 [(1,false),(6,false),(2,false),(7,false),(8,false)] (fun vs pos d=>∃(j x:Int) (y:Bool),0<=j/\b7 j/\b7 x/\(y=true->x*a^j.toNat=T)/\(y=false->x=0/\¬b7 T)/\(-1<=a/\a<=1->-1<=x/\x<=1) /\
   vs=[int .i64 j,.ptr 2000000 0 0,.ptr 2000001 0 0,.ptr 2000002 0 0,.fn (.func 112) [.ptr 2000000 0 0,.ptr 2000001 0 0,.ptr 2000002 0 0]]/\pos=[]/\d=[.box [int .i64 x],.box [int .i64 a],.box [bl y]])
   (fun vs _ _=>match vs with | .r (.v (.int _ j))::_=>j.toNat | _=>0) rfl ?_ ?_
  ·simp only [l,f,push_cast,↓reduceIte,reduceCtorEq,zB,zE,zA,zS,zL,zD,zM];exact ⟨b,1,true,C,w,by decide,fun _=>by rw [zcj,u],by simp,fun _=>by decide,rfl,rfl⟩
  rintro vs pos d ⟨j,x,y,P,H,z,o,s,g,rfl,rfl,rfl⟩;simp only [push_cast,↓reduceIte,reduceCtorEq,zB,zE,zA,zS,zL,zD,zM];refine b8 (fun h=>?_) (fun h=>?_)
  ·have D:0<j:=by
    rcases zcg 0 j with m | m
    ·exact m
    simp [show ¬j>0 by omega] at h
   have hy:y=true:=by simpa [D] using h
   simp only [push_cast,↓reduceIte,reduceCtorEq,zB,zE,zA,zS,zL,zD,zM];refine ⟨by kernel_rfl,?_⟩;refine a7 (apn x a y z G) rfl ⟨rfl,rfl,rfl,trivial⟩ ?_;simp only [push_cast,↓reduceIte,reduceCtorEq,zB,zE,zA,zS,zL,zD,zM];have M:IntKind.i64.wrap (j-1)=j-1:=a5 (by unfold b7 at H; omega);rw [M];have B:j.toNat=(j-1).toNat+1:=by omega
   have n:x*a*a^(j-1).toNat=T:=by
    rw [<- o hy,B,zci,Int.mul_assoc,Int.mul_comm a]
   refine ⟨⟨j-1,_,_,by omega,by unfold b7 at H |-; omega,?_,?_,?_,?_,rfl,rfl⟩,by omega⟩
   ·split
    ·assumption
    decide
   ·intro c;rw [if_pos (of_decide_eq_true c)];exact n
   ·intro c;have c:=of_decide_eq_false c;rw [if_neg c];refine ⟨rfl,?_⟩;exact ajn g z G c n
   intro I;have:=g I;have F:a=-1\/a=0\/a=1:=by omega
   split
   ·rcases F with rfl | rfl | rfl<;>omega
   omega
  simp only [push_cast,↓reduceIte,reduceCtorEq,zB,zE,zA,zS,zL,zD,zM];refine ⟨by kernel_rfl,?_⟩;cases y with
  | true=>
    have D:j=0:=by
     rcases zcg 0 j with m | m
     ·simp [m] at h
     omega
    subst D;have:=o rfl;simp at this;subst this;exact iu rfl z
  | false=>
    obtain ⟨rfl,L⟩:=s rfl;exact xz L
 ·simp only [push_cast,↓reduceIte,reduceCtorEq,zB,zE,zA,zS,zL,zD,zM]
  have F:a=-1\/a=0\/a=1:=by
   by_cases p:a>=-1<;>by_cases q:a<=1<;>simp [p,q] at A<;>omega
  have K:k.tmod 2=k%2:=by
   rw [zck (by omega)]
  have N:IntKind.i64.wrap (2-k.tmod 2)=2-k%2:=by rw [K]; exact a5 (by omega)
  rw [N];refine ⟨by decide,min k (2-k%2),rfl,by omega,by unfold b7 at *; omega,?_,by omega⟩;rw [show (min k (2-k%2)).toNat=min k.toNat (2-k.toNat%2) by omega,anl (by omega) (by omega),E]
 simp only [push_cast,↓reduceIte,reduceCtorEq,zB,zE,zA,zS,zL,zD,zM];refine ⟨k,rfl,by omega,J,E,fun h=>?_⟩;rcases h with rfl | rfl | rfl<;>simp at A

theorem ap8 {a:Int} (h:-1<=a/\a<=1) (n:Nat):-1<=a^n/\a^n<=1:=by
 induction n with
 | zero=>simp
 | succ n ih=>
   rw [zci];have:a=-1\/a=0\/a=1:=by omega
   rcases this with rfl | rfl | rfl<;>omega
theorem aa9 (n:Nat):(-1:Int)^n=if n%2=1 then -1 else 1:=by
 induction n with
 | zero=>rfl
 | succ n ih=>
   rw [zci,ih];split<;>split<;>omega
theorem avj (a k:Int) (s:b7 a) (x:b7 k):a9 P0 78 [int .i64 a,int .i64 k] [] (if k<0 then .tup [int .i64 0,bl false] else sm (a^k.toNat)) []:=by
 refine te.t func78 ?_;simp only [te,push_cast,↓reduceIte,reduceCtorEq,zB,zE,zA,zS,zL,zD,zM];refine b8 (fun g=>?_) (fun g=>?_)
 ·simp only [decide_eq_true_eq] at g;simp only [if_pos g,push_cast,↓reduceIte,reduceCtorEq,zB,zE,zA,zS,zL,zD,zM]
 simp only [decide_eq_false_iff_not] at g;simp only [if_neg g,push_cast,↓reduceIte,reduceCtorEq,zB,zE,zA,zS,zL,zD,zM]
 refine c9 [(0,false),(1,false),(6,false),(7,false)] (fun vs pos e=>∃(n i:Int),0<=i/\i<=k/\b7 n/\n=a^i.toNat/\vs=[int .i64 a,int .i64 k,int .i64 n,int .i64 i]/\pos=[]/\e=[])
  (fun vs _ _=>match vs with | [_,_,_,.r (.v (.int _ j))]=>(k-j).toNat | _=>0) rfl ?_ ?_
 ·simp only [push_cast,↓reduceIte,reduceCtorEq,zB,zE,zA,zS,zL,zD,zM];exact ⟨1,0,by omega,by omega,by decide,by simp,rfl⟩
 rintro vs pos e ⟨n,i,B,A,m,b,rfl,rfl,rfl⟩;simp only [push_cast,↓reduceIte,reduceCtorEq,zB,zE,zA,zS,zL,zD,zM];unfold b7 at x;refine b8 (fun h=>?_) (fun h=>?_)
 ·simp only [decide_eq_true_eq] at h;simp only [push_cast,↓reduceIte,reduceCtorEq,zB,zE,zA,zS,zL,zD,zM]
  repeat refine And.intro (by simp +contextual) ?_
  have o:n*a*a^(k-i-1).toNat=a^k.toNat:=by
   rw [b,Int.mul_assoc,<- Int.pow_succ',<- Int.pow_add];congr 1;omega
  refine b8 (fun u=>?_) (fun u=>?_)
  ·simp only [push_cast,↓reduceIte,reduceCtorEq,zB,zE,zA,zS,zL,zD,zM]
   have c:n=0\/a=1:=by
    by_cases p:n=0<;>by_cases q:n=1<;>by_cases r:a=1<;>simp [p,q,r] at u |-
   refine iu ?_ ?_
   ·rcases c with c | c
    ·rw [<- o,c]; simp
    rw [b,c,Int.one_pow,Int.one_pow]
   rcases c with c | c
   ·rw [<- o,c]; simp; decide
   rw [c,Int.one_pow]; decide
  simp only [push_cast,↓reduceIte,reduceCtorEq,zB,zE,zA,zS,zL,zD,zM];refine b8 (fun l=>?_) (fun l=>?_)
  ·simp only [push_cast,↓reduceIte,reduceCtorEq,zB,zE,zA,zS,zL,zD,zM];have l:a=-1:=by simpa using l
   subst l;have y:k.tmod 2=k%2:=zck (by omega);refine ⟨by decide,?_⟩;rw [y];refine b8 (fun f=>?_) (fun f=>?_)
   ·simp only [push_cast,↓reduceIte,reduceCtorEq,zB,zE,zA,zS,zL,zD,zM];have f:k%2=1:=by simpa using f
    exact iu (by rw [aa9,if_pos (by omega)]) (by rw [aa9,if_pos (by omega)]; decide)
   simp only [push_cast,↓reduceIte,reduceCtorEq,zB,zE,zA,zS,zL,zD,zM];have f:¬k%2=1:=by simpa using f
   exact iu (by rw [aa9,if_neg (by omega)]) (by rw [aa9,if_neg (by omega)]; decide)
  simp only [push_cast,↓reduceIte,reduceCtorEq,zB,zE,zA,zS,zL,zD,zM];refine a7 (pj n a m s) rfl trivial ?_;simp only [i9,push_cast,↓reduceIte,reduceCtorEq,zB,zE,zA,zS,zL,zD,zM]
  have z:(n*a).natAbs<=9223372036854775808*9223372036854775808:=by
   rw [zcp];unfold b7 at m s;exact zcf (by omega) (by omega)
  refine b5 (as':=[i9 (n*a)]) rfl ?_;refine a7 (aek (n*a) (by omega)) rfl trivial ?_;simp only [sm,push_cast,↓reduceIte,reduceCtorEq,zB,zE,zA,zS,zL,zD,zM];refine b8 (fun d=>?_) (fun d=>?_)
  ·simp only [push_cast,↓reduceIte,reduceCtorEq,zB,zE,zA,zS,zL,zD,zM];have d:¬b7 (n*a):=by simpa using d
   refine xz ?_;exact ajn (fun w=>by rw [b]; exact ap8 w _) m s d o
  simp only [push_cast,↓reduceIte,reduceCtorEq,zB,zE,zA,zS,zL,zD,zM];have d:b7 (n*a):=by simpa using d
  rw [if_pos d,show IntKind.i64.wrap (i+1)=i+1 from a5 (by omega)];refine ⟨⟨n*a,i+1,by omega,by omega,d,?_,rfl⟩,by omega⟩;rw [show (i+1).toNat=i.toNat+1 by omega,zci,<- b]
 simp only [decide_eq_false_iff_not] at h;simp only [push_cast,↓reduceIte,reduceCtorEq,zB,zE,zA,zS,zL,zD,zM];have:i=k:=by omega
 subst this;exact iu b (by rw [<- b]; exact m)

def ab1:Mk P0 f100:={ x:=_ }
def zp:PC:=
 (.seq (.reg [p_s 2 (.mov (o_i 0))])
 (.seq (.seq (.reg [p_m 3 0,p_s 4 (.bin .geq (.t 3) (.c (.r (.v (.int .u64 4294967296)))))])
 (.cond (.t 4)
 (.seq (.reg [p_m 5 0,p_s 6 (.bin .shr (.t 5) (.c (.r (.v (.int .u64 32))))),p_m 0 6])
 (.reg [p_s 2 (.mov (o_i 32))]))
 .skip))
 (.seq (.seq (.reg [p_m 7 0,p_s 8 (.bin .geq (.t 7) (.c (.r (.v (.int .u64 65536)))))])
 (.cond (.t 8)
 (.seq (.reg [p_m 9 0,p_s 10 (.bin .shr (.t 9) (.c (.r (.v (.int .u64 16))))),p_m 0 10])
 (.reg [p_m 11 2,p_s 12 (.bin .add (.t 11) (o_i 16)),p_m 2 12]))
 .skip))
 (.seq (.seq (.reg [p_m 13 0,p_s 14 (.bin .geq (.t 13) (.c (.r (.v (.int .u64 256)))))])
 (.cond (.t 14)
 (.seq (.reg [p_m 15 0,p_s 16 (.bin .shr (.t 15) (.c (.r (.v (.int .u64 8))))),p_m 0 16])
 (.reg [p_m 17 2,p_s 18 (.bin .add (.t 17) (o_i 8)),p_m 2 18]))
 .skip))
 (.seq (.reg [p_m 19 2,p_m 20 0,p_s 21 (.conv .u8 (.t 20)),p_s 22 (.ixs (.c (.r (.v (.string ⟨#[0,1,2,2,3,3,3,3,4,4,4,4,4,4,4,4,5,5,5,5,5,5,5,5,5,5,5,5,5,5,5,5,6,6,6,6,6,6,6,6,6,6,6,6,6,6,6,6,6,6,6,6,6,6,6,6,6,6,6,6,6,6,6,6,7,7,7,7,7,7,7,7,7,7,7,7,7,7,7,7,7,7,7,7,7,7,7,7,7,7,7,7,7,7,7,7,7,7,7,7,7,7,7,7,7,7,7,7,7,7,7,7,7,7,7,7,7,7,7,7,7,7,7,7,7,7,7,7,8,8,8,8,8,8,8,8,8,8,8,8,8,8,8,8,8,8,8,8,8,8,8,8,8,8,8,8,8,8,8,8,8,8,8,8,8,8,8,8,8,8,8,8,8,8,8,8,8,8,8,8,8,8,8,8,8,8,8,8,8,8,8,8,8,8,8,8,8,8,8,8,8,8,8,8,8,8,8,8,8,8,8,8,8,8,8,8,8,8,8,8,8,8,8,8,8,8,8,8,8,8,8,8,8,8,8,8,8,8,8,8,8,8,8,8,8,8,8,8,8,8,8,8,8,8,8,8]⟩)))) (.t 21)),
 p_s 23 (.conv .i64 (.t 22)),p_s 24 (.bin .add (.t 19) (.t 23)),p_m 2 24])
 .ret)))))
theorem abo:Fun P0 136 1 [(2,false,none)] zp:=aak func136 rfl (by decide) (by kernel_rfl) (by decide) rfl (by kernel_rfl) (by kernel_rfl) (by decide)

structure Ei where
 a:Int
 b:Int
deriving DecidableEq
def Ei.rv (z:Ei):RV:=.agg [.v (.int .i64 z.a),.v (.int .i64 z.b)]
def Ei.v (z:Ei):AV:=.r z.rv
def Ei.mul (x y:Ei):Ei:=⟨x.a*y.a-x.b*y.b,x.a*y.b+x.b*y.a+x.b*y.b⟩
def Ei.add (x y:Ei):Ei:=⟨x.a+y.a,x.b+y.b⟩
def Ei.sub (x y:Ei):Ei:=⟨x.a-y.a,x.b-y.b⟩
def Ei.conj (x:Ei):Ei:=⟨x.a+x.b,-x.b⟩
def Ei.In (z:Ei) (n:Int):Prop:=(-n<=z.a/\z.a<=n)/\(-n<=z.b/\z.b<=n)
def Ei.H (z:Ei) (n:Int):Prop:=(-n<=z.a/\z.a<=n)/\(-n<=z.b/\z.b<=n)/\(-n<=z.a+z.b/\z.a+z.b<=n)
theorem Ei.ext' {x y:Ei} (c:x.a=y.a) (d:x.b=y.b):x=y:=by cases x; cases y; simp_all
variable {n m:Int} {z:Ei}
theorem Ei.In.mono (h:z.In n) (a:n<=m):z.In m:=by unfold Ei.In at *; omega
theorem Ei.H.mono (h:z.H n) (a:n<=m):z.H m:=by unfold Ei.H at *; omega
theorem Ei.H.in (h:z.H n):z.In n:=by unfold Ei.H Ei.In at *; omega
def r9:Ei:=⟨2,1⟩
theorem z3 (b:-n<=x/\x<=n) (c:-m<=y/\y<=m):-(n*m)<=x*y/\x*y<=n*m:=by
 have h:(x*y).natAbs<=n.toNat*m.toNat:=by rw [zcp]; exact zcf (by omega) (by omega)
 have a:((n.toNat*m.toNat:Nat):Int)=n*m:=by
  rw [Int.natCast_mul,Int.toNat_of_nonneg (by omega),Int.toNat_of_nonneg (by omega)]
 omega
def d8 (d s t:Int):Prop:=(-d<=2*s+t/\2*s+t<=d)/\(-d<=s+2*t/\s+2*t<=d)/\(-d<=s-t/\s-t<=d)
instance (d s t:Int):Decidable (d8 d s t):=inferInstanceAs (Decidable (_/\_/\_))
def aw (d s t:Int):Ei:=if d8 d s t then ⟨0,0⟩ else if d8 d s (t-d) then ⟨0,1⟩ else if d8 d (s-d) t then ⟨1,0⟩ else ⟨1,1⟩
def Ei.round (u:Ei) (d:Int):Ei:=⟨u.a/d+(aw d (u.a%d) (u.b%d)).a,u.b/d+(aw d (u.a%d) (u.b%d)).b⟩
variable {d s t:Int}
theorem adm (e:0<=s/\s<d) (c:0<=t/\t<d) :
 d8 d (s-(aw d s t).a*d) (t-(aw d s t).b*d)/\(0<=(aw d s t).a/\(aw d s t).a<=1)/\(0<=(aw d s t).b/\(aw d s t).b<=1):=by
 unfold aw;split
 ·next h=>unfold d8 at *; dsimp only; omega
 split
 ·next h=>unfold d8 at *; dsimp only; omega
 split
 ·next h=>unfold d8 at *; dsimp only; omega
 next h=>unfold d8 at *; dsimp only; omega
theorem aiv {i k:Int} (o:0<=s/\s<d) (r:0<=t/\t<d) (hi:-1<=i/\i<=2) (p:-1<=k/\k<=2)
 (h:d8 d (s-i*d) (t-k*d)) (e:∀a,-1<=a->a<k->¬d8 d (s-i*d) (t-a*d))
 (b:∀j a,-1<=j->j<i->-1<=a->a<=2->¬d8 d (s-j*d) (t-a*d)):aw d s t=⟨i,k⟩:=by
 have m:i=-1\/i=0\/i=1\/i=2:=by omega
 have l:k=-1\/k=0\/k=1\/k=2:=by omega
 have q:(-1:Int)*d=-d:=by omega
 have n:(0<i\/(i=0/\0<k))->¬d8 d s t:=fun c=>by
  rcases c with c | ⟨c,c'⟩
  ·have:=b 0 0 (by omega) c (by omega) (by omega); simpa using this
  have:=e 0 (by omega) c'; rw [c] at this; simpa using this
 have g:(0<i\/(i=0/\1<k))->¬d8 d s (t-d):=fun c=>by
  rcases c with c | ⟨c,c'⟩
  ·have:=b 0 1 (by omega) c (by omega) (by omega); simpa using this
  have:=e 1 (by omega) c'; rw [c] at this; simpa using this
 have f:(1<i\/(i=1/\0<k))->¬d8 d (s-d) t:=fun c=>by
  rcases c with c | ⟨c,c'⟩
  ·have:=b 1 0 (by omega) c (by omega) (by omega); simpa using this
  have:=e 0 (by omega) c'; rw [c] at this; simpa using this
 clear e b
 rcases m with rfl | rfl | rfl | rfl<;>rcases l with rfl | rfl | rfl | rfl <;>
  first
  | (exfalso; unfold d8 at h; omega)
  | (simp only [Int.zero_mul,zcj,Int.sub_zero] at h
     simp [aw,h]; done)
  | (simp only [Int.zero_mul,zcj,Int.sub_zero] at h
     simp [aw,h,n,g,f])
theorem aqg (f:0<=s/\s<d) (c:0<=t/\t<d)
 (e:∀b a,-1<=b->b<3->-1<=a->a<=2->¬d8 d (s-b*d) (t-a*d)):False:=by
 obtain ⟨h,i,g⟩:=adm f c;exact e _ _ (by omega) (by omega) (by omega) (by omega) h
def fr (d a b:Int) (z:Ei):Int:=d*(z.a*z.a+z.a*z.b+z.b*z.b)-z.a*(2*a+b)-z.b*(a+2*b)
def pk (d a b:Int) (p:Int×Ei) (z:Ei):Int×Ei:=if fr d a b z<p.1 then (fr d a b z,z) else p
def qw:List Ei:=[⟨0,1⟩,⟨1,0⟩,⟨1,1⟩]
theorem aiu {a:Int} (j:0<=a/\a<d) (i:0<=b/\b<d):(qw.foldl (pk d a b) (0,⟨0,0⟩)).2=aw d a b:=by
 simp only [qw,List.foldl_cons,List.foldl_nil];have h:fr d a b ⟨0,1⟩=d-(a+2*b):=by simp [fr]
 have g:fr d a b ⟨1,0⟩=d-(2*a+b):=by simp [fr]
 have e:fr d a b ⟨1,1⟩=d*3-(2*a+b)-(a+2*b):=by simp [fr]
 unfold aw;by_cases f:d-(a+2*b)<0
 ·by_cases c2:d-(2*a+b)<d-(a+2*b)
  ·by_cases c:d*3-(2*a+b)-(a+2*b)<d-(2*a+b)
   ·simp only [pk,h,g,e,f,c2,c,if_true];rw [if_neg (by unfold d8; omega),if_neg (by unfold d8; omega),if_neg (by unfold d8; omega)]
   simp only [pk,h,g,e,f,c2,c,if_true,if_false];rw [if_neg (by unfold d8; omega),if_neg (by unfold d8; omega),if_pos (by unfold d8; omega)]
  by_cases c:d*3-(2*a+b)-(a+2*b)<d-(a+2*b)
  ·simp only [pk,h,g,e,f,c2,c,if_true,if_false];rw [if_neg (by unfold d8; omega),if_neg (by unfold d8; omega),if_neg (by unfold d8; omega)]
  simp only [pk,h,g,e,f,c2,c,if_true,if_false];rw [if_neg (by unfold d8; omega),if_pos (by unfold d8; omega)]
 by_cases c2:d-(2*a+b)<0
 ·by_cases c:d*3-(2*a+b)-(a+2*b)<d-(2*a+b)
  ·simp only [pk,h,g,e,f,c2,c,if_true,if_false];rw [if_neg (by unfold d8; omega),if_neg (by unfold d8; omega),if_neg (by unfold d8; omega)]
  simp only [pk,h,g,e,f,c2,c,if_true,if_false];rw [if_neg (by unfold d8; omega),if_neg (by unfold d8; omega),if_pos (by unfold d8; omega)]
 by_cases c:d*3-(2*a+b)-(a+2*b)<0
 ·exfalso; omega
 simp only [pk,h,g,e,f,c2,c,if_true,if_false];rw [if_pos (by unfold d8; omega)]
theorem i5 (u:Ei) (c:0<d):d8 d (u.a-(u.round d).a*d) (u.b-(u.round d).b*d):=by
 have m:=zct u.a d;have l:=zct u.b d;have g:=zae u.a c;have i:=zaf u.a (show d≠0 by omega);have e:=zae u.b c;have j:=zaf u.b (show d≠0 by omega);obtain ⟨h,_⟩:=adm (d:=d) (s:=u.a%d) (t:=u.b%d) ⟨i,g⟩ ⟨j,e⟩
 have k:u.a-(u.round d).a*d=u.a%d-(aw d (u.a%d) (u.b%d)).a*d:=by
  simp only [Ei.round,Int.add_mul];rw [Int.mul_comm (u.a/d) d];omega
 have f:u.b-(u.round d).b*d=u.b%d-(aw d (u.a%d) (u.b%d)).b*d:=by
  simp only [Ei.round,Int.add_mul];rw [Int.mul_comm (u.b/d) d];omega
 rw [k,f]; exact h
def pr (z:Ei):Ei:=(z.mul ⟨3,-1⟩).round 7
def lft (z:Ei):Ei:=z.sub ((pr z).mul r9)
def yp (l:Ei):Nat:=if l=⟨1,0⟩ then 1 else if l=⟨0,1⟩ then 2 else if l=⟨-1,1⟩ then 3 else if l=⟨-1,0⟩ then 4 else if l=⟨0,-1⟩ then 5 else if l=⟨1,-1⟩ then 6 else 0
def dg (z:Ei):Nat:=yp (lft z)
def uni (d:Nat):Ei:=match d with | 0=>⟨1,0⟩ | 1=>⟨0,1⟩ | 2=>⟨-1,1⟩ | 3=>⟨-1,0⟩ | 4=>⟨0,-1⟩ | _=>⟨1,-1⟩
def tr (z:Ei) (d:Nat):Ei:=if d=0 then z.mul r9 else (z.mul r9).add (uni (d-1))
theorem abi (z:Ei):dg z<7:=by
 unfold dg yp; repeat' split
 all_goals omega
theorem ub (z:Ei):∃l:Ei,lft z=l/\l.H 1/\z.a=2*(pr z).a-(pr z).b+l.a/\z.b=(pr z).a+3*(pr z).b+l.b:=by
 have h:=i5 (z.mul ⟨3,-1⟩) (d:=7) (by decide);refine ⟨lft z,rfl,?_,?_,?_⟩
 ·unfold d8 at h;unfold Ei.H lft Ei.sub pr;simp only [Ei.mul,r9] at *;generalize Ei.round _ 7=q at *;simp only [Int.mul_one,Int.mul_neg] at *;omega
 ·simp only [lft,Ei.sub,Ei.mul,r9]; omega
 simp only [lft,Ei.sub,Ei.mul,r9]; omega
theorem alx (z:Ei):tr (pr z) (dg z)=z:=by
 obtain ⟨l,f,e,g,h⟩:=ub z;have i:=i5 (z.mul ⟨3,-1⟩) (d:=7) (by decide)
 have c:l=⟨0,0⟩\/l=⟨1,0⟩\/l=⟨0,1⟩\/l=⟨-1,1⟩\/l=⟨-1,0⟩\/l=⟨0,-1⟩\/l=⟨1,-1⟩:=by
  obtain ⟨a,b⟩:=l;unfold Ei.H at e;dsimp only at e;simp only [Ei.mk.injEq];omega
 unfold tr dg;rw [f];rcases c with rfl | rfl | rfl | rfl | rfl | rfl | rfl<;>apply Ei.ext'<;>simp [yp,uni,Ei.add,Ei.mul,r9] at g h |- <;> omega
def anc:Nat->Ei->Ei
 | 0,z=>z
 | k+1,z=>anc k (pr z)
theorem yx (k:Nat) (z:Ei):anc (k+1) z=pr (anc k z):=by
 induction k generalizing z with
 | zero=>rfl
 | succ k ih=>rw [anc,ih]; rfl
def val:Nat->Ei->Nat
 | 0,_=>0
 | r+1,z=>val r (pr z)*8+dg z
theorem amh (r:Nat) (z:Ei):val r z<8^r:=by
 induction r generalizing z with
 | zero=>simp [val]
 | succ r ih=>
   have:=ih (pr z);have:=abi z;rw [val,zcl];omega
theorem asg (r i:Nat) (z:Ei) (h:i<=r):val r z/8^i=val (r-i) (anc i z):=by
 induction i generalizing r z with
 | zero=>simp [anc]
 | succ i ih=>
   obtain ⟨r,rfl⟩:∃m,r=m+1:=⟨r-1,by omega⟩
   rw [show r+1-(i+1)=r-i by omega,anc,<- ih r (pr z) (by omega),zcl,zcm,<- zdc,val];have:=abi z;congr 1;omega
def okc (r:Nat) (z:Ei):Prop:=r<=12/\z.In 1073741824/\(-512<=(anc r z).a/\(anc r z).a<=511)/\(-512<=(anc r z).b/\(anc r z).b<=511)
instance (r:Nat) (z:Ei):Decidable (okc r z):=by unfold okc Ei.In; infer_instance
def gz (r:Nat) (q:Ei):Nat:=((16+r)*1024+(q.a+512).toNat)*1024+(q.b+512).toNat
def af (r:Nat) (z:Ei):Nat:=(gz r (anc r z)*8^r+val r z)*8^(12-r)+(8^(12-r)-1)
def dgt (w i:Nat):Nat:=w/8^(12-i)%8
def an (w:Nat):Nat:=w/72057594037927936%16
def al4 (w:Nat):Ei:=⟨((w/70368744177664%1024:Nat):Int)-512,((w/68719476736%1024:Nat):Int)-512⟩
def ai (w:Nat):Nat->Ei
 | 0=>al4 w
 | i+1=>tr (ai w i) (dgt w (i+1))
def isW (w:Nat):Prop:=w/1152921504606846976=1/\an w<=12/\∀i,1<=i->i<=12->(dgt w i=7↔an w<i)
theorem ab2 (r:Nat) (z:Ei) (d:r<=12):af r z/68719476736=gz r (anc r z):=by
 have hv:=amh r z;have e:(68719476736:Nat)=8^r*8^(12-r):=by rw [<- zac,show r+(12-r)=12 by omega]
 have a:0<8^(12-r):=zcd (by decide);have b:0<8^r:=zcd (by decide);rw [e,zcm (8^r),<- zdc,af]
 have c:((gz r (anc r z)*8^r+val r z)*8^(12-r)+(8^(12-r)-1))/8^(12-r)=gz r (anc r z)*8^r+val r z:=by
  rw [Nat.add_comm,zcr _ _ a,zcv (by omega)]; omega
 rw [c,Nat.add_comm,zcr _ _ b,zcv hv]; omega
theorem agj (r i:Nat) (z:Ei) (d:r<=12) (g:1<=i) (f:i<=r):dgt (af r z) i=dg (anc (r-i) z):=by
 have b:0<8^(12-r):=zcd (by decide);have e:8^(12-i)=8^(12-r)*8^(r-i):=by rw [<- zac,show 12-r+(r-i)=12-i by omega]
 unfold dgt af;rw [e,<- zdc]
 have c:((gz r (anc r z)*8^r+val r z)*8^(12-r)+(8^(12-r)-1))/8^(12-r)=gz r (anc r z)*8^r+val r z:=by
  rw [Nat.add_comm,zcr _ _ b,zcv (by omega)]; omega
 rw [c]
 have a:gz r (anc r z)*8^r=gz r (anc r z)*8^(i-1)*8*8^(r-i):=by
  rw [zag (gz r (anc r z)),<- zcl,zag,<- zac,show i-1+1+(r-i)=r by omega]
 rw [a,Nat.add_comm,zcr _ _ (zcd (by decide)),asg r (r-i) z (by omega),show r-(r-i)=(i-1)+1 by omega,val];have:=abi (anc (r-i) z);generalize gz r (anc r z)*8^(i-1)=m;omega
theorem akt (r i:Nat) (z:Ei) (h:r<i) (f:i<=12):dgt (af r z) i=7:=by
 unfold dgt af;have e:8^(12-r)=8^(i-r-1)*8*8^(12-i):=by rw [<- zcl,<- zac,show i-r-1+1+(12-i)=12-r by omega]
 have b:0<8^(12-i):=zcd (by decide);have a:0<8^(i-r-1):=zcd (by decide);rw [e];generalize gz r (anc r z)*8^r+val r z=m;generalize hx:8^(i-r-1)=x at *;generalize hy:8^(12-i)=y at *
 have c:m*(x*8*y)+(x*8*y-1)=(y-1)+(m*(x*8)+(x*8-1))*y:=by
  have:(x*8-1)*y=x*8*y-y:=by rw [Nat.sub_mul,Nat.one_mul]
  have d:y<=x*8*y:=Nat.le_mul_of_pos_left _ (by omega);rw [zcc,this,<- zag];omega
 rw [c,zcr _ _ b,zcv (by omega)];have g:m*(x*8)=m*x*8:=(zag _ _ _).symm;omega
theorem yl (r:Nat) (q:Ei) (e:r<=12) (d:-512<=q.a/\q.a<=511) (c:-512<=q.b/\q.b<=511) :
 gz r q/16777216=1/\gz r q/1048576%16=r/\((gz r q/1024%1024:Nat):Int)-512=q.a/\((gz r q%1024:Nat):Int)-512=q.b:=by
 unfold gz;omega
theorem ai3 (r:Nat) (z:Ei) (h:okc r z):af r z<18446744073709551616:=by
 have b:=ab2 r z h.1;have a:=yl r (anc r z) h.1 h.2.2.1 h.2.2.2;omega
theorem agi (r:Nat) (z:Ei) (h:okc r z):isW (af r z)/\an (af r z)=r:=by
 have e:=ab2 r z h.1;have d:=yl r (anc r z) h.1 h.2.2.1 h.2.2.2;have a:an (af r z)=r:=by unfold an; omega
 refine ⟨⟨by omega,by rw [a]; exact h.1,fun i c b=>?_⟩,a⟩;rw [a];by_cases hi:r<i
 ·simp [hi,akt r i z hi b]
 simp only [hi,iff_false];rw [agj r i z h.1 c (by omega)];have:=abi (anc (r-i) z);omega
theorem amd (r i:Nat) (z:Ei) (h:okc r z) (hi:i<=r):ai (af r z) i=anc (r-i) z:=by
 induction i with
 | zero=>
   have b:=ab2 r z h.1;have a:=yl r (anc r z) h.1 h.2.2.1 h.2.2.2;apply Ei.ext'<;>simp only [ai,al4]<;>rw [Nat.sub_zero]<;>omega
 | succ i ih=>
   rw [ai,ih (by omega),agj r (i+1) z h.1 (by omega) hi];rw [show r-i=r-(i+1)+1 by omega,yx,alx]

def b9:Nat->Ei
 | 0=>⟨1,0⟩
 | k+1=>(b9 k).mul r9
theorem fp (k:Nat) (h:k<=12):(b9 k).In 120000:=by
 have:∀j:Fin 13,(b9 j.val).In 120000:=by unfold Ei.In; decide
 exact this ⟨k,by omega⟩
def ax (x y:Int):Ei:=⟨45*x-26*y,52*y⟩
def g9 (x y:Int) (r:Nat):Ei:=((ax x y).mul (b9 (12-r)).conj).round (2340*7^(12-r))
theorem sn (h:z.H n) (b:3*n+4<7*(m+1)):(pr z).H m:=by
 have a:=i5 (z.mul ⟨3,-1⟩) (d:=7) (by decide);unfold d8 at a;unfold Ei.H pr at *;simp only [Ei.mul] at *;generalize Ei.round _ 7=q at *;simp only [Int.mul_one,Int.mul_neg] at *;omega
theorem x9 (h:z.H n) (l:19*n+330<343*(m+1)):(anc 3 z).H m:=by
 obtain ⟨p,_,g,o,a⟩:=ub z;obtain ⟨r,_,j,i,b⟩:=ub (pr z);obtain ⟨e,_,d,c,k⟩:=ub (pr (pr z));show (pr (pr (pr z))).H m;generalize pr (pr (pr z))=q at *;generalize pr (pr z)=s at *;generalize pr z=f at *;unfold Ei.H at *;omega
theorem aj2 (x y:Int) (hx:0<=x/\x<1073741824) (hy:0<=y/\y<1073741824):(g9 x y 0).H 260:=by
 have h:=i5 ((ax x y).mul (b9 (12-0)).conj) (d:=2340*7^(12-0)) (by decide);have e:(b9 (12-0)).conj=⟨-128231,102960⟩:=by decide
 have a:(2340*7^(12-0):Int)=32388612050340:=by decide
 unfold g9;generalize Ei.round _ _=q at *;rw [e,a] at h;unfold d8 Ei.H at *;simp only [Ei.mul,ax] at *;omega
theorem aj1 (x y:Int) (hx:0<=x/\x<1073741824) (hy:0<=y/\y<1073741824):(g9 x y 1).H 734:=by
 have h:=i5 ((ax x y).mul (b9 (12-1)).conj) (d:=2340*7^(12-1)) (by decide);have e:(b9 (12-1)).conj=⟨-51346,25807⟩:=by decide
 have a:(2340*7^(12-1):Int)=4626944578620:=by decide
 unfold g9;generalize Ei.round _ _=q at *;rw [e,a] at h;unfold d8 Ei.H at *;simp only [Ei.mul,ax] at *;omega
theorem aj0 (x y:Int) (hx:0<=x/\x<1073741824) (hy:0<=y/\y<1073741824):(g9 x y 2).H 2004:=by
 have h:=i5 ((ax x y).mul (b9 (12-2)).conj) (d:=2340*7^(12-2)) (by decide);have e:(b9 (12-2)).conj=⟨-18357,3725⟩:=by decide
 have a:(2340*7^(12-2):Int)=660992082660:=by decide
 unfold g9;generalize Ei.round _ _=q at *;rw [e,a] at h;unfold d8 Ei.H at *;simp only [Ei.mul,ax] at *;omega
theorem ajz (x y:Int) (hx:0<=x/\x<1073741824) (hy:0<=y/\y<1073741824):(g9 x y 3).H 4887:=by
 have h:=i5 ((ax x y).mul (b9 (12-3)).conj) (d:=2340*7^(12-3)) (by decide);have e:(b9 (12-3)).conj=⟨-5777,-1026⟩:=by decide
 have a:(2340*7^(12-3):Int)=94427440380:=by decide
 unfold g9;generalize Ei.round _ _=q at *;rw [e,a] at h;unfold d8 Ei.H at *;simp only [Ei.mul,ax] at *;omega
theorem ajy (x y:Int) (hx:0<=x/\x<1073741824) (hy:0<=y/\y<1073741824):(g9 x y 4).H 13376:=by
 have h:=i5 ((ax x y).mul (b9 (12-4)).conj) (d:=2340*7^(12-4)) (by decide);have e:(b9 (12-4)).conj=⟨-1504,-1265⟩:=by decide
 have a:(2340*7^(12-4):Int)=13489634340:=by decide
 unfold g9;generalize Ei.round _ _=q at *;rw [e,a] at h;unfold d8 Ei.H at *;simp only [Ei.mul,ax] at *;omega
theorem ajx (x y:Int) (hx:0<=x/\x<1073741824) (hy:0<=y/\y<1073741824):(g9 x y 5).H 37163:=by
 have h:=i5 ((ax x y).mul (b9 (12-5)).conj) (d:=2340*7^(12-5)) (by decide);have e:(b9 (12-5)).conj=⟨-249,-757⟩:=by decide
 have a:(2340*7^(12-5):Int)=1927090620:=by decide
 unfold g9;generalize Ei.round _ _=q at *;rw [e,a] at h;unfold d8 Ei.H at *;simp only [Ei.mul,ax] at *;omega
theorem ajw (x y:Int) (hx:0<=x/\x<1073741824) (hy:0<=y/\y<1073741824):(g9 x y 6).H 92189:=by
 have h:=i5 ((ax x y).mul (b9 (12-6)).conj) (d:=2340*7^(12-6)) (by decide);have e:(b9 (12-6)).conj=⟨37,-360⟩:=by decide
 have a:(2340*7^(12-6):Int)=275298660:=by decide
 unfold g9;generalize Ei.round _ _=q at *;rw [e,a] at h;unfold d8 Ei.H at *;simp only [Ei.mul,ax] at *;omega
theorem ajv (x y:Int) (hx:0<=x/\x<1073741824) (hy:0<=y/\y<1073741824):(g9 x y 7).H 243699:=by
 have h:=i5 ((ax x y).mul (b9 (12-7)).conj) (d:=2340*7^(12-7)) (by decide);have e:(b9 (12-7)).conj=⟨62,-149⟩:=by decide
 have a:(2340*7^(12-7):Int)=39328380:=by decide
 unfold g9;generalize Ei.round _ _=q at *;rw [e,a] at h;unfold d8 Ei.H at *;simp only [Ei.mul,ax] at *;omega
theorem aju (x y:Int) (hx:0<=x/\x<1073741824) (hy:0<=y/\y<1073741824):(g9 x y 8).H 688202:=by
 have h:=i5 ((ax x y).mul (b9 (12-8)).conj) (d:=2340*7^(12-8)) (by decide);have e:(b9 (12-8)).conj=⟨39,-55⟩:=by decide
 have a:(2340*7^(12-8):Int)=5618340:=by decide
 unfold g9;generalize Ei.round _ _=q at *;rw [e,a] at h;unfold d8 Ei.H at *;simp only [Ei.mul,ax] at *;omega
theorem ajt (x y:Int) (hx:0<=x/\x<1073741824) (hy:0<=y/\y<1073741824):(g9 x y 9).H 1735123:=by
 have h:=i5 ((ax x y).mul (b9 (12-9)).conj) (d:=2340*7^(12-9)) (by decide);have e:(b9 (12-9)).conj=⟨19,-18⟩:=by decide
 have a:(2340*7^(12-9):Int)=802620:=by decide
 unfold g9;generalize Ei.round _ _=q at *;rw [e,a] at h;unfold d8 Ei.H at *;simp only [Ei.mul,ax] at *;omega
theorem ahm (x y:Int) (hx:0<=x/\x<1073741824) (hy:0<=y/\y<1073741824):(g9 x y 10).H 4429444:=by
 have h:=i5 ((ax x y).mul (b9 (12-10)).conj) (d:=2340*7^(12-10)) (by decide);have e:(b9 (12-10)).conj=⟨8,-5⟩:=by decide
 have a:(2340*7^(12-10):Int)=114660:=by decide
 unfold g9;generalize Ei.round _ _=q at *;rw [e,a] at h;unfold d8 Ei.H at *;simp only [Ei.mul,ax] at *;omega
theorem ahl (x y:Int) (hx:0<=x/\x<1073741824) (hy:0<=y/\y<1073741824):(g9 x y 11).H 12717090:=by
 have h:=i5 ((ax x y).mul (b9 (12-11)).conj) (d:=2340*7^(12-11)) (by decide);have e:(b9 (12-11)).conj=⟨3,-1⟩:=by decide
 have a:(2340*7^(12-11):Int)=16380:=by decide
 unfold g9;generalize Ei.round _ _=q at *;rw [e,a] at h;unfold d8 Ei.H at *;simp only [Ei.mul,ax] at *;omega
theorem ahk (x y:Int) (hx:0<=x/\x<1073741824) (hy:0<=y/\y<1073741824):(g9 x y 12).H 32579347:=by
 have h:=i5 ((ax x y).mul (b9 (12-12)).conj) (d:=2340*7^(12-12)) (by decide);have e:(b9 (12-12)).conj=⟨1,0⟩:=by decide
 have a:(2340*7^(12-12):Int)=2340:=by decide
 unfold g9;generalize Ei.round _ _=q at *;rw [e,a] at h;unfold d8 Ei.H at *;simp only [Ei.mul,ax] at *;omega
theorem awy (a:z.H 260):(anc 0 z).H 511:=by
 exact a.mono (by decide)
theorem ali (x y:Int) (hx:0<=x/\x<1073741824) (hy:0<=y/\y<1073741824):(anc 0 (g9 x y 0)).H 511:=awy (aj2 x y hx hy)
theorem awx (a:z.H 734):(anc 1 z).H 511:=by
 have b:=sn (m:=315) a (by decide);exact b.mono (by decide)
theorem alh (x y:Int) (hx:0<=x/\x<1073741824) (hy:0<=y/\y<1073741824):(anc 1 (g9 x y 1)).H 511:=awx (aj1 x y hx hy)
theorem aww (a:z.H 2004):(anc 2 z).H 511:=by
 have c:=sn (m:=859) a (by decide);have b:=sn (m:=368) c (by decide);exact b.mono (by decide)
theorem alg (x y:Int) (hx:0<=x/\x<1073741824) (hy:0<=y/\y<1073741824):(anc 2 (g9 x y 2)).H 511:=aww (aj0 x y hx hy)
theorem awv (a:z.H 4887):(anc 3 z).H 511:=by
 have b:=x9 (m:=271) a (by decide);exact b.mono (by decide)
theorem alf (x y:Int) (hx:0<=x/\x<1073741824) (hy:0<=y/\y<1073741824):(anc 3 (g9 x y 3)).H 511:=awv (ajz x y hx hy)
theorem awu (a:z.H 13376):(anc 4 z).H 511:=by
 have c:=sn (m:=5733) a (by decide);have b:=x9 (m:=318) c (by decide);exact b.mono (by decide)
theorem ale (x y:Int) (hx:0<=x/\x<1073741824) (hy:0<=y/\y<1073741824):(anc 4 (g9 x y 4)).H 511:=awu (ajy x y hx hy)
theorem awt (b:z.H 37163):(anc 5 z).H 511:=by
 have d:=sn (m:=15927) b (by decide);have c:=sn (m:=6826) d (by decide);have a:=x9 (m:=379) c (by decide);exact a.mono (by decide)
theorem ald (x y:Int) (hx:0<=x/\x<1073741824) (hy:0<=y/\y<1073741824):(anc 5 (g9 x y 5)).H 511:=awt (ajx x y hx hy)
theorem aws (a:z.H 92189):(anc 6 z).H 511:=by
 have c:=x9 (m:=5107) a (by decide);have b:=x9 (m:=283) c (by decide);exact b.mono (by decide)
theorem alc (x y:Int) (hx:0<=x/\x<1073741824) (hy:0<=y/\y<1073741824):(anc 6 (g9 x y 6)).H 511:=aws (ajw x y hx hy)
theorem awr (b:z.H 243699):(anc 7 z).H 511:=by
 have d:=sn (m:=104443) b (by decide);have c:=x9 (m:=5786) d (by decide);have a:=x9 (m:=321) c (by decide);exact a.mono (by decide)
theorem alb (x y:Int) (hx:0<=x/\x<1073741824) (hy:0<=y/\y<1073741824):(anc 7 (g9 x y 7)).H 511:=awr (ajv x y hx hy)
theorem awq (d:z.H 688202):(anc 8 z).H 511:=by
 have e:=sn (m:=294944) d (by decide);have a:=sn (m:=126405) e (by decide);have c:=x9 (m:=7002) a (by decide);have b:=x9 (m:=388) c (by decide);exact b.mono (by decide)
theorem ala (x y:Int) (hx:0<=x/\x<1073741824) (hy:0<=y/\y<1073741824):(anc 8 (g9 x y 8)).H 511:=awq (aju x y hx hy)
theorem awp (b:z.H 1735123):(anc 9 z).H 511:=by
 have d:=x9 (m:=96115) b (by decide);have c:=x9 (m:=5325) d (by decide);have a:=x9 (m:=295) c (by decide);exact a.mono (by decide)
theorem ak9 (x y:Int) (hx:0<=x/\x<1073741824) (hy:0<=y/\y<1073741824):(anc 9 (g9 x y 9)).H 511:=awp (ajt x y hx hy)
theorem auf (d:z.H 4429444):(anc 10 z).H 511:=by
 have e:=sn (m:=1898333) d (by decide);have a:=x9 (m:=105156) e (by decide);have c:=x9 (m:=5825) a (by decide);have b:=x9 (m:=323) c (by decide);exact b.mono (by decide)
theorem ait (x y:Int) (hx:0<=x/\x<1073741824) (hy:0<=y/\y<1073741824):(anc 10 (g9 x y 10)).H 511:=auf (ahm x y hx hy)
theorem aue (e:z.H 12717090):(anc 11 z).H 511:=by
 have f:=sn (m:=5450182) e (by decide);have b:=sn (m:=2335792) f (by decide);have d:=x9 (m:=129388) b (by decide);have c:=x9 (m:=7168) d (by decide);have a:=x9 (m:=398) c (by decide);exact a.mono (by decide)
theorem ais (x y:Int) (hx:0<=x/\x<1073741824) (hy:0<=y/\y<1073741824):(anc 11 (g9 x y 11)).H 511:=aue (ahl x y hx hy)
theorem aud (d:z.H 32579347):(anc 12 z).H 511:=by
 have e:=x9 (m:=1804687) d (by decide);have a:=x9 (m:=99969) e (by decide);have c:=x9 (m:=5538) a (by decide);have b:=x9 (m:=307) c (by decide);exact b.mono (by decide)
theorem air (x y:Int) (hx:0<=x/\x<1073741824) (hy:0<=y/\y<1073741824):(anc 12 (g9 x y 12)).H 511:=aud (ahk x y hx hy)
theorem avv (x y:Int) (r:Nat) (hx:0<=x/\x<1073741824) (hy:0<=y/\y<1073741824) (a:r<=12):(g9 x y r).H 32579347:=by
 rcases (show r=0\/r=1\/r=2\/r=3\/r=4\/r=5\/r=6\/r=7\/r=8\/r=9\/r=10\/r=11\/r=12 by omega) with rfl | rfl | rfl | rfl | rfl | rfl | rfl | rfl | rfl | rfl | rfl | rfl | rfl
 ·exact (aj2 x y hx hy).mono (by decide)
 ·exact (aj1 x y hx hy).mono (by decide)
 ·exact (aj0 x y hx hy).mono (by decide)
 ·exact (ajz x y hx hy).mono (by decide)
 ·exact (ajy x y hx hy).mono (by decide)
 ·exact (ajx x y hx hy).mono (by decide)
 ·exact (ajw x y hx hy).mono (by decide)
 ·exact (ajv x y hx hy).mono (by decide)
 ·exact (aju x y hx hy).mono (by decide)
 ·exact (ajt x y hx hy).mono (by decide)
 ·exact (ahm x y hx hy).mono (by decide)
 ·exact (ahl x y hx hy).mono (by decide)
 exact (ahk x y hx hy).mono (by decide)
theorem anz (x y:Int) (r:Nat) (hx:0<=x/\x<1073741824) (hy:0<=y/\y<1073741824) (a:r<=12):(anc r (g9 x y r)).H 511:=by
 rcases (show r=0\/r=1\/r=2\/r=3\/r=4\/r=5\/r=6\/r=7\/r=8\/r=9\/r=10\/r=11\/r=12 by omega) with rfl | rfl | rfl | rfl | rfl | rfl | rfl | rfl | rfl | rfl | rfl | rfl | rfl
 ·exact ali x y hx hy
 ·exact alh x y hx hy
 ·exact alg x y hx hy
 ·exact alf x y hx hy
 ·exact ale x y hx hy
 ·exact ald x y hx hy
 ·exact alc x y hx hy
 ·exact alb x y hx hy
 ·exact ala x y hx hy
 ·exact ak9 x y hx hy
 ·exact ait x y hx hy
 ·exact ais x y hx hy
 exact air x y hx hy
theorem ahj (x y:Int) (r:Nat) (hx:0<=x/\x<1073741824) (hy:0<=y/\y<1073741824) (a:r<=12):okc r (g9 x y r):=by
 have c:=avv x y r hx hy a;have b:=anz x y r hx hy a;unfold okc;unfold Ei.In;unfold Ei.H at c b;omega

def xm:Mk P0 f88:={ x:=_ }
def rh:PC:=
 (.seq (.reg [p_a 2 (.box (.t 0)),p_a 3 (.box (.t 1)),p_a 4 (.new [(.r (.v (.int .i64 0))),(.r (.v (.int .u64 0)))])])
 (.seq (.reg [p_s 8 (.fa 1 (.t 2)),p_s 9 (.ld none (.t 8)),p_s 10 (.fa 1 (.t 3)),p_s 11 (.ld none (.t 10)),p_s 12 (.carry false (.t 9) (.t 11) (.c (.r (.v (.int .u64 0))))),
 p_m 7 12,p_s 13 (.ext (.t 7) 0),p_s 14 (.ext (.t 7) 1),p_m 5 13,p_m 6 14])
 (.seq (.reg [p_s 15 (.fa 0 (.t 2)),p_s 16 (.ld none (.t 15)),p_s 17 (.fa 0 (.t 3)),p_s 18 (.ld none (.t 17)),p_s 19 (.bin .add (.t 16) (.t 18)),p_m 20 6,p_s 21 (.conv .i64 (.t 20)),
 p_s 22 (.bin .add (.t 19) (.t 21)),p_m 23 5,p_s 24 (.build [(.r (.v (.int .i64 0))),(.r (.v (.int .u64 0)))] [(0,1,(.t 22)),(1,1,(.t 23))]),⟨none,none,0,.act (.st 2 (.t 4) (.t 24))⟩])
 .ret)))
theorem wo:Fun P0 87 2 [(4,false,some (141,(some 2)))] rh:=aak func87 rfl (by decide) (by kernel_rfl) (by decide) rfl (by kernel_rfl) (by kernel_rfl) (by decide)
def oq:PC:=
 (.seq (.reg [p_a 2 (.box (.t 0)),p_a 3 (.box (.t 1)),p_a 4 (.new [(.r (.v (.int .i64 0))),(.r (.v (.int .u64 0)))])])
 (.seq (.reg [p_s 8 (.fa 1 (.t 2)),p_s 9 (.ld none (.t 8)),p_s 10 (.fa 1 (.t 3)),p_s 11 (.ld none (.t 10)),p_s 12 (.carry true (.t 9) (.t 11) (.c (.r (.v (.int .u64 0))))),
 p_m 7 12,p_s 13 (.ext (.t 7) 0),p_s 14 (.ext (.t 7) 1),p_m 5 13,p_m 6 14])
 (.seq (.reg [p_s 15 (.fa 0 (.t 2)),p_s 16 (.ld none (.t 15)),p_s 17 (.fa 0 (.t 3)),p_s 18 (.ld none (.t 17)),p_s 19 (.bin .sub (.t 16) (.t 18)),p_m 20 6,p_s 21 (.conv .i64 (.t 20)),
 p_s 22 (.bin .sub (.t 19) (.t 21)),p_m 23 5,p_s 24 (.build [(.r (.v (.int .i64 0))),(.r (.v (.int .u64 0)))] [(0,1,(.t 22)),(1,1,(.t 23))]),⟨none,none,0,.act (.st 2 (.t 4) (.t 24))⟩])
 .ret)))
theorem vd:Fun P0 89 2 [(4,false,some (141,(some 2)))] oq:=aak func89 rfl (by decide) (by kernel_rfl) (by decide) rfl (by kernel_rfl) (by kernel_rfl) (by decide)
def oo:Mk P0 f90:={ x:=_ }
def zf:Mk P0 f91:={ x:=_ }
def aas:Mk P0 f52:={ x:=_ }
def wid (x:Int):AV:=.r (.agg [.v (.int .i64 (IntKind.i64.wrap (x/18446744073709551616))),.v (.int .u64 (x%18446744073709551616))])
theorem agk {a:Int} (d:a=IntKind.i64.wrap (x/18446744073709551616)) (c:b=x%18446744073709551616):AV.r (.agg [.v (.int .i64 a),.v (.int .u64 b)])=wid x:=by rw [d,c]; rfl
theorem ai1 (a b:Int):a9 P0 87 [wid a,wid b] [] (wid (a+b)) []:=by
 refine wo rfl (by decide) ?_
 push_cast [rh,wid,zaa]
 refine ⟨by omega,agk ?_ ?_⟩
 ·simp only [IntKind.wrap_i64]; omega
 omega
theorem aph (a b:Int):a9 P0 89 [wid a,wid b] [] (wid (a-b)) []:=by
 refine vd rfl (by decide) ?_
 push_cast [oq,wid,zaa]
 refine ⟨by omega,agk ?_ ?_⟩
 ·simp only [IntKind.wrap_i64]; omega
 omega
theorem agd (a:Int) (h:-170141183460469231731687303715884105728<=a/\a<170141183460469231731687303715884105728):a9 P0 90 [wid a] [] (sm a) []:=by
 refine oo.t func90 ?_
 push_cast [oo,wid,zaa]
 rw [IntKind.wrap_i64,IntKind.wrap_i64];have f:b7 a->(a%18446744073709551616+9223372036854775808)%18446744073709551616-9223372036854775808=a:=by unfold b7; omega
 have i:(a/18446744073709551616+9223372036854775808)%18446744073709551616-9223372036854775808=a/18446744073709551616:=by omega
 rw [i];have g:a/18446744073709551616=0->(a%18446744073709551616+9223372036854775808)%18446744073709551616-9223372036854775808>=0->b7 a:=by unfold b7; omega
 have j:a/18446744073709551616=-1->(a%18446744073709551616+9223372036854775808)%18446744073709551616-9223372036854775808<0->b7 a:=by unfold b7; omega
 have e:b7 a->(a/18446744073709551616=0/\(a%18446744073709551616+9223372036854775808)%18446744073709551616-9223372036854775808>=0)\/(a/18446744073709551616=-1/\(a%18446744073709551616+9223372036854775808)%18446744073709551616-9223372036854775808<0):=by unfold b7; omega
 generalize a/18446744073709551616=q at *;generalize (a%18446744073709551616+9223372036854775808)%18446744073709551616-9223372036854775808=n at *;refine ⟨by simp +contextual,by simp +contextual; omega,b8 (fun hc=>?_) (fun hc=>?_)⟩
 ·push_cast
  have hy:b7 a:=by
   by_cases b:n<0
   ·by_cases c2:q=-1
    ·exact j c2 b
    simp [b,c2] at hc; omega
   by_cases c2:q=0
   ·exact g c2 (by omega)
   simp [b,c2] at hc
  exact iu (f hy) hy
 push_cast
 refine xz fun hy=>?_;rcases e hy with ⟨d,c⟩ | ⟨d,c⟩
 ·simp [d,c] at hc
 simp [d,c] at hc
theorem abd {a:Int} (b:b7 a):IntKind.u64.wrap a=if a<0 then a+18446744073709551616 else a:=by
 unfold b7 at b;rw [IntKind.wrap_u64];split<;>omega
theorem xr (a b:Int) (d:b7 a) (c:b7 b):a9 P0 88 [int .i64 a,int .i64 b] [] (wid (a*b)) []:=by
 refine xm.t func88 ?_
 push_cast [xm,zaa]
 have g:=d;have h:=c;unfold b7 at g h
 have f:∀x:Int,b7 x->((IntKind.u64.wrap x).toNat:Int)=if x<0 then x+18446744073709551616 else x:=fun x hx=>by
  rw [abd hx];unfold b7 at hx;split<;>omega
 have e:∀x:Int,b7 x->(IntKind.u64.wrap x).toNat<18446744073709551616:=fun x hx=>by
  rw [abd hx];unfold b7 at hx;split<;>omega
 refine b5 (as':=[int .u64 (IntKind.u64.wrap a).toNat,int .u64 (IntKind.u64.wrap b).toNat]) (by rw [f a d,f b c,abd d,abd c]) ?_;refine a7 (aer _ _ (e a d) (e b c)) rfl trivial ?_
 push_cast
 have k:((IntKind.u64.wrap a).toNat:Int)*((IntKind.u64.wrap b).toNat:Int)=a*b+(if a<0 then b*18446744073709551616 else 0)+(if b<0 then a*18446744073709551616 else 0)+(if a<0 then if b<0 then 340282366920938463463374607431768211456 else 0 else 0):=by
  rw [f a d,f b c];split<;>split<;>(try simp only [Int.add_mul,zch])<;>omega
 rw [k];generalize a*b=m;refine b8 (fun j=>?_) (fun j=>?_)<;>push_cast<;>refine b8 (fun i=>?_) (fun i=>?_)<;>push_cast
 all_goals
  simp only [decide_eq_true_eq,decide_eq_false_iff_not] at j i;simp only [j,i,if_true,if_false];refine agk ?_ ?_
  ·simp only [IntKind.wrap_i64]; omega
  omega
theorem aee (a b:Int):a9 P0 91 [int .i64 a,bl true,int .i64 b,bl true] [] (.tup [Ei.v ⟨a,b⟩,bl true]) []:=by
 refine zf.t func91 ?_
 push_cast [zf,Ei.v,Ei.rv,zaa]
abbrev M63:Int:=9223372036854775807
theorem Ei.In.ok (h:z.In M63):b7 z.a/\b7 z.b:=by unfold Ei.In M63 at h; unfold b7; omega
theorem avp {x y:Ei} (hx:x.In 4611686018427387904) (hy:y.In 4611686018427387904):(-21267647932558653966460912964485513216<=x.a*y.a/\x.a*y.a<=21267647932558653966460912964485513216)/\(-21267647932558653966460912964485513216<=x.a*y.b/\x.a*y.b<=21267647932558653966460912964485513216)/\(-21267647932558653966460912964485513216<=x.b*y.a/\x.b*y.a<=21267647932558653966460912964485513216)/\(-21267647932558653966460912964485513216<=x.b*y.b/\x.b*y.b<=21267647932558653966460912964485513216):=
 ⟨z3 hx.1 hy.1,z3 hx.1 hy.2,z3 hx.2 hy.1,z3 hx.2 hy.2⟩
theorem xl (x y:Ei) (hx:x.In 4611686018427387904) (hy:y.In 4611686018427387904) (g:(x.mul y).In M63):a9 P0 52 [x.v,y.v] [] (.tup [(x.mul y).v,bl true]) []:=by
 refine aas.t func52 ?_;have f:=g.ok.1;have e:=g.ok.2;simp only [Ei.mul] at f e
 push_cast [aas,Ei.v,Ei.rv,zaa]
 have c:b7 x.a/\b7 x.b:=by unfold Ei.In at hx; unfold b7; omega
 have d:b7 y.a/\b7 y.b:=by unfold Ei.In at hy; unfold b7; omega
 refine a7 (xr x.b y.b c.2 d.2) rfl trivial ?_
 push_cast [wid]
 refine c8 (xr x.a y.a c.1 d.1) rfl trivial ?_
 push_cast [wid]
 refine j8 (as':=[wid (x.a*y.a),wid (x.b*y.b)]) rfl ?_;refine c8 (aph _ _) rfl trivial ?_
 push_cast [wid]
 refine j8 (as':=[wid (x.a*y.a-x.b*y.b)]) rfl ?_;refine c8 (agd _ ?_) rfl trivial ?_
 ·have:=avp hx hy;omega
 push_cast [sm,f,if_pos]
 refine And.intro (by kernel_rfl) ?_;refine c8 (xr x.a y.b c.1 d.2) rfl trivial ?_
 push_cast [wid]
 refine c8 (xr x.b y.a c.2 d.1) rfl trivial ?_
 push_cast [wid]
 refine And.intro (by kernel_rfl) ?_;refine j8 (as':=[wid (x.a*y.b),wid (x.b*y.a)]) rfl ?_;refine c8 (ai1 _ _) rfl trivial ?_
 push_cast [wid]
 refine And.intro (by kernel_rfl) ?_;refine j8 (as':=[wid (x.a*y.b+x.b*y.a),wid (x.b*y.b)]) rfl ?_;refine c8 (ai1 _ _) rfl trivial ?_
 push_cast [wid]
 refine j8 (as':=[wid (x.a*y.b+x.b*y.a+x.b*y.b)]) rfl ?_;refine c8 (agd _ ?_) rfl trivial ?_
 ·have:=avp hx hy;omega
 push_cast [sm,e,if_pos]
 refine And.intro (by kernel_rfl) ?_;refine a7 (aee _ _) rfl trivial ?_
 push_cast [Ei.v,Ei.rv,Ei.mul]

def kh:Mk P0 f92:={ x:=_ }
def aat:Mk P0 f53:={ x:=_ }
def aar:Mk P0 f180:={ x:=_ }
def zh:Mk P0 f167:={ x:=_ }
def zg:Mk P0 f54:={ x:=_ }
def zi:Mk P0 f56:={ x:=_ }
def zc:Mk P0 f94:={ x:=_ }
def xn:Mk P0 f168:={ x:=_ }
theorem vh (h:b7 x):sm x=.tup [int .i64 x,bl true]:=by simp [sm,h]
theorem aom (x y:Ei) (hx:x.In M63) (hy:y.In M63) (c:(x.add y).In M63):a9 P0 53 [x.v,y.v] [] (.tup [(x.add y).v,bl true]) []:=by
 have d:a9 P0 92 [x.v,y.v,.fn (.func 93) []] [] (.tup [(x.add y).v,bl true]) []:=by
  refine kh.t func92 ?_
  push_cast [kh,Ei.v,Ei.rv,zaa]
  refine ⟨by kernel_rfl,?_⟩;refine a7 (al7 _ _ hx.ok.1 hy.ok.1) rfl trivial ?_;rw [vh (show b7 (x.a+y.a) from c.ok.1)]
  push_cast
  refine ⟨by kernel_rfl,?_⟩;refine a7 (al7 _ _ hx.ok.2 hy.ok.2) rfl trivial ?_;rw [vh (show b7 (x.b+y.b) from c.ok.2)]
  push_cast
  refine a7 (aee _ _) rfl trivial ?_
  push_cast [Ei.v,Ei.rv,Ei.add]
 refine aat.t func53 ?_
 push_cast [aat,Ei.v,Ei.rv,zaa]
 refine b5 (as':=[x.v,y.v,.fn (.func 93) []]) rfl ?_;refine a7 d rfl trivial ?_
 push_cast [Ei.v,Ei.rv,Ei.add]
theorem awg (x y:Ei) (hx:x.In M63) (hy:y.In M63) (c:(x.sub y).In M63):a9 P0 180 [x.v,y.v] [] (.tup [(x.sub y).v,bl true]) []:=by
 have d:a9 P0 92 [x.v,y.v,.fn (.func 182) []] [] (.tup [(x.sub y).v,bl true]) []:=by
  refine kh.t func92 ?_
  push_cast [kh,Ei.v,Ei.rv,zaa]
  refine ⟨by kernel_rfl,?_⟩;refine a7 (akz _ _ hx.ok.1 hy.ok.1) rfl trivial ?_;rw [vh (show b7 (x.a-y.a) from c.ok.1)]
  push_cast
  refine ⟨by kernel_rfl,?_⟩;refine a7 (akz _ _ hx.ok.2 hy.ok.2) rfl trivial ?_;rw [vh (show b7 (x.b-y.b) from c.ok.2)]
  push_cast
  refine a7 (aee _ _) rfl trivial ?_
  push_cast [Ei.v,Ei.rv,Ei.sub]
 refine aar.t func180 ?_
 push_cast [aar,Ei.v,Ei.rv,zaa]
 refine b5 (as':=[x.v,y.v,.fn (.func 182) []]) rfl ?_;refine a7 d rfl trivial ?_
 push_cast [Ei.v,Ei.rv,Ei.sub]
theorem at7 (x:Ei) (hx:x.In 4611686018427387903):a9 P0 167 [x.v] [] (.tup [x.conj.v,bl true]) []:=by
 refine zh.t func167 ?_;have h:=hx;unfold Ei.In at h
 push_cast [zh,Ei.v,Ei.rv,zaa]
 refine a7 (al7 _ _ (by unfold b7; omega) (by unfold b7; omega)) rfl trivial ?_;rw [vh (by unfold b7; omega)]
 push_cast
 refine a7 (axf _ (by unfold b7; omega)) rfl trivial ?_;rw [vh (by unfold b7; omega)]
 push_cast
 refine a7 (aee _ _) rfl trivial ?_
 push_cast [Ei.v,Ei.rv,Ei.conj]
theorem aru:uni 0=⟨1,0⟩:=rfl
theorem art:uni 1=⟨0,1⟩:=rfl
theorem ars:uni 2=⟨-1,1⟩:=rfl
theorem arr:uni 3=⟨-1,0⟩:=rfl
theorem arq:uni 4=⟨0,-1⟩:=rfl
theorem arp:uni 5=⟨1,-1⟩:=rfl
theorem akc (k:Int) (a:0<=k/\k<6):a9 P0 54 [int .i64 k] [] (uni k.toNat).v []:=by
 refine zg.t func54 ?_
 have b:(IntKind.i64.wrap (Int.tmod k 6+6)).tmod 6=k:=by
  rw [zck a.1,a5 (by omega),zck (by omega)]; omega
 simp only [zg,b,Ei.v,Ei.rv,push_cast,↓reduceIte,reduceCtorEq,zB,zE,zA,zS,zL,zD,zM];refine ⟨by decide,by decide,a,by omega,?_⟩;rcases (show k=0\/k=1\/k=2\/k=3\/k=4\/k=5 by omega) with rfl | rfl | rfl | rfl | rfl | rfl
 all_goals
  simp only [Int.reduceToNat,Nat.zero_mul,Nat.add_zero,zcs,aru,art,ars,arr,arq,arp,push_cast,↓reduceIte,reduceCtorEq,zB,zE,zA,zS,zL,zD,zM]
  first | done | trace_state
theorem pg (a m:Int) (e:b7 a) (f:0<=m/\m<=4611686018427387904):a9 P0 94 [int .i64 a,int .i64 m] [] (bl (decide (-m<=a/\a<=m))) []:=by
 refine zc.t func94 ?_
 push_cast [zc,zaa]
 rw [show IntKind.i64.wrap (0-m)=-m by rw [a5 (by omega)]; omega];refine dv ?_;by_cases d:-m<=a<;>by_cases b:a<=m<;>by_cases c:a=-9223372036854775808<;>simp [d,b,c]
 all_goals omega
theorem akf (k:Int) (m:0<=k/\k<=12):a9 P0 56 [int .i64 k] [] (.tup [(b9 k.toNat).v,bl true]) []:=by
 refine zi.t func56 ?_;have d:decide (k<0)=false:=by simp; omega
 have c2:decide (k>20)=false:=by simp; omega
 push_cast [zi,zaa,d,c2]
 refine c9 [(14,false),(15,false),(2,false),(3,false),(4,false),(5,false)] (fun vs pos c=>∃i:Int,0<=i/\i<=k/\vs=[int .i64 k,int .i64 i,.ptr 2000000 0 0,bl false,.ptr 2000001 0 0,bl true]/\pos=[]/\c=[.box [int .i64 0,int .i64 0],.box [int .i64 (b9 i.toNat).a,int .i64 (b9 i.toNat).b]])
  (fun vs _ _=>match vs with | [_,.r (.v (.int _ j)),_,_,_,_]=>(k-j).toNat | _=>0) rfl ?_ ?_
 ·push_cast
  exact ⟨0,by omega,by omega,rfl,rfl⟩
 rintro vs pos c ⟨i,g,l,rfl,rfl,rfl⟩
 push_cast
 refine b8 (fun h=>?_) (fun h=>?_)
 ·simp only [decide_eq_true_eq] at h
  push_cast
  have f:=fp i.toNat (by omega);have e:=fp (i.toNat+1) (by omega);refine b5 (as':=[(b9 i.toNat).v,r9.v]) rfl ?_;refine a7 (xl _ _ (f.mono (by decide)) (by unfold Ei.In; decide) (e.mono (by decide))) rfl trivial ?_
  push_cast [Ei.v,Ei.rv]
  rw [show IntKind.i64.wrap (i+1)=i+1 from a5 (by omega)];refine ⟨⟨i+1,by omega,by omega,rfl,?_⟩,by omega⟩;rw [show (i+1).toNat=i.toNat+1 by omega]
  rfl
 simp only [decide_eq_false_iff_not] at h;have:i=k:=by omega
 subst this
 push_cast [Ei.v,Ei.rv]

def pkN (d a b:Int) (i:Nat):Int×Ei:=(qw.take i).foldl (pk d a b) (0,⟨0,0⟩)
theorem ahd (d a b:Int) (i:Nat) (z:Ei) (h:qw[i]?=some z):pkN d a b (i+1)=pk d a b (pkN d a b i) z:=by
 unfold pkN;rw [List.take_add_one,h];simp
theorem atp {a:Int} (c:0<=a/\a<d) (e:0<=b/\b<d):(pkN d a b 3).2=aw d a b:=aiu c e
theorem ann (d a b:Int):∀i,(0<=(pkN d a b i).2.a/\(pkN d a b i).2.a<=1)/\(0<=(pkN d a b i).2.b/\(pkN d a b i).2.b<=1)
 | 0=>by simp [pkN]
 | i+1=>by
   have c:=ann d a b i;rcases h:qw[i]? with _ | z
   ·have:pkN d a b (i+1)=pkN d a b i:=by unfold pkN; rw [List.take_add_one,h]; simp
    rw [this]; exact c
   rw [ahd d a b i z h];unfold pk;split
   ·have:z∈qw:=List.mem_of_getElem? h;simp [qw] at this;rcases this with rfl | rfl | rfl<;>simp
   exact c
theorem ad2 {a:Int} (h:-n<=a/\a<=n) (f:1<=d):-n<=a/d/\a/d<=n:=by
 have g:=zct a d;have c:=zae a (show 0<d by omega);have e:=zaf a (show d≠0 by omega);generalize a/d=q at *;generalize a%d=r at *;constructor
 ·rcases zcg q 0 with b | b
  ·have:d*(q+1)<=1*(q+1):=Int.mul_le_mul_of_nonpos_right (by omega) (by omega);rw [zch] at this;omega
  omega
 rcases zcg q 0 with b | b
 ·omega
 have:1*q<=d*q:=zcu (by omega) b;omega
theorem aqy (u:Ei) (d:Int) (I:u.In 1152921504606846976) (w:1<=d/\d<=1125899906842624):a9 P0 168 [u.v,int .i64 d] [] (.tup [(u.round d).v,bl true]) []:=by
 refine xn.t func168 ?_;have c:=I;unfold Ei.In at c;have D:decide (d<1)=false:=by simp; omega
 have c2:decide (d>1125899906842624)=false:=by simp; omega
 have o:b7 u.a:=by unfold b7; omega
 have s:b7 u.b:=by unfold b7; omega
 have q:b7 d:=by unfold b7; omega
 push_cast [xn,Ei.v,Ei.rv,zaa,D,c2]
 refine a7 (pg _ _ o (by decide)) rfl trivial ?_;rw [show decide (-1152921504606846976<=u.a/\u.a<=1152921504606846976)=true from decide_eq_true c.1]
 push_cast
 refine a7 (pg _ _ s (by decide)) rfl trivial ?_;rw [show decide (-1152921504606846976<=u.b/\u.b<=1152921504606846976)=true from decide_eq_true c.2]
 push_cast
 refine a7 (go _ _ o q) rfl trivial ?_;have e:0<d:=by omega
 push_cast [e,if_true]
 refine a7 (go _ _ s q) rfl trivial ?_
 push_cast [e,if_true]
 have E:0<=u.a%d/\u.a%d<d:=⟨zaf _ (by omega),zae _ e⟩
 have y:0<=u.b%d/\u.b%d<d:=⟨zaf _ (by omega),zae _ e⟩
 have x:-1152921504606846976<=u.a/d/\u.a/d<=1152921504606846976:=ad2 c.1 w.1;have K:-1152921504606846976<=u.b/d/\u.b/d<=1152921504606846976:=ad2 c.2 w.1;generalize J:u.a%d=a at *;generalize A:u.b%d=b at *;generalize m:u.a/d=B at *;generalize n:u.b/d=H at *;refine ⟨by simp,?_⟩
 refine c9 [(57,false),(58,false),(59,false),(1,false),(4,false),(5,false),(6,false),(7,false),(9,false),(10,false),(12,false),(13,false)] (fun vs pos g=>∃i:Nat,i<=3/\vs=[.own 2000000 0 0 3,int .i64 3,int .i64 i,int .i64 d,.ptr 2000001 0 0,bl false,int .i64 B,int .i64 a,int .i64 H,int .i64 b,int .i64 (pkN d a b i).1,.ptr 2000002 0 0]/\pos=[] /\
  g=[.row 2 (Ei.rv ⟨0,0⟩) true true (qw.map Ei.rv),.box [int .i64 0,int .i64 0],.box [int .i64 (pkN d a b i).2.a,int .i64 (pkN d a b i).2.b]])
  (fun vs _ _=>match vs with | _::_ :: .r (.v (.int _ j))::_=>(3-j).toNat | _=>0) rfl ?_ ?_
 ·push_cast
  exact ⟨0,by omega,rfl,rfl⟩
 rintro vs pos g ⟨i,L,rfl,rfl,rfl⟩
 push_cast
 refine b8 (fun h=>?_) (fun h=>?_)
 ·have hi:i=0\/i=1\/i=2:=by simp at h; omega
  obtain ⟨z,p,k⟩:∃z,qw[i]?=some z/\((z=⟨0,1⟩\/z=⟨1,0⟩\/z=⟨1,1⟩)):=by
   rcases hi with rfl | rfl | rfl
   ·exact ⟨_,rfl,by simp⟩
   ·exact ⟨_,rfl,by simp⟩
   exact ⟨_,rfl,by simp⟩
  have F:(List.map Ei.rv qw).getD i (Ei.rv ⟨0,0⟩)=.agg [.v (.int .i64 z.a),.v (.int .i64 z.b)]:=by
   rw [List.getD_eq_getElem?_getD,List.getElem?_map,p]; rfl
  have G:(IntKind.i64.wrap (IntKind.i64.wrap (IntKind.i64.wrap (z.a*z.a)+IntKind.i64.wrap (z.a*z.b))+IntKind.i64.wrap (z.b*z.b)))=z.a*z.a+z.a*z.b+z.b*z.b:=by
   rcases k with rfl | rfl | rfl<;>decide
  have C:IntKind.i64.wrap (IntKind.i64.wrap (IntKind.i64.wrap (d*(z.a*z.a+z.a*z.b+z.b*z.b))-IntKind.i64.wrap (z.a*IntKind.i64.wrap (IntKind.i64.wrap (2*a)+b)))-IntKind.i64.wrap (z.b*IntKind.i64.wrap (a+IntKind.i64.wrap (2*b))))=fr d a b z:=by
   rw [show IntKind.i64.wrap (2*a)=2*a from a5 (by omega),show IntKind.i64.wrap (2*b)=2*b from a5 (by omega),show IntKind.i64.wrap (2*a+b)=2*a+b from a5 (by omega),show IntKind.i64.wrap (a+2*b)=a+2*b from a5 (by omega)];rcases k with rfl | rfl | rfl<;>simp only [fr,Int.zero_mul,Int.mul_zero,zcj,Int.mul_one,Int.add_zero,Int.zero_add,IntKind.wrap_i64]<;>omega
  have l:=ahd d a b i z p
  push_cast [Int.toNat_natCast,zcs,F,G,C]
  refine ⟨by omega,?_⟩;refine b8 (fun f=>?_) (fun f=>?_)
  ·simp only [decide_eq_true_eq] at f
   push_cast
   refine ⟨by kernel_rfl,?_⟩;rw [show IntKind.i64.wrap (i+1)=i+1 from a5 (by omega)];refine ⟨⟨i+1,by omega,?_,?_⟩,by omega⟩
   ·rw [l,pk,if_pos f]<;>rfl
   rw [l,pk,if_pos f]<;>rfl
  simp only [decide_eq_false_iff_not] at f
  push_cast
  rw [show IntKind.i64.wrap (i+1)=i+1 from a5 (by omega)];refine ⟨⟨i+1,by omega,?_,?_⟩,by omega⟩
  ·rw [l,pk,if_neg f]<;>rfl
  rw [l,pk,if_neg f]<;>rfl
 have:i=3:=by simp at h; omega
 subst this
 push_cast
 have hN:=ann d a b 3;rw [a5 (by omega),a5 (by omega),atp E y,<- m,<- n,<- J,<- A]
 rfl

def xe:Mk P0 f74:={ x:=_ }
def xd:Mk P0 f55:={ x:=_ }
def zb:Mk P0 f95:={ x:=_ }
def lh:Mk P0 f57:={ x:=_ }
def aab:Mk P0 f27:={ x:=_ }
theorem p2 (n:Nat) (h:n<=36):1<=(2:Int)^n/\(2:Int)^n<=68719476736:=by
 have c:2^n<=2^36:=zad (by decide) h;have a:1<=2^n:=Nat.one_le_two_pow;have b:((2^n:Nat):Int)=(2:Int)^n:=by simp
 omega
theorem p7 (n:Nat) (h:n<=12):1<=(7:Int)^n/\(7:Int)^n<=13841287201:=by
 have c:7^n<=7^12:=zad (by decide) h;have a:1<=7^n:=Nat.one_le_pow _ _ (by decide);have b:((7^n:Nat):Int)=(7:Int)^n:=by simp
 omega
theorem apr (z:Int) (a:0<=z) (c:z<=36):IntKind.i64.wrap (1*2^min (IntKind.u64.wrap z).toNat IntKind.i64.bits)=2^z.toNat:=by
 have b:=p2 z.toNat (by omega);rw [IntKind.wrap_u64,show (z%18446744073709551616).toNat=z.toNat by omega,show min z.toNat IntKind.i64.bits=z.toNat from zcw (by simp [IntKind.bits]; omega),zcj,a5 (by omega)]
theorem ax7 (z:Int) (a:0<=z) (c:z<=36):IntKind.i64.wrap (1*2^min z.toNat IntKind.i64.bits)=2^z.toNat:=by
 have b:=p2 z.toNat (by omega);rw [show min z.toNat IntKind.i64.bits=z.toNat from zcw (by simp [IntKind.bits]; omega),zcj,a5 (by omega)]
theorem aj5 (r:Int):a9 P0 74 [int .i64 r] [] (bl (decide (0<=r/\r<=12))) []:=by
 refine xe.t func74 ?_
 push_cast [xe,zaa]
 refine dv ?_;simp
theorem rc {x y:Ei} (hx:x.In n) (hy:y.In m):(x.mul y).In (3*(n*m)):=by
 have d:=z3 hx.1 hy.1;have a:=z3 hx.1 hy.2;have c:=z3 hx.2 hy.1;have b:=z3 hx.2 hy.2;unfold Ei.In Ei.mul;dsimp only;generalize n*m=q at *;omega
theorem akm {x:Ei} (hx:x.In n):x.conj.In (2*n):=by
 unfold Ei.In Ei.conj at *;dsimp only;omega
def inW (x y:Int):Prop:=(0<=x/\x<1073741824)/\(0<=y/\y<1073741824)
instance (x y:Int):Decidable (inW x y):=inferInstanceAs (Decidable (_/\_))
theorem asb (h:inW x y):(ax x y).In 60000000000:=by
 unfold inW at h;unfold ax Ei.In;dsimp only;omega
variable {k:Nat}
theorem aw1 (h:inW x y) (a:k<=12):((ax x y).mul (b9 k).conj).In 43200000000000000:=
 (rc (asb h) (akm (fp k a))).mono (by decide)

def vv (i:Nat):Ei:=match i with | 0=>⟨1,1⟩ | 1=>⟨-1,2⟩ | 2=>⟨-2,1⟩ | 3=>⟨-1,-1⟩ | 4=>⟨1,-2⟩ | _=>⟨2,-1⟩
def hc (z:Ei) (r i:Nat):Ei:=(b9 (12-r)).mul ⟨3*z.a+(vv i).a,3*z.b+(vv i).b⟩
def hx (z:Ei) (r i:Nat):Int:=52*(hc z r i).a+26*(hc z r i).b
def hy (z:Ei) (r i:Nat):Int:=45*(hc z r i).b
def cx (z:Ei) (r:Nat):Int:=52*((b9 (12-r)).mul z).a+26*((b9 (12-r)).mul z).b
def cy (z:Ei) (r:Nat):Int:=45*((b9 (12-r)).mul z).b
def kx (r i:Nat):Int:=52*((b9 (12-r)).mul (vv i)).a+26*((b9 (12-r)).mul (vv i)).b
def ky (r i:Nat):Int:=45*((b9 (12-r)).mul (vv i)).b
theorem r7 (z:Ei) (r i:Nat):hx z r i=3*cx z r+kx r i:=by
 simp only [hx,cx,kx,hc,Ei.mul,zch,Int.mul_left_comm _ (3:Int)];omega
theorem r6 (z:Ei) (r i:Nat):hy z r i=3*cy z r+ky r i:=by
 simp only [hy,cy,ky,hc,Ei.mul,zch,Int.mul_left_comm _ (3:Int)];omega
def crs (z:Ei) (r i j:Nat) (x y:Int):Int:=(kx r j-kx r i)*(y-hy z r i)-(ky r j-ky r i)*(x-hx z r i)
theorem ahr (r i:Nat) (a:r<=12) (hi:i<6):(-100000000<=kx r i/\kx r i<=100000000)/\(-100000000<=ky r i/\ky r i<=100000000):=by
 have:∀j:Fin 13,∀i:Fin 6,(-100000000<=kx j.val i.val/\kx j.val i.val<=100000000)/\(-100000000<=ky j.val i.val/\ky j.val i.val<=100000000):=by decide +kernel
 exact this ⟨r,by omega⟩ ⟨i,hi⟩
def fv (x y:Int) (z:Ei) (r:Nat):Prop:=
 ((-50000000<=cx z r-x/\cx z r-x<=50000000)/\(-50000000<=cy z r-y/\cy z r-y<=50000000)) /\
 (∀i,i<6->0<=crs z r i ((i+1)%6) (3*x) (3*y)) /\
 (∃i,i<6/\hx z r i<=3*x)/\(∃i,i<6/\3*x<=hx z r i)/\(∃i,i<6/\hy z r i<=3*y)/\(∃i,i<6/\3*y<=hy z r i)
theorem lt6 {i:Nat} (h:i<6):i=0\/i=1\/i=2\/i=3\/i=4\/i=5:=by omega
theorem axr (x y:Int):fv x y (g9 x y 0) 0:=by
 have h:=i5 ((ax x y).mul (b9 (12-0)).conj) (d:=2340*7^(12-0)) (by decide);have e:(b9 (12-0)).conj=⟨-128231,102960⟩:=by decide
 have p:(2340*7^(12-0):Int)=32388612050340:=by decide
 have o:b9 (12-0)=⟨-25271,-102960⟩:=by decide
 unfold g9;generalize Ei.round _ _=q at *;rw [e,p] at h;have u:cx q 0=52*(-25271*q.a - -102960*q.b)+26*(-25271*q.b + -102960*q.a + -102960*q.b):=by simp only [cx,o,Ei.mul]
 have t:cy q 0=45*(-25271*q.b + -102960*q.a + -102960*q.b):=by simp only [cy,o,Ei.mul]
 have n:kx 0 0=-1971138:=by decide
 have k:ky 0 0=-10403595:=by decide
 have x1:kx 0 1=8030880:=by decide
 have y1:ky 0 1=-6907590:=by decide
 have x2:kx 0 2=10002018:=by decide
 have y2:ky 0 2=3496005:=by decide
 have x3:kx 0 3=1971138:=by decide
 have y3:ky 0 3=10403595:=by decide
 have c:kx 0 4=-8030880:=by decide
 have m:ky 0 4=6907590:=by decide
 have l:kx 0 5=-10002018:=by decide
 have j:ky 0 5=-3496005:=by decide
 unfold d8 at h;simp only [Ei.mul,ax] at h;have g:∀i,hx q 0 i=3*cx q 0+kx 0 i:=fun i=>r7 q 0 i;have f:∀i,hy q 0 i=3*cy q 0+ky 0 i:=fun i=>r6 q 0 i;have v:=h.1;have s:=h.2.1;have r:=h.2.2;refine ⟨by omega,fun i hi=>?_,⟨5,by decide,?_⟩,⟨2,by decide,?_⟩,⟨0,by decide,?_⟩,⟨3,by decide,?_⟩⟩
 ·rcases lt6 hi with rfl | rfl | rfl | rfl | rfl | rfl<;>simp only [crs,g,f,n,x1,x2,x3,c,l,k,y1,y2,y3,m,j]<;>omega
 ·simp only [g,n,x1,x2,x3,c,l]; omega
 ·simp only [g,n,x1,x2,x3,c,l]; omega
 ·simp only [f,k,y1,y2,y3,m,j]; omega
 simp only [f,k,y1,y2,y3,m,j]; omega
theorem axq (x y:Int):fv x y (g9 x y 1) 1:=by
 have h:=i5 ((ax x y).mul (b9 (12-1)).conj) (d:=2340*7^(12-1)) (by decide);have e:(b9 (12-1)).conj=⟨-51346,25807⟩:=by decide
 have p:(2340*7^(12-1):Int)=4626944578620:=by decide
 have o:b9 (12-1)=⟨-25539,-25807⟩:=by decide
 unfold g9;generalize Ei.round _ _=q at *;rw [e,p] at h;have u:cx q 1=52*(-25539*q.a - -25807*q.b)+26*(-25539*q.b + -25807*q.a + -25807*q.b):=by simp only [cx,o,Ei.mul]
 have t:cy q 1=45*(-25539*q.b + -25807*q.a + -25807*q.b):=by simp only [cy,o,Ei.mul]
 have n:kx 1 0=-1992042:=by decide
 have k:ky 1 0=-3471885:=by decide
 have x1:kx 1 1=2012946:=by decide
 have y1:ky 1 1=-3459825:=by decide
 have x2:kx 1 2=4004988:=by decide
 have y2:ky 1 2=12060:=by decide
 have x3:kx 1 3=1992042:=by decide
 have y3:ky 1 3=3471885:=by decide
 have c:kx 1 4=-2012946:=by decide
 have m:ky 1 4=3459825:=by decide
 have l:kx 1 5=-4004988:=by decide
 have j:ky 1 5=-12060:=by decide
 unfold d8 at h;simp only [Ei.mul,ax] at h;have g:∀i,hx q 1 i=3*cx q 1+kx 1 i:=fun i=>r7 q 1 i;have f:∀i,hy q 1 i=3*cy q 1+ky 1 i:=fun i=>r6 q 1 i;have v:=h.1;have s:=h.2.1;have r:=h.2.2;refine ⟨by omega,fun i hi=>?_,⟨5,by decide,?_⟩,⟨2,by decide,?_⟩,⟨0,by decide,?_⟩,⟨3,by decide,?_⟩⟩
 ·rcases lt6 hi with rfl | rfl | rfl | rfl | rfl | rfl<;>simp only [crs,g,f,n,x1,x2,x3,c,l,k,y1,y2,y3,m,j]<;>omega
 ·simp only [g,n,x1,x2,x3,c,l]; omega
 ·simp only [g,n,x1,x2,x3,c,l]; omega
 ·simp only [f,k,y1,y2,y3,m,j]; omega
 simp only [f,k,y1,y2,y3,m,j]; omega
theorem axp (x y:Int):fv x y (g9 x y 2) 2:=by
 have h:=i5 ((ax x y).mul (b9 (12-2)).conj) (d:=2340*7^(12-2)) (by decide);have e:(b9 (12-2)).conj=⟨-18357,3725⟩:=by decide
 have p:(2340*7^(12-2):Int)=660992082660:=by decide
 have o:b9 (12-2)=⟨-14632,-3725⟩:=by decide
 unfold g9;generalize Ei.round _ _=q at *;rw [e,p] at h;have u:cx q 2=52*(-14632*q.a - -3725*q.b)+26*(-14632*q.b + -3725*q.a + -3725*q.b):=by simp only [cx,o,Ei.mul]
 have t:cy q 2=45*(-14632*q.b + -3725*q.a + -3725*q.b):=by simp only [cy,o,Ei.mul]
 have n:kx 2 0=-1141296:=by decide
 have k:ky 2 0=-993690:=by decide
 have x1:kx 2 1=290550:=by decide
 have y1:ky 2 1=-1484505:=by decide
 have x2:kx 2 2=1431846:=by decide
 have y2:ky 2 2=-490815:=by decide
 have x3:kx 2 3=1141296:=by decide
 have y3:ky 2 3=993690:=by decide
 have c:kx 2 4=-290550:=by decide
 have m:ky 2 4=1484505:=by decide
 have l:kx 2 5=-1431846:=by decide
 have j:ky 2 5=490815:=by decide
 unfold d8 at h;simp only [Ei.mul,ax] at h;have g:∀i,hx q 2 i=3*cx q 2+kx 2 i:=fun i=>r7 q 2 i;have f:∀i,hy q 2 i=3*cy q 2+ky 2 i:=fun i=>r6 q 2 i;have v:=h.1;have s:=h.2.1;have r:=h.2.2;refine ⟨by omega,fun i hi=>?_,⟨5,by decide,?_⟩,⟨2,by decide,?_⟩,⟨1,by decide,?_⟩,⟨4,by decide,?_⟩⟩
 ·rcases lt6 hi with rfl | rfl | rfl | rfl | rfl | rfl<;>simp only [crs,g,f,n,x1,x2,x3,c,l,k,y1,y2,y3,m,j]<;>omega
 ·simp only [g,n,x1,x2,x3,c,l]; omega
 ·simp only [g,n,x1,x2,x3,c,l]; omega
 ·simp only [f,k,y1,y2,y3,m,j]; omega
 simp only [f,k,y1,y2,y3,m,j]; omega
theorem axo (x y:Int):fv x y (g9 x y 3) 3:=by
 have h:=i5 ((ax x y).mul (b9 (12-3)).conj) (d:=2340*7^(12-3)) (by decide);have e:(b9 (12-3)).conj=⟨-5777,-1026⟩:=by decide
 have p:(2340*7^(12-3):Int)=94427440380:=by decide
 have o:b9 (12-3)=⟨-6803,1026⟩:=by decide
 unfold g9;generalize Ei.round _ _=q at *;rw [e,p] at h;have u:cx q 3=52*(-6803*q.a-1026*q.b)+26*(-6803*q.b+1026*q.a+1026*q.b):=by simp only [cx,o,Ei.mul]
 have t:cy q 3=45*(-6803*q.b+1026*q.a+1026*q.b):=by simp only [cy,o,Ei.mul]
 have n:kx 3 0=-530634:=by decide
 have k:ky 3 0=-213795:=by decide
 have x1:kx 3 1=-80028:=by decide
 have y1:ky 3 1=-566100:=by decide
 have x2:kx 3 2=450606:=by decide
 have y2:ky 3 2=-352305:=by decide
 have x3:kx 3 3=530634:=by decide
 have y3:ky 3 3=213795:=by decide
 have c:kx 3 4=80028:=by decide
 have m:ky 3 4=566100:=by decide
 have l:kx 3 5=-450606:=by decide
 have j:ky 3 5=352305:=by decide
 unfold d8 at h;simp only [Ei.mul,ax] at h;have g:∀i,hx q 3 i=3*cx q 3+kx 3 i:=fun i=>r7 q 3 i;have f:∀i,hy q 3 i=3*cy q 3+ky 3 i:=fun i=>r6 q 3 i;have v:=h.1;have s:=h.2.1;have r:=h.2.2;refine ⟨by omega,fun i hi=>?_,⟨0,by decide,?_⟩,⟨3,by decide,?_⟩,⟨1,by decide,?_⟩,⟨4,by decide,?_⟩⟩
 ·rcases lt6 hi with rfl | rfl | rfl | rfl | rfl | rfl<;>simp only [crs,g,f,n,x1,x2,x3,c,l,k,y1,y2,y3,m,j]<;>omega
 ·simp only [g,n,x1,x2,x3,c,l]; omega
 ·simp only [g,n,x1,x2,x3,c,l]; omega
 ·simp only [f,k,y1,y2,y3,m,j]; omega
 simp only [f,k,y1,y2,y3,m,j]; omega
theorem axn (x y:Int):fv x y (g9 x y 4) 4:=by
 have h:=i5 ((ax x y).mul (b9 (12-4)).conj) (d:=2340*7^(12-4)) (by decide);have e:(b9 (12-4)).conj=⟨-1504,-1265⟩:=by decide
 have p:(2340*7^(12-4):Int)=13489634340:=by decide
 have o:b9 (12-4)=⟨-2769,1265⟩:=by decide
 unfold g9;generalize Ei.round _ _=q at *;rw [e,p] at h;have u:cx q 4=52*(-2769*q.a-1265*q.b)+26*(-2769*q.b+1265*q.a+1265*q.b):=by simp only [cx,o,Ei.mul]
 have t:cy q 4=45*(-2769*q.b+1265*q.a+1265*q.b):=by simp only [cy,o,Ei.mul]
 have n:kx 4 0=-215982:=by decide
 have k:ky 4 0=-10755:=by decide
 have x1:kx 4 1=-98670:=by decide
 have y1:ky 4 1=-192285:=by decide
 have x2:kx 4 2=117312:=by decide
 have y2:ky 4 2=-181530:=by decide
 have x3:kx 4 3=215982:=by decide
 have y3:ky 4 3=10755:=by decide
 have c:kx 4 4=98670:=by decide
 have m:ky 4 4=192285:=by decide
 have l:kx 4 5=-117312:=by decide
 have j:ky 4 5=181530:=by decide
 unfold d8 at h;simp only [Ei.mul,ax] at h;have g:∀i,hx q 4 i=3*cx q 4+kx 4 i:=fun i=>r7 q 4 i;have f:∀i,hy q 4 i=3*cy q 4+ky 4 i:=fun i=>r6 q 4 i;have v:=h.1;have s:=h.2.1;have r:=h.2.2;refine ⟨by omega,fun i hi=>?_,⟨0,by decide,?_⟩,⟨3,by decide,?_⟩,⟨1,by decide,?_⟩,⟨4,by decide,?_⟩⟩
 ·rcases lt6 hi with rfl | rfl | rfl | rfl | rfl | rfl<;>simp only [crs,g,f,n,x1,x2,x3,c,l,k,y1,y2,y3,m,j]<;>omega
 ·simp only [g,n,x1,x2,x3,c,l]; omega
 ·simp only [g,n,x1,x2,x3,c,l]; omega
 ·simp only [f,k,y1,y2,y3,m,j]; omega
 simp only [f,k,y1,y2,y3,m,j]; omega
theorem axm (x y:Int):fv x y (g9 x y 5) 5:=by
 have h:=i5 ((ax x y).mul (b9 (12-5)).conj) (d:=2340*7^(12-5)) (by decide);have e:(b9 (12-5)).conj=⟨-249,-757⟩:=by decide
 have p:(2340*7^(12-5):Int)=1927090620:=by decide
 have o:b9 (12-5)=⟨-1006,757⟩:=by decide
 unfold g9;generalize Ei.round _ _=q at *;rw [e,p] at h;have u:cx q 5=52*(-1006*q.a-757*q.b)+26*(-1006*q.b+757*q.a+757*q.b):=by simp only [cx,o,Ei.mul]
 have t:cy q 5=45*(-1006*q.b+757*q.a+757*q.b):=by simp only [cy,o,Ei.mul]
 have n:kx 5 0=-78468:=by decide
 have k:ky 5 0=22860:=by decide
 have x1:kx 5 1=-59046:=by decide
 have y1:ky 5 1=-56475:=by decide
 have x2:kx 5 2=19422:=by decide
 have y2:ky 5 2=-79335:=by decide
 have x3:kx 5 3=78468:=by decide
 have y3:ky 5 3=-22860:=by decide
 have c:kx 5 4=59046:=by decide
 have m:ky 5 4=56475:=by decide
 have l:kx 5 5=-19422:=by decide
 have j:ky 5 5=79335:=by decide
 unfold d8 at h;simp only [Ei.mul,ax] at h;have g:∀i,hx q 5 i=3*cx q 5+kx 5 i:=fun i=>r7 q 5 i;have f:∀i,hy q 5 i=3*cy q 5+ky 5 i:=fun i=>r6 q 5 i;have v:=h.1;have s:=h.2.1;have r:=h.2.2;refine ⟨by omega,fun i hi=>?_,⟨0,by decide,?_⟩,⟨3,by decide,?_⟩,⟨2,by decide,?_⟩,⟨5,by decide,?_⟩⟩
 ·rcases lt6 hi with rfl | rfl | rfl | rfl | rfl | rfl<;>simp only [crs,g,f,n,x1,x2,x3,c,l,k,y1,y2,y3,m,j]<;>omega
 ·simp only [g,n,x1,x2,x3,c,l]; omega
 ·simp only [g,n,x1,x2,x3,c,l]; omega
 ·simp only [f,k,y1,y2,y3,m,j]; omega
 simp only [f,k,y1,y2,y3,m,j]; omega
theorem axl (x y:Int):fv x y (g9 x y 6) 6:=by
 have h:=i5 ((ax x y).mul (b9 (12-6)).conj) (d:=2340*7^(12-6)) (by decide);have e:(b9 (12-6)).conj=⟨37,-360⟩:=by decide
 have p:(2340*7^(12-6):Int)=275298660:=by decide
 have o:b9 (12-6)=⟨-323,360⟩:=by decide
 unfold g9;generalize Ei.round _ _=q at *;rw [e,p] at h;have u:cx q 6=52*(-323*q.a-360*q.b)+26*(-323*q.b+360*q.a+360*q.b):=by simp only [cx,o,Ei.mul]
 have t:cy q 6=45*(-323*q.b+360*q.a+360*q.b):=by simp only [cy,o,Ei.mul]
 have n:kx 6 0=-25194:=by decide
 have k:ky 6 0=17865:=by decide
 have x1:kx 6 1=-28080:=by decide
 have y1:ky 6 1=-12870:=by decide
 have x2:kx 6 2=-2886:=by decide
 have y2:ky 6 2=-30735:=by decide
 have x3:kx 6 3=25194:=by decide
 have y3:ky 6 3=-17865:=by decide
 have c:kx 6 4=28080:=by decide
 have m:ky 6 4=12870:=by decide
 have l:kx 6 5=2886:=by decide
 have j:ky 6 5=30735:=by decide
 unfold d8 at h;simp only [Ei.mul,ax] at h;have g:∀i,hx q 6 i=3*cx q 6+kx 6 i:=fun i=>r7 q 6 i;have f:∀i,hy q 6 i=3*cy q 6+ky 6 i:=fun i=>r6 q 6 i;have v:=h.1;have s:=h.2.1;have r:=h.2.2;refine ⟨by omega,fun i hi=>?_,⟨1,by decide,?_⟩,⟨4,by decide,?_⟩,⟨2,by decide,?_⟩,⟨5,by decide,?_⟩⟩
 ·rcases lt6 hi with rfl | rfl | rfl | rfl | rfl | rfl<;>simp only [crs,g,f,n,x1,x2,x3,c,l,k,y1,y2,y3,m,j]<;>omega
 ·simp only [g,n,x1,x2,x3,c,l]; omega
 ·simp only [g,n,x1,x2,x3,c,l]; omega
 ·simp only [f,k,y1,y2,y3,m,j]; omega
 simp only [f,k,y1,y2,y3,m,j]; omega
theorem axk (x y:Int):fv x y (g9 x y 7) 7:=by
 have h:=i5 ((ax x y).mul (b9 (12-7)).conj) (d:=2340*7^(12-7)) (by decide);have e:(b9 (12-7)).conj=⟨62,-149⟩:=by decide
 have p:(2340*7^(12-7):Int)=39328380:=by decide
 have o:b9 (12-7)=⟨-87,149⟩:=by decide
 unfold g9;generalize Ei.round _ _=q at *;rw [e,p] at h;have u:cx q 7=52*(-87*q.a-149*q.b)+26*(-87*q.b+149*q.a+149*q.b):=by simp only [cx,o,Ei.mul]
 have t:cy q 7=45*(-87*q.b+149*q.a+149*q.b):=by simp only [cy,o,Ei.mul]
 have n:kx 7 0=-6786:=by decide
 have k:ky 7 0=9495:=by decide
 have x1:kx 7 1=-11622:=by decide
 have y1:ky 7 1=-1125:=by decide
 have x2:kx 7 2=-4836:=by decide
 have y2:ky 7 2=-10620:=by decide
 have x3:kx 7 3=6786:=by decide
 have y3:ky 7 3=-9495:=by decide
 have c:kx 7 4=11622:=by decide
 have m:ky 7 4=1125:=by decide
 have l:kx 7 5=4836:=by decide
 have j:ky 7 5=10620:=by decide
 unfold d8 at h;simp only [Ei.mul,ax] at h;have g:∀i,hx q 7 i=3*cx q 7+kx 7 i:=fun i=>r7 q 7 i;have f:∀i,hy q 7 i=3*cy q 7+ky 7 i:=fun i=>r6 q 7 i;have v:=h.1;have s:=h.2.1;have r:=h.2.2;refine ⟨by omega,fun i hi=>?_,⟨1,by decide,?_⟩,⟨4,by decide,?_⟩,⟨2,by decide,?_⟩,⟨5,by decide,?_⟩⟩
 ·rcases lt6 hi with rfl | rfl | rfl | rfl | rfl | rfl<;>simp only [crs,g,f,n,x1,x2,x3,c,l,k,y1,y2,y3,m,j]<;>omega
 ·simp only [g,n,x1,x2,x3,c,l]; omega
 ·simp only [g,n,x1,x2,x3,c,l]; omega
 ·simp only [f,k,y1,y2,y3,m,j]; omega
 simp only [f,k,y1,y2,y3,m,j]; omega
theorem axj (x y:Int):fv x y (g9 x y 8) 8:=by
 have h:=i5 ((ax x y).mul (b9 (12-8)).conj) (d:=2340*7^(12-8)) (by decide);have e:(b9 (12-8)).conj=⟨39,-55⟩:=by decide
 have p:(2340*7^(12-8):Int)=5618340:=by decide
 have o:b9 (12-8)=⟨-16,55⟩:=by decide
 unfold g9;generalize Ei.round _ _=q at *;rw [e,p] at h;have u:cx q 8=52*(-16*q.a-55*q.b)+26*(-16*q.b+55*q.a+55*q.b):=by simp only [cx,o,Ei.mul]
 have t:cy q 8=45*(-16*q.b+55*q.a+55*q.b):=by simp only [cy,o,Ei.mul]
 have n:kx 8 0=-1248:=by decide
 have k:ky 8 0=4230:=by decide
 have x1:kx 8 1=-4290:=by decide
 have y1:ky 8 1=1035:=by decide
 have x2:kx 8 2=-3042:=by decide
 have y2:ky 8 2=-3195:=by decide
 have x3:kx 8 3=1248:=by decide
 have y3:ky 8 3=-4230:=by decide
 have c:kx 8 4=4290:=by decide
 have m:ky 8 4=-1035:=by decide
 have l:kx 8 5=3042:=by decide
 have j:ky 8 5=3195:=by decide
 unfold d8 at h;simp only [Ei.mul,ax] at h;have g:∀i,hx q 8 i=3*cx q 8+kx 8 i:=fun i=>r7 q 8 i;have f:∀i,hy q 8 i=3*cy q 8+ky 8 i:=fun i=>r6 q 8 i;have v:=h.1;have s:=h.2.1;have r:=h.2.2;refine ⟨by omega,fun i hi=>?_,⟨1,by decide,?_⟩,⟨4,by decide,?_⟩,⟨3,by decide,?_⟩,⟨0,by decide,?_⟩⟩
 ·rcases lt6 hi with rfl | rfl | rfl | rfl | rfl | rfl<;>simp only [crs,g,f,n,x1,x2,x3,c,l,k,y1,y2,y3,m,j]<;>omega
 ·simp only [g,n,x1,x2,x3,c,l]; omega
 ·simp only [g,n,x1,x2,x3,c,l]; omega
 ·simp only [f,k,y1,y2,y3,m,j]; omega
 simp only [f,k,y1,y2,y3,m,j]; omega
theorem axi (x y:Int):fv x y (g9 x y 9) 9:=by
 have h:=i5 ((ax x y).mul (b9 (12-9)).conj) (d:=2340*7^(12-9)) (by decide);have e:(b9 (12-9)).conj=⟨19,-18⟩:=by decide
 have p:(2340*7^(12-9):Int)=802620:=by decide
 have o:b9 (12-9)=⟨1,18⟩:=by decide
 unfold g9;generalize Ei.round _ _=q at *;rw [e,p] at h;have u:cx q 9=52*(1*q.a-18*q.b)+26*(1*q.b+18*q.a+18*q.b):=by simp only [cx,o,Ei.mul]
 have t:cy q 9=45*(1*q.b+18*q.a+18*q.b):=by simp only [cy,o,Ei.mul]
 have n:kx 9 0=78:=by decide
 have k:ky 9 0=1665:=by decide
 have x1:kx 9 1=-1404:=by decide
 have y1:ky 9 1=900:=by decide
 have x2:kx 9 2=-1482:=by decide
 have y2:ky 9 2=-765:=by decide
 have x3:kx 9 3=-78:=by decide
 have y3:ky 9 3=-1665:=by decide
 have c:kx 9 4=1404:=by decide
 have m:ky 9 4=-900:=by decide
 have l:kx 9 5=1482:=by decide
 have j:ky 9 5=765:=by decide
 unfold d8 at h;simp only [Ei.mul,ax] at h;have g:∀i,hx q 9 i=3*cx q 9+kx 9 i:=fun i=>r7 q 9 i;have f:∀i,hy q 9 i=3*cy q 9+ky 9 i:=fun i=>r6 q 9 i;have v:=h.1;have s:=h.2.1;have r:=h.2.2;refine ⟨by omega,fun i hi=>?_,⟨2,by decide,?_⟩,⟨5,by decide,?_⟩,⟨3,by decide,?_⟩,⟨0,by decide,?_⟩⟩
 ·rcases lt6 hi with rfl | rfl | rfl | rfl | rfl | rfl<;>simp only [crs,g,f,n,x1,x2,x3,c,l,k,y1,y2,y3,m,j]<;>omega
 ·simp only [g,n,x1,x2,x3,c,l]; omega
 ·simp only [g,n,x1,x2,x3,c,l]; omega
 ·simp only [f,k,y1,y2,y3,m,j]; omega
 simp only [f,k,y1,y2,y3,m,j]; omega
theorem av1 (x y:Int):fv x y (g9 x y 10) 10:=by
 have h:=i5 ((ax x y).mul (b9 (12-10)).conj) (d:=2340*7^(12-10)) (by decide);have e:(b9 (12-10)).conj=⟨8,-5⟩:=by decide
 have p:(2340*7^(12-10):Int)=114660:=by decide
 have o:b9 (12-10)=⟨3,5⟩:=by decide
 unfold g9;generalize Ei.round _ _=q at *;rw [e,p] at h;have u:cx q 10=52*(3*q.a-5*q.b)+26*(3*q.b+5*q.a+5*q.b):=by simp only [cx,o,Ei.mul]
 have t:cy q 10=45*(3*q.b+5*q.a+5*q.b):=by simp only [cy,o,Ei.mul]
 have n:kx 10 0=234:=by decide
 have k:ky 10 0=585:=by decide
 have x1:kx 10 1=-390:=by decide
 have y1:ky 10 1=495:=by decide
 have x2:kx 10 2=-624:=by decide
 have y2:ky 10 2=-90:=by decide
 have x3:kx 10 3=-234:=by decide
 have y3:ky 10 3=-585:=by decide
 have c:kx 10 4=390:=by decide
 have m:ky 10 4=-495:=by decide
 have l:kx 10 5=624:=by decide
 have j:ky 10 5=90:=by decide
 unfold d8 at h;simp only [Ei.mul,ax] at h;have g:∀i,hx q 10 i=3*cx q 10+kx 10 i:=fun i=>r7 q 10 i;have f:∀i,hy q 10 i=3*cy q 10+ky 10 i:=fun i=>r6 q 10 i;have v:=h.1;have s:=h.2.1;have r:=h.2.2;refine ⟨by omega,fun i hi=>?_,⟨2,by decide,?_⟩,⟨5,by decide,?_⟩,⟨3,by decide,?_⟩,⟨0,by decide,?_⟩⟩
 ·rcases lt6 hi with rfl | rfl | rfl | rfl | rfl | rfl<;>simp only [crs,g,f,n,x1,x2,x3,c,l,k,y1,y2,y3,m,j]<;>omega
 ·simp only [g,n,x1,x2,x3,c,l]; omega
 ·simp only [g,n,x1,x2,x3,c,l]; omega
 ·simp only [f,k,y1,y2,y3,m,j]; omega
 simp only [f,k,y1,y2,y3,m,j]; omega
theorem av0 (x y:Int):fv x y (g9 x y 11) 11:=by
 have h:=i5 ((ax x y).mul (b9 (12-11)).conj) (d:=2340*7^(12-11)) (by decide);have e:(b9 (12-11)).conj=⟨3,-1⟩:=by decide
 have p:(2340*7^(12-11):Int)=16380:=by decide
 have o:b9 (12-11)=⟨2,1⟩:=by decide
 unfold g9;generalize Ei.round _ _=q at *;rw [e,p] at h;have u:cx q 11=52*(2*q.a-1*q.b)+26*(2*q.b+1*q.a+1*q.b):=by simp only [cx,o,Ei.mul]
 have t:cy q 11=45*(2*q.b+1*q.a+1*q.b):=by simp only [cy,o,Ei.mul]
 have n:kx 11 0=156:=by decide
 have k:ky 11 0=180:=by decide
 have x1:kx 11 1=-78:=by decide
 have y1:ky 11 1=225:=by decide
 have x2:kx 11 2=-234:=by decide
 have y2:ky 11 2=45:=by decide
 have x3:kx 11 3=-156:=by decide
 have y3:ky 11 3=-180:=by decide
 have c:kx 11 4=78:=by decide
 have m:ky 11 4=-225:=by decide
 have l:kx 11 5=234:=by decide
 have j:ky 11 5=-45:=by decide
 unfold d8 at h;simp only [Ei.mul,ax] at h;have g:∀i,hx q 11 i=3*cx q 11+kx 11 i:=fun i=>r7 q 11 i;have f:∀i,hy q 11 i=3*cy q 11+ky 11 i:=fun i=>r6 q 11 i;have v:=h.1;have s:=h.2.1;have r:=h.2.2;refine ⟨by omega,fun i hi=>?_,⟨2,by decide,?_⟩,⟨5,by decide,?_⟩,⟨4,by decide,?_⟩,⟨1,by decide,?_⟩⟩
 ·rcases lt6 hi with rfl | rfl | rfl | rfl | rfl | rfl<;>simp only [crs,g,f,n,x1,x2,x3,c,l,k,y1,y2,y3,m,j]<;>omega
 ·simp only [g,n,x1,x2,x3,c,l]; omega
 ·simp only [g,n,x1,x2,x3,c,l]; omega
 ·simp only [f,k,y1,y2,y3,m,j]; omega
 simp only [f,k,y1,y2,y3,m,j]; omega
theorem avz (x y:Int):fv x y (g9 x y 12) 12:=by
 have h:=i5 ((ax x y).mul (b9 (12-12)).conj) (d:=2340*7^(12-12)) (by decide);have e:(b9 (12-12)).conj=⟨1,0⟩:=by decide
 have p:(2340*7^(12-12):Int)=2340:=by decide
 have o:b9 (12-12)=⟨1,0⟩:=by decide
 unfold g9;generalize Ei.round _ _=q at *;rw [e,p] at h;have u:cx q 12=52*(1*q.a-0*q.b)+26*(1*q.b+0*q.a+0*q.b):=by simp only [cx,o,Ei.mul]
 have t:cy q 12=45*(1*q.b+0*q.a+0*q.b):=by simp only [cy,o,Ei.mul]
 have n:kx 12 0=78:=by decide
 have k:ky 12 0=45:=by decide
 have x1:kx 12 1=0:=by decide
 have y1:ky 12 1=90:=by decide
 have x2:kx 12 2=-78:=by decide
 have y2:ky 12 2=45:=by decide
 have x3:kx 12 3=-78:=by decide
 have y3:ky 12 3=-45:=by decide
 have c:kx 12 4=0:=by decide
 have m:ky 12 4=-90:=by decide
 have l:kx 12 5=78:=by decide
 have j:ky 12 5=-45:=by decide
 unfold d8 at h;simp only [Ei.mul,ax] at h;have g:∀i,hx q 12 i=3*cx q 12+kx 12 i:=fun i=>r7 q 12 i;have f:∀i,hy q 12 i=3*cy q 12+ky 12 i:=fun i=>r6 q 12 i;have v:=h.1;have s:=h.2.1;have r:=h.2.2;refine ⟨by omega,fun i hi=>?_,⟨2,by decide,?_⟩,⟨0,by decide,?_⟩,⟨4,by decide,?_⟩,⟨1,by decide,?_⟩⟩
 ·rcases lt6 hi with rfl | rfl | rfl | rfl | rfl | rfl<;>simp only [crs,g,f,n,x1,x2,x3,c,l,k,y1,y2,y3,m,j]<;>omega
 ·simp only [g,n,x1,x2,x3,c,l]; omega
 ·simp only [g,n,x1,x2,x3,c,l]; omega
 ·simp only [f,k,y1,y2,y3,m,j]; omega
 simp only [f,k,y1,y2,y3,m,j]; omega
theorem ayb (x y:Int) (r:Nat) (a:r<=12):fv x y (g9 x y r) r:=by
 match r,a with
 | 0,_=>exact axr x y
 | 1,_=>exact axq x y
 | 2,_=>exact axp x y
 | 3,_=>exact axo x y
 | 4,_=>exact axn x y
 | 5,_=>exact axm x y
 | 6,_=>exact axl x y
 | 7,_=>exact axk x y
 | 8,_=>exact axj x y
 | 9,_=>exact axi x y
 | 10,_=>exact av1 x y
 | 11,_=>exact av0 x y
 | 12,_=>exact avz x y
 | r+13,h=>omega

variable {r:Nat}
theorem lb (a:r<=12):(b9 (12-r)).In 120000:=fp _ (by omega)
theorem ab8 {c:Int} (h:z.In n) (f:0<=c/\c<=3) (g:0<=n):(⟨c*z.a,c*z.b⟩:Ei).In (3*n):=by
 have e:=z3 (show -3<=c/\c<=3 by omega) h.1;have d:=z3 (show -3<=c/\c<=3 by omega) h.2;exact ⟨e,d⟩
def bn (z:Ei) (r:Nat) (b:Int):Ei:=(b9 (12-r)).mul ⟨b*z.a,b*z.b⟩
theorem afj (h:z.In 1073741824) (a:r<=12) (c:0<=b/\b<=3):(bn z r b).In 1159641169920000:=(rc (lb a) (ab8 h c (by decide))).mono (by decide)
theorem ato (z:Ei) (r b:Int) (h:z.In 1073741824) (i:0<=r/\r<=12) (d:0<=b/\b<=3):a9 P0 55 [z.v,int .i64 r,int .i64 b] [] (.tup [(bn z r.toNat b).v,bl true]) []:=by
 refine xd.t func55 ?_;have c:=h;unfold Ei.In at c;have g:b7 z.a/\b7 z.b:=by unfold b7; omega
 push_cast [xd,Ei.v,Ei.rv,zaa]
 refine a7 (aj5 r) rfl trivial ?_;rw [decide_eq_true i]
 push_cast
 refine a7 (pg _ _ g.1 (by decide)) rfl trivial ?_;rw [show decide (-1073741824<=z.a/\z.a<=1073741824)=true from decide_eq_true c.1]
 push_cast
 refine a7 (pg _ _ g.2 (by decide)) rfl trivial ?_;rw [show decide (-1073741824<=z.b/\z.b<=1073741824)=true from decide_eq_true c.2]
 push_cast
 rw [show IntKind.i64.wrap (12-r)=12-r from a5 (by omega)];refine a7 (akf (12-r) (by omega)) rfl trivial ?_
 push_cast [Ei.v,Ei.rv]
 have f:=ab8 h d (by decide);unfold Ei.In at f;rw [show IntKind.i64.wrap (b*z.a)=b*z.a from a5 (by have:=f.1; dsimp only at this; omega),show IntKind.i64.wrap (b*z.b)=b*z.b from a5 (by have:=f.2; dsimp only at this; omega)];refine b5 (as':=[(b9 (12-r).toNat).v,Ei.v ⟨b*z.a,b*z.b⟩]) rfl ?_;have e:(12-r).toNat=12-r.toNat:=by omega
 refine a7 (xl _ _ ((fp _ (by omega)).mono (by decide)) ((ab8 h d (by decide)).mono (by decide)) ?_) rfl trivial ?_
 ·rw [e]; exact (afj h (by omega) d).mono (by decide)
 push_cast [bn,<- e,Ei.v,Ei.rv]
def pnt (x y:Int):RV:=.agg [.v (.int .i64 x),.v (.int .i64 y)]
theorem au8 (w:Ei) (h:w.In 10000000000000000):a9 P0 95 [w.v] [] (.r (pnt (52*w.a+26*w.b) (45*w.b))) []:=by
 refine zb.t func95 ?_;unfold Ei.In at h
 push_cast [zb,Ei.v,Ei.rv,zaa]
 rw [show IntKind.i64.wrap (52*w.a)=52*w.a from a5 (by omega),show IntKind.i64.wrap (26*w.b)=26*w.b from a5 (by omega),show IntKind.i64.wrap (52*w.a+26*w.b)=52*w.a+26*w.b from a5 (by omega),show IntKind.i64.wrap (45*w.b)=45*w.b from a5 (by omega)]
 rfl
theorem aw4 {x y:Ei} (hx:x.In n) (hy:y.In m):(x.add y).In (n+m):=by
 unfold Ei.In Ei.add at *;dsimp only;omega
theorem aro (i:Nat):(vv i).In 2:=by
 unfold vv;split<;>unfold Ei.In<;>decide
def cen (m b:Ei):AV:=.r (.agg [.v (.int .i64 m.a),.v (.int .i64 m.b),.v (.int .i64 b.a),.v (.int .i64 b.b)])
theorem aib (m b k:Ei) (e:m.In 1159641169920000) (d:b.In 120000) (g:k.In 2):a9 P0 57 [cen m b,k.v] [] (.r (pnt (52*(m.add (b.mul k)).a+26*(m.add (b.mul k)).b) (45*(m.add (b.mul k)).b))) []:=by
 refine lh.t func57 ?_;have c:(b.mul k).In 720000:=(rc d g).mono (by decide)
 push_cast [lh,cen,Ei.v,Ei.rv,zaa]
 refine b5 (as':=[b.v,k.v]) rfl ?_;refine a7 (xl _ _ (d.mono (by decide)) (g.mono (by decide)) (c.mono (by decide))) rfl trivial ?_
 push_cast [Ei.v,Ei.rv]
 refine b5 (as':=[m.v,(b.mul k).v]) rfl ?_;have f:=aw4 e c;refine a7 (aom _ _ (e.mono (by decide)) (c.mono (by decide)) (f.mono (by decide))) rfl trivial ?_
 push_cast [Ei.v,Ei.rv]
 refine b5 (as':=[(m.add (b.mul k)).v]) rfl ?_;refine a7 (au8 _ (f.mono (by decide))) rfl trivial ?_
 push_cast [pnt]
def alr (z:Ei) (r i:Nat):RV:=pnt (hx z r i) (hy z r i)
def lz (z:Ei) (r:Nat) (n:Nat):List RV:=(List.range n).map (alr z r)
theorem aoj (z:Ei) (r n:Nat):lz z r n++[alr z r n]=lz z r (n+1):=by simp [lz,List.range_succ]
theorem ah0 (z:Ei) (r n:Nat):(lz z r n).length=n:=by simp [lz]
theorem aj9 (z:Ei) (r i:Nat):RV.agg [.v (.int .i64 (52*((bn z r 3).add ((b9 (12-r)).mul (vv i))).a+26*((bn z r 3).add ((b9 (12-r)).mul (vv i))).b)),.v (.int .i64 (45*((bn z r 3).add ((b9 (12-r)).mul (vv i))).b))]=alr z r i:=by
 have h:(bn z r 3).add ((b9 (12-r)).mul (vv i))=hc z r i:=by
  apply Ei.ext'<;>simp only [bn,Ei.add,Ei.mul,hc,zch]<;>omega
 rw [h]; rfl
def vvL:List RV:=[(vv 0).rv,(vv 1).rv,(vv 2).rv,(vv 3).rv,(vv 4).rv,(vv 5).rv]
theorem amg (i:Nat) (h:i<6) (d:RV):vvL.getD i d=.agg [.v (.int .i64 (vv i).a),.v (.int .i64 (vv i).b)]:=by
 rcases lt6 h with rfl | rfl | rfl | rfl | rfl | rfl<;>rfl
theorem ar7 (z:Ei) (r:Int) (h:z.In 1073741824) (m:0<=r/\r<=12):a9 P0 27 [z.v,int .i64 r] [] (.tup [.own 1000000 0 0 6,bl true]) [.row 2 (pnt 0 0) true true (lz z r.toNat 6)]:=by
 refine aab.t func27 ?_;simp only [aab,Ei.v,Ei.rv,push_cast,↓reduceIte,reduceCtorEq,zB,zE,zA,zS,zL,zD,zM];refine b5 (as':=[z.v,int .i64 r,int .i64 3]) rfl ?_;refine a7 (ato z r 3 h m (by decide)) rfl trivial ?_;simp only [Ei.v,Ei.rv,push_cast,↓reduceIte,reduceCtorEq,zB,zE,zA,zS,zL,zD,zM];rw [show IntKind.i64.wrap (12-r)=12-r from a5 (by omega)];refine a7 (akf (12-r) (by omega)) rfl trivial ?_;simp only [Ei.v,Ei.rv,push_cast,↓reduceIte,reduceCtorEq,zB,zE,zA,zS,zL,zD,zM];refine ⟨by simp,?_⟩;have e:(12-r).toNat=12-r.toNat:=by omega
 have l:r.toNat<=12:=by omega
 have f:=ep;generalize o:r.toNat=R at *;rw [e];have k:(bn z R 3).In 1159641169920000:=afj h l (by decide);have d:(b9 (12-R)).In 120000:=lb l
 refine c9 [(38,false),(39,false),(40,false),(10,false),(11,false)] (fun vs pos c=>∃i:Nat,i<=6/\pos=[] /\
  ((i=0/\vs=[.own 2000000 0 0 6,int .i64 6,int .i64 i,.fn (.func 57) [.agg [int .i64 (bn z R 3).a,int .i64 (bn z R 3).b,int .i64 (b9 (12-R)).a,int .i64 (b9 (12-R)).b]] 1,.nils 2 (.agg [.v (.int .i64 0),.v (.int .i64 0)])]/\c=[.row 2 (.agg [.v (.int .i64 0),.v (.int .i64 0)]) true true vvL]) \/
   (0<i/\vs=[.own 2000000 0 0 6,int .i64 6,int .i64 i,.fn (.func 57) [.agg [int .i64 (bn z R 3).a,int .i64 (bn z R 3).b,int .i64 (b9 (12-R)).a,int .i64 (b9 (12-R)).b]] 1,.own 2000001 0 0 i]/\c=[.row 2 (.agg [.v (.int .i64 0),.v (.int .i64 0)]) true true vvL,.row 2 (pnt 0 0) true true (lz z R i)])))
  (fun vs _ _=>match vs with | _::_ :: .r (.v (.int _ j))::_=>(6-j).toNat | _=>0) rfl ?_ ?_
 ·simp only [push_cast,↓reduceIte,reduceCtorEq,zB,zE,zA,zS,zL,zD,zM];exact ⟨0,by omega,.inl ⟨rfl,rfl,rfl⟩⟩
 rintro vs pos c ⟨i,n,rfl,⟨g,rfl,rfl⟩ | ⟨g,rfl,rfl⟩⟩
 ·subst g;simp only [push_cast,↓reduceIte,reduceCtorEq,zB,zE,zA,zS,zL,zD,zM];rw [show decide ((0:Int)<6)=true from rfl];simp only [push_cast,↓reduceIte,reduceCtorEq,zB,zE,zA,zS,zL,zD,zM];refine ⟨by simp,?_⟩;rw [show (0:Int).toNat=0 from rfl,show 0+0=0 from rfl,amg 0 (by decide)];simp only [push_cast,↓reduceIte,reduceCtorEq,zB,zE,zA,zS,zL,zD,zM];refine ⟨by kernel_rfl,?_⟩;refine b5 (as':=[cen (bn z R 3) (b9 (12-R)),(vv 0).v]) rfl ?_;refine a7 (aib _ _ _ k d (aro 0)) rfl trivial ?_;simp only [pnt,push_cast,↓reduceIte,reduceCtorEq,zB,zE,zA,zS,zL,zD,zM];refine ⟨by decide,by omega,?_,?_⟩
  ·refine ⟨1,by omega,.inr ⟨by omega,?_,?_⟩⟩
   ·rw [show IntKind.i64.wrap (0+1)=((1:Nat):Int) by decide]
   rw [aj9]; rfl
  decide
 simp only [push_cast,↓reduceIte,reduceCtorEq,zB,zE,zA,zS,zL,zD,zM];refine b8 (fun h=>?_) (fun h=>?_)
 ·have hi:i<6:=by simp at h; omega
  simp only [push_cast,↓reduceIte,reduceCtorEq,zB,zE,zA,zS,zL,zD,zM];refine ⟨by simp; omega,?_⟩;rw [Int.toNat_natCast,zcs,amg i hi];simp only [push_cast,↓reduceIte,reduceCtorEq,zB,zE,zA,zS,zL,zD,zM];refine ⟨by kernel_rfl,?_⟩;refine b5 (as':=[cen (bn z R 3) (b9 (12-R)),(vv i).v]) rfl ?_;refine a7 (aib _ _ _ k d (aro i)) rfl trivial ?_;simp only [pnt,push_cast,↓reduceIte,reduceCtorEq,zB,zE,zA,zS,zL,zD,zM];rw [aj9,show IntKind.i64.wrap ((i:Int)+1)=((i+1:Nat):Int) by rw [a5 (by omega)]; omega,List.take_of_length_le (by rw [ah0]; exact Nat.le_refl _),aoj];refine ⟨by decide,by omega,?_,?_⟩
  ·exact ⟨i+1,by omega,.inr ⟨by omega,rfl,rfl⟩⟩
  omega
 have hi:i=6:=by simp at h; omega
 subst hi;simp only [push_cast,↓reduceIte,reduceCtorEq,zB,zE,zA,zS,zL,zD,zM]

def zk:Mk P0 f170:={ x:=_ }
def zl:Mk P0 f169:={ x:=_ }
def zm:Mk P0 f171:={ x:=_ }
def zn:Mk P0 f172:={ x:=_ }
def ab0:Mk P0 f145:={ x:=_ }
def ad9:Mk P0 f115:={ x:=_ }
theorem ak6 (h:z.In n) (d:2<=n):(pr z).In n:=by
 obtain ⟨l,_,a,c,b⟩:=ub z;generalize pr z=q at *;unfold Ei.H at a;unfold Ei.In at *;omega
theorem aeg (k:Nat) (h:z.In n) (a:2<=n):(anc k z).In n:=by
 induction k generalizing z with
 | zero=>exact h
 | succ k ih=>exact ih (ak6 h a)
theorem an6 (z:Ei):(lft z).In 1:=by
 obtain ⟨l,e,a,_⟩:=ub z;rw [e];exact a.in
theorem asq (z:Ei) (h:z.In 1073741824):a9 P0 170 [z.v] [] (.tup [(pr z).v,(lft z).v]) []:=by
 refine zk.t func170 ?_
 push_cast [zk,Ei.v,Ei.rv,zaa]
 refine b5 (as':=[r9.v]) rfl ?_;refine a7 (at7 r9 (by unfold Ei.In; decide)) rfl trivial ?_
 push_cast [Ei.v,Ei.rv]
 have c:(z.mul ⟨3,-1⟩).In 9663676416:=(rc h (show (⟨3,-1⟩:Ei).In 3 by unfold Ei.In; decide)).mono (by decide);refine b5 (as':=[z.v,Ei.v ⟨3,-1⟩]) rfl ?_;refine a7 (xl _ _ (h.mono (by decide)) (show (⟨3,-1⟩:Ei).In _ by unfold Ei.In; decide) (c.mono (by decide))) rfl trivial ?_
 push_cast [Ei.v,Ei.rv]
 refine b5 (as':=[(z.mul ⟨3,-1⟩).v,int .i64 7]) rfl ?_;refine a7 (aqy _ 7 (c.mono (by decide)) (by decide)) rfl trivial ?_;rw [show (z.mul ⟨3,-1⟩).round 7=pr z from rfl];have a:(pr z).In 1073741824:=ak6 h (by decide);have b:((pr z).mul r9).In 6442450944:=(rc a (show r9.In 2 by unfold Ei.In; decide)).mono (by decide)
 push_cast [Ei.v,Ei.rv]
 refine b5 (as':=[(pr z).v,r9.v]) rfl ?_;refine a7 (xl _ _ (a.mono (by decide)) (show r9.In _ by unfold Ei.In; decide) (b.mono (by decide))) rfl trivial ?_
 push_cast [Ei.v,Ei.rv]
 refine b5 (as':=[z.v,((pr z).mul r9).v]) rfl ?_;refine a7 (awg _ _ (h.mono (by decide)) (b.mono (by decide)) ((an6 z).mono (by decide))) rfl trivial ?_;rw [show z.sub ((pr z).mul r9)=lft z from rfl]
 push_cast [Ei.v,Ei.rv]
 kernel_rfl
def cel (r:Int) (z:Ei):AV:=.r (.agg [.v (.int .i64 r),.v (.int .i64 z.a),.v (.int .i64 z.b)])
instance (z:Ei) (n:Int):Decidable (z.In n):=inferInstanceAs (Decidable (_/\_))
def fw (r:Int) (z:Ei):Bool:=decide ((0<=r/\r<=12)/\z.In 1073741824)
theorem ass (r:Int) (z:Ei) (f:z.In M63):a9 P0 169 [cel r z] [] (bl (fw r z)) []:=by
 refine zl.t func169 ?_
 push_cast [zl,cel,zaa]
 by_cases h:0<=r
 ·by_cases g:r<=12
  ·have b:decide (r>=0)=true:=by simp; omega
   have e:decide (r<=12)=true:=by simp; omega
   push_cast [b,e]
   refine a7 (pg _ _ f.ok.1 (by decide)) rfl trivial ?_;by_cases d:-1073741824<=z.a/\z.a<=1073741824
   ·rw [decide_eq_true d]
    push_cast
    refine a7 (pg _ _ f.ok.2 (by decide)) rfl trivial ?_
    push_cast
    refine dv ?_;simp [fw,Ei.In,h,g,d.1,d.2]
   rw [decide_eq_false d]
   push_cast
   have:fw r z=false:=by simp only [fw,Ei.In]; exact decide_eq_false fun c=>d c.2.1
   rw [this]
  have b:decide (r>=0)=true:=by simp; omega
  have e:decide (r<=12)=false:=by simp; omega
  push_cast [b,e]
  have:fw r z=false:=by simp only [fw,decide_eq_false_iff_not]; omega
  rw [this]
 have b:decide (r>=0)=false:=by simp; omega
 push_cast [b]
 have:fw r z=false:=by simp only [fw,decide_eq_false_iff_not]; omega
 rw [this]
theorem aia (i:Nat) (h:i<6):yp (uni i)=i+1:=by
 rcases lt6 h with rfl | rfl | rfl | rfl | rfl | rfl<;>decide
theorem akh (l:Ei) (h:∀j:Nat,j<6->uni j≠l):yp l=0:=by
 have e:=h 0 (by decide); have f:=h 1 (by decide); have b:=h 2 (by decide); have d:=h 3 (by decide); have c:=h 4 (by decide); have a:=h 5 (by decide);unfold yp;rw [if_neg (show ¬l=⟨1,0⟩ from Ne.symm e),if_neg (show ¬l=⟨0,1⟩ from Ne.symm f),if_neg (show ¬l=⟨-1,1⟩ from Ne.symm b),if_neg (show ¬l=⟨-1,0⟩ from Ne.symm d),if_neg (show ¬l=⟨0,-1⟩ from Ne.symm c),if_neg (show ¬l=⟨1,-1⟩ from Ne.symm a)]
theorem at8 (l:Ei):a9 P0 171 [l.v] [] (int .i64 (yp l)) []:=by
 refine zm.t func171 ?_
 push_cast [zm,Ei.v,Ei.rv,zaa]
 refine c9 [(4,false),(1,false)] (fun vs pos d=>∃i:Int,(0<=i/\i<=6)/\(∀j:Nat,(j:Int)<i->uni j≠l)/\vs=[int .i64 i,.ptr 2000000 0 0]/\pos=[]/\d=[.box [int .i64 l.a,int .i64 l.b]])
  (fun vs _ _=>match vs with | .r (.v (.int _ j))::_=>(6-j).toNat | _=>0) rfl ?_ ?_
 ·push_cast
  exact ⟨0,by omega,fun j f=>by omega,rfl⟩
 rintro vs pos d ⟨i,m,f,rfl,rfl,rfl⟩
 push_cast
 refine b8 (fun h=>?_) (fun h=>?_)
 ·simp only [decide_eq_true_eq] at h
  push_cast
  refine c8 (akc i ⟨m.1,h⟩) rfl trivial ?_
  push_cast [Ei.v,Ei.rv]
  refine ⟨by kernel_rfl,b8 (fun c=>?_) (fun c=>?_)⟩
  ·have e:uni i.toNat=l:=by
    simp only [Bool.and_eq_true,beq_iff_eq] at c;exact Ei.ext' c.1 c.2
   push_cast
   rw [<- e,aia _ (by omega),a5 (by omega),show ((i.toNat+1:Nat):Int)=i+1 by omega]
  have e:uni i.toNat≠l:=fun e=>by rw [e] at c; simp at c
  push_cast
  rw [a5 (by omega)];refine ⟨⟨i+1,by omega,fun j g=>?_,rfl⟩,by omega⟩;by_cases k:(j:Int)=i
  ·rw [show j=i.toNat by omega]; exact e
  exact f j (by omega)
 have hi:i=6:=by simp at h; omega
 subst hi
 push_cast
 rw [akh l fun j n=>f j (by omega)]
 rfl
theorem av9 (n:Int):a9 P0 172 [int .i64 n] [] (bl (decide (-512<=n/\n<=511))) []:=by
 refine zn.t func172 ?_
 push_cast [zn,zaa]
 refine dv ?_;by_cases a:-512<=n<;>by_cases b:n<512<;>simp [a,b]<;>omega
def ap (r:Nat) (z:Ei) (i:Nat):List AV:=(List.range 13).map fun j=>int .i64 (if i<j/\j<=r then (dg (anc (r-j) z):Int) else 0)
theorem qj (r:Nat) (z:Ei) (i:Nat):(ap r z i).length=13:=by simp [ap]
theorem aop (r:Nat) (z:Ei):ap r z r=[int .i64 0,int .i64 0,int .i64 0,int .i64 0,int .i64 0,int .i64 0,int .i64 0,int .i64 0,int .i64 0,int .i64 0,int .i64 0,int .i64 0,int .i64 0]:=by
 have:∀j,¬(r<j/\j<=r):=fun j=>by omega
 simp only [ap,this,if_false]
 rfl
theorem aoq (r:Nat) (z:Ei) (i:Nat) (n:1<=i) (m:i<=r) (g:r<=12):c7 (ap r z i) i [int .i64 (dg (anc (r-i) z))]=ap r z (i-1):=by
 have b:=qj r z i;apply List.ext_getElem
 ·simp [c7,b,qj]; omega
 intro j l f;rw [qj] at f;have e:∀(k:Nat) (a:k<(ap r z i).length),(ap r z i)[k]=int .i64 (if i<k/\k<=r then (dg (anc (r-k) z):Int) else 0):=fun k a=>by simp [ap]
 have e':∀(k:Nat) (a:k<(ap r z (i-1)).length),(ap r z (i-1))[k]=int .i64 (if i-1<k/\k<=r then (dg (anc (r-k) z):Int) else 0):=fun k a=>by simp [ap]
 rw [e'];have d:min i 13=i:=by omega
 simp only [c7,List.getElem_append,zam,List.length_take,List.length_singleton,b,List.getElem_take,List.getElem_drop,e,d];by_cases c:j<i
 ·rw [dif_pos (by omega),dif_pos c,if_neg (by omega),if_neg (by omega)]
 by_cases c2:j=i
 ·subst c2;rw [dif_pos (by omega),dif_neg (by omega),if_pos (by omega)];simp
 rw [dif_neg (by omega)];rw [show i+1+(j-(i+1))=j by omega];by_cases h:j<=r
 ·rw [if_pos (by omega),if_pos (by omega)]
 rw [if_neg (by omega),if_neg (by omega)]
theorem aog (f:Nat->Int) (l:List Nat):l9 (l.map fun j=>int .i64 (f j))=[]:=by
 induction l with
 | nil=>rfl
 | cons a l ih=>show q9 _++l9 _=[]; rw [ih]; rfl
theorem aqp (F:Ren) (f:Nat->Int) (l:List Nat):imL F (l.map fun j=>int .i64 (f j))=l.map fun j=>int .i64 (f j):=by
 induction l with
 | nil=>rfl
 | cons a l ih=>show imV F _::imL F _ = _; rw [ih]; rfl
theorem aoh (r:Nat) (z:Ei) (i:Nat):l9 (ap r z i)=[]:=aog _ _
theorem aqq (F:Ren) (r:Nat) (z:Ei) (i:Nat):imL F (ap r z i)=ap r z i:=aqp F _ _
theorem aml (r:Nat) (z:Ei) (i:Nat):List.take 13 (ap r z i)=ap r z i:=List.take_of_length_le (by rw [qj]; exact Nat.le_refl _)
def aga (r:Nat) (z:Ei) (i:Nat):List RV:=(List.range 13).map fun j=>.v (.int .i64 (if i<j/\j<=r then (dg (anc (r-j) z):Int) else 0))
theorem apx (ob:Obs) (f:Nat->Int) (l:List Nat):rvs ob (l.map fun j=>int .i64 (f j))=some (l.map fun j=>.v (.int .i64 (f j)),[]):=by
 induction l with
 | nil=>rfl
 | cons a l ih=>show rvs ob (_::_) = _; simp only [rvs,AV.rv,ih]; rfl
theorem apy (ob:Obs) (r:Nat) (z:Ei) (i:Nat):rvs ob (ap r z i)=some (aga r z i,[]):=apx ob _ _
theorem anr (r:Nat) (z:Ei) (i:Nat):ap r z i++List.drop 13 (ap r z i)=ap r z i:=by
 rw [List.drop_of_length_le (by rw [qj]; exact Nat.le_refl _),zah]
attribute [push_cast high] apy anr
attribute [push_cast high] aoh aqq aml qj
theorem aq3 (r:Nat) (z:Ei) (i:Nat) (c:1<=i) (b:i<=r) (a:r<=12):List.take (0+i*1) (ap r z i)++[int .i64 (yp (lft (anc (r-i) z)))]++List.drop (0+i*1+1) (ap r z i)=ap r z (i-1):=by
 rw [<- aoq r z i c b a,c7,Nat.mul_one,zcs]
 rfl
def aef (q:Ei):Bool:=decide ((-512<=q.a/\q.a<=511)/\(-512<=q.b/\q.b<=511))
theorem axa (r:Int) (z:Ei) (h:fw r z=true):a9 P0 145 [cel r z] [] (.tup [(anc r.toNat z).v,.r (.agg (aga r.toNat z 0)),bl (aef (anc r.toNat z))]) []:=by
 refine ab0.t func145 ?_;have f:=h;simp only [fw,decide_eq_true_eq] at f;simp only [ab0,cel,push_cast,↓reduceIte,reduceCtorEq,zB,zE,zA,zS,zL,zD,zM];refine b5 (as':=[cel r z]) rfl ?_;refine a7 (ass r z (f.2.mono (by decide))) rfl trivial ?_;rw [h];simp only [push_cast,↓reduceIte,reduceCtorEq,zB,zE,zA,zS,zL,zD,zM];obtain ⟨⟨n,m⟩,l⟩:=f
 refine c9 [(6,false),(5,false),(3,false),(2,false)] (fun vs pos e=>∃i:Int,(0<=i/\i<=r)/\vs=[int .i64 i,.ptr 2000000 0 0,.ptr 2000001 0 0,.ptr 2000002 0 0]/\pos=[]/\e=[.box [int .i64 (anc (r-i).toNat z).a,int .i64 (anc (r-i).toNat z).b],.box (ap r.toNat z i.toNat),.box [int .i64 0,int .i64 0]])
  (fun vs _ _=>match vs with | .r (.v (.int _ j))::_=>j.toNat | _=>0) rfl ?_ ?_
 ·simp only [push_cast,↓reduceIte,reduceCtorEq,zB,zE,zA,zS,zL,zD,zM];refine ⟨r,by omega,?_⟩;rw [aop,Int.sub_self];exact ⟨rfl,rfl⟩
 rintro vs pos e ⟨i,o,rfl,rfl,rfl⟩;simp only [push_cast,↓reduceIte,reduceCtorEq,zB,zE,zA,zS,zL,zD,zM];refine b8 (fun h=>?_) (fun h=>?_)
 ·simp only [decide_eq_true_eq] at h;simp only [push_cast,↓reduceIte,reduceCtorEq,zB,zE,zA,zS,zL,zD,zM];have k:=aeg (r-i).toNat l (by decide);refine b5 (as':=[(anc (r-i).toNat z).v]) rfl ?_;refine a7 (asq _ k) rfl trivial ?_;simp only [Ei.v,Ei.rv,push_cast,↓reduceIte,reduceCtorEq,zB,zE,zA,zS,zL,zD,zM];refine j8 (as':=[(lft (anc (r-i).toNat z)).v]) rfl ?_;refine c8 (at8 _) rfl trivial ?_;have d:=aq3 r.toNat z i.toNat (by omega) (by omega) (by omega);rw [show r.toNat-i.toNat=(r-i).toNat by omega] at d;have g:pr (anc (r-i).toNat z)=anc (r-(i-1)).toNat z:=by rw [<- yx,show (r-i).toNat+1=(r-(i-1)).toNat by omega]
  simp only [Ei.v,Ei.rv,d,push_cast,↓reduceIte,reduceCtorEq,zB,zE,zA,zS,zL,zD,zM];rw [show IntKind.i64.wrap (i-1)=i-1 from a5 (by omega),g];refine ⟨by omega,by omega,by kernel_rfl,⟨i-1,by omega,rfl,?_⟩,by omega⟩;rw [show (i-1).toNat=i.toNat-1 by omega]
 have hi:i=0:=by simp at h; omega
 subst hi;have k:=aeg r.toNat l (by decide);simp only [push_cast,↓reduceIte,reduceCtorEq,zB,zE,zA,zS,zL,zD,zM];rw [show (r-0).toNat=r.toNat by omega,show Int.toNat 0=0 from rfl];refine ⟨by kernel_rfl,?_⟩;refine c8 (av9 _) rfl trivial ?_;by_cases c:-512<=(anc r.toNat z).a/\(anc r.toNat z).a<=511
 ·rw [decide_eq_true c];simp only [push_cast,↓reduceIte,reduceCtorEq,zB,zE,zA,zS,zL,zD,zM];refine ⟨by kernel_rfl,?_⟩;refine c8 (av9 _) rfl trivial ?_;simp only [Ei.v,Ei.rv,push_cast,↓reduceIte,reduceCtorEq,zB,zE,zA,zS,zL,zD,zM];refine ⟨by kernel_rfl,?_⟩;simp [aef,c.1,c.2];kernel_rfl
 rw [decide_eq_false c];simp only [Ei.v,Ei.rv,push_cast,↓reduceIte,reduceCtorEq,zB,zE,zA,zS,zL,zD,zM];refine ⟨by kernel_rfl,?_⟩;simp only [aef,c,false_and,decide_false];exact ⟨by kernel_rfl,trivial⟩
theorem ar0 {r:Int} (d:0<=r) (h:okc r.toNat z):fw r z=true/\aef (anc r.toNat z)=true:=by
 obtain ⟨e,a,c,b⟩:=h;simp only [fw,aef,decide_eq_true_eq];exact ⟨⟨⟨d,by omega⟩,a⟩,c,b⟩
theorem axy (r:Int) (z:Ei) (a:0<=r) (h:okc r.toNat z):a9 P0 115 [cel r z] [] (bl true) []:=by
 refine ad9.t func115 ?_
 push_cast [ad9,cel,zaa]
 refine b5 (as':=[cel r z]) rfl ?_;refine a7 (axa r z (ar0 a h).1) rfl trivial ?_;rw [(ar0 a h).2]
 push_cast [Ei.v,Ei.rv]
 refine ⟨by simp [aga],?_⟩;simp only [aga,List.map_map,List.all_map];rw [List.all_eq_true];intro x hx
 rfl

theorem aba {b:Nat} (h:a<2^k):a ||| b*2^k=b*2^k+a:=by
 rw [zcn,<- Nat.shiftLeft_eq,Nat.shiftLeft_add_eq_or_of_lt h]
theorem p8 (n:Nat):0<8^n:=zcd (by decide)
theorem at9 {b d:Nat} (i:b<2^k) (p:d<8) (r:k+3<=64) (n:(a*8+7)*2^k+b<2^64) :
 (((a*8+7)*2^k+b) &&& (2^64-1-7*2^k)) ||| d*2^k=(a*8+d)*2^k+b:=by
 have m:∀j,Nat.testBit 7 j=decide (j<3):=fun j=>by
  rcases (show j=0\/j=1\/j=2\/3<=j by omega) with rfl | rfl | rfl | c
  ·rfl
  ·rfl
  ·rfl
  rw [zdd (Nat.lt_of_lt_of_le (by decide:7<2^3) (zad (by decide) c))]; simp; omega
 have h:∀j,3<=j->Nat.testBit d j=false:=fun j c=>zdd (Nat.lt_of_lt_of_le (by omega:d<2^3) (zad (by decide) c))
 have q:7*2^k<2^64:=by
  have:2^(k+3)<=2^64:=zad (by decide) r;rw [zac] at this;have:=Nat.two_pow_pos k;omega
 apply Nat.eq_of_testBit_eq;intro j;rw [Nat.testBit_or,Nat.testBit_and,show 2^64-1-7*2^k=2^64-(7*2^k+1) by omega,Nat.testBit_two_pow_sub_succ q];rw [zcm _ (2^k),zcm 7,zcm d,zcm (a*8+d)];rw [zcx _ i,zcx _ i,Nat.testBit_two_pow_mul,Nat.testBit_two_pow_mul];by_cases c:j<k
 ·simp [c,Nat.not_le.2 c];intro hx;omega
 rw [if_neg c,if_neg c];have g:k<=j:=by omega
 simp only [g,ge_iff_le,decide_true,zaj];rw [show a*8+7=2^3*a+7 by omega,show a*8+d=2^3*a+d by omega,zcx a (show 7<2^3 by decide),zcx a (show d<2^3 from p),m];by_cases l:j-k<3
 ·simp [l]
 rw [h _ (by omega)];simp only [l,if_false,decide_false,zal,zai,zak];by_cases f:j<64
 ·simp [f]
 simp only [f,decide_false,Bool.and_false];apply Eq.symm;apply zdd;have e:(a*8+7)*2^k+b<2^j:=Nat.lt_of_lt_of_le n (zad (by decide) (by omega));have o:2^j=2^(j-k-3)*8*2^k:=by rw [show (8:Nat)=2^3 from rfl,<- zac,<- zac]; congr 1; omega
 rw [o] at e;have:(a*8+7)*2^k<2^(j-k-3)*8*2^k:=by omega
 have:=Nat.lt_of_mul_lt_mul_right this;omega
def ea (r:Nat) (z:Ei) (i:Nat):Nat:=((8^i-1)*8^(r-i)+val (r-i) z)*8^(12-r)+(8^(12-r)-1)
theorem ase (r:Nat) (z:Ei) (a:r<=12):ea r z r=68719476735:=by
 unfold ea;rw [Nat.sub_self,val,Nat.pow_zero,Nat.mul_one,Nat.add_zero,Nat.sub_mul,<- zac,show r+(12-r)=12 by omega,Nat.one_mul];have:8^(12-r)<=8^12:=zad (by decide) (by omega);have:=p8 (12-r);omega
theorem apj (k:Nat) (z:Ei):val (k+1) z=dg (anc k z)*8^k+val k z:=by
 induction k generalizing z with
 | zero=>simp [val,anc]
 | succ k ih=>
   rw [val,ih (pr z),val,anc,zcl];generalize dg (anc k (pr z))=e;generalize 8^k=p;generalize val k (pr z)=q;rw [zcc,zag];omega
theorem ae8 (r:Nat) (z:Ei) (i:Nat) (hi:i<=r) (c:r<=12):val (r-i) z*8^(12-r)+(8^(12-r)-1)<2^(36-3*i):=by
 have b:=amh (r-i) z
 have e:2^(36-3*i)=8^(r-i)*8^(12-r):=by
  rw [<- zac,show (8:Nat)=2^3 from rfl,<- Nat.pow_mul]; congr 1; omega
 rw [e];have d:=p8 (12-r);generalize 8^(12-r)=p at *;generalize val (r-i) z=v at *;have a:(v+1)*p<=8^(r-i)*p:=Nat.mul_le_mul_right _ b;rw [zcc] at a;omega
theorem ab3 (r:Nat) (z:Ei) (i:Nat) (hi:i<=r) (a:r<=12):ea r z i=(8^i-1)*2^(36-3*i)+(val (r-i) z*8^(12-r)+(8^(12-r)-1)):=by
 have e:2^(36-3*i)=8^(r-i)*8^(12-r):=by
  rw [<- zac,show (8:Nat)=2^3 from rfl,<- Nat.pow_mul]; congr 1; omega
 unfold ea;rw [e,zcc,zag,Nat.add_assoc]
theorem xu (r:Nat) (z:Ei) (i:Nat) (hi:i<=r) (a:r<=12):ea r z i<68719476736:=by
 rw [ab3 r z i hi a];have h:=ae8 r z i hi a
 have e:(8:Nat)^i*2^(36-3*i)=68719476736:=by
  rw [show (8:Nat)=2^3 from rfl,<- Nat.pow_mul,<- zac,show 3*i+(36-3*i)=36 by omega]
 rw [Nat.sub_mul,e,Nat.one_mul];have:=Nat.two_pow_pos (36-3*i);have:2^(36-3*i)<=2^36:=zad (by decide) (by omega);omega
theorem aku (r:Nat) (z:Ei) (i:Nat) (j:1<=i) (hi:i<=r) (b:r<=12) :
 ((ea r z i &&& (2^64-1-7*2^(36-3*i))) ||| dg (anc (r-i) z)*2^(36-3*i))=ea r z (i-1):=by
 have e:=xu r z i hi b;have a:=ae8 r z i hi b;have h:=abi (anc (r-i) z)
 have g:(8:Nat)^i-1=(8^(i-1)-1)*8+7:=by
  have:(8:Nat)^i=8^(i-1)*8:=by conv=>lhs; rw [show i=i-1+1 by omega,zcl]
  have:=p8 (i-1);omega
 have d:=ab3 r z i hi b;rw [g] at d;rw [d] at e |-;rw [at9 a (by omega) (by omega) (by omega),ab3 r z (i-1) (by omega) b,show r-(i-1)=r-i+1 by omega,apj];have f:2^(36-3*(i-1))=8*2^(36-3*i):=by rw [show (8:Nat)=2^3 from rfl,<- zac]; congr 1; omega
 have c:8^(r-i)*8^(12-r)=2^(36-3*i):=by
  rw [<- zac,show (8:Nat)=2^3 from rfl,<- Nat.pow_mul]; congr 1; omega
 rw [f,<- c];generalize 8^(i-1)-1=A;generalize 8^(r-i)=B;generalize 8^(12-r)=C;generalize dg (anc (r-i) z)=D;generalize val (r-i) z=V;simp only [zcc,zag];omega
theorem asd (r:Nat) (z:Ei) (f:r<=12) (A B:Nat) (i:A<1024) (h:B<1024) (g:(anc r z).a+512=A) (d:(anc r z).b+512=B) :
 ((((ea r z 0 ||| 1152921504606846976) ||| r*2^56) ||| A*2^46) ||| B*2^36)=af r z:=by
 have c:=xu r z 0 (by omega) f
 have e:af r z=gz r (anc r z)*2^36+ea r z 0:=by
  unfold af ea;rw [zcc,zag,<- zac,show r+(12-r)=12 by omega];simp;omega
 rw [e];generalize ea r z 0=w at *;rw [zco,zco,zco,zcn,zco,zco,zco]
 rw [zcn (B*2^36),aba (show w<2^36 from c),zcn (A*2^46),aba (show B*2^36+w<2^46 by omega),zcn (r*2^56),aba (show A*2^46+(B*2^36+w)<2^56 by omega),
  show (1152921504606846976:Nat)=1*2^60 from rfl,zcn (1*2^60),aba (show r*2^56+(A*2^46+(B*2^36+w))<2^60 by omega)]
 unfold gz;omega

def xf:Mk P0 f38:={ x:=_ }
def pb:Mk P0 f43:={ x:=_ }
def ou:Mk P0 f44:={ x:=_ }
def r4:Mk P0 f42:={ x:=_ }
def rr:Mk P0 f20:={ x:=_ }
def acy:Mk P0 f23:={ x:=_ }
def zq:Mk P0 f28:={ x:=_ }
def zr:Mk P0 f16:={ x:=_ }
def acz:Mk P0 f8:={ x:=_ }
def xa:Mk P0 f24:={ x:=_ }
def oi:Mk P0 f9:={ x:=_ }
def pf:Mk P0 f6:={ x:=_ }
structure Til where
 z:Int
 x:Int
 y:Int
 r:Int
def Til.v (t:Til):AV:=.r (.agg [.v (.int .i64 t.z),.v (.int .i64 t.x),.v (.int .i64 t.y),.v (.int .i64 t.r)])
def Til.ok (t:Til):Prop:=b7 t.z/\b7 t.x/\b7 t.y/\b7 t.r
def tis (t:Til):Bool:=decide (0<=t.z/\t.z<=18/\0<=t.r/\t.r<=12/\0<=t.x/\t.x<2^t.z.toNat/\0<=t.y/\t.y<2^t.z.toNat)
theorem alm (t:Til):a9 P0 23 [t.v] [] (bl (tis t)) []:=by
 refine acy.t func23 ?_
 push_cast [acy,Til.v,zaa]
 repeat refine And.intro (by simp +contextual) ?_
 refine b8 (fun h=>?_) (fun h=>?_)
 ·push_cast
  refine dv ?_;simp [tis] at h |-;omega
 have a:0<=t.z/\t.z<=18/\0<=t.r/\t.r<=12:=by simp at h; omega
 push_cast
 refine And.intro ?_ ?_
 ·rw [IntKind.wrap_u64]; omega
 rw [apr _ a.1 (by omega)]
 repeat refine And.intro (by simp +contextual) ?_
 refine dv ?_;simp [tis];omega
theorem ami (t:Til) (a:0<=t.z) (b:t.z<=18):a9 P0 28 [t.v] [] (int .i64 (2^(18-t.z).toNat)) []:=by
 refine zq.t func28 ?_
 push_cast [zq,Til.v,zaa]
 rw [show IntKind.i64.wrap (18-t.z)=18-t.z from a5 (by omega)];refine And.intro ?_ ?_
 ·rw [IntKind.wrap_u64]; omega
 rw [apr _ (by omega) (by omega)]
def rok (r:Int):Bool:=decide (0<=r/\r<=12)
theorem asf (r:Int) (c:b7 r):a9 P0 38 [int .i64 r] [] (.tup [int .i64 (if rok r then 169*7^(12-r).toNat else 0),bl (rok r)]) []:=by
 refine xf.t func38 ?_
 push_cast [xf,zaa]
 refine a7 (aj5 r) rfl trivial ?_
 push_cast
 refine b8 (fun h=>?_) (fun h=>?_)
 ·push_cast
  have:rok r=false:=by simp [rok] at h |-; omega
  simp [this]
 have h:rok r=true:=by simpa [rok] using h
 have b:0<=r/\r<=12:=by simpa [rok] using h
 push_cast
 rw [show IntKind.i64.wrap (12-r)=12-r from a5 (by omega)];have d:=p7 (12-r).toNat (by omega);have a:=axe 7 (12-r) (by decide) (by unfold b7; omega);rw [if_neg (show ¬12-r<0 by omega)] at a;refine a7 a rfl trivial ?_
 push_cast [sm,if_pos (show b7 (7^(12-r).toNat) by unfold b7; omega)]
 rw [a5 (by omega)];simp [h]
theorem ajd (k:Int) (c:0<=k) (d:k<=12):a9 P0 43 [int .i64 k] [] (int .i64 (7^k.toNat)) []:=by
 refine pb.t func43 ?_
 push_cast [pb,zaa]
 have b:=p7 k.toNat (by omega);have a:=avj 7 k (by decide) (by unfold b7; omega);rw [if_neg (show ¬k<0 by omega)] at a;refine a7 a rfl trivial ?_
 push_cast [sm,if_pos (show b7 (7^k.toNat) by unfold b7; omega)]
theorem ajc (k:Int) (a:0<=k) (b:k<=36):a9 P0 44 [int .i64 k] [] (int .i64 (2^k.toNat)) []:=by
 refine ou.t func44 ?_
 push_cast [ou,zaa]
 refine ⟨by omega,?_⟩;rw [ax7 k a b]
def ah (t:Til):Bool:=tis t&&decide (169*7^(12-t.r).toNat<16*2^(18-t.z).toNat*(2:Int)^(18-t.z).toNat)
theorem ah4 (t:Til) (e:t.ok):a9 P0 16 [t.v] [] (bl (ah t)) []:=by
 refine zr.t func16 ?_
 push_cast [zr,Til.v,zaa]
 refine a7 (asf t.r e.2.2.2) rfl trivial ?_
 push_cast
 refine j8 (as':=[t.v]) rfl ?_;refine c8 (alm t) rfl trivial ?_;cases hti:tis t with
 | false=>
   push_cast
   exact ⟨by kernel_rfl,by simp [ah,hti]⟩
 | true=>
   have c:0<=t.z/\t.z<=18/\0<=t.r/\t.r<=12:=by simp [tis] at hti; omega
   have a:rok t.r=true:=by simp [rok]; omega
   have h:=p2 (18-t.z).toNat (by omega);have d:=ami t c.1 c.2.1
   push_cast [a]
   refine j8 (as':=[t.v]) rfl ?_;refine c8 d rfl trivial ?_
   push_cast
   refine j8 (as':=[t.v]) rfl ?_;refine c8 d rfl trivial ?_
   push_cast
   refine ⟨by kernel_rfl,?_⟩;have f:(18-t.z).toNat<=18:=by omega
   have b:(2:Int)^(18-t.z).toNat<=262144:=by
    have k:2^(18-t.z).toNat<=2^18:=zad (by decide) f;have j:((2^(18-t.z).toNat:Nat):Int)=(2:Int)^(18-t.z).toNat:=by simp
    omega
   rw [show IntKind.i64.wrap (16*2^(18-t.z).toNat)=16*2^(18-t.z).toNat from a5 (by omega)];have i:16*(2:Int)^(18-t.z).toNat*2^(18-t.z).toNat<=4194304*262144:=Int.mul_le_mul (by omega) b (by omega) (by omega);have g:0<=16*(2:Int)^(18-t.z).toNat*2^(18-t.z).toNat:=zcq (by omega) (by omega);rw [a5 (by omega)];refine dv ?_;simp [ah,hti]
theorem ak7 (t:Til) (a:t.ok):a9 P0 8 [t.v] [] (int .i64 (if tis t then (if ah t then 14 else 0) else 1)) []:=by
 refine acz.t func8 ?_
 push_cast [acz,Til.v,zaa]
 refine b5 (as':=[t.v]) rfl ?_;refine a7 (alm t) rfl trivial ?_;cases hti:tis t with
 | false=>
   push_cast
 | true=>
   push_cast
   refine b5 (as':=[t.v]) rfl ?_;refine a7 (ah4 t a) rfl trivial ?_;cases hf:ah t<;>push_cast
theorem acb (t:Til) (hi:tis t=true):a9 P0 24 [t.v] [] (.tup [int .i64 (t.x*2^(30-t.z).toNat),int .i64 (t.y*2^(30-t.z).toNat),int .i64 (2^(30-t.z).toNat)]) []:=by
 refine xa.t func24 ?_
 push_cast [xa,Til.v,zaa]
 refine b5 (as':=[t.v]) rfl ?_;refine a7 (alm t) rfl trivial ?_;rw [hi]
 push_cast
 simp only [tis,decide_eq_true_eq] at hi;obtain ⟨i,h,g,f,e,x1,b,y1⟩:=hi;have j:=p2 t.z.toNat (by omega);have k:=p2 (30-t.z).toNat (by omega)
 have a:(2:Int)^t.z.toNat*2^(30-t.z).toNat=1073741824:=by
  rw [<- Int.pow_add,show t.z.toNat+(30-t.z).toNat=30 by omega]; rfl
 have hx:t.x*2^(30-t.z).toNat<=1073741824:=by rw [<- a]; exact zcu (by omega) (by omega)
 have hy:t.y*2^(30-t.z).toNat<=1073741824:=by rw [<- a]; exact zcu (by omega) (by omega)
 have c:0<=t.x*2^(30-t.z).toNat:=zcq e (by omega);have d:0<=t.y*2^(30-t.z).toNat:=zcq b (by omega);rw [show IntKind.i64.wrap (30-t.z)=30-t.z from a5 (by omega),apr _ (by omega) (by omega)];refine ⟨by rw [IntKind.wrap_u64]; omega,by kernel_rfl,?_⟩;rw [a5 (by omega),a5 (by omega)]

def pe:Mk P0 f84:={ x:=_ }
def td:Mk P0 f80:={ x:=_ }
def tf:Mk P0 f46:={ x:=_ }
def sf:Mk P0 f83:={ x:=_ }
def rz:Mk P0 f47:={ x:=_ }
def ry:Mk P0 f121:={ x:=_ }
def oy:Mk P0 f85:={ x:=_ }
def pd:Mk P0 f48:={ x:=_ }
def oz:Mk P0 f45:={ x:=_ }
def se:Mk P0 f21:={ x:=_ }
theorem ag4 (a b:Int) (d:b7 a) (i:b7 b):a9 P0 84 [int .i64 a,int .i64 b] [] (.tup [int .i64 (if 0<b then a/b else 0),int .i64 (if 0<b then a%b else 0),bl (decide (0<b))]) []:=by
 refine pe.t func84 ?_
 push_cast [pe,zaa]
 refine b8 (fun h=>?_) (fun h=>?_)
 ·push_cast
  simp at h;have:¬0<b:=by omega
  simp [this]
 push_cast
 simp at h;refine ⟨by omega,by omega,by kernel_rfl,?_⟩;obtain ⟨m,k,j⟩:=abu d h;have g:IntKind.i64.wrap (a.tdiv b)=a.tdiv b:=wrap_i64_tdiv a b d.1 d.2 (by omega);rw [g];refine b8 (fun c=>?_) (fun c=>?_)
 ·push_cast
  simp at c;obtain ⟨f,e⟩:=k c;refine akx (re ?_) (re ?_) (agc ?_)
  ·rw [if_pos h,<- f,a5];unfold b7 at d; rw [f]; omega
  ·rw [if_pos h,<- e,a5];have l:=zae a h;have n:=zaf a (show b≠0 by omega);rw [e];unfold b7 at i; omega
  simp [h]
 push_cast
 simp at c;obtain ⟨f,e⟩:=j c;refine akx (re ?_) (re ?_) (agc ?_)
 ·rw [if_pos h,f]
 ·rw [if_pos h,e]
 simp [h]
theorem avi (a b:Int) (f:b7 a) (e:b7 b):a9 P0 80 [i9 a,i9 b] [] (.tup [Ei.v ⟨a,b⟩,bl true]) []:=by
 refine td.t func80 ?_
 push_cast [td,i9,zaa]
 have c:=f;have d:=e;unfold b7 at c d;refine b5 (as':=[i9 a]) rfl ?_;refine a7 (aek a (by omega)) rfl trivial ?_;rw [vh f]
 push_cast
 refine b5 (as':=[i9 b]) rfl ?_;refine a7 (aek b (by omega)) rfl trivial ?_;rw [vh e]
 push_cast [Ei.v,Ei.rv]
theorem ac9 (x y:Ei) (hx:x.In M63) (hy:y.In M63) (c:(x.mul y).In M63):a9 P0 46 [x.v,y.v] [] (.tup [(x.mul y).v,bl true]) []:=by
 refine tf.t func46 ?_
 push_cast [tf,Ei.v,Ei.rv,zaa]
 refine a7 (pj x.b y.b hx.ok.2 hy.ok.2) rfl trivial ?_
 push_cast [i9]
 refine c8 (pj x.a y.a hx.ok.1 hy.ok.1) rfl trivial ?_
 push_cast [i9]
 refine j8 (as':=[i9 (x.b*y.b)]) rfl ?_;refine c8 (xx _) rfl trivial ?_
 push_cast [i9]
 refine j8 (as':=[i9 (x.a*y.a),i9 (-(x.b*y.b))]) rfl ?_;refine c8 (aaa _ _) rfl trivial ?_
 push_cast [i9]
 refine c8 (pj x.a y.b hx.ok.1 hy.ok.2) rfl trivial ?_
 push_cast [i9]
 refine c8 (pj x.b y.a hx.ok.2 hy.ok.1) rfl trivial ?_
 push_cast [i9]
 refine j8 (as':=[i9 (x.a*y.b),i9 (x.b*y.a)]) rfl ?_;refine c8 (aaa _ _) rfl trivial ?_
 push_cast [i9]
 refine j8 (as':=[i9 (x.a*y.b+x.b*y.a),i9 (x.b*y.b)]) rfl ?_;refine c8 (aaa _ _) rfl trivial ?_
 push_cast [i9]
 refine j8 (as':=[i9 (x.a*y.a + -(x.b*y.b)),i9 (x.a*y.b+x.b*y.a+x.b*y.b)]) rfl ?_;have e:x.a*y.a + -(x.b*y.b)=(x.mul y).a:=by simp only [Ei.mul]; omega
 have e':x.a*y.b+x.b*y.a+x.b*y.b=(x.mul y).b:=rfl;rw [e,e'];refine c8 (avi _ _ c.ok.1 c.ok.2) rfl trivial ?_
 push_cast [Ei.v,Ei.rv]
 kernel_rfl
theorem atn (k:Int) (m:0<=k/\k<=12):a9 P0 83 [int .i64 k] [] (.tup [(b9 k.toNat).v,bl true]) []:=by
 refine sf.t func83 ?_;have d:decide (k<0)=false:=by simp; omega
 have c2:decide (k>20)=false:=by simp; omega
 push_cast [sf,zaa,d,c2]
 refine c9 [(5,false),(0,false),(4,false),(2,false)] (fun vs pos c=>∃i:Int,0<=i/\i<=k/\vs=[int .i64 i,int .i64 k,.ptr 2000000 0 0,.ptr 2000001 0 0]/\pos=[]/\c=[.box [int .i64 (b9 i.toNat).a,int .i64 (b9 i.toNat).b],.box [int .i64 0,int .i64 0]])
  (fun vs _ _=>match vs with | .r (.v (.int _ j))::_=>(k-j).toNat | _=>0) rfl ?_ ?_
 ·push_cast
  exact ⟨0,by omega,by omega,rfl,rfl⟩
 rintro vs pos c ⟨i,g,l,rfl,rfl,rfl⟩
 push_cast
 refine b8 (fun h=>?_) (fun h=>?_)
 ·simp only [decide_eq_true_eq] at h
  push_cast
  have f:=fp i.toNat (by omega);have e:=fp (i.toNat+1) (by omega);refine b5 (as':=[(b9 i.toNat).v,r9.v]) rfl ?_;refine a7 (ac9 _ _ (f.mono (by decide)) (by unfold Ei.In; decide) (e.mono (by decide))) rfl trivial ?_
  push_cast [Ei.v,Ei.rv]
  rw [show IntKind.i64.wrap (i+1)=i+1 from a5 (by omega)];refine ⟨⟨i+1,by omega,by omega,rfl,?_⟩,by omega⟩;rw [show (i+1).toNat=i.toNat+1 by omega]
  rfl
 simp only [decide_eq_false_iff_not] at h;have:i=k:=by omega
 subst this
 push_cast [Ei.v,Ei.rv]
theorem atm (k:Int) (b:0<=k/\k<=12):a9 P0 47 [int .i64 k] [] ((b9 k.toNat).conj.v) []:=by
 refine rz.t func47 ?_
 push_cast [rz,zaa]
 refine a7 (atn k b) rfl trivial ?_;have a:=fp k.toNat (by omega);unfold Ei.In at a
 push_cast [Ei.v,Ei.rv,Ei.conj]
 rw [a5 (by omega),a5 (by omega),Int.zero_sub]
theorem ael (n:Int) (h:b7 n) (a:n≠-9223372036854775808):a9 P0 121 [int .i64 n] [] (int .i64 n.natAbs) []:=by
 refine ry.t func121 ?_
 push_cast [ry,zaa]
 unfold b7 at h;refine b8 (fun hc=>?_) (fun hc=>?_)
 ·simp at hc
  push_cast
  rw [a5 (by omega)];rw [show 0-n=(n.natAbs:Int) by omega]
 simp at hc
 push_cast
 rw [show n=(n.natAbs:Int) by omega];simp
theorem ap2 (s t d:Int) (g:-9007199254740992<=s/\s<=9007199254740992) (f:-9007199254740992<=t/\t<=9007199254740992):a9 P0 85 [int .i64 s,int .i64 t,int .i64 d] [] (bl (decide (d8 d s t))) []:=by
 refine oy.t func85 ?_
 push_cast [oy,zaa]
 rw [show IntKind.i64.wrap (2*s)=2*s from a5 (by omega),show IntKind.i64.wrap (2*s+t)=2*s+t from a5 (by omega)];refine a7 (ael _ (by unfold b7; omega) (by omega)) rfl trivial ?_;by_cases e:((2*s+t).natAbs:Int)<=d
 ·have a:decide (((2*s+t).natAbs:Int)<=d)=true:=decide_eq_true e
  push_cast [a]
  rw [show IntKind.i64.wrap (2*t)=2*t from a5 (by omega),show IntKind.i64.wrap (s+2*t)=s+2*t from a5 (by omega)];refine a7 (ael _ (by unfold b7; omega) (by omega)) rfl trivial ?_;by_cases c:((s+2*t).natAbs:Int)<=d
  ·have b:decide (((s+2*t).natAbs:Int)<=d)=true:=decide_eq_true c
   push_cast [b]
   rw [show IntKind.i64.wrap (s-t)=s-t from a5 (by omega)];refine a7 (ael _ (by unfold b7; omega) (by omega)) rfl trivial ?_
   push_cast
   refine dv ?_;simp only [decide_eq_true_eq];unfold d8;omega
  have b:decide (((s+2*t).natAbs:Int)<=d)=false:=decide_eq_false c
  push_cast [b]
  rw [decide_eq_false (show ¬d8 d s t by unfold d8; omega)]
 have a:decide (((2*s+t).natAbs:Int)<=d)=false:=decide_eq_false e
 push_cast [a]
 rw [decide_eq_false (show ¬d8 d s t by unfold d8; omega)]
theorem ag1 (u:Ei) (d:Int) (S:u.In 1152921504606846976) (J:1<=d/\d<=1125899906842624):a9 P0 48 [u.v,int .i64 d] [] (.tup [(u.round d).v,bl true]) []:=by
 refine pd.t func48 ?_;have p:=S;unfold Ei.In at p;have P:decide (d<1)=false:=by simp; omega
 have c2:decide (d>1125899906842624)=false:=by simp; omega
 have N:decide (u.a < -1152921504606846976)=false:=by simp; omega
 have M:decide (u.a>1152921504606846976)=false:=by simp; omega
 have O:decide (u.b < -1152921504606846976)=false:=by simp; omega
 have R:decide (u.b>1152921504606846976)=false:=by simp; omega
 have L:b7 u.a:=by unfold b7; omega
 have T:b7 u.b:=by unfold b7; omega
 have F:b7 d:=by unfold b7; omega
 push_cast [pd,Ei.v,Ei.rv,zaa,P,c2,N,M,O,R]
 refine a7 (ag4 _ _ L F) rfl trivial ?_;have l:0<d:=by omega
 push_cast [l,if_true]
 refine a7 (ag4 _ _ T F) rfl trivial ?_
 push_cast [l,if_true]
 have H:0<=u.a%d/\u.a%d<d:=⟨zaf _ (by omega),zae _ l⟩
 have D:0<=u.b%d/\u.b%d<d:=⟨zaf _ (by omega),zae _ l⟩
 have K:-1152921504606846976<=u.a/d/\u.a/d<=1152921504606846976:=ad2 p.1 J.1;have U:-1152921504606846976<=u.b/d/\u.b/d<=1152921504606846976:=ad2 p.2 J.1;have e:u.round d=⟨u.a/d+(aw d (u.a%d) (u.b%d)).a,u.b/d+(aw d (u.a%d) (u.b%d)).b⟩:=rfl;generalize u.a%d=a at *;generalize u.b%d=b at *;generalize u.a/d=E at *;generalize u.b/d=I at *
 have o:∀i:Int,-1<=i->i<=2->-1125899906842624<=i*d/\i*d<=2251799813685248:=fun i g n=>by
  rcases (show i=-1\/i=0\/i=1\/i=2 by omega) with rfl | rfl | rfl | rfl<;>omega
 refine c9 [(12,false),(1,false),(6,false),(7,false),(9,false),(10,false),(4,false)] (fun vs pos f=>∃i:Int,(-1<=i/\i<=3)/\(∀m c:Int,-1<=m->m<i->-1<=c->c<=2->¬d8 d (a-m*d) (b-c*d))/\vs=[int .i64 i,int .i64 d,int .i64 E,int .i64 a,int .i64 I,int .i64 b,.ptr 2000000 0 0]/\pos=[]/\f=[.box [int .i64 0,int .i64 0]])
  (fun vs _ _=>match vs with | .r (.v (.int _ j))::_=>(3-j).toNat | _=>0) rfl ?_ ?_
 ·push_cast
  exact ⟨-1,by omega,fun m c g n=>by omega,rfl⟩
 rintro vs pos f ⟨i,C,s,rfl,rfl,rfl⟩
 push_cast
 refine b8 (fun h=>?_) (fun h=>?_)
 ·have hi:i<=2:=by simpa using h
  have V:=o i C.1 hi
  push_cast
  refine c9 [(13,false),(12,false),(1,false),(6,false),(7,false),(9,false),(10,false),(4,false)] (fun vs pos f=>∃k:Int,(-1<=k/\k<=3)/\(∀c:Int,-1<=c->c<k->¬d8 d (a-i*d) (b-c*d))/\vs=[int .i64 k,int .i64 i,int .i64 d,int .i64 E,int .i64 a,int .i64 I,int .i64 b,.ptr 2000000 0 0]/\pos=[]/\f=[.box [int .i64 0,int .i64 0]])
   (fun vs _ _=>match vs with | .r (.v (.int _ j))::_=>(3-j).toNat | _=>0) rfl ?_ ?_
  ·push_cast
   exact ⟨-1,by omega,fun c g n=>by omega,rfl⟩
  rintro vs pos f ⟨k,G,q,rfl,rfl,rfl⟩
  push_cast
  refine b8 (fun h=>?_) (fun h=>?_)
  ·have x:k<=2:=by simpa using h
   have W:=o k G.1 x
   push_cast
   rw [show IntKind.i64.wrap (i*d)=i*d from a5 (by omega),show IntKind.i64.wrap (k*d)=k*d from a5 (by omega),show IntKind.i64.wrap (a-i*d)=a-i*d from a5 (by omega),show IntKind.i64.wrap (b-k*d)=b-k*d from a5 (by omega)];refine a7 (ap2 _ _ d (by omega) (by omega)) rfl trivial ?_
   push_cast
   refine b8 (fun h=>?_) (fun h=>?_)
   ·have B:d8 d (a-i*d) (b-k*d):=by simpa using h
    have Q:=aiv H D ⟨C.1,hi⟩ ⟨G.1,x⟩ B (fun c g n=>q c g n) (fun m c g n w A=>s m c g n w A);rw [Q] at e
    push_cast [e,Ei.v,Ei.rv]
    rw [a5 (by omega),a5 (by omega)]
   have B:¬d8 d (a-i*d) (b-k*d):=by simpa using h
   push_cast
   rw [a5 (by omega)];refine ⟨⟨k+1,by omega,fun c g n=>?_,rfl⟩,by omega⟩;by_cases y:c=k
   ·subst y; exact B
   exact q c g (by omega)
  have x:k=3:=by simp at h; omega
  subst x
  push_cast
  rw [a5 (by omega)];refine ⟨⟨i+1,by omega,fun m c g n w A=>?_,rfl⟩,by omega⟩;by_cases z:m=i
  ·subst z; exact q c w (by omega)
  exact s m c g (by omega) w A
 have hi:i=3:=by simp at h; omega
 subst hi;exact (aqg H D s).elim
theorem apw (x y:Int):a9 P0 45 [int .i64 x,int .i64 y] [] (bl (decide (inW x y))) []:=by
 refine oz.t func45 ?_
 push_cast [oz,zaa]
 repeat refine And.intro (by simp +contextual) ?_
 refine dv ?_;unfold inW;by_cases d:0<=x<;>by_cases a:x<1073741824<;>by_cases c:0<=y<;>by_cases b:y<1073741824<;>simp [d,a,c,b]
theorem ath (x y r:Int) (h:inW x y) (g:0<=r/\r<=12):a9 P0 21 [int .i64 x,int .i64 y,int .i64 r] [] (.tup [(g9 x y r.toNat).v,bl true]) []:=by
 refine se.t func21 ?_;have e:decide (r<0)=false:=by simp; omega
 have c2:decide (r>12)=false:=by simp; omega
 push_cast [se,zaa]
 refine a7 (apw x y) rfl trivial ?_;rw [decide_eq_true h]
 push_cast [e,c2]
 have f:(12-r).toNat=12-r.toNat:=by omega
 have a:(12-r).toNat<=12:=by omega
 have c:=h;unfold inW at c;rw [show IntKind.i64.wrap (45*x)=45*x from a5 (by omega),show IntKind.i64.wrap (26*y)=26*y from a5 (by omega),show IntKind.i64.wrap (52*y)=52*y from a5 (by omega),show IntKind.i64.wrap (45*x-26*y)=45*x-26*y from a5 (by omega),show IntKind.i64.wrap (12-r)=12-r from a5 (by omega)];refine a7 (atm (12-r) (by omega)) rfl trivial ?_;have d:=fp (12-r).toNat a;have b:=aw1 h a
 push_cast [Ei.v,Ei.rv]
 refine b5 (as':=[(ax x y).v,(b9 (12-r).toNat).conj.v]) rfl ?_;refine a7 (ac9 _ _ ((asb h).mono (by decide)) ((akm d).mono (by decide)) (b.mono (by decide))) rfl trivial ?_
 push_cast [Ei.v,Ei.rv]
 rw [show IntKind.i64.wrap (12-r)=12-r from a5 (by omega)];refine c8 (ajd (12-r) (by omega) (by omega)) rfl trivial ?_
 push_cast
 have i:=p7 (12-r).toNat a;rw [show IntKind.i64.wrap (2340*7^(12-r).toNat)=2340*7^(12-r).toNat from a5 (by omega)];refine j8 (as':=[((ax x y).mul (b9 (12-r).toNat).conj).v,int .i64 (2340*7^(12-r).toNat)]) rfl ?_;refine c8 (ag1 _ _ (b.mono (by decide)) (by omega)) rfl trivial ?_
 push_cast [Ei.v,Ei.rv,g9,f]
 kernel_rfl

def sc:Mk P0 f86:={ x:=_ }
def oh:Mk P0 f50:={ x:=_ }
def vc:Mk P0 f49:={ x:=_ }
theorem ate (k:Int) (a:0<=k/\k<6):a9 P0 86 [int .i64 k] [] ((uni k.toNat).v) []:=by
 refine sc.t func86 ?_
 have b:(IntKind.i64.wrap (Int.tmod k 6+6)).tmod 6=k:=by
  rw [zck a.1,a5 (by omega),zck (by omega)]; omega
 simp only [sc,b,Ei.v,Ei.rv,push_cast,↓reduceIte,reduceCtorEq,zB,zE,zA,zS,zL,zD,zM];refine ⟨by decide,by decide,a,by omega,?_⟩;rcases (show k=0\/k=1\/k=2\/k=3\/k=4\/k=5 by omega) with rfl | rfl | rfl | rfl | rfl | rfl
 all_goals
  simp only [Int.reduceToNat,Nat.zero_mul,Nat.add_zero,zcs,aru,art,ars,arr,arq,arp,push_cast,↓reduceIte,reduceCtorEq,zB,zE,zA,zS,zL,zD,zM]
theorem afd (z:Ei) (h:z.In 1073741824):a9 P0 50 [z.v] [] (.tup [(pr z).v,int .i64 (dg z)]) []:=by
 refine oh.t func50 ?_
 push_cast [oh,Ei.v,Ei.rv,zaa]
 have n:(z.mul ⟨3,-1⟩).In 9663676416:=(rc h (show (⟨3,-1⟩:Ei).In 3 by unfold Ei.In; decide)).mono (by decide);have g:(pr z).In 1073741824:=ak6 h (by decide);have s:((pr z).mul r9).In 6442450944:=(rc g (show r9.In 2 by unfold Ei.In; decide)).mono (by decide);have k:=an6 z;refine b5 (as':=[z.v,Ei.v ⟨3,-1⟩]) rfl ?_;refine a7 (ac9 _ _ (h.mono (by decide)) (show (⟨3,-1⟩:Ei).In _ by unfold Ei.In; decide) (n.mono (by decide))) rfl trivial ?_
 push_cast [Ei.v,Ei.rv]
 refine b5 (as':=[(z.mul ⟨3,-1⟩).v,int .i64 7]) rfl ?_;refine a7 (ag1 _ 7 (n.mono (by decide)) (by decide)) rfl trivial ?_;rw [show (z.mul ⟨3,-1⟩).round 7=pr z from rfl]
 push_cast [Ei.v,Ei.rv]
 refine b5 (as':=[(pr z).v,r9.v]) rfl ?_;refine a7 (ac9 _ _ (g.mono (by decide)) (show r9.In _ by unfold Ei.In; decide) (s.mono (by decide))) rfl trivial ?_;have m:z.a-((pr z).mul r9).a=(lft z).a:=rfl;have o:z.b-((pr z).mul r9).b=(lft z).b:=rfl;unfold Ei.In at k;rw [<- m,<- o] at k
 push_cast [Ei.v,Ei.rv]
 rw [show IntKind.i64.wrap (z.a-((pr z).mul r9).a)=(lft z).a by rw [<- m]; exact a5 (by omega),show IntKind.i64.wrap (z.b-((pr z).mul r9).b)=(lft z).b by rw [<- o]; exact a5 (by omega)];rw [show dg z=yp (lft z) from rfl];generalize lft z=l at *;generalize pr z=q at *
 refine c9 [(11,false),(10,false),(6,false),(2,false)] (fun vs pos d=>∃i:Int,(0<=i/\i<=6)/\(∀j:Nat,(j:Int)<i->uni j≠l)/\vs=[int .i64 i,.ptr 2000000 0 0,.ptr 2000001 0 0,.ptr 2000002 0 0]/\pos=[]/\d=[.box [int .i64 l.a,int .i64 l.b],.box [int .i64 q.a,int .i64 q.b],.box [int .i64 0,int .i64 0]])
  (fun vs _ _=>match vs with | .r (.v (.int _ j))::_=>(6-j).toNat | _=>0) rfl ?_ ?_
 ·push_cast
  exact ⟨0,by omega,fun j f=>by omega,rfl⟩
 rintro vs pos d ⟨i,p,f,rfl,rfl,rfl⟩
 push_cast
 refine b8 (fun h=>?_) (fun h=>?_)
 ·simp only [decide_eq_true_eq] at h
  push_cast
  refine c8 (ate i ⟨p.1,h⟩) rfl trivial ?_
  push_cast [Ei.v,Ei.rv]
  refine ⟨by kernel_rfl,b8 (fun c=>?_) (fun c=>?_)⟩
  ·have e:uni i.toNat=l:=by
    simp only [Bool.and_eq_true,beq_iff_eq] at c;exact Ei.ext' c.1 c.2
   push_cast
   rw [<- e,aia _ (by omega),a5 (by omega),show ((i.toNat+1:Nat):Int)=i+1 by omega]
  have e:uni i.toNat≠l:=fun e=>by rw [e] at c; simp at c
  push_cast
  rw [a5 (by omega)];refine ⟨⟨i+1,by omega,fun j w=>?_,rfl⟩,by omega⟩;by_cases u:(j:Int)=i
  ·rw [show j=i.toNat by omega]; exact e
  exact f j (by omega)
 have hi:i=6:=by simp at h; omega
 subst hi
 push_cast
 rw [akh l fun j x=>f j (by omega)]
 rfl
theorem avl (r:Int) (z:Ei) (u:0<=r) (h:okc r.toNat z):a9 P0 49 [cel r z] [] (bl true) []:=by
 refine vc.t func49 ?_;obtain ⟨n,f,g,e⟩:=h;have d:=f;unfold Ei.In at d;have o:decide (r<0)=false:=by simp; omega
 have c2:decide (r>12)=false:=by simp; omega
 have l:decide (z.a < -1073741824)=false:=by simp; omega
 have k:decide (z.a>1073741824)=false:=by simp; omega
 have m:decide (z.b < -1073741824)=false:=by simp; omega
 have q:decide (z.b>1073741824)=false:=by simp; omega
 push_cast [vc,cel,zaa,o,c2,l,k,m,q]
 refine c9 [(4,false),(1,false),(3,false)] (fun vs pos c=>∃i:Int,(0<=i/\i<=r)/\vs=[int .i64 i,.ptr 2000000 0 0,.ptr 2000001 0 0]/\pos=[]/\c=[.box [int .i64 r,int .i64 z.a,int .i64 z.b],.box [int .i64 (anc i.toNat z).a,int .i64 (anc i.toNat z).b]])
  (fun vs _ _=>match vs with | .r (.v (.int _ j))::_=>(r-j).toNat | _=>0) rfl ?_ ?_
 ·push_cast
  exact ⟨0,by omega,rfl,rfl⟩
 rintro vs pos c ⟨i,s,rfl,rfl,rfl⟩
 push_cast
 refine b8 (fun h=>?_) (fun h=>?_)
 ·simp only [decide_eq_true_eq] at h
  push_cast
  have p:=aeg i.toNat f (by decide);refine b5 (as':=[(anc i.toNat z).v]) rfl ?_;refine a7 (afd _ p) rfl trivial ?_
  push_cast [Ei.v,Ei.rv]
  rw [show IntKind.i64.wrap (i+1)=i+1 from a5 (by omega)];refine ⟨⟨i+1,by omega,rfl,?_⟩,by omega⟩;rw [show (i+1).toNat=i.toNat+1 by omega,yx]
 have hi:i=r:=by simp at h; omega
 subst hi
 push_cast [ge_iff_le,g.1,g.2,e.1,e.2,decide_true]

def sa:Mk P0 f22:={ x:=_ }
theorem zt (h:a<18446744073709551616):IntKind.u64.wrap (a:Int)=a:=by rw [IntKind.wrap_u64]; omega
theorem ofI (a:Nat) (h:a<18446744073709551616):(zab IntKind.u64.bits (a:Int)).toNat=a:=by
 rw [show IntKind.u64.bits=64 from rfl,BitVec.toNat_ofInt];omega
theorem ahf {b:Nat} (c:a<18446744073709551616) (d:b<18446744073709551616):IntKind.u64.wrap (zab IntKind.u64.bits (a:Int) ||| zab IntKind.u64.bits (b:Int)).toNat=((a ||| b:Nat):Int):=by
 rw [BitVec.toNat_or,ofI a c,ofI b d];exact zt (zcy (n:=64) c d)
theorem anx (x:BitVec 64):(~~~ x).toNat=2^64-1-x.toNat:=BitVec.toNat_not
theorem arh {b:Nat} (c:a<18446744073709551616) (d:b<18446744073709551616):IntKind.u64.wrap (zab IntKind.u64.bits (a:Int) &&& ~~~ zab IntKind.u64.bits (b:Int)).toNat=((a &&& (2^64-1-b):Nat):Int):=by
 rw [BitVec.toNat_and,ofI a c,show (~~~ zab IntKind.u64.bits (b:Int)).toNat=2^64-1-(zab IntKind.u64.bits (b:Int)).toNat from anx _,ofI b d];exact zt (zcz Nat.and_le_left c)
theorem ax1 {n:Nat} (m:Int) (e:m=2^n-1) (d:n<=62) (b:a<18446744073709551616):IntKind.u64.wrap (zab IntKind.u64.bits (a:Int) &&& zab IntKind.u64.bits m).toNat=((a%2^n:Nat):Int):=by
 have h:2^n<=2^62:=zad (by decide) d;have g:=Nat.two_pow_pos n;have f:((2^n:Nat):Int)=(2:Int)^n:=by simp
 have c:m=((2^n-1:Nat):Int):=by rw [e,<- f]; omega
 rw [c,BitVec.toNat_and,ofI a b,ofI _ (by omega),Nat.and_two_pow_sub_one_eq_mod];exact zt (zcz (Nat.mod_le _ _) b)
theorem ac5 (b:s.toNat=k) (c:k<=63) (h:a*2^k<18446744073709551616):IntKind.u64.wrap ((a:Int)*2^min s.toNat IntKind.u64.bits)=((a*2^k:Nat):Int):=by
 rw [b,show min k IntKind.u64.bits=k from zcw (by simp [IntKind.bits]; omega),show (a:Int)*2^k=((a*2^k:Nat):Int) by simp];exact zt h
def uw (n:Nat):AV:=int .u64 n
theorem atd (r:Int) (z:Ei) (F:0<=r) (g:okc r.toNat z):a9 P0 22 [cel r z] [] (.tup [uw (af r.toNat z),int .i64 0]) []:=by
 refine sa.t func22 ?_;have G:=g;obtain ⟨c,w,J,H⟩:=G;simp only [sa,cel,push_cast,↓reduceIte,reduceCtorEq,zB,zE,zA,zS,zL,zD,zM];refine b5 (as':=[cel r z]) rfl ?_;refine a7 (avl r z F g) rfl trivial ?_;simp only [push_cast,↓reduceIte,reduceCtorEq,zB,zE,zA,zS,zL,zD,zM];have l:=ase r.toNat z (by omega)
 refine c9 [(6,false),(1,false),(4,false),(5,false)] (fun vs pos d=>∃i:Int,(0<=i/\i<=r)/\vs=[int .i64 i,.ptr 2000000 0 0,.ptr 2000001 0 0,int .u64 (ea r.toNat z i.toNat)]/\pos=[]/\d=[.box [int .i64 r,int .i64 z.a,int .i64 z.b],.box [int .i64 (anc (r-i).toNat z).a,int .i64 (anc (r-i).toNat z).b]])
  (fun vs _ _=>match vs with | .r (.v (.int _ j))::_=>j.toNat | _=>0) rfl ?_ ?_
 ·simp only [push_cast,↓reduceIte,reduceCtorEq,zB,zE,zA,zS,zL,zD,zM];refine ⟨r,by omega,?_⟩;rw [l,Int.sub_self];exact ⟨rfl,rfl⟩
 rintro vs pos d ⟨i,I,rfl,rfl,rfl⟩;simp only [push_cast,↓reduceIte,reduceCtorEq,zB,zE,zA,zS,zL,zD,zM];refine b8 (fun h=>?_) (fun h=>?_)
 ·simp only [decide_eq_true_eq] at h;have E:=aeg (r-i).toNat w (by decide);simp only [push_cast,↓reduceIte,reduceCtorEq,zB,zE,zA,zS,zL,zD,zM];refine b5 (as':=[(anc (r-i).toNat z).v]) rfl ?_;refine a7 (afd _ E) rfl trivial ?_;simp only [Ei.v,Ei.rv,push_cast,↓reduceIte,reduceCtorEq,zB,zE,zA,zS,zL,zD,zM];rw [show IntKind.i64.wrap (3*i)=3*i from a5 (by omega),show IntKind.i64.wrap (36-3*i)=36-3*i from a5 (by omega),show IntKind.i64.wrap (i-1)=i-1 from a5 (by omega)];have C:=xu r.toNat z i.toNat (by omega) c;have f:=aku r.toNat z i.toNat (by omega) (by omega) c;have K:=abi (anc (r-i).toNat z);have e:(36-3*i).toNat=36-3*i.toNat:=by omega
  have D:2^(36-3*i.toNat)<=2^33:=zad (by decide) (by omega);have u:dg (anc (r-i).toNat z)*2^(36-3*i.toNat)<=6*2^(36-3*i.toNat):=Nat.mul_le_mul_right _ (by omega);rw [zt (show dg (anc (r-i).toNat z)<18446744073709551616 by omega),show (7:Int)=((7:Nat):Int) from rfl,ac5 e (by omega) (by omega),ac5 e (by omega) (by omega),arh (by omega) (by omega),ahf (zcz Nat.and_le_left (by omega)) (by omega)];rw [show (r-i).toNat=r.toNat-i.toNat by omega] at *;rw [f];refine ⟨by omega,by omega,by kernel_rfl,⟨i-1,by omega,?_,?_⟩,by omega⟩
  ·rw [show (i-1).toNat=i.toNat-1 by omega]
  rw [show (r-(i-1)).toNat=r.toNat-i.toNat+1 by omega,yx]
 have hi:i=0:=by simp at h; omega
 subst hi;simp only [push_cast,↓reduceIte,reduceCtorEq,zB,zE,zA,zS,zL,zD,zM];refine ⟨by decide,by decide,by decide,?_⟩;have C:=xu r.toNat z 0 (by omega) c;rw [show (r-0).toNat=r.toNat by omega];obtain ⟨A,q⟩:∃A:Nat,(anc r.toNat z).a+512=A:=⟨((anc r.toNat z).a+512).toNat,by omega⟩
 obtain ⟨B,m⟩:∃B:Nat,(anc r.toNat z).b+512=B:=⟨((anc r.toNat z).b+512).toNat,by omega⟩
 have s:=asd r.toNat z c A B (by omega) (by omega) q m;have y:=ai3 r.toNat z g;obtain ⟨R,rfl⟩:∃R:Nat,r=R:=⟨r.toNat,by omega⟩
 rw [Int.toNat_natCast] at *;rw [q,m,show IntKind.i64.wrap (A:Int)=A from a5 (by omega),show IntKind.i64.wrap (B:Int)=B from a5 (by omega),zt (show A<18446744073709551616 by omega),zt (show B<18446744073709551616 by omega),zt (show R<18446744073709551616 by omega)];rw [ac5 (k:=56) rfl (by decide) (by omega),ac5 (k:=46) rfl (by decide) (by omega),ac5 (k:=36) rfl (by decide) (by omega),show (1152921504606846976:Int)=((1152921504606846976:Nat):Int) from rfl,Int.toNat_zero];have o:ea R z 0 ||| 1152921504606846976<18446744073709551616:=zcy (n:=64) (by omega) (by omega);have p:ea R z 0 ||| 1152921504606846976 ||| R*2^56<18446744073709551616:=zcy (n:=64) o (by omega)
 have x:ea R z 0 ||| 1152921504606846976 ||| R*2^56 ||| A*2^46<18446744073709551616:=zcy (n:=64) p (by omega);rw [ahf (by omega) (by omega),ahf o (by omega),ahf p (by omega),ahf x (by omega),s]
 rfl
def aht (w:Nat):Bool:=decide (w/1152921504606846976=1)&&decide (an w<=12)&&(List.range 13).all fun i=>decide (i=0)||(decide (dgt w i=7) == decide (an w<i))
theorem ahs (w:Nat):aht w=true↔isW w:=by
 simp only [aht,isW,Bool.and_eq_true,decide_eq_true_eq,List.all_eq_true,List.mem_range,Bool.or_eq_true,beq_iff_eq,decide_eq_decide];constructor
 ·rintro ⟨⟨c,a⟩,b⟩;refine ⟨c,a,fun i f e=>?_⟩;rcases b i (by omega) with h | h
  ·omega
  exact h
 rintro ⟨c,a,b⟩;refine ⟨⟨c,a⟩,fun i hi=>?_⟩;by_cases d:i=0
 ·exact .inl d
 exact .inr (b i (by omega) (by omega))
theorem an7 (h:okc r z):aht (af r z)=true:=(ahs _).2 (agi r z h).1
theorem au9 (b:s.toNat=k) (c:k<=63):(a:Int).fdiv (2^min s.toNat IntKind.u64.bits)=((a/2^k:Nat):Int):=by
 rw [b,show min k IntKind.u64.bits=k from zcw (by simp [IntKind.bits]; omega)];rw [zda _ (by have:=Int.pow_pos (n:=2) (m:=k) (by decide); omega)];simp
theorem aa8 {n:Nat} (e:s.toNat=k) (f:k<=63) (d:m=2^n-1) (c:n<=62) (b:a<18446744073709551616) :
 IntKind.u64.wrap (zab IntKind.u64.bits ((a:Int).fdiv (2^min s.toNat IntKind.u64.bits)) &&& zab IntKind.u64.bits m).toNat=((a/2^k%2^n:Nat):Int):=by
 rw [au9 e f,ax1 m d c (zcz (Nat.div_le_self _ _) b)]
theorem akg (w:Nat) (i:Nat) (hi:i<=12):(ai w i).In 1000000000000:=by
 have h:∀i:Nat,∀n:Int,(ai w i).In n->1<=n->(ai w (i+1)).In (5*n):=fun i n s e=>by
  have r:∀d,(uni d).In 1:=fun d=>by unfold uni; split<;>unfold Ei.In<;>decide
  have t:=r (dgt w (i+1)-1);unfold Ei.In at s t |-;rw [ai,tr];split<;>simp only [Ei.mul,r9,Ei.add]<;>omega
 have p:(ai w 0).In 512:=by
  unfold Ei.In ai al4;dsimp only;omega
 have e:=h 0 _ p (by decide);have l:=h 1 _ e (by decide);have j:=h 2 _ l (by decide);have m:=h 3 _ j (by decide);have o:=h 4 _ m (by decide);have g:=h 5 _ o (by decide);have k:=h 6 _ g (by decide);have q:=h 7 _ k (by decide);have f:=h 8 _ q (by decide);have b:=h 9 _ f (by decide);have a:=h 10 _ b (by decide);have c:=h 11 _ a (by decide);rcases (show i=0\/i=1\/i=2\/i=3\/i=4\/i=5\/i=6\/i=7\/i=8\/i=9\/i=10\/i=11\/i=12 by omega) with rfl | rfl | rfl | rfl | rfl | rfl | rfl | rfl | rfl | rfl | rfl | rfl | rfl
 ·exact p.mono (by decide)
 ·exact e.mono (by decide)
 ·exact l.mono (by decide)
 ·exact j.mono (by decide)
 ·exact m.mono (by decide)
 ·exact o.mono (by decide)
 ·exact g.mono (by decide)
 ·exact k.mono (by decide)
 ·exact q.mono (by decide)
 ·exact f.mono (by decide)
 ·exact b.mono (by decide)
 ·exact a.mono (by decide)
 exact c.mono (by decide)

def og:Mk P0 f7:={ x:=_ }
def amf (x y:Int) (r:Nat):Nat:=af r (g9 x y r)
theorem amv (x y r:Int) (h:inW x y) (a:0<=r/\r<=12):a9 P0 7 [int .i64 x,int .i64 y,int .i64 r] [] (uw (amf x y r.toNat)) []:=by
 refine og.t func7 ?_
 push_cast [og,zaa]
 refine a7 (ath x y r h a) rfl trivial ?_
 push_cast [Ei.v,Ei.rv]
 refine b5 (as':=[cel r (g9 x y r.toNat)]) rfl ?_;refine a7 (atd r (g9 x y r.toNat) a.1 (ahj x y r.toNat h.1 h.2 (by omega))) rfl trivial ?_
 push_cast [uw]
 rfl

theorem ao4:a9 P0 9 [] [] (bl true) []:=by
 refine oi.t func9 ?_;simp only [oi,push_cast,↓reduceIte,reduceCtorEq,zB,zE,zA,zS,zL,zD,zM];refine b5 (as':=[Til.v ⟨1,1,0,0⟩]) rfl ?_;refine a7 (acb ⟨1,1,0,0⟩ (by decide)) rfl trivial ?_;simp only [push_cast,↓reduceIte,reduceCtorEq,zB,zE,zA,zS,zL,zD,zM];rw [show (1:Int)*2^(30-(1:Int)).toNat=536870912 by decide,show (0:Int)*2^(30-(1:Int)).toNat=0 by decide,show (2:Int)^(30-(1:Int)).toNat=536870912 by decide];simp only [push_cast,↓reduceIte,reduceCtorEq,zB,zE,zA,zS,zL,zD,zM];have h:Til.ok ⟨0,0,0,0⟩:=⟨by decide,by decide,by decide,by decide⟩
 have b:Til.ok ⟨0,0,0,12⟩:=⟨by decide,by decide,by decide,by decide⟩
 have d:Til.ok ⟨18,0,0,12⟩:=⟨by decide,by decide,by decide,by decide⟩
 have e:tis ⟨0,0,0,0⟩=true:=by decide
 have f:tis ⟨0,0,0,12⟩=true:=by decide
 have g:ah ⟨0,0,0,0⟩=false:=by decide +kernel
 have a:ah ⟨0,0,0,12⟩=true:=by decide +kernel
 have c:ah ⟨18,0,0,12⟩=false:=by decide +kernel
 refine b5 (as':=[Til.v ⟨0,0,0,0⟩]) rfl ?_;refine a7 (ak7 ⟨0,0,0,0⟩ h) rfl trivial ?_;simp only [e,g,push_cast,↓reduceIte,reduceCtorEq,zB,zE,zA,zS,zL,zD,zM];refine b5 (as':=[Til.v ⟨0,0,0,12⟩]) rfl ?_;refine a7 (ak7 ⟨0,0,0,12⟩ b) rfl trivial ?_;simp only [f,a,push_cast,↓reduceIte,reduceCtorEq,zB,zE,zA,zS,zL,zD,zM];refine b5 (as':=[Til.v ⟨0,0,0,12⟩]) rfl ?_;refine a7 (ah4 ⟨0,0,0,12⟩ b) rfl trivial ?_;simp only [a,push_cast,↓reduceIte,reduceCtorEq,zB,zE,zA,zS,zL,zD,zM];refine b5 (as':=[Til.v ⟨18,0,0,12⟩]) rfl ?_;refine a7 (ah4 ⟨18,0,0,12⟩ d) rfl trivial ?_;simp only [c,push_cast,↓reduceIte,reduceCtorEq,zB,zE,zA,zS,zL,zD,zM]

end
end Go.Ev

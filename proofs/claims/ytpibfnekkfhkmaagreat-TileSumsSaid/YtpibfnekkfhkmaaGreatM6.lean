import Derived.Test.YtpibfnekkfhkmaaGreatChecked
import Derived.KernelRfl
import Derived.Test.YtpibfnekkfhkmaaGreatM5
open Nat renaming reduceBEq → zB, reduceEqDiff → zE, reduceAdd → zA, reduceSub → zS, reduceLT → zL, reduceLeDiff → zD, reduceMul → zM
open Go.Proofs.Tryz renaming prog → P0
open Go.Proofs.Tryz
open List renaming length_nil → zaa, append_nil → zai, length_append → zan, range_zero → zao, length_cons → zar, length_map → zas, map_cons → zat, map_nil → zau, getD_cons_zero → zav, getD_cons_succ → zaw, take_succ_cons → zax, take_zero → zay, drop_succ_cons → zaz, drop_zero → zba, cons_append → zbb, nil_append → zbc, all_cons → zbd, all_nil → zbe, contains_cons → zbl, contains_nil → zbm, filter_cons → zbn, filter_nil → zbo, getElem?_cons_zero → zbr, getElem?_cons_succ → zbs, getElem?_nil → zbt, take_nil → zbu, drop_nil → zbv
open BitVec renaming ofInt → zab, ofNat → zcf, toNat_ofNat → zdc
open Nat renaming pow_add → zac, pow_le_pow_right → zad, mul_assoc → zah, reduceEqDiff → zbx, reduceAdd → zby, reduceSub → zbz, reduceLT → zca, reduceLeDiff → zcb, reduceMul → zcc, add_mul → zcd, pow_pos → zce, mul_le_mul → zcg, pow_succ → zcm, mul_comm → zcn, or_comm → zco, or_assoc → zcp, add_mul_div_right → zcs, zero_add → zct, div_eq_of_lt → zcw, min_eq_left → zcx, testBit_two_pow_mul_add → zcy, or_lt_two_pow → zcz, lt_of_le_of_lt → zda, div_div_eq_div_mul → zdd, testBit_lt_two_pow → zde
open Int renaming emod_lt_of_pos → zae, emod_nonneg → zaf, lt_or_le → zch, mul_add → zci, pow_succ → zcj, one_mul → zck, tmod_eq_emod_of_nonneg → zcl, natAbs_mul → zcq, mul_nonneg → zcr, mul_ediv_add_emod → zcu, mul_le_mul_of_nonneg_right → zcv, fdiv_eq_ediv_of_nonneg → zdb
open Bool renaming and_true → zaj, true_and → zak, or_false → zal, not_false → zam, false_and → zbf, and_self → zbg, or_true → zbh, true_or → zbi, false_or → zbj, not_true → zbk, false_eq_true → zbw
open Option renaming getD_some → zap, getD_none → zaq, map_some → zbp, map_none → zbq
namespace Go.Ev
set_option maxRecDepth 100000
noncomputable section
open Go
set_option linter.unusedSectionVars false
set_option linter.unnecessarySimpa false
set_option linter.unusedSimpArgs false
set_option linter.unusedVariables false
def art:Mk P0 f176:={ x:=_ }
theorem atq:d5 176 2 art:=c8 func176
def arp:Mk P0 f246:={ x:=_ }
theorem atm:d5 246 2 arp:=c8 func246
def arr:Mk P0 f231:={ x:=_ }
theorem ato:d5 231 1 arr:=c8 func231
def aoi:Mk P0 f247:={ x:=_ }
theorem aro:d5 247 1 aoi:=c8 func247
def akv:Mk P0 f191:={ x:=_ }
theorem an6:d5 191 2 akv:=c8 func191
def ars:Mk P0 f233:={ x:=_ }
theorem atp:d5 233 2 ars:=c8 func233
def alu:Mk P0 f135:={ x:=_ }
theorem aps:d5 135 2 alu:=c8 func135
def sm (x:Int):AV:=.tup [int .i64 (if in64 x then x else 0),bl (decide (in64 x))]
theorem qz {x y:Int} (h:x=y) (hx:in64 y):AV.tup [int .i64 x,bl true]=sm y:=by simp [sm,hx,h]
theorem ajc {y:Int} (hx:¬in64 y):AV.tup [int .i64 0,bl false]=sm y:=by simp [sm,hx]
theorem bi2 (n:Nat):(n:Int).fdiv (2^min (Int.toNat 32) IntKind.u64.bits)=((n/4294967296:Nat):Int):=by
 have:(2:Int)^min (Int.toNat 32) IntKind.u64.bits=4294967296:=by decide
 rw [this,zdb _ (by decide)];omega
theorem bip (n:Nat):IntKind.u64.wrap (n:Int)=((n%18446744073709551616:Nat):Int):=by
 rw [IntKind.wrap_u64]; omega
theorem bj1 (n:Nat):(zab IntKind.u64.bits (n:Int) &&& zab IntKind.u64.bits 4294967295).toNat=n%4294967296:=by
 have h1:zab IntKind.u64.bits (n:Int)=zcf 64 n:=by simp [IntKind.bits]
 have h2:zab IntKind.u64.bits 4294967295=zcf 64 (2^32-1):=rfl;rw [h1,h2];show (zcf 64 n &&& zcf 64 (2^32-1)).toNat = _;rw [BitVec.toNat_and,zdc,zdc,show (2^32-1)%2^64=2^32-1 by decide,Nat.and_two_pow_sub_one_eq_mod];omega
theorem a51 {x y a b c d:Nat} (hx:x=a*4294967296+b) (hy:y=c*4294967296+d):x*y=(a*c)*18446744073709551616+(a*d+b*c)*4294967296+b*d:=by
 subst hx; subst hy;rw [zcd,Nat.mul_add,Nat.mul_add]
 have e1:a*4294967296*(c*4294967296)=(a*c)*18446744073709551616:=by
  rw [Nat.mul_mul_mul_comm]
 have e2:a*4294967296*d=(a*d)*4294967296:=Nat.mul_right_comm _ _ _;have e3:b*(c*4294967296)=(b*c)*4294967296:=(zah _ _ _).symm;rw [e1,e2,e3];omega
theorem ago {a b:Nat} (ha:a<4294967296) (hb:b<4294967296):a*b≤18446744065119617025:=by
 have:a*b≤4294967295*4294967295:=zcg (by omega) (by omega);omega
theorem a3o (a b:Int) (ha:in64 a) (hb:in64 b):a8 P0 176 [int .i64 a,int .i64 b] [] (sm (a+b)) []:=by
 refine atq rfl (by decide) ?_
 push_cast [art,zaa]
 unfold in64 at ha hb;refine b9 (fun h=>?_) (fun h=>?_)
 ·push_cast
  refine ajc ?_;rw [IntKind.wrap_i64] at h;unfold in64; by_cases h1:(a+b+9223372036854775808)%18446744073709551616-9223372036854775808>a<;>by_cases h2:b>0<;>by_cases h3:b=0<;>simp only [h1,h2,h3,decide_true,decide_false] at h<;>first | omega | (simp at h; done) | (simp at h; omega)
 ·push_cast
  rw [IntKind.wrap_i64] at h ⊢
  have:in64 (a+b):=by
   unfold in64; by_cases h1:(a+b+9223372036854775808)%18446744073709551616-9223372036854775808>a<;>by_cases h2:b>0<;>by_cases h3:b=0<;>simp only [h1,h2,h3,decide_true,decide_false] at h<;>first | omega | (simp at h; done) | (simp at h; omega)
  exact qz (by unfold in64 at this; omega) this
theorem a1v (a b:Int) (ha:in64 a) (hb:in64 b):a8 P0 246 [int .i64 a,int .i64 b] [] (sm (a-b)) []:=by
 refine atm rfl (by decide) ?_
 push_cast [arp,zaa]
 unfold in64 at ha hb;refine b9 (fun h=>?_) (fun h=>?_)
 ·push_cast
  refine ajc ?_;rw [IntKind.wrap_i64] at h;unfold in64; by_cases h1:(a-b+9223372036854775808)%18446744073709551616-9223372036854775808<a<;>by_cases h2:b>0<;>by_cases h3:b=0<;>simp only [h1,h2,h3,decide_true,decide_false] at h<;>first | omega | (simp at h; done) | (simp at h; omega)
 ·push_cast
  rw [IntKind.wrap_i64] at h ⊢
  have:in64 (a-b):=by
   unfold in64; by_cases h1:(a-b+9223372036854775808)%18446744073709551616-9223372036854775808<a<;>by_cases h2:b>0<;>by_cases h3:b=0<;>simp only [h1,h2,h3,decide_true,decide_false] at h<;>first | omega | (simp at h; done) | (simp at h; omega)
  exact qz (by unfold in64 at this; omega) this
theorem bja (a:Int) (ha:in64 a):a8 P0 231 [int .i64 a] [] (sm (-a)) []:=by
 refine ato rfl (by decide) ?_
 push_cast [arr,zaa]
 refine a7 (a1v 0 a (by decide) ha) rfl trivial ?_
 push_cast [sm]
 simp
theorem a4h (a:Int) (ha:in64 a):a8 P0 247 [int .i64 a] [] (int .u64 a.natAbs) []:=by
 refine aro rfl (by decide) ?_
 push_cast [aoi,zaa]
 unfold in64 at ha;refine b9 (fun h=>?_) (fun h=>?_)
 ·push_cast
  simp at h;rw [IntKind.wrap_u64,IntKind.wrap_u64];congr 3;omega
 ·push_cast
  simp at h;rw [IntKind.wrap_u64];congr 3;omega
theorem ats (x y:Nat) (hx:x<18446744073709551616) (hy:y<18446744073709551616):a8 P0 191 [int .u64 x,int .u64 y] [] (.tup [int .u64 (x*y/18446744073709551616:Nat),int .u64 (x*y%18446744073709551616:Nat)]) []:=by
 refine an6 rfl (by decide) ?_;simp only [akv,push_cast,↓reduceIte,reduceCtorEq,zB,zE,zA,zS,zL,zD,zM];refine ⟨by decide,by decide,by decide,by decide,by decide,?_⟩;simp only [bi2,bj1,bip,← Int.natCast_mul,← Int.natCast_add];have hm:∀n:Nat,n%4294967296%18446744073709551616=n%4294967296:=fun n=>by omega
 simp only [hm];have key:=a51 (x:=x) (y:=y) (a:=x/4294967296) (b:=x%4294967296) (c:=y/4294967296) (d:=y%4294967296) (by omega) (by omega);have b1:=ago (a:=x/4294967296) (b:=y/4294967296) (by omega) (by omega);have b2:=ago (a:=x/4294967296) (b:=y%4294967296) (by omega) (by omega);have b3:=ago (a:=x%4294967296) (b:=y/4294967296) (by omega) (by omega);have b4:=ago (a:=x%4294967296) (b:=y%4294967296) (by omega) (by omega);generalize x/4294967296*(y/4294967296)=p at *;generalize x/4294967296*(y%4294967296)=q at *;generalize x%4294967296*(y/4294967296)=r at *;generalize x%4294967296*(y%4294967296)=t at *;rw [key];congr 5;omega

theorem bjc (a b:Int) (ha:in64 a) (hb:in64 b):a8 P0 233 [int .i64 a,int .i64 b] [] (sm (a*b)) []:=by
 refine atp rfl (by decide) ?_;have ha':=ha;have hb':=hb;unfold in64 at ha' hb'
 simp only [ars,zaa,tu,sr,th,ft,gm,em,tg,ny,jz,jo,ov,cq,tq,nj,tm,tp,nr,ju,td,tl,ti,fu,nf,eh,ut,gr,kn,ow,go,aao,nq,ot,km,jt,nl,to,tx,yt,sq,ss,fp,ad0,yo,uu,pa,ud,uc,nw,zd,tt,nt,jv,oe,uj,oi,oo,el,di,kj,oh,ek,uk,kk,gk,zy,br,om,aaa,ol,ur,dt,zao,yw,yn,jw,jy,aen,aeo,aef,aee,kr,ke,zj,ahd,tj,uh,gj,gi,du,t7,de,vi,zn,qn,aba,xj,vn,xi,adj,vp,wu,ql,qm,ada,xb,abl,abu,toV,aa8,aa9,me,nz,lc,yes,aez,bad,t6,mu,mmL,oa,adi,eq2,eql,AV.isA,PO.see,PO.act,Vs.q,Rs.and,AV.bare,AV.may,abx,afo,afn,aby,ub,un1,um,xg,ia2,iab,leb,abm,ldb,ldr,ld1,zk,zu,fa1,abp,bnd,abc,ve,abr,src,jm,ej,l8,bt,PO.see.mayO,PO.see.bareO,i9,o6,iy,nv,AV.rv,rvs,AV.elt,frz,freeze,n8,au,stb,str,st2,vo,par,xl,abv,xa,ac9,az,il,ae8,RV.cells,AV.cells,AV.one,RV.one,AV.boxable,RV.good,d7,u9,qf,vk,ade,ae6,ae5,qk,qi,rm,AV.isNil,ua,oz,bv,m9,ix,v9,m0,ahe,n7,fwd,afb,yr,u4,j7,gt,jb,back,cw,imV,imL,imO,idx,bg,obs,keep,bz,zo,mn,xd,ue,rn,ab3,Ob.own,Value.oneCell',oy,kp,↓reduceIte,true_and,and_true,and_self,true_implies,imp_self,implies_true,zap,zaq,zar,zaa,zas,zat,zau,zav,zaw,zax,zay,zaz,zba,zbb,zbc,zai,zbd,zbe,zaj,zak,zbf,zbg,zbh,zbi,zbj,zal,zbk,zam,reduceCtorEq,zbl,zbm,zbn,zbo,decide_true,decide_false,if_true,if_false,false_and,and_false,not_true,not_false_eq_true,zbp,zbq,zbr,zbs,zbt,zan,beq_self_eq_true,zB,zbu,zbv,false_implies,zbw,ne_eq,zbx,zby,zbz,zca,zcb,zcc,yz,yy,zc,zb,za,zg]
 refine a7 (a4h a ha) rfl trivial ?_
 simp only [tu,sr,th,ft,gm,em,tg,ny,jz,jo,ov,cq,tq,nj,tm,tp,nr,ju,td,tl,ti,fu,nf,eh,ut,gr,kn,ow,go,aao,nq,ot,km,jt,nl,to,tx,yt,sq,ss,fp,ad0,yo,uu,pa,ud,uc,nw,zd,tt,nt,jv,oe,uj,oi,oo,el,di,kj,oh,ek,uk,kk,gk,zy,br,om,aaa,ol,ur,dt,zao,yw,yn,jw,jy,aen,aeo,aef,aee,kr,ke,zj,ahd,tj,uh,gj,gi,du,t7,de,vi,zn,qn,aba,xj,vn,xi,adj,vp,wu,ql,qm,ada,xb,abl,abu,toV,aa8,aa9,me,nz,lc,yes,aez,bad,t6,mu,mmL,oa,adi,eq2,eql,AV.isA,PO.see,PO.act,Vs.q,Rs.and,AV.bare,AV.may,abx,afo,afn,aby,ub,un1,um,xg,ia2,iab,leb,abm,ldb,ldr,ld1,zk,zu,fa1,abp,bnd,abc,ve,abr,src,jm,ej,l8,bt,PO.see.mayO,PO.see.bareO,i9,o6,iy,nv,AV.rv,rvs,AV.elt,frz,freeze,n8,au,stb,str,st2,vo,par,xl,abv,xa,ac9,az,il,ae8,RV.cells,AV.cells,AV.one,RV.one,AV.boxable,RV.good,d7,u9,qf,vk,ade,ae6,ae5,qk,qi,rm,AV.isNil,ua,oz,bv,m9,ix,v9,m0,ahe,n7,fwd,afb,yr,u4,j7,gt,jb,back,cw,imV,imL,imO,idx,bg,obs,keep,bz,zo,mn,xd,ue,rn,ab3,Ob.own,Value.oneCell',oy,kp,↓reduceIte,true_and,and_true,and_self,true_implies,imp_self,implies_true,zap,zaq,zar,zaa,zas,zat,zau,zav,zaw,zax,zay,zaz,zba,zbb,zbc,zai,zbd,zbe,zaj,zak,zbf,zbg,zbh,zbi,zbj,zal,zbk,zam,reduceCtorEq,zbl,zbm,zbn,zbo,decide_true,decide_false,if_true,if_false,false_and,and_false,not_true,not_false_eq_true,zbp,zbq,zbr,zbs,zbt,zan,beq_self_eq_true,zB,zbu,zbv,false_implies,zbw,ne_eq,zbx,zby,zbz,zca,zcb,zcc,yz,yy,zc,zb,za,zg]
 refine a7 (a4h b hb) rfl trivial ?_
 simp only [tu,sr,th,ft,gm,em,tg,ny,jz,jo,ov,cq,tq,nj,tm,tp,nr,ju,td,tl,ti,fu,nf,eh,ut,gr,kn,ow,go,aao,nq,ot,km,jt,nl,to,tx,yt,sq,ss,fp,ad0,yo,uu,pa,ud,uc,nw,zd,tt,nt,jv,oe,uj,oi,oo,el,di,kj,oh,ek,uk,kk,gk,zy,br,om,aaa,ol,ur,dt,zao,yw,yn,jw,jy,aen,aeo,aef,aee,kr,ke,zj,ahd,tj,uh,gj,gi,du,t7,de,vi,zn,qn,aba,xj,vn,xi,adj,vp,wu,ql,qm,ada,xb,abl,abu,toV,aa8,aa9,me,nz,lc,yes,aez,bad,t6,mu,mmL,oa,adi,eq2,eql,AV.isA,PO.see,PO.act,Vs.q,Rs.and,AV.bare,AV.may,abx,afo,afn,aby,ub,un1,um,xg,ia2,iab,leb,abm,ldb,ldr,ld1,zk,zu,fa1,abp,bnd,abc,ve,abr,src,jm,ej,l8,bt,PO.see.mayO,PO.see.bareO,i9,o6,iy,nv,AV.rv,rvs,AV.elt,frz,freeze,n8,au,stb,str,st2,vo,par,xl,abv,xa,ac9,az,il,ae8,RV.cells,AV.cells,AV.one,RV.one,AV.boxable,RV.good,d7,u9,qf,vk,ade,ae6,ae5,qk,qi,rm,AV.isNil,ua,oz,bv,m9,ix,v9,m0,ahe,n7,fwd,afb,yr,u4,j7,gt,jb,back,cw,imV,imL,imO,idx,bg,obs,keep,bz,zo,mn,xd,ue,rn,ab3,Ob.own,Value.oneCell',oy,kp,↓reduceIte,true_and,and_true,and_self,true_implies,imp_self,implies_true,zap,zaq,zar,zaa,zas,zat,zau,zav,zaw,zax,zay,zaz,zba,zbb,zbc,zai,zbd,zbe,zaj,zak,zbf,zbg,zbh,zbi,zbj,zal,zbk,zam,reduceCtorEq,zbl,zbm,zbn,zbo,decide_true,decide_false,if_true,if_false,false_and,and_false,not_true,not_false_eq_true,zbp,zbq,zbr,zbs,zbt,zan,beq_self_eq_true,zB,zbu,zbv,false_implies,zbw,ne_eq,zbx,zby,zbz,zca,zcb,zcc,yz,yy,zc,zb,za,zg]
 refine a7 (ats a.natAbs b.natAbs (by omega) (by omega)) rfl trivial ?_
 simp only [tu,sr,th,ft,gm,em,tg,ny,jz,jo,ov,cq,tq,nj,tm,tp,nr,ju,td,tl,ti,fu,nf,eh,ut,gr,kn,ow,go,aao,nq,ot,km,jt,nl,to,tx,yt,sq,ss,fp,ad0,yo,uu,pa,ud,uc,nw,zd,tt,nt,jv,oe,uj,oi,oo,el,di,kj,oh,ek,uk,kk,gk,zy,br,om,aaa,ol,ur,dt,zao,yw,yn,jw,jy,aen,aeo,aef,aee,kr,ke,zj,ahd,tj,uh,gj,gi,du,t7,de,vi,zn,qn,aba,xj,vn,xi,adj,vp,wu,ql,qm,ada,xb,abl,abu,toV,aa8,aa9,me,nz,lc,yes,aez,bad,t6,mu,mmL,oa,adi,eq2,eql,AV.isA,PO.see,PO.act,Vs.q,Rs.and,AV.bare,AV.may,abx,afo,afn,aby,ub,un1,um,xg,ia2,iab,leb,abm,ldb,ldr,ld1,zk,zu,fa1,abp,bnd,abc,ve,abr,src,jm,ej,l8,bt,PO.see.mayO,PO.see.bareO,i9,o6,iy,nv,AV.rv,rvs,AV.elt,frz,freeze,n8,au,stb,str,st2,vo,par,xl,abv,xa,ac9,az,il,ae8,RV.cells,AV.cells,AV.one,RV.one,AV.boxable,RV.good,d7,u9,qf,vk,ade,ae6,ae5,qk,qi,rm,AV.isNil,ua,oz,bv,m9,ix,v9,m0,ahe,n7,fwd,afb,yr,u4,j7,gt,jb,back,cw,imV,imL,imO,idx,bg,obs,keep,bz,zo,mn,xd,ue,rn,ab3,Ob.own,Value.oneCell',oy,kp,↓reduceIte,true_and,and_true,and_self,true_implies,imp_self,implies_true,zap,zaq,zar,zaa,zas,zat,zau,zav,zaw,zax,zay,zaz,zba,zbb,zbc,zai,zbd,zbe,zaj,zak,zbf,zbg,zbh,zbi,zbj,zal,zbk,zam,reduceCtorEq,zbl,zbm,zbn,zbo,decide_true,decide_false,if_true,if_false,false_and,and_false,not_true,not_false_eq_true,zbp,zbq,zbr,zbs,zbt,zan,beq_self_eq_true,zB,zbu,zbv,false_implies,zbw,ne_eq,zbx,zby,zbz,zca,zcb,zcc,yz,yy,zc,zb,za,zg]
 have hab:a.natAbs*b.natAbs=(a*b).natAbs:=(zcq a b).symm;rw [hab];have hle:(a*b).natAbs≤9223372036854775808*9223372036854775808:=by rw [← hab]; exact zcg (by omega) (by omega)
 have hs:(a<0∧b<0→0<a*b)∧(a<0∧0≤b→a*b≤0)∧(0≤a∧b<0→a*b≤0)∧(0≤a∧0≤b→0≤a*b):=
  ⟨fun h=>Int.mul_pos_of_neg_of_neg h.1 h.2,fun h=>Int.mul_nonpos_of_nonpos_of_nonneg (by omega) h.2,fun h=>Int.mul_nonpos_of_nonneg_of_nonpos h.1 (by omega),fun h=>zcr h.1 h.2⟩
 clear hab;generalize a*b=m at *
 repeat refine And.intro (by simp +contextual) ?_
 refine b9 (fun h=>?_) (fun h=>?_)
 ·simp only [tu,sr,th,ft,gm,em,tg,ny,jz,jo,ov,cq,tq,nj,tm,tp,nr,ju,td,tl,ti,fu,nf,eh,ut,gr,kn,ow,go,aao,nq,ot,km,jt,nl,to,tx,yt,sq,ss,fp,ad0,yo,uu,pa,ud,uc,nw,zd,tt,nt,jv,oe,uj,oi,oo,el,di,kj,oh,ek,uk,kk,gk,zy,br,om,aaa,ol,ur,dt,zao,yw,yn,jw,jy,aen,aeo,aef,aee,kr,ke,zj,ahd,tj,uh,gj,gi,du,t7,de,vi,zn,qn,aba,xj,vn,xi,adj,vp,wu,ql,qm,ada,xb,abl,abu,toV,aa8,aa9,me,nz,lc,yes,aez,bad,t6,mu,mmL,oa,adi,eq2,eql,AV.isA,PO.see,PO.act,Vs.q,Rs.and,AV.bare,AV.may,abx,afo,afn,aby,ub,un1,um,xg,ia2,iab,leb,abm,ldb,ldr,ld1,zk,zu,fa1,abp,bnd,abc,ve,abr,src,jm,ej,l8,bt,PO.see.mayO,PO.see.bareO,i9,o6,iy,nv,AV.rv,rvs,AV.elt,frz,freeze,n8,au,stb,str,st2,vo,par,xl,abv,xa,ac9,az,il,ae8,RV.cells,AV.cells,AV.one,RV.one,AV.boxable,RV.good,d7,u9,qf,vk,ade,ae6,ae5,qk,qi,rm,AV.isNil,ua,oz,bv,m9,ix,v9,m0,ahe,n7,fwd,afb,yr,u4,j7,gt,jb,back,cw,imV,imL,imO,idx,bg,obs,keep,bz,zo,mn,xd,ue,rn,ab3,Ob.own,Value.oneCell',oy,kp,↓reduceIte,true_and,and_true,and_self,true_implies,imp_self,implies_true,zap,zaq,zar,zaa,zas,zat,zau,zav,zaw,zax,zay,zaz,zba,zbb,zbc,zai,zbd,zbe,zaj,zak,zbf,zbg,zbh,zbi,zbj,zal,zbk,zam,reduceCtorEq,zbl,zbm,zbn,zbo,decide_true,decide_false,if_true,if_false,false_and,and_false,not_true,not_false_eq_true,zbp,zbq,zbr,zbs,zbt,zan,beq_self_eq_true,zB,zbu,zbv,false_implies,zbw,ne_eq,zbx,zby,zbz,zca,zcb,zcc,yz,yy,zc,zb,za,zg]
  refine ajc ?_;unfold in64;by_cases h1:m.natAbs/18446744073709551616=0<;>by_cases h2:m.natAbs%18446744073709551616=9223372036854775808<;>by_cases h3:a<0<;>by_cases h4:b<0<;>simp [h1,h2,h3,h4] at h<;>omega
 ·have hm:m.natAbs≤9223372036854775808∧(m.natAbs=9223372036854775808→(a<0∧0≤b)∨(0≤a∧b<0)):=by
   by_cases h1:m.natAbs/18446744073709551616=0<;>by_cases h2:m.natAbs%18446744073709551616=9223372036854775808<;>by_cases h3:a<0<;>by_cases h4:b<0<;>simp [h1,h2,h3,h4] at h<;>omega
  clear h
  simp only [tu,sr,th,ft,gm,em,tg,ny,jz,jo,ov,cq,tq,nj,tm,tp,nr,ju,td,tl,ti,fu,nf,eh,ut,gr,kn,ow,go,aao,nq,ot,km,jt,nl,to,tx,yt,sq,ss,fp,ad0,yo,uu,pa,ud,uc,nw,zd,tt,nt,jv,oe,uj,oi,oo,el,di,kj,oh,ek,uk,kk,gk,zy,br,om,aaa,ol,ur,dt,zao,yw,yn,jw,jy,aen,aeo,aef,aee,kr,ke,zj,ahd,tj,uh,gj,gi,du,t7,de,vi,zn,qn,aba,xj,vn,xi,adj,vp,wu,ql,qm,ada,xb,abl,abu,toV,aa8,aa9,me,nz,lc,yes,aez,bad,t6,mu,mmL,oa,adi,eq2,eql,AV.isA,PO.see,PO.act,Vs.q,Rs.and,AV.bare,AV.may,abx,afo,afn,aby,ub,un1,um,xg,ia2,iab,leb,abm,ldb,ldr,ld1,zk,zu,fa1,abp,bnd,abc,ve,abr,src,jm,ej,l8,bt,PO.see.mayO,PO.see.bareO,i9,o6,iy,nv,AV.rv,rvs,AV.elt,frz,freeze,n8,au,stb,str,st2,vo,par,xl,abv,xa,ac9,az,il,ae8,RV.cells,AV.cells,AV.one,RV.one,AV.boxable,RV.good,d7,u9,qf,vk,ade,ae6,ae5,qk,qi,rm,AV.isNil,ua,oz,bv,m9,ix,v9,m0,ahe,n7,fwd,afb,yr,u4,j7,gt,jb,back,cw,imV,imL,imO,idx,bg,obs,keep,bz,zo,mn,xd,ue,rn,ab3,Ob.own,Value.oneCell',oy,kp,↓reduceIte,true_and,and_true,and_self,true_implies,imp_self,implies_true,zap,zaq,zar,zaa,zas,zat,zau,zav,zaw,zax,zay,zaz,zba,zbb,zbc,zai,zbd,zbe,zaj,zak,zbf,zbg,zbh,zbi,zbj,zal,zbk,zam,reduceCtorEq,zbl,zbm,zbn,zbo,decide_true,decide_false,if_true,if_false,false_and,and_false,not_true,not_false_eq_true,zbp,zbq,zbr,zbs,zbt,zan,beq_self_eq_true,zB,zbu,zbv,false_implies,zbw,ne_eq,zbx,zby,zbz,zca,zcb,zcc,yz,yy,zc,zb,za,zg]
  refine b9 (fun h'=>?_) (fun h'=>?_)
  ·simp only [tu,sr,th,ft,gm,em,tg,ny,jz,jo,ov,cq,tq,nj,tm,tp,nr,ju,td,tl,ti,fu,nf,eh,ut,gr,kn,ow,go,aao,nq,ot,km,jt,nl,to,tx,yt,sq,ss,fp,ad0,yo,uu,pa,ud,uc,nw,zd,tt,nt,jv,oe,uj,oi,oo,el,di,kj,oh,ek,uk,kk,gk,zy,br,om,aaa,ol,ur,dt,zao,yw,yn,jw,jy,aen,aeo,aef,aee,kr,ke,zj,ahd,tj,uh,gj,gi,du,t7,de,vi,zn,qn,aba,xj,vn,xi,adj,vp,wu,ql,qm,ada,xb,abl,abu,toV,aa8,aa9,me,nz,lc,yes,aez,bad,t6,mu,mmL,oa,adi,eq2,eql,AV.isA,PO.see,PO.act,Vs.q,Rs.and,AV.bare,AV.may,abx,afo,afn,aby,ub,un1,um,xg,ia2,iab,leb,abm,ldb,ldr,ld1,zk,zu,fa1,abp,bnd,abc,ve,abr,src,jm,ej,l8,bt,PO.see.mayO,PO.see.bareO,i9,o6,iy,nv,AV.rv,rvs,AV.elt,frz,freeze,n8,au,stb,str,st2,vo,par,xl,abv,xa,ac9,az,il,ae8,RV.cells,AV.cells,AV.one,RV.one,AV.boxable,RV.good,d7,u9,qf,vk,ade,ae6,ae5,qk,qi,rm,AV.isNil,ua,oz,bv,m9,ix,v9,m0,ahe,n7,fwd,afb,yr,u4,j7,gt,jb,back,cw,imV,imL,imO,idx,bg,obs,keep,bz,zo,mn,xd,ue,rn,ab3,Ob.own,Value.oneCell',oy,kp,↓reduceIte,true_and,and_true,and_self,true_implies,imp_self,implies_true,zap,zaq,zar,zaa,zas,zat,zau,zav,zaw,zax,zay,zaz,zba,zbb,zbc,zai,zbd,zbe,zaj,zak,zbf,zbg,zbh,zbi,zbj,zal,zbk,zam,reduceCtorEq,zbl,zbm,zbn,zbo,decide_true,decide_false,if_true,if_false,false_and,and_false,not_true,not_false_eq_true,zbp,zbq,zbr,zbs,zbt,zan,beq_self_eq_true,zB,zbu,zbv,false_implies,zbw,ne_eq,zbx,zby,zbz,zca,zcb,zcc,yz,yy,zc,zb,za,zg]
   have hn:m≤0:=by by_cases h3:a<0<;>by_cases h4:b<0<;>simp [h3,h4] at h'<;>omega
   refine qz ?_ ?_
   ·rw [IntKind.wrap_i64,IntKind.wrap_i64];omega
   ·unfold in64; omega
  ·simp only [tu,sr,th,ft,gm,em,tg,ny,jz,jo,ov,cq,tq,nj,tm,tp,nr,ju,td,tl,ti,fu,nf,eh,ut,gr,kn,ow,go,aao,nq,ot,km,jt,nl,to,tx,yt,sq,ss,fp,ad0,yo,uu,pa,ud,uc,nw,zd,tt,nt,jv,oe,uj,oi,oo,el,di,kj,oh,ek,uk,kk,gk,zy,br,om,aaa,ol,ur,dt,zao,yw,yn,jw,jy,aen,aeo,aef,aee,kr,ke,zj,ahd,tj,uh,gj,gi,du,t7,de,vi,zn,qn,aba,xj,vn,xi,adj,vp,wu,ql,qm,ada,xb,abl,abu,toV,aa8,aa9,me,nz,lc,yes,aez,bad,t6,mu,mmL,oa,adi,eq2,eql,AV.isA,PO.see,PO.act,Vs.q,Rs.and,AV.bare,AV.may,abx,afo,afn,aby,ub,un1,um,xg,ia2,iab,leb,abm,ldb,ldr,ld1,zk,zu,fa1,abp,bnd,abc,ve,abr,src,jm,ej,l8,bt,PO.see.mayO,PO.see.bareO,i9,o6,iy,nv,AV.rv,rvs,AV.elt,frz,freeze,n8,au,stb,str,st2,vo,par,xl,abv,xa,ac9,az,il,ae8,RV.cells,AV.cells,AV.one,RV.one,AV.boxable,RV.good,d7,u9,qf,vk,ade,ae6,ae5,qk,qi,rm,AV.isNil,ua,oz,bv,m9,ix,v9,m0,ahe,n7,fwd,afb,yr,u4,j7,gt,jb,back,cw,imV,imL,imO,idx,bg,obs,keep,bz,zo,mn,xd,ue,rn,ab3,Ob.own,Value.oneCell',oy,kp,↓reduceIte,true_and,and_true,and_self,true_implies,imp_self,implies_true,zap,zaq,zar,zaa,zas,zat,zau,zav,zaw,zax,zay,zaz,zba,zbb,zbc,zai,zbd,zbe,zaj,zak,zbf,zbg,zbh,zbi,zbj,zal,zbk,zam,reduceCtorEq,zbl,zbm,zbn,zbo,decide_true,decide_false,if_true,if_false,false_and,and_false,not_true,not_false_eq_true,zbp,zbq,zbr,zbs,zbt,zan,beq_self_eq_true,zB,zbu,zbv,false_implies,zbw,ne_eq,zbx,zby,zbz,zca,zcb,zcc,yz,yy,zc,zb,za,zg]
   have hn:0≤m∧m.natAbs≠9223372036854775808:=by by_cases h3:a<0<;>by_cases h4:b<0<;>simp [h3,h4] at h'<;>omega
   refine qz ?_ ?_
   ·rw [IntKind.wrap_i64];omega
   ·unfold in64; omega
theorem a1q {a b c a' b' c':AV} (h1:a=a') (h2:b=b') (h3:c=c'):AV.tup [a,b,c]=AV.tup [a',b',c']:=by rw [h1,h2,h3]
theorem aco {k:IntKind} {a b:Int} (h:a=b):int k a=int k b:=by rw [h]
theorem av4 {a b:Bool} (h:a=b):bl a=bl b:=by rw [h]
theorem aom {a b:Int} (ha:in64 a) (hb:0<b):(-9223372036854775808≤a/b∧a/b≤9223372036854775807)∧(a.tmod b<0→a.tdiv b-1=a/b∧a.tmod b+b=a%b)∧(0≤a.tmod b→a.tdiv b=a/b∧a.tmod b=a%b):=by
 unfold in64 at ha;have h1:=Int.mul_tdiv_add_tmod a b;have h2:a.tmod b<b:=Int.tmod_lt_of_pos a hb
 have h3:-b<a.tmod b:=by
  have:=Int.lt_tmod_of_pos a hb;omega
 refine ⟨?_,fun h=>?_,fun h=>?_⟩
 ·have h4:=zcu a b;have h5:=zae a hb;have h6:=zaf a (show b≠0 by omega);generalize a/b=q at *;generalize a%b=r at *;constructor
  ·rcases zch q 0 with hq | hq
   ·have:b*(q+1)≤1*(q+1):=Int.mul_le_mul_of_nonpos_right (by omega) (by omega);rw [zci] at this;omega
   ·omega
  ·rcases zch q 0 with hq | hq
   ·omega
   ·have:1*q≤b*q:=zcv (by omega) hq;omega
 ·have:=(Int.ediv_emod_unique (a:=a) (b:=b) (r:=a.tmod b+b) (q:=a.tdiv b-1) hb).2 ⟨by rw [Int.mul_sub]; omega,by omega,by omega⟩;exact ⟨this.1.symm,this.2.symm⟩
 ·have:=(Int.ediv_emod_unique (a:=a) (b:=b) (r:=a.tmod b) (q:=a.tdiv b) hb).2 ⟨by omega,by omega,by omega⟩;exact ⟨this.1.symm,this.2.symm⟩
theorem pz (a b:Int) (ha:in64 a) (hb:in64 b):a8 P0 135 [int .i64 a,int .i64 b] [] (.tup [int .i64 (if 0<b then a/b else 0),int .i64 (if 0<b then a%b else 0),bl (decide (0<b))]) []:=by
 refine aps rfl (by decide) ?_
 push_cast [alu,zaa]
 refine b9 (fun h=>?_) (fun h=>?_)
 ·push_cast
  simp at h;have:¬0<b:=by omega
  simp [this]
 ·push_cast
  simp at h;refine ⟨by omega,by omega,by kernel_rfl,?_⟩;obtain ⟨q1,q2,q3⟩:=aom ha h;have hw:IntKind.i64.wrap (a.tdiv b)=a.tdiv b:=wrap_i64_tdiv a b ha.1 ha.2 (by omega);rw [hw];refine b9 (fun h'=>?_) (fun h'=>?_)
  ·push_cast
   simp at h';obtain ⟨e1,e2⟩:=q2 h';refine a1q (aco ?_) (aco ?_) (av4 ?_)
   ·rw [if_pos h,← e1,a5];unfold in64 at ha; rw [e1]; omega
   ·rw [if_pos h,← e2,a5];have h5:=zae a h;have h6:=zaf a (show b≠0 by omega);rw [e2];unfold in64 at hb; omega
   ·simp [h]
  ·push_cast
   simp at h';obtain ⟨e1,e2⟩:=q3 h';refine a1q (aco ?_) (aco ?_) (av4 ?_)
   ·rw [if_pos h,e1]
   ·rw [if_pos h,e2]
   ·simp [h]

def ag4:Mk P0 f229:={ x:=_ }
theorem aky:d5 229 1 ag4:=c8 func229
def va:PC:=
  (.seq (.reg [p_a 2 (.box (.t 0)),p_a 3 (.box (.t 1)),p_a 4 (.new [(.r (.v (.int .u64 0))),(.r (.v (.int .u64 0)))])])
 (.seq (.reg [p_s 10 (.fa 1 (.t 2)),p_s 11 (.ld none (.t 10)),p_s 12 (.fa 1 (.t 3)),p_s 13 (.ld none (.t 12)),p_s 14 (.carry false (.t 11) (.t 13) (.c (.r (.v (.int .u64 0))))),
 p_m 9 14,p_s 15 (.ext (.t 9) 0),p_s 16 (.ext (.t 9) 1),p_m 5 15,p_m 6 16])
 (.seq (.reg [p_s 18 (.fa 0 (.t 2)),p_s 19 (.ld none (.t 18)),p_s 20 (.fa 0 (.t 3)),p_s 21 (.ld none (.t 20)),p_m 22 6,p_s 23 (.carry false (.t 19) (.t 21) (.t 22)),p_m 17 23,
 p_s 24 (.ext (.t 17) 0),p_s 25 (.ext (.t 17) 1),p_m 7 24,p_m 8 25])
 (.seq (.reg [p_m 26 7,p_m 27 5,p_s 28 (.build [(.r (.v (.int .u64 0))),(.r (.v (.int .u64 0)))] [(0,1,(.t 26)),(1,1,(.t 27))]),⟨none,none,0,.act (.st 2 (.t 4) (.t 28))⟩])
 .ret))))
theorem ac0:Fun P0 153 2 [(4,false,some (221,(some 2)))] va:=afc func153 rfl (by decide) (by kernel_rfl) (by decide) rfl (by kernel_rfl) (by kernel_rfl) (by decide)
def qr:Mk P0 f154:={ x:=_ }
theorem aap:d5 154 1 qr:=c8 func154
def aa1:Mk P0 f151:={ x:=_ }
theorem af6:d5 151 2 aa1:=c8 func151
def sa:Mk P0 f186:={ x:=_ }
theorem abz:d5 186 1 sa:=c8 func186
def t9 (x:Int):AV:=.r (.agg [.v (.int .u64 (x/18446744073709551616%18446744073709551616)),.v (.int .u64 (x%18446744073709551616))])
theorem pp {x a b:Int} (h1:a=x/18446744073709551616%18446744073709551616) (h2:b=x%18446744073709551616):AV.r (.agg [.v (.int .u64 a),.v (.int .u64 b)])=t9 x:=by rw [h1,h2]; rfl
theorem bi1 (a:Int) (ha:in64 a):a.fdiv (2^min (Int.toNat 63) IntKind.i64.bits)=if a<0 then -1 else 0:=by
 have:(2:Int)^min (Int.toNat 63) IntKind.i64.bits=9223372036854775808:=by decide
 rw [this,zdb _ (by decide)];unfold in64 at ha;split<;>omega
theorem w_t (a:Int) (ha:in64 a):a8 P0 229 [int .i64 a] [] (t9 a) []:=by
 refine aky rfl (by decide) ?_;simp only [ag4,push_cast,↓reduceIte,reduceCtorEq,zB,zE,zA,zS,zL,zD,zM];refine ⟨by decide,pp ?_ ?_⟩
 ·rw [bi1 a ha,IntKind.wrap_u64];unfold in64 at ha;split<;>omega
 ·rw [IntKind.wrap_u64]
theorem bbl {x:Int} (h0:0≤x) (h1:x<18446744073709551616):IntKind.u64.wrap ((zab IntKind.u64.bits (if IntKind.u64.signed=true then -1 else IntKind.u64.max) ^^^ zab IntKind.u64.bits x).toNat)=18446744073709551615-x:=by
 obtain ⟨n,rfl⟩:=Int.eq_ofNat_of_zero_le h0;have e1:zab IntKind.u64.bits (if IntKind.u64.signed=true then -1 else IntKind.u64.max)=BitVec.allOnes 64:=by rfl
 have e2:zab IntKind.u64.bits (n:Int)=zcf 64 n:=by simp [IntKind.bits]
 rw [e1,e2];show IntKind.u64.wrap ((BitVec.allOnes 64 ^^^ zcf 64 n).toNat:Int) = _;rw [BitVec.allOnes_xor,BitVec.toNat_not,zdc,IntKind.wrap_u64];omega
theorem ara (a b:Int):a8 P0 153 [t9 a,t9 b] [] (t9 (a+b)) []:=by
 refine ac0 rfl (by decide) ?_
 push_cast [va,t9,zaa]
 refine ⟨by omega,by omega,pp (by omega) (by omega)⟩
theorem as8 (a:Int) (h:-170141183460469231731687303715884105728≤a∧a<170141183460469231731687303715884105728):a8 P0 186 [t9 a] [] (sm a) []:=by
 refine abz rfl (by decide) ?_
 push_cast [sa,t9,zaa]
 rw [IntKind.wrap_i64];refine d9 (w_t _ (by unfold in64; omega)) rfl trivial ?_
 push_cast [t9]
 refine ⟨by kernel_rfl,?_⟩;refine b9 (fun h=>?_) (fun h=>?_)
 ·push_cast
  refine ajc ?_;unfold in64;simp at h;omega
 ·push_cast
  simp at h;refine qz ?_ ?_
  ·omega
  ·unfold in64; omega
theorem ao2 (a:Int):a8 P0 154 [t9 a] [] (t9 (-a)) []:=by
 refine aap rfl (by decide) ?_
 push_cast [qr,t9,zaa]
 rw [bbl (by omega) (by omega),bbl (by omega) (by omega)];refine b7 (as':=[t9 (-1-a),t9 1]) ?_ ?_
 ·congr 1
  ·exact pp (by omega) (by omega)
 ·refine a7 (ara (-1-a) 1) rfl trivial ?_
  push_cast [t9]
  exact pp (by omega) (by omega)
theorem av9 (a:Int) (ha:in64 a):(a<0→IntKind.u64.wrap (0-IntKind.u64.wrap a)=a.natAbs)∧(¬a<0→IntKind.u64.wrap a=a.natAbs):=by
 unfold in64 at ha;rw [IntKind.wrap_u64,IntKind.wrap_u64];omega
theorem aia (a b:Int) (ha:in64 a) (hb:in64 b):a8 P0 151 [int .i64 a,int .i64 b] [] (t9 (a*b)) []:=by
 refine af6 rfl (by decide) ?_;have ha':=ha;have hb':=hb;unfold in64 at ha' hb';obtain ⟨wa1,wa2⟩:=av9 a ha;obtain ⟨wb1,wb2⟩:=av9 b hb;have hab:a.natAbs*b.natAbs=(a*b).natAbs:=(zcq a b).symm;have hle:(a*b).natAbs≤9223372036854775808*9223372036854775808:=by rw [← hab]; exact zcg (by omega) (by omega)
 have hs:(a<0∧b<0→0<a*b)∧(a<0∧0≤b→a*b≤0)∧(0≤a∧b<0→a*b≤0)∧(0≤a∧0≤b→0≤a*b):=
  ⟨fun h=>Int.mul_pos_of_neg_of_neg h.1 h.2,fun h=>Int.mul_nonpos_of_nonpos_of_nonneg (by omega) h.2,fun h=>Int.mul_nonpos_of_nonneg_of_nonpos h.1 (by omega),fun h=>zcr h.1 h.2⟩
 push_cast [aa1,zaa]
 refine b9 (fun h1=>?_) (fun h1=>?_)<;>push_cast<;>refine b9 (fun h2=>?_) (fun h2=>?_)<;>push_cast
 all_goals
  simp only [decide_eq_true_eq,decide_eq_false_iff_not] at h1 h2;refine b7 (as':=[int .u64 a.natAbs,int .u64 b.natAbs]) (by first | rw [wa1 h1,wb1 h2] | rw [wa1 h1,wb2 h2] | rw [wa2 h1,wb1 h2] | rw [wa2 h1,wb2 h2]) ?_;refine a7 (ats a.natAbs b.natAbs (by omega) (by omega)) rfl trivial ?_;rw [hab]
  push_cast [h1,h2,Bool.true_beq,Bool.false_beq]
  generalize a*b=m at *
 ·exact pp (by omega) (by omega)
 ·refine b7 (as':=[t9 (-m)]) (by congr 1; exact pp (by omega) (by omega)) ?_;refine a7 (ao2 (-m)) rfl trivial ?_
  push_cast [t9]
  exact pp (by omega) (by omega)
 ·refine b7 (as':=[t9 (-m)]) (by congr 1; exact pp (by omega) (by omega)) ?_;refine a7 (ao2 (-m)) rfl trivial ?_
  push_cast [t9]
  exact pp (by omega) (by omega)
 ·exact pp (by omega) (by omega)

def alt:Mk P0 f232:={ x:=_ }
theorem apr:d5 232 3 alt:=c8 func232
def arq:Mk P0 f196:={ x:=_ }
theorem atn:d5 196 2 arq:=c8 func196
def adw:Mk P0 f136:={ x:=_ }
theorem aiz:d5 136 2 adw:=c8 func136
theorem a77 (x a:Int) (y:Bool) (hx:in64 x) (ha:in64 a):a8 P0 232 [.ptr 1000000 0 0,.ptr 1000001 0 0,.ptr 1000002 0 0] [.box [int .i64 x],.box [int .i64 a],.box [bl y]] (.tup [])
  [.box [int .i64 (if in64 (x*a) then x*a else 0)],.box [int .i64 a],.box [bl (decide (in64 (x*a)))]]:=by
 refine apr rfl (by simp) ?_
 push_cast [alt,zaa]
 refine a7 (bjc x a hx ha) rfl trivial ?_
 push_cast [sm]
theorem a5g {a:Int} (h1:-1≤a) (h2:a≤1) (n:Nat):a^(min n (2-n%2))=a^n:=by
 have key:∀m:Nat,1≤m→a^(m+2)=a^m:=fun m hm=>by
  have:a=-1∨a=0∨a=1:=by omega
  rcases this with rfl | rfl | rfl
  ·rw [zcj,zcj]; omega
  ·rw [Int.zero_pow (by omega),Int.zero_pow (by omega)]
  ·rw [Int.one_pow,Int.one_pow]
 induction n using Nat.strongRecOn with
 | ind n ih=>
  rcases (show n=0∨n=1∨n=2∨3≤n by omega) with h | h | h | h
  ·subst h; rfl
  ·subst h; rfl
  ·subst h; rfl
  ·have:=ih (n-2) (by omega);have e:=key (n-2) (by omega);rw [show n-2+2=n by omega] at e;rw [e,← this];congr 1;omega
theorem az9 {x a T:Int} {n:Nat} (hx1:-1≤a∧a≤1→-1≤x∧x≤1) (hx:in64 x) (ha:in64 a) (h:¬in64 (x*a)) (hT:x*a*a^n=T):¬in64 T:=by
 have h4:¬(-1≤a∧a≤1):=fun hs=>by
  have:=hx1 hs;have h4:a=-1∨a=0∨a=1:=by omega
  apply h;unfold in64;rcases h4 with rfl | rfl | rfl<;>omega
 have h5:2≤a.natAbs:=by omega
 have h6:9223372036854775808≤(x*a).natAbs:=by unfold in64 at h; omega
 have h7:T.natAbs=(x*a).natAbs*a.natAbs^n:=by rw [← hT,zcq,Int.natAbs_pow]
 cases n with
 | zero=>
  simp at hT;rw [← hT]; exact h
 | succ n=>
  have h8:2≤a.natAbs^(n+1):=Nat.le_trans h5 (Nat.le_self_pow (by omega) _);have h9:9223372036854775808*2≤(x*a).natAbs*a.natAbs^(n+1):=zcg h6 h8;rw [← h7] at h9;unfold in64;omega
theorem bbe (a k:Int) (ha:in64 a) (hk:in64 k):a8 P0 196 [int .i64 a,int .i64 k] [] (if k<0 then .tup [int .i64 0,bl false] else sm (a^k.toNat)) []:=by
 refine atn rfl (by decide) ?_;simp only [arq,push_cast,↓reduceIte,reduceCtorEq,zB,zE,zA,zS,zL,zD,zM];refine b9 (fun h1=>?_) (fun h1=>?_)
 ·simp only [decide_eq_true_eq] at h1;simp only [if_pos h1,push_cast,↓reduceIte,reduceCtorEq,zB,zE,zA,zS,zL,zD,zM]
 ·simp only [decide_eq_false_iff_not] at h1;simp only [if_neg h1,push_cast,↓reduceIte,reduceCtorEq,zB,zE,zA,zS,zL,zD,zM];generalize hT:a^k.toNat=T;refine aj3 (fun e ob=>∃k',e 1=int .i64 k'∧e 2=.ptr 2 0 0∧0≤k'∧in64 k'∧a^k'.toNat=T∧(a=-1∨a=0∨a=1→k'≤2)∧ob=upd 2 (0,.box [int .i64 a]) (fun _=>none)) ?_ (fun h2=>?_) (fun h2=>?_)
  ·rintro e ob ⟨k',he1,he2,hk0,hk1,hkT,hk3,rfl⟩;simp only [he1,he2,push_cast,↓reduceIte,reduceCtorEq,zB,zE,zA,zS,zL,zD,zM]
   refine run_loop [(1,false),(6,false),(2,false),(7,false),(8,false)] (fun vs pos los=>∃(j x:Int) (y:Bool),0≤j∧in64 j∧in64 x∧(y=true→x*a^j.toNat=T)∧(y=false→x=0∧¬in64 T)∧(-1≤a∧a≤1→-1≤x∧x≤1) ∧
    vs=[int .i64 j,.ptr 2000000 0 0,.ptr 2000001 0 0,.ptr 2000002 0 0,.fn (.func 232) [.ptr 2000000 0 0,.ptr 2000001 0 0,.ptr 2000002 0 0]]∧pos=[]∧los=[.box [int .i64 x],.box [int .i64 a],.box [bl y]])
    (fun vs _ _=>match vs with | .r (.v (.int _ j))::_=>j.toNat | _=>0) rfl ?_ ?_
   ·simp only [he1,he2,push_cast,↓reduceIte,reduceCtorEq,zB,zE,zA,zS,zL,zD,zM];exact ⟨k',1,true,hk0,hk1,by decide,fun _=>by rw [zck,hkT],by simp,fun _=>by decide,rfl,rfl⟩
   ·rintro vs pos los ⟨j,x,y,j0,j1,x0,hy1,hy2,hx1,rfl,rfl,rfl⟩;simp only [push_cast,↓reduceIte,reduceCtorEq,zB,zE,zA,zS,zL,zD,zM];refine b9 (fun h=>?_) (fun h=>?_)
    ·have hj:0<j:=by
      rcases zch 0 j with h' | h'
      ·exact h'
      ·simp [show ¬j>0 by omega] at h
     have hy:y=true:=by simpa [hj] using h
     simp only [push_cast,↓reduceIte,reduceCtorEq,zB,zE,zA,zS,zL,zD,zM];refine ⟨by kernel_rfl,?_⟩;refine a7 (a77 x a y x0 ha) rfl ⟨rfl,rfl,rfl,trivial⟩ ?_;simp only [push_cast,↓reduceIte,reduceCtorEq,zB,zE,zA,zS,zL,zD,zM];have hw:IntKind.i64.wrap (j-1)=j-1:=a5 (by unfold in64 at j1; omega);rw [hw];have hjn:j.toNat=(j-1).toNat+1:=by omega
     have hT':x*a*a^(j-1).toNat=T:=by
      rw [← hy1 hy,hjn,zcj,Int.mul_assoc,Int.mul_comm a]
     refine ⟨⟨j-1,_,_,by omega,by unfold in64 at j1 ⊢; omega,?_,?_,?_,?_,rfl,rfl⟩,by omega⟩
     ·split
      ·assumption
      ·decide
     ·intro hd;rw [if_pos (of_decide_eq_true hd)];exact hT'
     ·intro hd;have hd:=of_decide_eq_false hd;rw [if_neg hd];refine ⟨rfl,?_⟩;exact az9 hx1 x0 ha hd hT'
     ·intro hs;have:=hx1 hs;have h4:a=-1∨a=0∨a=1:=by omega
      split
      ·rcases h4 with rfl | rfl | rfl<;>omega
      ·omega
    ·simp only [push_cast,↓reduceIte,reduceCtorEq,zB,zE,zA,zS,zL,zD,zM];refine ⟨by kernel_rfl,?_⟩;cases y with
     | true=>
      have hj:j=0:=by
       rcases zch 0 j with h' | h'
       ·simp [h'] at h
       ·omega
      subst hj;have:=hy1 rfl;simp at this;subst this;exact qz rfl x0
     | false=>
      obtain ⟨rfl,hn⟩:=hy2 rfl;exact ajc hn
  ·simp only [push_cast,↓reduceIte,reduceCtorEq,zB,zE,zA,zS,zL,zD,zM]
   have h4:a=-1∨a=0∨a=1:=by
    by_cases p:a≥-1<;>by_cases q:a≤1<;>simp [p,q] at h2<;>omega
   have e0:k.tmod 2=k%2:=by
    rw [zcl (by omega)]
   have ew:IntKind.i64.wrap (2-k.tmod 2)=2-k%2:=by rw [e0]; exact a5 (by omega)
   rw [ew];refine ⟨by decide,min k (2-k%2),rfl,by omega,by unfold in64 at *; omega,?_,by omega⟩;rw [show (min k (2-k%2)).toNat=min k.toNat (2-k.toNat%2) by omega,a5g (by omega) (by omega),hT]
  ·simp only [push_cast,↓reduceIte,reduceCtorEq,zB,zE,zA,zS,zL,zD,zM];refine ⟨k,rfl,by omega,hk,hT,fun h=>?_⟩;rcases h with rfl | rfl | rfl<;>simp at h2

theorem a8y {a:Int} (h:-1≤a∧a≤1) (n:Nat):-1≤a^n∧a^n≤1:=by
 induction n with
 | zero=>simp
 | succ n ih=>
  rw [zcj];have:a=-1∨a=0∨a=1:=by omega
  rcases this with rfl | rfl | rfl<;>omega
theorem am5 (n:Nat):(-1:Int)^n=if n%2=1 then -1 else 1:=by
 induction n with
 | zero=>rfl
 | succ n ih=>
  rw [zcj,ih];split<;>split<;>omega
theorem bf3 (a k:Int) (ha:in64 a) (hk:in64 k):a8 P0 136 [int .i64 a,int .i64 k] [] (if k<0 then .tup [int .i64 0,bl false] else sm (a^k.toNat)) []:=by
 refine aiz rfl (by decide) ?_;simp only [adw,push_cast,↓reduceIte,reduceCtorEq,zB,zE,zA,zS,zL,zD,zM];refine b9 (fun h1=>?_) (fun h1=>?_)
 ·simp only [decide_eq_true_eq] at h1;simp only [if_pos h1,push_cast,↓reduceIte,reduceCtorEq,zB,zE,zA,zS,zL,zD,zM]
 ·simp only [decide_eq_false_iff_not] at h1;simp only [if_neg h1,push_cast,↓reduceIte,reduceCtorEq,zB,zE,zA,zS,zL,zD,zM]
  refine run_loop [(0,false),(1,false),(6,false),(7,false)] (fun vs pos los=>∃(n i:Int),0≤i∧i≤k∧in64 n∧n=a^i.toNat∧vs=[int .i64 a,int .i64 k,int .i64 n,int .i64 i]∧pos=[]∧los=[])
   (fun vs _ _=>match vs with | [_,_,_,.r (.v (.int _ j))]=>(k-j).toNat | _=>0) rfl ?_ ?_
  ·simp only [push_cast,↓reduceIte,reduceCtorEq,zB,zE,zA,zS,zL,zD,zM];exact ⟨1,0,by omega,by omega,by decide,by simp,rfl⟩
  ·rintro vs pos los ⟨n,i,i0,ik,hn,hna,rfl,rfl,rfl⟩;simp only [push_cast,↓reduceIte,reduceCtorEq,zB,zE,zA,zS,zL,zD,zM];unfold in64 at hk;refine b9 (fun h=>?_) (fun h=>?_)
   ·simp only [decide_eq_true_eq] at h;simp only [push_cast,↓reduceIte,reduceCtorEq,zB,zE,zA,zS,zL,zD,zM]
    repeat refine And.intro (by simp +contextual) ?_
    have hT:n*a*a^(k-i-1).toNat=a^k.toNat:=by
     rw [hna,Int.mul_assoc,← Int.pow_succ',← Int.pow_add];congr 1;omega
    refine b9 (fun h2=>?_) (fun h2=>?_)
    ·simp only [push_cast,↓reduceIte,reduceCtorEq,zB,zE,zA,zS,zL,zD,zM]
     have h3:n=0∨a=1:=by
      by_cases p:n=0<;>by_cases q:n=1<;>by_cases r:a=1<;>simp [p,q,r] at h2 ⊢
     refine qz ?_ ?_
     ·rcases h3 with h3 | h3
      ·rw [← hT,h3]; simp
      ·rw [hna,h3,Int.one_pow,Int.one_pow]
     ·rcases h3 with h3 | h3
      ·rw [← hT,h3]; simp; decide
      ·rw [h3,Int.one_pow]; decide
    ·simp only [push_cast,↓reduceIte,reduceCtorEq,zB,zE,zA,zS,zL,zD,zM];refine b9 (fun h4=>?_) (fun h4=>?_)
     ·simp only [push_cast,↓reduceIte,reduceCtorEq,zB,zE,zA,zS,zL,zD,zM];have h4:a=-1:=by simpa using h4
      subst h4;have e0:k.tmod 2=k%2:=zcl (by omega);refine ⟨by decide,?_⟩;rw [e0];refine b9 (fun h5=>?_) (fun h5=>?_)
      ·simp only [push_cast,↓reduceIte,reduceCtorEq,zB,zE,zA,zS,zL,zD,zM];have h5:k%2=1:=by simpa using h5
       exact qz (by rw [am5,if_pos (by omega)]) (by rw [am5,if_pos (by omega)]; decide)
      ·simp only [push_cast,↓reduceIte,reduceCtorEq,zB,zE,zA,zS,zL,zD,zM];have h5:¬k%2=1:=by simpa using h5
       exact qz (by rw [am5,if_neg (by omega)]) (by rw [am5,if_neg (by omega)]; decide)
     ·simp only [push_cast,↓reduceIte,reduceCtorEq,zB,zE,zA,zS,zL,zD,zM];refine a7 (aia n a hn ha) rfl trivial ?_;simp only [t9,push_cast,↓reduceIte,reduceCtorEq,zB,zE,zA,zS,zL,zD,zM]
      have hb:(n*a).natAbs≤9223372036854775808*9223372036854775808:=by
       rw [zcq];unfold in64 at hn ha;exact zcg (by omega) (by omega)
      refine b7 (as':=[t9 (n*a)]) rfl ?_;refine a7 (as8 (n*a) (by omega)) rfl trivial ?_;simp only [sm,push_cast,↓reduceIte,reduceCtorEq,zB,zE,zA,zS,zL,zD,zM];refine b9 (fun h6=>?_) (fun h6=>?_)
      ·simp only [push_cast,↓reduceIte,reduceCtorEq,zB,zE,zA,zS,zL,zD,zM];have h6:¬in64 (n*a):=by simpa using h6
       refine ajc ?_;exact az9 (fun hs=>by rw [hna]; exact a8y hs _) hn ha h6 hT
      ·simp only [push_cast,↓reduceIte,reduceCtorEq,zB,zE,zA,zS,zL,zD,zM];have h6:in64 (n*a):=by simpa using h6
       rw [if_pos h6,show IntKind.i64.wrap (i+1)=i+1 from a5 (by omega)];refine ⟨⟨n*a,i+1,by omega,by omega,h6,?_,rfl⟩,by omega⟩;rw [show (i+1).toNat=i.toNat+1 by omega,zcj,← hna]
   ·simp only [decide_eq_false_iff_not] at h;simp only [push_cast,↓reduceIte,reduceCtorEq,zB,zE,zA,zS,zL,zD,zM];have:i=k:=by omega
    subst this;exact qz hna (by rw [← hna]; exact hn)

def ahp:Mk P0 f169:={ x:=_ }
theorem ag2:d5 169 1 ahp:=c8 func169
def adl:PC:=
  (.seq (.reg [p_s 2 (.mov (o_i 0))])
 (.seq (.seq (.reg [p_m 3 0,p_s 4 (.bin .geq (.t 3) (.c (.r (.v (.int .u64 4294967296)))))])
 (.cond (.t 4)
 (.seq (.reg [p_m 5 0,p_s 6 (.bin .shr (.t 5) (.c (.r (.v (.int .u64 32))))),p_m 0 6])
 (.reg [p_s 2 (.mov (o_i 32))]))
 .skip))
 (.seq (.seq (.reg [p_m 7 0,p_s 8 (.bin .geq (.t 7) (.c (.r (.v (.int .u64 65536)))))])
 (.cond (.t 8)
 (.seq (.reg [p_m 9 0,p_s 10 (.bin .shr (.t 9) (.c (.r (.v (.int .u64 16))))),p_m 0 10])
 (.reg [p_m 11 2,p_s 12 (.bin .add (.t 11) (o_i 16)),p_m 2 12]))
 .skip))
 (.seq (.seq (.reg [p_m 13 0,p_s 14 (.bin .geq (.t 13) (.c (.r (.v (.int .u64 256)))))])
 (.cond (.t 14)
 (.seq (.reg [p_m 15 0,p_s 16 (.bin .shr (.t 15) (.c (.r (.v (.int .u64 8))))),p_m 0 16])
 (.reg [p_m 17 2,p_s 18 (.bin .add (.t 17) (o_i 8)),p_m 2 18]))
 .skip))
 (.seq (.reg [p_m 19 2,p_m 20 0,p_s 21 (.conv .u8 (.t 20)),p_s 22 (.ixs (.c (.r (.v (.string ⟨#[0,1,2,2,3,3,3,3,4,4,4,4,4,4,4,4,5,5,5,5,5,5,5,5,5,5,5,5,5,5,5,5,6,6,6,6,6,6,6,6,6,6,6,6,6,6,6,6,6,6,6,6,6,6,6,6,6,6,6,6,6,6,6,6,7,7,7,7,7,7,7,7,7,7,7,7,7,7,7,7,7,7,7,7,7,7,7,7,7,7,7,7,7,7,7,7,7,7,7,7,7,7,7,7,7,7,7,7,7,7,7,7,7,7,7,7,7,7,7,7,7,7,7,7,7,7,7,7,8,8,8,8,8,8,8,8,8,8,8,8,8,8,8,8,8,8,8,8,8,8,8,8,8,8,8,8,8,8,8,8,8,8,8,8,8,8,8,8,8,8,8,8,8,8,8,8,8,8,8,8,8,8,8,8,8,8,8,8,8,8,8,8,8,8,8,8,8,8,8,8,8,8,8,8,8,8,8,8,8,8,8,8,8,8,8,8,8,8,8,8,8,8,8,8,8,8,8,8,8,8,8,8,8,8,8,8,8,8,8,8,8,8,8,8,8,8,8,8,8,8,8,8,8,8,8,8]⟩)))) (.t 21)),
 p_s 23 (.conv .i64 (.t 22)),p_s 24 (.bin .add (.t 19) (.t 23)),p_m 2 24])
 .ret)))))
theorem adu:Fun P0 214 1 [(2,false,none)] adl:=afc func214 rfl (by decide) (by kernel_rfl) (by decide) rfl (by kernel_rfl) (by kernel_rfl) (by decide)

structure Ei where
 a:Int
 b:Int
deriving DecidableEq
def Ei.rv (z:Ei):RV:=.agg [.v (.int .i64 z.a),.v (.int .i64 z.b)]
def Ei.v (z:Ei):AV:=.r z.rv
def Ei.mul (x y:Ei):Ei:=⟨x.a*y.a-x.b*y.b,x.a*y.b+x.b*y.a+x.b*y.b⟩
def Ei.add (x y:Ei):Ei:=⟨x.a+y.a,x.b+y.b⟩
def Ei.sub (x y:Ei):Ei:=⟨x.a-y.a,x.b-y.b⟩
def Ei.conj (x:Ei):Ei:=⟨x.a+x.b,-x.b⟩
def Ei.In (z:Ei) (n:Int):Prop:=(-n≤z.a∧z.a≤n)∧(-n≤z.b∧z.b≤n)
def Ei.H (z:Ei) (n:Int):Prop:=(-n≤z.a∧z.a≤n)∧(-n≤z.b∧z.b≤n)∧(-n≤z.a+z.b∧z.a+z.b≤n)
theorem Ei.ext' {x y:Ei} (h1:x.a=y.a) (h2:x.b=y.b):x=y:=by cases x; cases y; simp_all
theorem Ei.In.mono {z:Ei} {n m:Int} (h:z.In n) (hm:n≤m):z.In m:=by unfold Ei.In at *; omega
theorem Ei.H.mono {z:Ei} {n m:Int} (h:z.H n) (hm:n≤m):z.H m:=by unfold Ei.H at *; omega
theorem Ei.H.in {z:Ei} {n:Int} (h:z.H n):z.In n:=by unfold Ei.H Ei.In at *; omega
def ar:Ei:=⟨2,1⟩
theorem fm {x y n m:Int} (h1:-n≤x∧x≤n) (h2:-m≤y∧y≤m):-(n*m)≤x*y∧x*y≤n*m:=by
 have h:(x*y).natAbs≤n.toNat*m.toNat:=by rw [zcq]; exact zcg (by omega) (by omega)
 have h3:((n.toNat*m.toNat:Nat):Int)=n*m:=by
  rw [Int.natCast_mul,Int.toNat_of_nonneg (by omega),Int.toNat_of_nonneg (by omega)]
 omega
def i7 (d s t:Int):Prop:=(-d≤2*s+t∧2*s+t≤d)∧(-d≤s+2*t∧s+2*t≤d)∧(-d≤s-t∧s-t≤d)
instance (d s t:Int):Decidable (i7 d s t):=inferInstanceAs (Decidable (_∧_∧_))
def gc (d s t:Int):Ei:=if i7 d s t then ⟨0,0⟩ else if i7 d s (t-d) then ⟨0,1⟩ else if i7 d (s-d) t then ⟨1,0⟩ else ⟨1,1⟩
def Ei.round (u:Ei) (d:Int):Ei:=⟨u.a/d+(gc d (u.a%d) (u.b%d)).a,u.b/d+(gc d (u.a%d) (u.b%d)).b⟩
theorem arw {d s t:Int} (hs:0≤s∧s<d) (ht:0≤t∧t<d) :
  i7 d (s-(gc d s t).a*d) (t-(gc d s t).b*d)∧(0≤(gc d s t).a∧(gc d s t).a≤1)∧(0≤(gc d s t).b∧(gc d s t).b≤1):=by
 unfold gc;split
 ·next h=>unfold i7 at *; dsimp only; omega
 ·split
  ·next h=>unfold i7 at *; dsimp only; omega
  ·split
   ·next h=>unfold i7 at *; dsimp only; omega
   ·next h=>unfold i7 at *; dsimp only; omega
theorem near0_first {d s t i k : Int} (hs : 0 ≤ s ∧ s < d) (ht : 0 ≤ t ∧ t < d) (hi : -1 ≤ i ∧ i ≤ 2) (hk : -1 ≤ k ∧ k ≤ 2)
    (h:i7 d (s-i*d) (t-k*d)) (h1:∀k',-1≤k'→k'<k→¬i7 d (s-i*d) (t-k'*d))
    (h2:∀i' k',-1≤i'→i'<i→-1≤k'→k'≤2→¬i7 d (s-i'*d) (t-k'*d)):gc d s t=⟨i,k⟩:=by
  have hi':i=-1∨i=0∨i=1∨i=2:=by omega
  have hk':k=-1∨k=0∨k=1∨k=2:=by omega
  have e0:(-1:Int)*d=-d:=by omega
  have n00:(0<i∨(i=0∧0<k))→¬i7 d s t:=fun c=>by
    rcases c with c | ⟨c,c'⟩
    · have:=h2 0 0 (by omega) c (by omega) (by omega); simpa using this
    · have:=h1 0 (by omega) c'; rw [c] at this; simpa using this
  have n01:(0<i∨(i=0∧1<k))→¬i7 d s (t-d):=fun c=>by
    rcases c with c | ⟨c,c'⟩
    · have:=h2 0 1 (by omega) c (by omega) (by omega); simpa using this
    · have:=h1 1 (by omega) c'; rw [c] at this; simpa using this
  have n10:(1<i∨(i=1∧0<k))→¬i7 d (s-d) t:=fun c=>by
    rcases c with c | ⟨c,c'⟩
    · have:=h2 1 0 (by omega) c (by omega) (by omega); simpa using this
    · have:=h1 0 (by omega) c'; rw [c] at this; simpa using this
  clear h1 h2
  rcases hi' with rfl | rfl | rfl | rfl<;>rcases hk' with rfl | rfl | rfl | rfl <;>
    first
    | (exfalso; unfold i7 at h; omega)
    | (simp only [Int.zero_mul,zck,Int.sub_zero] at h
       simp [gc,h]; done)
    | (simp only [Int.zero_mul,zck,Int.sub_zero] at h
       simp [gc,h,n00,n01,n10])
theorem a9i {d s t:Int} (hs:0≤s∧s<d) (ht:0≤t∧t<d)
  (h2:∀i' k',-1≤i'→i'<3→-1≤k'→k'≤2→¬i7 d (s-i'*d) (t-k'*d)):False:=by
 obtain ⟨h,ha,hb⟩:=arw hs ht;exact h2 _ _ (by omega) (by omega) (by omega) (by omega) h
def fr (d a b:Int) (z:Ei):Int:=d*(z.a*z.a+z.a*z.b+z.b*z.b)-z.a*(2*a+b)-z.b*(a+2*b)
def pk (d a b:Int) (p:Int×Ei) (z:Ei):Int×Ei:=if fr d a b z<p.1 then (fr d a b z,z) else p
def ab9:List Ei:=[⟨0,1⟩,⟨1,0⟩,⟨1,1⟩]
theorem azb {d a b:Int} (ha:0≤a∧a<d) (hb:0≤b∧b<d):(ab9.foldl (pk d a b) (0,⟨0,0⟩)).2=gc d a b:=by
 simp only [ab9,List.foldl_cons,List.foldl_nil];have e1:fr d a b ⟨0,1⟩=d-(a+2*b):=by simp [fr]
 have e2:fr d a b ⟨1,0⟩=d-(2*a+b):=by simp [fr]
 have e3:fr d a b ⟨1,1⟩=d*3-(2*a+b)-(a+2*b):=by simp [fr]
 unfold gc;by_cases c1:d-(a+2*b)<0
 ·by_cases c2:d-(2*a+b)<d-(a+2*b)
  ·by_cases c3:d*3-(2*a+b)-(a+2*b)<d-(2*a+b)
   ·simp only [pk,e1,e2,e3,c1,c2,c3,if_true];rw [if_neg (by unfold i7; omega),if_neg (by unfold i7; omega),if_neg (by unfold i7; omega)]
   ·simp only [pk,e1,e2,e3,c1,c2,c3,if_true,if_false];rw [if_neg (by unfold i7; omega),if_neg (by unfold i7; omega),if_pos (by unfold i7; omega)]
  ·by_cases c3:d*3-(2*a+b)-(a+2*b)<d-(a+2*b)
   ·simp only [pk,e1,e2,e3,c1,c2,c3,if_true,if_false];rw [if_neg (by unfold i7; omega),if_neg (by unfold i7; omega),if_neg (by unfold i7; omega)]
   ·simp only [pk,e1,e2,e3,c1,c2,c3,if_true,if_false];rw [if_neg (by unfold i7; omega),if_pos (by unfold i7; omega)]
 ·by_cases c2:d-(2*a+b)<0
  ·by_cases c3:d*3-(2*a+b)-(a+2*b)<d-(2*a+b)
   ·simp only [pk,e1,e2,e3,c1,c2,c3,if_true,if_false];rw [if_neg (by unfold i7; omega),if_neg (by unfold i7; omega),if_neg (by unfold i7; omega)]
   ·simp only [pk,e1,e2,e3,c1,c2,c3,if_true,if_false];rw [if_neg (by unfold i7; omega),if_neg (by unfold i7; omega),if_pos (by unfold i7; omega)]
  ·by_cases c3:d*3-(2*a+b)-(a+2*b)<0
   ·exfalso; omega
   ·simp only [pk,e1,e2,e3,c1,c2,c3,if_true,if_false];rw [if_pos (by unfold i7; omega)]
theorem j8 (u:Ei) {d:Int} (hd:0<d):i7 d (u.a-(u.round d).a*d) (u.b-(u.round d).b*d):=by
 have h1:=zcu u.a d;have h2:=zcu u.b d;have h3:=zae u.a hd;have h4:=zaf u.a (show d≠0 by omega);have h5:=zae u.b hd;have h6:=zaf u.b (show d≠0 by omega);obtain ⟨h,_⟩:=arw (d:=d) (s:=u.a%d) (t:=u.b%d) ⟨h4,h3⟩ ⟨h6,h5⟩
 have e1:u.a-(u.round d).a*d=u.a%d-(gc d (u.a%d) (u.b%d)).a*d:=by
  simp only [Ei.round,Int.add_mul];rw [Int.mul_comm (u.a/d) d];omega
 have e2:u.b-(u.round d).b*d=u.b%d-(gc d (u.a%d) (u.b%d)).b*d:=by
  simp only [Ei.round,Int.add_mul];rw [Int.mul_comm (u.b/d) d];omega
 rw [e1,e2]; exact h
def pr (z:Ei):Ei:=(z.mul ⟨3,-1⟩).round 7
def lft (z:Ei):Ei:=z.sub ((pr z).mul ar)
def dgOf (l:Ei):Nat:=if l=⟨1,0⟩ then 1 else if l=⟨0,1⟩ then 2 else if l=⟨-1,1⟩ then 3 else if l=⟨-1,0⟩ then 4 else if l=⟨0,-1⟩ then 5 else if l=⟨1,-1⟩ then 6 else 0
def dg (z:Ei):Nat:=dgOf (lft z)
def uni (d:Nat):Ei:=match d with | 0=>⟨1,0⟩ | 1=>⟨0,1⟩ | 2=>⟨-1,1⟩ | 3=>⟨-1,0⟩ | 4=>⟨0,-1⟩ | _=>⟨1,-1⟩
def aej (z:Ei) (d:Nat):Ei:=if d=0 then z.mul ar else (z.mul ar).add (uni (d-1))
theorem dg_lt (z : Ei) : dg z < 7 := by unfold dg dgOf; repeat' split
                                        all_goals omega
theorem aet (z:Ei):∃l:Ei,lft z=l∧l.H 1∧z.a=2*(pr z).a-(pr z).b+l.a∧z.b=(pr z).a+3*(pr z).b+l.b:=by
 have h:=j8 (z.mul ⟨3,-1⟩) (d:=7) (by decide);refine ⟨lft z,rfl,?_,?_,?_⟩
 ·unfold i7 at h;unfold Ei.H lft Ei.sub pr;simp only [Ei.mul,ar] at *;generalize Ei.round _ 7=q at *;simp only [Int.mul_one,Int.mul_neg] at *;omega
 ·simp only [lft,Ei.sub,Ei.mul,ar]; omega
 ·simp only [lft,Ei.sub,Ei.mul,ar]; omega
theorem a27 (z:Ei):aej (pr z) (dg z)=z:=by
 obtain ⟨l,hl,h1,h2,h3⟩:=aet z;have h0:=j8 (z.mul ⟨3,-1⟩) (d:=7) (by decide)
 have hl7:l=⟨0,0⟩∨l=⟨1,0⟩∨l=⟨0,1⟩∨l=⟨-1,1⟩∨l=⟨-1,0⟩∨l=⟨0,-1⟩∨l=⟨1,-1⟩:=by
  obtain ⟨a,b⟩:=l;unfold Ei.H at h1;dsimp only at h1;simp only [Ei.mk.injEq];omega
 unfold aej dg;rw [hl];rcases hl7 with rfl | rfl | rfl | rfl | rfl | rfl | rfl<;>apply Ei.ext'<;>simp [dgOf,uni,Ei.add,Ei.mul,ar] at h2 h3 ⊢ <;> omega
def anc:Nat→Ei→Ei
 | 0,z=>z
 | k+1,z=>anc k (pr z)
theorem akb (k:Nat) (z:Ei):anc (k+1) z=pr (anc k z):=by
 induction k generalizing z with
 | zero=>rfl
 | succ k ih=>rw [anc,ih]; rfl
def val:Nat→Ei→Nat
 | 0,_=>0
 | r+1,z=>val r (pr z)*8+dg z
theorem a32 (r:Nat) (z:Ei):val r z<8^r:=by
 induction r generalizing z with
 | zero=>simp [val]
 | succ r ih=>
  have:=ih (pr z);have:=dg_lt z;rw [val,zcm];omega
theorem bb7 (r i:Nat) (z:Ei) (h:i≤r):val r z/8^i=val (r-i) (anc i z):=by
 induction i generalizing r z with
 | zero=>simp [anc]
 | succ i ih=>
  obtain ⟨r,rfl⟩:∃m,r=m+1:=⟨r-1,by omega⟩
  rw [show r+1-(i+1)=r-i by omega,anc,← ih r (pr z) (by omega),zcm,zcn,← zdd,val];have:=dg_lt z;congr 1;omega
def okc (r:Nat) (z:Ei):Prop:=r≤12∧z.In 1073741824∧(-512≤(anc r z).a∧(anc r z).a≤511)∧(-512≤(anc r z).b∧(anc r z).b≤511)
instance (r:Nat) (z:Ei):Decidable (okc r z):=by unfold okc Ei.In; infer_instance
def od (r:Nat) (q:Ei):Nat:=((16+r)*1024+(q.a+512).toNat)*1024+(q.b+512).toNat
def x8 (r:Nat) (z:Ei):Nat:=(od r (anc r z)*8^r+val r z)*8^(12-r)+(8^(12-r)-1)
def dgt (w i:Nat):Nat:=w/8^(12-i)%8
def ec (w:Nat):Nat:=w/72057594037927936%16
def a3j (w:Nat):Ei:=⟨((w/70368744177664%1024:Nat):Int)-512,((w/68719476736%1024:Nat):Int)-512⟩
def z8 (w:Nat):Nat→Ei
 | 0=>a3j w
 | i+1=>aej (z8 w i) (dgt w (i+1))
def isW (w:Nat):Prop:=w/1152921504606846976=1∧ec w≤12∧∀i,1≤i→i≤12→(dgt w i=7↔ec w<i)
theorem ai3 (r:Nat) (z:Ei) (hr:r≤12):x8 r z/68719476736=od r (anc r z):=by
 have hv:=a32 r z;have e:(68719476736:Nat)=8^r*8^(12-r):=by rw [← zac,show r+(12-r)=12 by omega]
 have hp:0<8^(12-r):=zce (by decide);have hq:0<8^r:=zce (by decide);rw [e,zcn (8^r),← zdd,x8]
 have h1:((od r (anc r z)*8^r+val r z)*8^(12-r)+(8^(12-r)-1))/8^(12-r)=od r (anc r z)*8^r+val r z:=by
  rw [Nat.add_comm,zcs _ _ hp,zcw (by omega)]; omega
 rw [h1,Nat.add_comm,zcs _ _ hq,zcw hv]; omega
theorem aov (r i:Nat) (z:Ei) (hr:r≤12) (h1:1≤i) (h2:i≤r):dgt (x8 r z) i=dg (anc (r-i) z):=by
 have hp:0<8^(12-r):=zce (by decide);have e:8^(12-i)=8^(12-r)*8^(r-i):=by rw [← zac,show 12-r+(r-i)=12-i by omega]
 unfold dgt x8;rw [e,← zdd]
 have h3:((od r (anc r z)*8^r+val r z)*8^(12-r)+(8^(12-r)-1))/8^(12-r)=od r (anc r z)*8^r+val r z:=by
  rw [Nat.add_comm,zcs _ _ hp,zcw (by omega)]; omega
 rw [h3]
 have e2:od r (anc r z)*8^r=od r (anc r z)*8^(i-1)*8*8^(r-i):=by
  rw [zah (od r (anc r z)),← zcm,zah,← zac,show i-1+1+(r-i)=r by omega]
 rw [e2,Nat.add_comm,zcs _ _ (zce (by decide)),bb7 r (r-i) z (by omega),show r-(r-i)=(i-1)+1 by omega,val];have:=dg_lt (anc (r-i) z);generalize od r (anc r z)*8^(i-1)=m;omega
theorem aql (r i:Nat) (z:Ei) (h1:r<i) (h2:i≤12):dgt (x8 r z) i=7:=by
 unfold dgt x8;have e:8^(12-r)=8^(i-r-1)*8*8^(12-i):=by rw [← zcm,← zac,show i-r-1+1+(12-i)=12-r by omega]
 have hq:0<8^(12-i):=zce (by decide);have hq2:0<8^(i-r-1):=zce (by decide);rw [e];generalize od r (anc r z)*8^r+val r z=m;generalize hx:8^(i-r-1)=x at *;generalize hy:8^(12-i)=y at *
 have h3:m*(x*8*y)+(x*8*y-1)=(y-1)+(m*(x*8)+(x*8-1))*y:=by
  have:(x*8-1)*y=x*8*y-y:=by rw [Nat.sub_mul,Nat.one_mul]
  have h5:y≤x*8*y:=Nat.le_mul_of_pos_left _ (by omega);rw [zcd,this,← zah];omega
 rw [h3,zcs _ _ hq,zcw (by omega)];have h4:m*(x*8)=m*x*8:=(zah _ _ _).symm;omega
theorem ajw (r:Nat) (q:Ei) (hr:r≤12) (ha:-512≤q.a∧q.a≤511) (hb:-512≤q.b∧q.b≤511) :
  od r q/16777216=1∧od r q/1048576%16=r∧((od r q/1024%1024:Nat):Int)-512=q.a∧((od r q%1024:Nat):Int)-512=q.b:=by
 unfold od;omega
theorem amy (r:Nat) (z:Ei) (h:okc r z):x8 r z<18446744073709551616:=by
 have h1:=ai3 r z h.1;have h2:=ajw r (anc r z) h.1 h.2.2.1 h.2.2.2;omega
theorem aou (r:Nat) (z:Ei) (h:okc r z):isW (x8 r z)∧ec (x8 r z)=r:=by
 have h1:=ai3 r z h.1;have h2:=ajw r (anc r z) h.1 h.2.2.1 h.2.2.2;have h3:ec (x8 r z)=r:=by unfold ec; omega
 refine ⟨⟨by omega,by rw [h3]; exact h.1,fun i i1 i2=>?_⟩,h3⟩;rw [h3];by_cases hi:r<i
 ·simp [hi,aql r i z hi i2]
 ·simp only [hi,iff_false];rw [aov r i z h.1 i1 (by omega)];have:=dg_lt (anc (r-i) z);omega
theorem a3u (r i:Nat) (z:Ei) (h:okc r z) (hi:i≤r):z8 (x8 r z) i=anc (r-i) z:=by
 induction i with
 | zero=>
  have h1:=ai3 r z h.1;have h2:=ajw r (anc r z) h.1 h.2.2.1 h.2.2.2;apply Ei.ext'<;>simp only [z8,a3j]<;>rw [Nat.sub_zero]<;>omega
 | succ i ih=>
  rw [z8,ih (by omega),aov r (i+1) z h.1 (by omega) hi];rw [show r-i=r-(i+1)+1 by omega,akb,a27]

def g7:Nat→Ei
 | 0=>⟨1,0⟩
 | k+1=>(g7 k).mul ar
theorem ll (k:Nat) (h:k≤12):(g7 k).In 120000:=by
 have:∀j:Fin 13,(g7 j.val).In 120000:=by unfold Ei.In; decide
 exact this ⟨k,by omega⟩
def ax (x y:Int):Ei:=⟨45*x-26*y,52*y⟩
def g9 (x y:Int) (r:Nat):Ei:=((ax x y).mul (g7 (12-r)).conj).round (2340*7^(12-r))
theorem adb {z:Ei} {n m:Int} (h:z.H n) (hm:3*n+4<7*(m+1)):(pr z).H m:=by
 have h7:=j8 (z.mul ⟨3,-1⟩) (d:=7) (by decide);unfold i7 at h7;unfold Ei.H pr at *;simp only [Ei.mul] at *;generalize Ei.round _ 7=q at *;simp only [Int.mul_one,Int.mul_neg] at *;omega
theorem dq {z:Ei} {n m:Int} (h:z.H n) (hm:19*n+330<343*(m+1)):(anc 3 z).H m:=by
 obtain ⟨l1,_,g1,e1,f1⟩:=aet z;obtain ⟨l2,_,g2,e2,f2⟩:=aet (pr z);obtain ⟨l3,_,g3,e3,f3⟩:=aet (pr (pr z));show (pr (pr (pr z))).H m;generalize pr (pr (pr z))=q at *;generalize pr (pr z)=q2 at *;generalize pr z=q1 at *;unfold Ei.H at *;omega
theorem a0m (x y:Int) (hx:0≤x∧x<1073741824) (hy:0≤y∧y<1073741824):(g9 x y 0).H 260:=by
 have h:=j8 ((ax x y).mul (g7 (12-0)).conj) (d:=2340*7^(12-0)) (by decide);have e:(g7 (12-0)).conj=⟨-128231,102960⟩:=by decide
 have ed:(2340*7^(12-0):Int)=32388612050340:=by decide
 unfold g9;generalize Ei.round _ _=q at *;rw [e,ed] at h;unfold i7 Ei.H at *;simp only [Ei.mul,ax] at *;omega
theorem a0l (x y:Int) (hx:0≤x∧x<1073741824) (hy:0≤y∧y<1073741824):(g9 x y 1).H 734:=by
 have h:=j8 ((ax x y).mul (g7 (12-1)).conj) (d:=2340*7^(12-1)) (by decide);have e:(g7 (12-1)).conj=⟨-51346,25807⟩:=by decide
 have ed:(2340*7^(12-1):Int)=4626944578620:=by decide
 unfold g9;generalize Ei.round _ _=q at *;rw [e,ed] at h;unfold i7 Ei.H at *;simp only [Ei.mul,ax] at *;omega
theorem a0k (x y:Int) (hx:0≤x∧x<1073741824) (hy:0≤y∧y<1073741824):(g9 x y 2).H 2004:=by
 have h:=j8 ((ax x y).mul (g7 (12-2)).conj) (d:=2340*7^(12-2)) (by decide);have e:(g7 (12-2)).conj=⟨-18357,3725⟩:=by decide
 have ed:(2340*7^(12-2):Int)=660992082660:=by decide
 unfold g9;generalize Ei.round _ _=q at *;rw [e,ed] at h;unfold i7 Ei.H at *;simp only [Ei.mul,ax] at *;omega
theorem a0j (x y:Int) (hx:0≤x∧x<1073741824) (hy:0≤y∧y<1073741824):(g9 x y 3).H 4887:=by
 have h:=j8 ((ax x y).mul (g7 (12-3)).conj) (d:=2340*7^(12-3)) (by decide);have e:(g7 (12-3)).conj=⟨-5777,-1026⟩:=by decide
 have ed:(2340*7^(12-3):Int)=94427440380:=by decide
 unfold g9;generalize Ei.round _ _=q at *;rw [e,ed] at h;unfold i7 Ei.H at *;simp only [Ei.mul,ax] at *;omega
theorem a0i (x y:Int) (hx:0≤x∧x<1073741824) (hy:0≤y∧y<1073741824):(g9 x y 4).H 13376:=by
 have h:=j8 ((ax x y).mul (g7 (12-4)).conj) (d:=2340*7^(12-4)) (by decide);have e:(g7 (12-4)).conj=⟨-1504,-1265⟩:=by decide
 have ed:(2340*7^(12-4):Int)=13489634340:=by decide
 unfold g9;generalize Ei.round _ _=q at *;rw [e,ed] at h;unfold i7 Ei.H at *;simp only [Ei.mul,ax] at *;omega
theorem a0h (x y:Int) (hx:0≤x∧x<1073741824) (hy:0≤y∧y<1073741824):(g9 x y 5).H 37163:=by
 have h:=j8 ((ax x y).mul (g7 (12-5)).conj) (d:=2340*7^(12-5)) (by decide);have e:(g7 (12-5)).conj=⟨-249,-757⟩:=by decide
 have ed:(2340*7^(12-5):Int)=1927090620:=by decide
 unfold g9;generalize Ei.round _ _=q at *;rw [e,ed] at h;unfold i7 Ei.H at *;simp only [Ei.mul,ax] at *;omega
theorem a0g (x y:Int) (hx:0≤x∧x<1073741824) (hy:0≤y∧y<1073741824):(g9 x y 6).H 92189:=by
 have h:=j8 ((ax x y).mul (g7 (12-6)).conj) (d:=2340*7^(12-6)) (by decide);have e:(g7 (12-6)).conj=⟨37,-360⟩:=by decide
 have ed:(2340*7^(12-6):Int)=275298660:=by decide
 unfold g9;generalize Ei.round _ _=q at *;rw [e,ed] at h;unfold i7 Ei.H at *;simp only [Ei.mul,ax] at *;omega
theorem a0f (x y:Int) (hx:0≤x∧x<1073741824) (hy:0≤y∧y<1073741824):(g9 x y 7).H 243699:=by
 have h:=j8 ((ax x y).mul (g7 (12-7)).conj) (d:=2340*7^(12-7)) (by decide);have e:(g7 (12-7)).conj=⟨62,-149⟩:=by decide
 have ed:(2340*7^(12-7):Int)=39328380:=by decide
 unfold g9;generalize Ei.round _ _=q at *;rw [e,ed] at h;unfold i7 Ei.H at *;simp only [Ei.mul,ax] at *;omega
theorem a0e (x y:Int) (hx:0≤x∧x<1073741824) (hy:0≤y∧y<1073741824):(g9 x y 8).H 688202:=by
 have h:=j8 ((ax x y).mul (g7 (12-8)).conj) (d:=2340*7^(12-8)) (by decide);have e:(g7 (12-8)).conj=⟨39,-55⟩:=by decide
 have ed:(2340*7^(12-8):Int)=5618340:=by decide
 unfold g9;generalize Ei.round _ _=q at *;rw [e,ed] at h;unfold i7 Ei.H at *;simp only [Ei.mul,ax] at *;omega
theorem a0d (x y:Int) (hx:0≤x∧x<1073741824) (hy:0≤y∧y<1073741824):(g9 x y 9).H 1735123:=by
 have h:=j8 ((ax x y).mul (g7 (12-9)).conj) (d:=2340*7^(12-9)) (by decide);have e:(g7 (12-9)).conj=⟨19,-18⟩:=by decide
 have ed:(2340*7^(12-9):Int)=802620:=by decide
 unfold g9;generalize Ei.round _ _=q at *;rw [e,ed] at h;unfold i7 Ei.H at *;simp only [Ei.mul,ax] at *;omega
theorem axj (x y:Int) (hx:0≤x∧x<1073741824) (hy:0≤y∧y<1073741824):(g9 x y 10).H 4429444:=by
 have h:=j8 ((ax x y).mul (g7 (12-10)).conj) (d:=2340*7^(12-10)) (by decide);have e:(g7 (12-10)).conj=⟨8,-5⟩:=by decide
 have ed:(2340*7^(12-10):Int)=114660:=by decide
 unfold g9;generalize Ei.round _ _=q at *;rw [e,ed] at h;unfold i7 Ei.H at *;simp only [Ei.mul,ax] at *;omega
theorem axi (x y:Int) (hx:0≤x∧x<1073741824) (hy:0≤y∧y<1073741824):(g9 x y 11).H 12717090:=by
 have h:=j8 ((ax x y).mul (g7 (12-11)).conj) (d:=2340*7^(12-11)) (by decide);have e:(g7 (12-11)).conj=⟨3,-1⟩:=by decide
 have ed:(2340*7^(12-11):Int)=16380:=by decide
 unfold g9;generalize Ei.round _ _=q at *;rw [e,ed] at h;unfold i7 Ei.H at *;simp only [Ei.mul,ax] at *;omega
theorem axh (x y:Int) (hx:0≤x∧x<1073741824) (hy:0≤y∧y<1073741824):(g9 x y 12).H 32579347:=by
 have h:=j8 ((ax x y).mul (g7 (12-12)).conj) (d:=2340*7^(12-12)) (by decide);have e:(g7 (12-12)).conj=⟨1,0⟩:=by decide
 have ed:(2340*7^(12-12):Int)=2340:=by decide
 unfold g9;generalize Ei.round _ _=q at *;rw [e,ed] at h;unfold i7 Ei.H at *;simp only [Ei.mul,ax] at *;omega
theorem bib {z:Ei} (h0:z.H 260):(anc 0 z).H 511:=by
 exact h0.mono (by decide)
theorem a2s (x y:Int) (hx:0≤x∧x<1073741824) (hy:0≤y∧y<1073741824):(anc 0 (g9 x y 0)).H 511:=bib (a0m x y hx hy)
theorem bia {z:Ei} (h0:z.H 734):(anc 1 z).H 511:=by
 have h1:=adb (m:=315) h0 (by decide);exact h1.mono (by decide)
theorem a2r (x y:Int) (hx:0≤x∧x<1073741824) (hy:0≤y∧y<1073741824):(anc 1 (g9 x y 1)).H 511:=bia (a0l x y hx hy)
theorem bh9 {z:Ei} (h0:z.H 2004):(anc 2 z).H 511:=by
 have h1:=adb (m:=859) h0 (by decide);have h2:=adb (m:=368) h1 (by decide);exact h2.mono (by decide)
theorem a2q (x y:Int) (hx:0≤x∧x<1073741824) (hy:0≤y∧y<1073741824):(anc 2 (g9 x y 2)).H 511:=bh9 (a0k x y hx hy)
theorem bh8 {z:Ei} (h0:z.H 4887):(anc 3 z).H 511:=by
 have h1:=dq (m:=271) h0 (by decide);exact h1.mono (by decide)
theorem a2p (x y:Int) (hx:0≤x∧x<1073741824) (hy:0≤y∧y<1073741824):(anc 3 (g9 x y 3)).H 511:=bh8 (a0j x y hx hy)
theorem bh7 {z:Ei} (h0:z.H 13376):(anc 4 z).H 511:=by
 have h1:=adb (m:=5733) h0 (by decide);have h2:=dq (m:=318) h1 (by decide);exact h2.mono (by decide)
theorem a2o (x y:Int) (hx:0≤x∧x<1073741824) (hy:0≤y∧y<1073741824):(anc 4 (g9 x y 4)).H 511:=bh7 (a0i x y hx hy)
theorem bh6 {z:Ei} (h0:z.H 37163):(anc 5 z).H 511:=by
 have h1:=adb (m:=15927) h0 (by decide);have h2:=adb (m:=6826) h1 (by decide);have h3:=dq (m:=379) h2 (by decide);exact h3.mono (by decide)
theorem a2n (x y:Int) (hx:0≤x∧x<1073741824) (hy:0≤y∧y<1073741824):(anc 5 (g9 x y 5)).H 511:=bh6 (a0h x y hx hy)
theorem bh5 {z:Ei} (h0:z.H 92189):(anc 6 z).H 511:=by
 have h1:=dq (m:=5107) h0 (by decide);have h2:=dq (m:=283) h1 (by decide);exact h2.mono (by decide)
theorem a2m (x y:Int) (hx:0≤x∧x<1073741824) (hy:0≤y∧y<1073741824):(anc 6 (g9 x y 6)).H 511:=bh5 (a0g x y hx hy)
theorem bh4 {z:Ei} (h0:z.H 243699):(anc 7 z).H 511:=by
 have h1:=adb (m:=104443) h0 (by decide);have h2:=dq (m:=5786) h1 (by decide);have h3:=dq (m:=321) h2 (by decide);exact h3.mono (by decide)
theorem a2l (x y:Int) (hx:0≤x∧x<1073741824) (hy:0≤y∧y<1073741824):(anc 7 (g9 x y 7)).H 511:=bh4 (a0f x y hx hy)
theorem bh3 {z:Ei} (h0:z.H 688202):(anc 8 z).H 511:=by
 have h1:=adb (m:=294944) h0 (by decide);have h2:=adb (m:=126405) h1 (by decide);have h3:=dq (m:=7002) h2 (by decide);have h4:=dq (m:=388) h3 (by decide);exact h4.mono (by decide)
theorem a2k (x y:Int) (hx:0≤x∧x<1073741824) (hy:0≤y∧y<1073741824):(anc 8 (g9 x y 8)).H 511:=bh3 (a0e x y hx hy)
theorem bh2 {z:Ei} (h0:z.H 1735123):(anc 9 z).H 511:=by
 have h1:=dq (m:=96115) h0 (by decide);have h2:=dq (m:=5325) h1 (by decide);have h3:=dq (m:=295) h2 (by decide);exact h3.mono (by decide)
theorem a2j (x y:Int) (hx:0≤x∧x<1073741824) (hy:0≤y∧y<1073741824):(anc 9 (g9 x y 9)).H 511:=bh2 (a0d x y hx hy)
theorem ben {z:Ei} (h0:z.H 4429444):(anc 10 z).H 511:=by
 have h1:=adb (m:=1898333) h0 (by decide);have h2:=dq (m:=105156) h1 (by decide);have h3:=dq (m:=5825) h2 (by decide);have h4:=dq (m:=323) h3 (by decide);exact h4.mono (by decide)
theorem aza (x y:Int) (hx:0≤x∧x<1073741824) (hy:0≤y∧y<1073741824):(anc 10 (g9 x y 10)).H 511:=ben (axj x y hx hy)
theorem bem {z:Ei} (h0:z.H 12717090):(anc 11 z).H 511:=by
 have h1:=adb (m:=5450182) h0 (by decide);have h2:=adb (m:=2335792) h1 (by decide);have h3:=dq (m:=129388) h2 (by decide);have h4:=dq (m:=7168) h3 (by decide);have h5:=dq (m:=398) h4 (by decide);exact h5.mono (by decide)
theorem ay9 (x y:Int) (hx:0≤x∧x<1073741824) (hy:0≤y∧y<1073741824):(anc 11 (g9 x y 11)).H 511:=bem (axi x y hx hy)
theorem bel {z:Ei} (h0:z.H 32579347):(anc 12 z).H 511:=by
 have h1:=dq (m:=1804687) h0 (by decide);have h2:=dq (m:=99969) h1 (by decide);have h3:=dq (m:=5538) h2 (by decide);have h4:=dq (m:=307) h3 (by decide);exact h4.mono (by decide)
theorem ay8 (x y:Int) (hx:0≤x∧x<1073741824) (hy:0≤y∧y<1073741824):(anc 12 (g9 x y 12)).H 511:=bel (axh x y hx hy)
theorem bgu (x y:Int) (r:Nat) (hx:0≤x∧x<1073741824) (hy:0≤y∧y<1073741824) (hr:r≤12):(g9 x y r).H 32579347:=by
 rcases (show r=0∨r=1∨r=2∨r=3∨r=4∨r=5∨r=6∨r=7∨r=8∨r=9∨r=10∨r=11∨r=12 by omega) with rfl | rfl | rfl | rfl | rfl | rfl | rfl | rfl | rfl | rfl | rfl | rfl | rfl
 ·exact (a0m x y hx hy).mono (by decide)
 ·exact (a0l x y hx hy).mono (by decide)
 ·exact (a0k x y hx hy).mono (by decide)
 ·exact (a0j x y hx hy).mono (by decide)
 ·exact (a0i x y hx hy).mono (by decide)
 ·exact (a0h x y hx hy).mono (by decide)
 ·exact (a0g x y hx hy).mono (by decide)
 ·exact (a0f x y hx hy).mono (by decide)
 ·exact (a0e x y hx hy).mono (by decide)
 ·exact (a0d x y hx hy).mono (by decide)
 ·exact (axj x y hx hy).mono (by decide)
 ·exact (axi x y hx hy).mono (by decide)
 ·exact (axh x y hx hy).mono (by decide)
theorem a50 (x y:Int) (r:Nat) (hx:0≤x∧x<1073741824) (hy:0≤y∧y<1073741824) (hr:r≤12):(anc r (g9 x y r)).H 511:=by
 rcases (show r=0∨r=1∨r=2∨r=3∨r=4∨r=5∨r=6∨r=7∨r=8∨r=9∨r=10∨r=11∨r=12 by omega) with rfl | rfl | rfl | rfl | rfl | rfl | rfl | rfl | rfl | rfl | rfl | rfl | rfl
 ·exact a2s x y hx hy
 ·exact a2r x y hx hy
 ·exact a2q x y hx hy
 ·exact a2p x y hx hy
 ·exact a2o x y hx hy
 ·exact a2n x y hx hy
 ·exact a2m x y hx hy
 ·exact a2l x y hx hy
 ·exact a2k x y hx hy
 ·exact a2j x y hx hy
 ·exact aza x y hx hy
 ·exact ay9 x y hx hy
 ·exact ay8 x y hx hy
theorem ri (x y:Int) (r:Nat) (hx:0≤x∧x<1073741824) (hy:0≤y∧y<1073741824) (hr:r≤12):okc r (g9 x y r):=by
 have h1:=bgu x y r hx hy hr;have h2:=a50 x y r hx hy hr;unfold okc;unfold Ei.In;unfold Ei.H at h1 h2;omega

def ais:Mk P0 f171:={ x:=_ }
theorem amg:d5 171 2 ais:=c8 func171
def acp:PC:=
  (.seq (.reg [p_a 2 (.box (.t 0)),p_a 3 (.box (.t 1)),p_a 4 (.new [(.r (.v (.int .i64 0))),(.r (.v (.int .u64 0)))])])
 (.seq (.reg [p_s 8 (.fa 1 (.t 2)),p_s 9 (.ld none (.t 8)),p_s 10 (.fa 1 (.t 3)),p_s 11 (.ld none (.t 10)),p_s 12 (.carry false (.t 9) (.t 11) (.c (.r (.v (.int .u64 0))))),
 p_m 7 12,p_s 13 (.ext (.t 7) 0),p_s 14 (.ext (.t 7) 1),p_m 5 13,p_m 6 14])
 (.seq (.reg [p_s 15 (.fa 0 (.t 2)),p_s 16 (.ld none (.t 15)),p_s 17 (.fa 0 (.t 3)),p_s 18 (.ld none (.t 17)),p_s 19 (.bin .add (.t 16) (.t 18)),p_m 20 6,p_s 21 (.conv .i64 (.t 20)),
 p_s 22 (.bin .add (.t 19) (.t 21)),p_m 23 5,p_s 24 (.build [(.r (.v (.int .i64 0))),(.r (.v (.int .u64 0)))] [(0,1,(.t 22)),(1,1,(.t 23))]),⟨none,none,0,.act (.st 2 (.t 4) (.t 24))⟩])
 .ret)))
theorem ahg:Fun P0 170 2 [(4,false,some (246,(some 2)))] acp:=afc func170 rfl (by decide) (by kernel_rfl) (by decide) rfl (by kernel_rfl) (by kernel_rfl) (by decide)
def aav:PC:=
  (.seq (.reg [p_a 2 (.box (.t 0)),p_a 3 (.box (.t 1)),p_a 4 (.new [(.r (.v (.int .i64 0))),(.r (.v (.int .u64 0)))])])
 (.seq (.reg [p_s 8 (.fa 1 (.t 2)),p_s 9 (.ld none (.t 8)),p_s 10 (.fa 1 (.t 3)),p_s 11 (.ld none (.t 10)),p_s 12 (.carry true (.t 9) (.t 11) (.c (.r (.v (.int .u64 0))))),
 p_m 7 12,p_s 13 (.ext (.t 7) 0),p_s 14 (.ext (.t 7) 1),p_m 5 13,p_m 6 14])
 (.seq (.reg [p_s 15 (.fa 0 (.t 2)),p_s 16 (.ld none (.t 15)),p_s 17 (.fa 0 (.t 3)),p_s 18 (.ld none (.t 17)),p_s 19 (.bin .sub (.t 16) (.t 18)),p_m 20 6,p_s 21 (.conv .i64 (.t 20)),
 p_s 22 (.bin .sub (.t 19) (.t 21)),p_m 23 5,p_s 24 (.build [(.r (.v (.int .i64 0))),(.r (.v (.int .u64 0)))] [(0,1,(.t 22)),(1,1,(.t 23))]),⟨none,none,0,.act (.st 2 (.t 4) (.t 24))⟩])
 .ret)))
theorem af0:Fun P0 172 2 [(4,false,some (246,(some 2)))] aav:=afc func172 rfl (by decide) (by kernel_rfl) (by decide) rfl (by kernel_rfl) (by kernel_rfl) (by decide)
def aau:Mk P0 f173:={ x:=_ }
theorem afz:d5 173 1 aau:=c8 func173
def akm:Mk P0 f174:={ x:=_ }
theorem anw:d5 174 4 akm:=c8 func174
def amj:Mk P0 f121:={ x:=_ }
theorem ap8:d5 121 2 amj:=c8 func121
def wid (x:Int):AV:=.r (.agg [.v (.int .i64 (IntKind.i64.wrap (x/18446744073709551616))),.v (.int .u64 (x%18446744073709551616))])
theorem awd {x a b:Int} (h1:a=IntKind.i64.wrap (x/18446744073709551616)) (h2:b=x%18446744073709551616):AV.r (.agg [.v (.int .i64 a),.v (.int .u64 b)])=wid x:=by rw [h1,h2]; rfl
theorem azl (a b:Int):a8 P0 170 [wid a,wid b] [] (wid (a+b)) []:=by
 refine ahg rfl (by decide) ?_
 push_cast [acp,wid,zaa]
 refine ⟨by omega,awd ?_ ?_⟩
 ·simp only [IntKind.wrap_i64]; omega
 ·omega
theorem a7x (a b:Int):a8 P0 172 [wid a,wid b] [] (wid (a-b)) []:=by
 refine af0 rfl (by decide) ?_
 push_cast [aav,wid,zaa]
 refine ⟨by omega,awd ?_ ?_⟩
 ·simp only [IntKind.wrap_i64]; omega
 ·omega
theorem av8 (a:Int) (h:-170141183460469231731687303715884105728≤a∧a<170141183460469231731687303715884105728):a8 P0 173 [wid a] [] (sm a) []:=by
 refine afz rfl (by decide) ?_
 push_cast [aau,wid,zaa]
 rw [IntKind.wrap_i64,IntKind.wrap_i64];have hn:in64 a→(a%18446744073709551616+9223372036854775808)%18446744073709551616-9223372036854775808=a:=by unfold in64; omega
 have hh:(a/18446744073709551616+9223372036854775808)%18446744073709551616-9223372036854775808=a/18446744073709551616:=by omega
 rw [hh];have h0:a/18446744073709551616=0→(a%18446744073709551616+9223372036854775808)%18446744073709551616-9223372036854775808≥0→in64 a:=by unfold in64; omega
 have h1:a/18446744073709551616=-1→(a%18446744073709551616+9223372036854775808)%18446744073709551616-9223372036854775808<0→in64 a:=by unfold in64; omega
 have h2:in64 a→(a/18446744073709551616=0∧(a%18446744073709551616+9223372036854775808)%18446744073709551616-9223372036854775808≥0)∨(a/18446744073709551616=-1∧(a%18446744073709551616+9223372036854775808)%18446744073709551616-9223372036854775808<0):=by unfold in64; omega
 generalize a/18446744073709551616=q at *;generalize (a%18446744073709551616+9223372036854775808)%18446744073709551616-9223372036854775808=n at *;refine ⟨by simp +contextual,by simp +contextual; omega,b9 (fun hc=>?_) (fun hc=>?_)⟩
 ·push_cast
  have hy:in64 a:=by
   by_cases c1:n<0
   ·by_cases c2:q=-1
    ·exact h1 c2 c1
    ·simp [c1,c2] at hc; omega
   ·by_cases c2:q=0
    ·exact h0 c2 (by omega)
    ·simp [c1,c2] at hc
  exact qz (hn hy) hy
 ·push_cast
  refine ajc fun hy=>?_;rcases h2 hy with ⟨e1,e2⟩ | ⟨e1,e2⟩
  ·simp [e1,e2] at hc
  ·simp [e1,e2] at hc
theorem am8 {a:Int} (ha:in64 a):IntKind.u64.wrap a=if a<0 then a+18446744073709551616 else a:=by
 unfold in64 at ha;rw [IntKind.wrap_u64];split<;>omega
theorem ai2 (a b:Int) (ha:in64 a) (hb:in64 b):a8 P0 171 [int .i64 a,int .i64 b] [] (wid (a*b)) []:=by
 refine amg rfl (by decide) ?_
 push_cast [ais,zaa]
 have ha':=ha;have hb':=hb;unfold in64 at ha' hb'
 have hu:∀x:Int,in64 x→((IntKind.u64.wrap x).toNat:Int)=if x<0 then x+18446744073709551616 else x:=fun x hx=>by
  rw [am8 hx];unfold in64 at hx;split<;>omega
 have hu0:∀x:Int,in64 x→(IntKind.u64.wrap x).toNat<18446744073709551616:=fun x hx=>by
  rw [am8 hx];unfold in64 at hx;split<;>omega
 refine b7 (as':=[int .u64 (IntKind.u64.wrap a).toNat,int .u64 (IntKind.u64.wrap b).toNat]) (by rw [hu a ha,hu b hb,am8 ha,am8 hb]) ?_;refine a7 (ats _ _ (hu0 a ha) (hu0 b hb)) rfl trivial ?_
 push_cast
 have hp:((IntKind.u64.wrap a).toNat:Int)*((IntKind.u64.wrap b).toNat:Int)=a*b+(if a<0 then b*18446744073709551616 else 0)+(if b<0 then a*18446744073709551616 else 0)+(if a<0 then if b<0 then 340282366920938463463374607431768211456 else 0 else 0):=by
  rw [hu a ha,hu b hb];split<;>split<;>(try simp only [Int.add_mul,zci])<;>omega
 rw [hp];generalize a*b=m;refine b9 (fun h1=>?_) (fun h1=>?_)<;>push_cast<;>refine b9 (fun h2=>?_) (fun h2=>?_)<;>push_cast
 all_goals
  simp only [decide_eq_true_eq,decide_eq_false_iff_not] at h1 h2;simp only [h1,h2,if_true,if_false];refine awd ?_ ?_
  ·simp only [IntKind.wrap_i64]; omega
  ·omega
theorem asz (a b:Int):a8 P0 174 [int .i64 a,bl true,int .i64 b,bl true] [] (.tup [Ei.v ⟨a,b⟩,bl true]) []:=by
 refine anw rfl (by decide) ?_
 push_cast [akm,Ei.v,Ei.rv,zaa]
abbrev M63:Int:=9223372036854775807
theorem Ei.In.ok {z:Ei} (h:z.In M63):in64 z.a∧in64 z.b:=by unfold Ei.In M63 at h; unfold in64; omega
theorem bgh {x y:Ei} (hx:x.In 4611686018427387904) (hy:y.In 4611686018427387904):(-21267647932558653966460912964485513216≤x.a*y.a∧x.a*y.a≤21267647932558653966460912964485513216)∧(-21267647932558653966460912964485513216≤x.a*y.b∧x.a*y.b≤21267647932558653966460912964485513216)∧(-21267647932558653966460912964485513216≤x.b*y.a∧x.b*y.a≤21267647932558653966460912964485513216)∧(-21267647932558653966460912964485513216≤x.b*y.b∧x.b*y.b≤21267647932558653966460912964485513216):=
 ⟨fm hx.1 hy.1,fm hx.1 hy.2,fm hx.2 hy.1,fm hx.2 hy.2⟩
theorem afd (x y:Ei) (hx:x.In 4611686018427387904) (hy:y.In 4611686018427387904) (hz:(x.mul y).In M63):a8 P0 121 [x.v,y.v] [] (.tup [(x.mul y).v,bl true]) []:=by
 refine ap8 rfl (by decide) ?_;have hz1:=hz.ok.1;have hz2:=hz.ok.2;simp only [Ei.mul] at hz1 hz2
 push_cast [amj,Ei.v,Ei.rv,zaa]
 have hx1:in64 x.a∧in64 x.b:=by unfold Ei.In at hx; unfold in64; omega
 have hy1:in64 y.a∧in64 y.b:=by unfold Ei.In at hy; unfold in64; omega
 refine a7 (ai2 x.b y.b hx1.2 hy1.2) rfl trivial ?_
 push_cast [wid]
 refine d9 (ai2 x.a y.a hx1.1 hy1.1) rfl trivial ?_
 push_cast [wid]
 refine q8 (as':=[wid (x.a*y.a),wid (x.b*y.b)]) rfl ?_;refine d9 (a7x _ _) rfl trivial ?_
 push_cast [wid]
 refine q8 (as':=[wid (x.a*y.a-x.b*y.b)]) rfl ?_;refine d9 (av8 _ ?_) rfl trivial ?_
 ·have:=bgh hx hy;omega
 push_cast [sm,hz1,if_pos]
 refine And.intro (by kernel_rfl) ?_;refine d9 (ai2 x.a y.b hx1.1 hy1.2) rfl trivial ?_
 push_cast [wid]
 refine d9 (ai2 x.b y.a hx1.2 hy1.1) rfl trivial ?_
 push_cast [wid]
 refine And.intro (by kernel_rfl) ?_;refine q8 (as':=[wid (x.a*y.b),wid (x.b*y.a)]) rfl ?_;refine d9 (azl _ _) rfl trivial ?_
 push_cast [wid]
 refine And.intro (by kernel_rfl) ?_;refine q8 (as':=[wid (x.a*y.b+x.b*y.a),wid (x.b*y.b)]) rfl ?_;refine d9 (azl _ _) rfl trivial ?_
 push_cast [wid]
 refine q8 (as':=[wid (x.a*y.b+x.b*y.a+x.b*y.b)]) rfl ?_;refine d9 (av8 _ ?_) rfl trivial ?_
 ·have:=bgh hx hy;omega
 push_cast [sm,hz2,if_pos]
 refine And.intro (by kernel_rfl) ?_;refine a7 (asz _ _) rfl trivial ?_
 push_cast [Ei.v,Ei.rv,Ei.mul]

def abt:Mk P0 f175:={ x:=_ }
theorem acq:d5 175 3 abt:=c8 func175
def amk:Mk P0 f122:={ x:=_ }
theorem ap9:d5 122 2 amk:=c8 func122
def amh:Mk P0 f234:={ x:=_ }
theorem ap7:d5 234 2 amh:=c8 func234
def ako:Mk P0 f195:={ x:=_ }
theorem anz:d5 195 1 ako:=c8 func195
def akn:Mk P0 f123:={ x:=_ }
theorem anx:d5 123 1 akn:=c8 func123
def akp:Mk P0 f125:={ x:=_ }
theorem an0:d5 125 1 akp:=c8 func125
def akj:Mk P0 f178:={ x:=_ }
theorem ant:d5 178 2 akj:=c8 func178
def ait:Mk P0 f197:={ x:=_ }
theorem ami:d5 197 2 ait:=c8 func197
theorem ad4 {x:Int} (h:in64 x):sm x=.tup [int .i64 x,bl true]:=by simp [sm,h]
theorem a6q (x y:Ei) (hx:x.In M63) (hy:y.In M63) (hz:(x.add y).In M63):a8 P0 122 [x.v,y.v] [] (.tup [(x.add y).v,bl true]) []:=by
 have hs:a8 P0 175 [x.v,y.v,.fn (.func 176) []] [] (.tup [(x.add y).v,bl true]) []:=by
  refine acq rfl (by decide) ?_
  push_cast [abt,Ei.v,Ei.rv,zaa]
  refine ⟨by kernel_rfl,?_⟩;refine a7 (a3o _ _ hx.ok.1 hy.ok.1) rfl trivial ?_;rw [ad4 (show in64 (x.a+y.a) from hz.ok.1)]
  push_cast
  refine ⟨by kernel_rfl,?_⟩;refine a7 (a3o _ _ hx.ok.2 hy.ok.2) rfl trivial ?_;rw [ad4 (show in64 (x.b+y.b) from hz.ok.2)]
  push_cast
  refine a7 (asz _ _) rfl trivial ?_
  push_cast [Ei.v,Ei.rv,Ei.add]
 refine ap9 rfl (by decide) ?_
 push_cast [amk,Ei.v,Ei.rv,zaa]
 refine b7 (as':=[x.v,y.v,.fn (.func 176) []]) rfl ?_;refine a7 hs rfl trivial ?_
 push_cast [Ei.v,Ei.rv,Ei.add]
theorem bhp (x y:Ei) (hx:x.In M63) (hy:y.In M63) (hz:(x.sub y).In M63):a8 P0 234 [x.v,y.v] [] (.tup [(x.sub y).v,bl true]) []:=by
 have hs:a8 P0 175 [x.v,y.v,.fn (.func 246) []] [] (.tup [(x.sub y).v,bl true]) []:=by
  refine acq rfl (by decide) ?_
  push_cast [abt,Ei.v,Ei.rv,zaa]
  refine ⟨by kernel_rfl,?_⟩;refine a7 (a1v _ _ hx.ok.1 hy.ok.1) rfl trivial ?_;rw [ad4 (show in64 (x.a-y.a) from hz.ok.1)]
  push_cast
  refine ⟨by kernel_rfl,?_⟩;refine a7 (a1v _ _ hx.ok.2 hy.ok.2) rfl trivial ?_;rw [ad4 (show in64 (x.b-y.b) from hz.ok.2)]
  push_cast
  refine a7 (asz _ _) rfl trivial ?_
  push_cast [Ei.v,Ei.rv,Ei.sub]
 refine ap7 rfl (by decide) ?_
 push_cast [amh,Ei.v,Ei.rv,zaa]
 refine b7 (as':=[x.v,y.v,.fn (.func 246) []]) rfl ?_;refine a7 hs rfl trivial ?_
 push_cast [Ei.v,Ei.rv,Ei.sub]
theorem a04 (x:Ei) (hx:x.In 4611686018427387903):a8 P0 195 [x.v] [] (.tup [x.conj.v,bl true]) []:=by
 refine anz rfl (by decide) ?_;have h:=hx;unfold Ei.In at h
 push_cast [ako,Ei.v,Ei.rv,zaa]
 refine a7 (a3o _ _ (by unfold in64; omega) (by unfold in64; omega)) rfl trivial ?_;rw [ad4 (by unfold in64; omega)]
 push_cast
 refine a7 (bja _ (by unfold in64; omega)) rfl trivial ?_;rw [ad4 (by unfold in64; omega)]
 push_cast
 refine a7 (asz _ _) rfl trivial ?_
 push_cast [Ei.v,Ei.rv,Ei.conj]
theorem ba7:uni 0=⟨1,0⟩:=rfl
theorem ba6:uni 1=⟨0,1⟩:=rfl
theorem ba5:uni 2=⟨-1,1⟩:=rfl
theorem ba4:uni 3=⟨-1,0⟩:=rfl
theorem ba3:uni 4=⟨0,-1⟩:=rfl
theorem ba2:uni 5=⟨1,-1⟩:=rfl
theorem a02 (k:Int) (hk:0≤k∧k<6):a8 P0 123 [int .i64 k] [] (uni k.toNat).v []:=by
 refine anx rfl (by decide) ?_
 have hm:(IntKind.i64.wrap (Int.tmod k 6+6)).tmod 6=k:=by
  rw [zcl hk.1,a5 (by omega),zcl (by omega)]; omega
 simp only [akn,hm,Ei.v,Ei.rv,push_cast,↓reduceIte,reduceCtorEq,zB,zE,zA,zS,zL,zD,zM];refine ⟨by decide,by decide,hk,by omega,?_⟩;rcases (show k=0∨k=1∨k=2∨k=3∨k=4∨k=5 by omega) with rfl | rfl | rfl | rfl | rfl | rfl
 all_goals
  simp only [Int.reduceToNat,Nat.zero_mul,Nat.add_zero,zct,ba7,ba6,ba5,ba4,ba3,ba2,push_cast,↓reduceIte,reduceCtorEq,zB,zE,zA,zS,zL,zD,zM]
  first | done | trace_state
theorem aa6 (a m:Int) (ha:in64 a) (hm:0≤m∧m≤4611686018427387904):a8 P0 178 [int .i64 a,int .i64 m] [] (bl (decide (-m≤a∧a≤m))) []:=by
 refine ant rfl (by decide) ?_
 push_cast [akj,zaa]
 rw [show IntKind.i64.wrap (0-m)=-m by rw [a5 (by omega)]; omega];refine fo ?_;by_cases h1:-m≤a<;>by_cases h2:a≤m<;>by_cases h3:a=-9223372036854775808<;>simp [h1,h2,h3]
 all_goals omega
theorem at5 (k:Int) (hk:0≤k∧k≤12):a8 P0 125 [int .i64 k] [] (.tup [(g7 k.toNat).v,bl true]) []:=by
 refine an0 rfl (by decide) ?_;have c1:decide (k<0)=false:=by simp; omega
 have c2:decide (k>20)=false:=by simp; omega
 push_cast [akp,zaa,c1,c2]
 refine run_loop [(14,false),(15,false),(2,false),(3,false),(4,false),(5,false)] (fun vs pos los=>∃i:Int,0≤i∧i≤k∧vs=[int .i64 k,int .i64 i,.ptr 2000000 0 0,bl false,.ptr 2000001 0 0,bl true]∧pos=[]∧los=[.box [int .i64 0,int .i64 0],.box [int .i64 (g7 i.toNat).a,int .i64 (g7 i.toNat).b]])
  (fun vs _ _=>match vs with | [_,.r (.v (.int _ j)),_,_,_,_]=>(k-j).toNat | _=>0) rfl ?_ ?_
 ·push_cast
  exact ⟨0,by omega,by omega,rfl,rfl⟩
 ·rintro vs pos los ⟨i,i0,ik,rfl,rfl,rfl⟩
  push_cast
  refine b9 (fun h=>?_) (fun h=>?_)
  ·simp only [decide_eq_true_eq] at h
   push_cast
   have h1:=ll i.toNat (by omega);have h2:=ll (i.toNat+1) (by omega);refine b7 (as':=[(g7 i.toNat).v,ar.v]) rfl ?_;refine a7 (afd _ _ (h1.mono (by decide)) (by unfold Ei.In; decide) (h2.mono (by decide))) rfl trivial ?_
   push_cast [Ei.v,Ei.rv]
   rw [show IntKind.i64.wrap (i+1)=i+1 from a5 (by omega)];refine ⟨⟨i+1,by omega,by omega,rfl,?_⟩,by omega⟩;rw [show (i+1).toNat=i.toNat+1 by omega]
   rfl
  ·simp only [decide_eq_false_iff_not] at h;have:i=k:=by omega
   subst this
   push_cast [Ei.v,Ei.rv]

def pkN (d a b:Int) (i:Nat):Int×Ei:=(ab9.take i).foldl (pk d a b) (0,⟨0,0⟩)
theorem aw7 (d a b:Int) (i:Nat) (z:Ei) (h:ab9[i]?=some z):pkN d a b (i+1)=pk d a b (pkN d a b i) z:=by
 unfold pkN;rw [List.take_add_one,h];simp
theorem bdm {d a b:Int} (ha:0≤a∧a<d) (hb:0≤b∧b<d):(pkN d a b 3).2=gc d a b:=azb ha hb
theorem a5i (d a b:Int):∀i,(0≤(pkN d a b i).2.a∧(pkN d a b i).2.a≤1)∧(0≤(pkN d a b i).2.b∧(pkN d a b i).2.b≤1)
 | 0=>by simp [pkN]
 | i+1=>by
  have ih:=a5i d a b i;rcases h:ab9[i]? with _ | z
  ·have:pkN d a b (i+1)=pkN d a b i:=by unfold pkN; rw [List.take_add_one,h]; simp
   rw [this]; exact ih
  ·rw [aw7 d a b i z h];unfold pk;split
   ·have:z∈ab9:=List.mem_of_getElem? h;simp [ab9] at this;rcases this with rfl | rfl | rfl<;>simp
   ·exact ih
theorem asi {a d n:Int} (h:-n≤a∧a≤n) (hd:1≤d):-n≤a/d∧a/d≤n:=by
 have h1:=zcu a d;have h5:=zae a (show 0<d by omega);have h6:=zaf a (show d≠0 by omega);generalize a/d=q at *;generalize a%d=r at *;constructor
 ·rcases zch q 0 with hq | hq
  ·have:d*(q+1)≤1*(q+1):=Int.mul_le_mul_of_nonpos_right (by omega) (by omega);rw [zci] at this;omega
  ·omega
 ·rcases zch q 0 with hq | hq
  ·omega
  ·have:1*q≤d*q:=zcv (by omega) hq;omega
theorem aye (u:Ei) (d:Int) (hu:u.In 1152921504606846976) (hd:1≤d∧d≤1125899906842624):a8 P0 197 [u.v,int .i64 d] [] (.tup [(u.round d).v,bl true]) []:=by
 refine ami rfl (by decide) ?_;have hu':=hu;unfold Ei.In at hu';have c1:decide (d<1)=false:=by simp; omega
 have c2:decide (d>1125899906842624)=false:=by simp; omega
 have ia:in64 u.a:=by unfold in64; omega
 have ib:in64 u.b:=by unfold in64; omega
 have ed:in64 d:=by unfold in64; omega
 push_cast [ait,Ei.v,Ei.rv,zaa,c1,c2]
 refine a7 (aa6 _ _ ia (by decide)) rfl trivial ?_;rw [show decide (-1152921504606846976≤u.a∧u.a≤1152921504606846976)=true from decide_eq_true hu'.1]
 push_cast
 refine a7 (aa6 _ _ ib (by decide)) rfl trivial ?_;rw [show decide (-1152921504606846976≤u.b∧u.b≤1152921504606846976)=true from decide_eq_true hu'.2]
 push_cast
 refine a7 (pz _ _ ia ed) rfl trivial ?_;have hd0:0<d:=by omega
 push_cast [hd0,if_true]
 refine a7 (pz _ _ ib ed) rfl trivial ?_
 push_cast [hd0,if_true]
 have ha:0≤u.a%d∧u.a%d<d:=⟨zaf _ (by omega),zae _ hd0⟩
 have hb:0≤u.b%d∧u.b%d<d:=⟨zaf _ (by omega),zae _ hd0⟩
 have hqa:-1152921504606846976≤u.a/d∧u.a/d≤1152921504606846976:=asi hu'.1 hd.1;have hqb:-1152921504606846976≤u.b/d∧u.b/d≤1152921504606846976:=asi hu'.2 hd.1;generalize hA:u.a%d=a at *;generalize hB:u.b%d=b at *;generalize hQa:u.a/d=qa at *;generalize hQb:u.b/d=qb at *;refine ⟨by simp,?_⟩
 refine run_loop [(57,false),(58,false),(59,false),(1,false),(4,false),(5,false),(6,false),(7,false),(9,false),(10,false),(12,false),(13,false)] (fun vs pos los=>∃i:Nat,i≤3∧vs=[.own 2000000 0 0 3,int .i64 3,int .i64 i,int .i64 d,.ptr 2000001 0 0,bl false,int .i64 qa,int .i64 a,int .i64 qb,int .i64 b,int .i64 (pkN d a b i).1,.ptr 2000002 0 0]∧pos=[] ∧
   los=[.row 2 (Ei.rv ⟨0,0⟩) true true (ab9.map Ei.rv),.box [int .i64 0,int .i64 0],.box [int .i64 (pkN d a b i).2.a,int .i64 (pkN d a b i).2.b]])
  (fun vs _ _=>match vs with | _::_ :: .r (.v (.int _ j))::_=>(3-j).toNat | _=>0) rfl ?_ ?_
 ·push_cast
  exact ⟨0,by omega,rfl,rfl⟩
 ·rintro vs pos los ⟨i,i3,rfl,rfl,rfl⟩
  push_cast
  refine b9 (fun h=>?_) (fun h=>?_)
  ·have hi:i=0∨i=1∨i=2:=by simp at h; omega
   obtain ⟨z,hz,hzz⟩:∃z,ab9[i]?=some z∧((z=⟨0,1⟩∨z=⟨1,0⟩∨z=⟨1,1⟩)):=by
    rcases hi with rfl | rfl | rfl
    ·exact ⟨_,rfl,by simp⟩
    ·exact ⟨_,rfl,by simp⟩
    ·exact ⟨_,rfl,by simp⟩
   have hg:(List.map Ei.rv ab9).getD i (Ei.rv ⟨0,0⟩)=.agg [.v (.int .i64 z.a),.v (.int .i64 z.b)]:=by
    rw [List.getD_eq_getElem?_getD,List.getElem?_map,hz]; rfl
   have hn:(IntKind.i64.wrap (IntKind.i64.wrap (IntKind.i64.wrap (z.a*z.a)+IntKind.i64.wrap (z.a*z.b))+IntKind.i64.wrap (z.b*z.b)))=z.a*z.a+z.a*z.b+z.b*z.b:=by
    rcases hzz with rfl | rfl | rfl<;>decide
   have hf:IntKind.i64.wrap (IntKind.i64.wrap (IntKind.i64.wrap (d*(z.a*z.a+z.a*z.b+z.b*z.b))-IntKind.i64.wrap (z.a*IntKind.i64.wrap (IntKind.i64.wrap (2*a)+b)))-IntKind.i64.wrap (z.b*IntKind.i64.wrap (a+IntKind.i64.wrap (2*b))))=fr d a b z:=by
    rw [show IntKind.i64.wrap (2*a)=2*a from a5 (by omega),show IntKind.i64.wrap (2*b)=2*b from a5 (by omega),show IntKind.i64.wrap (2*a+b)=2*a+b from a5 (by omega),show IntKind.i64.wrap (a+2*b)=a+2*b from a5 (by omega)];rcases hzz with rfl | rfl | rfl<;>simp only [fr,Int.zero_mul,Int.mul_zero,zck,Int.mul_one,Int.add_zero,Int.zero_add,IntKind.wrap_i64]<;>omega
   have hs:=aw7 d a b i z hz
   push_cast [Int.toNat_natCast,zct,hg,hn,hf]
   refine ⟨by omega,?_⟩;refine b9 (fun h'=>?_) (fun h'=>?_)
   ·simp only [decide_eq_true_eq] at h'
    push_cast
    refine ⟨by kernel_rfl,?_⟩;rw [show IntKind.i64.wrap (i+1)=i+1 from a5 (by omega)];refine ⟨⟨i+1,by omega,?_,?_⟩,by omega⟩
    ·rw [hs,pk,if_pos h']<;>rfl
    ·rw [hs,pk,if_pos h']<;>rfl
   ·simp only [decide_eq_false_iff_not] at h'
    push_cast
    rw [show IntKind.i64.wrap (i+1)=i+1 from a5 (by omega)];refine ⟨⟨i+1,by omega,?_,?_⟩,by omega⟩
    ·rw [hs,pk,if_neg h']<;>rfl
    ·rw [hs,pk,if_neg h']<;>rfl
  ·have:i=3:=by simp at h; omega
   subst this
   push_cast
   have hN:=a5i d a b 3;rw [a5 (by omega),a5 (by omega),bdm ha hb,← hQa,← hQb,← hA,← hB]
   rfl

def aig:Mk P0 f177:={ x:=_ }
theorem alk:d5 177 1 aig:=c8 func177
def aod:Mk P0 f160:={ x:=_ }
theorem arb:d5 160 2 aod:=c8 func160
def aii:Mk P0 f194:={ x:=_ }
theorem alo:d5 194 2 aii:=c8 func194
def aki:Mk P0 f161:={ x:=_ }
theorem ans:d5 161 3 aki:=c8 func161
def aif:Mk P0 f124:={ x:=_ }
theorem alj:d5 124 3 aif:=c8 func124
def akh:Mk P0 f179:={ x:=_ }
theorem anr:d5 179 1 akh:=c8 func179
def vt:Mk P0 f126:={ x:=_ }
theorem adc:d5 126 2 vt:=c8 func126
def aln:Mk P0 f73:={ x:=_ }
theorem apj:d5 73 2 aln:=c8 func73
theorem p2 (n:Nat) (h:n≤36):1≤(2:Int)^n∧(2:Int)^n≤68719476736:=by
 have h1:2^n≤2^36:=zad (by decide) h;have h2:1≤2^n:=Nat.one_le_two_pow;have h3:((2^n:Nat):Int)=(2:Int)^n:=by simp
 omega
theorem p7 (n:Nat) (h:n≤12):1≤(7:Int)^n∧(7:Int)^n≤13841287201:=by
 have h1:7^n≤7^12:=zad (by decide) h;have h2:1≤7^n:=Nat.one_le_pow _ _ (by decide);have h3:((7^n:Nat):Int)=(7:Int)^n:=by simp
 omega
theorem a8d (z:Int) (h0:0≤z) (h1:z≤36):IntKind.i64.wrap (1*2^min (IntKind.u64.wrap z).toNat IntKind.i64.bits)=2^z.toNat:=by
 have hp:=p2 z.toNat (by omega);rw [IntKind.wrap_u64,show (z%18446744073709551616).toNat=z.toNat by omega,show min z.toNat IntKind.i64.bits=z.toNat from zcx (by simp [IntKind.bits]; omega),zck,a5 (by omega)]
theorem bj6 (z:Int) (h0:0≤z) (h1:z≤36):IntKind.i64.wrap (1*2^min z.toNat IntKind.i64.bits)=2^z.toNat:=by
 have hp:=p2 z.toNat (by omega);rw [show min z.toNat IntKind.i64.bits=z.toNat from zcx (by simp [IntKind.bits]; omega),zck,a5 (by omega)]
theorem atv (r:Int):a8 P0 177 [int .i64 r] [] (bl (decide (0≤r∧r≤12))) []:=by
 refine alk rfl (by decide) ?_
 push_cast [aig,zaa]
 refine fo ?_;simp
theorem acm {x y:Ei} {n m:Int} (hx:x.In n) (hy:y.In m):(x.mul y).In (3*(n*m)):=by
 have h1:=fm hx.1 hy.1;have h2:=fm hx.1 hy.2;have h3:=fm hx.2 hy.1;have h4:=fm hx.2 hy.2;unfold Ei.In Ei.mul;dsimp only;generalize n*m=q at *;omega
theorem at7 {x:Ei} {n:Int} (hx:x.In n):x.conj.In (2*n):=by
 unfold Ei.In Ei.conj at *;dsimp only;omega
def inW (x y:Int):Prop:=(0≤x∧x<1073741824)∧(0≤y∧y<1073741824)
instance (x y:Int):Decidable (inW x y):=inferInstanceAs (Decidable (_∧_))
theorem a3l {x y:Int} (h:inW x y):(ax x y).In 60000000000:=by
 unfold inW at h;unfold ax Ei.In;dsimp only;omega
theorem a7e {x y:Int} (h:inW x y) {k:Nat} (hk:k≤12):((ax x y).mul (g7 k).conj).In 43200000000000000:=
 (acm (a3l h) (at7 (ll k hk))).mono (by decide)
theorem bbf (x y:Int):a8 P0 160 [int .i64 x,int .i64 y] [] (bl (decide (inW x y))) []:=by
 refine arb rfl (by decide) ?_
 push_cast [aod,zaa]
 repeat refine And.intro (by simp +contextual) ?_
 refine fo ?_;unfold inW;by_cases h1:0≤x<;>by_cases h2:x<1073741824<;>by_cases h3:0≤y<;>by_cases h4:y<1073741824<;>simp [h1,h2,h3,h4]
theorem bew (x y:Int) (h:inW x y):a8 P0 194 [int .i64 x,int .i64 y] [] (.tup [(ax x y).v,bl true]) []:=by
 refine alo rfl (by decide) ?_
 push_cast [aii,zaa]
 refine a7 (bbf x y) rfl trivial ?_;rw [decide_eq_true h]
 push_cast
 unfold inW at h;rw [show IntKind.i64.wrap (45*x)=45*x from a5 (by omega),show IntKind.i64.wrap (26*y)=26*y from a5 (by omega),show IntKind.i64.wrap (52*y)=52*y from a5 (by omega),show IntKind.i64.wrap (45*x-26*y)=45*x-26*y from a5 (by omega)];simp only [ax,Ei.v,Ei.rv]
theorem bgt (x y r:Int) (h:inW x y) (hr:0≤r∧r≤12):a8 P0 161 [int .i64 x,int .i64 y,int .i64 r] [] (.tup [(g9 x y r.toNat).v,bl true]) []:=by
 refine ans rfl (by decide) ?_
 push_cast [aki,zaa]
 refine a7 (bew x y h) rfl trivial ?_
 push_cast [Ei.v,Ei.rv]
 refine a7 (atv r) rfl trivial ?_;rw [decide_eq_true hr]
 push_cast
 have hk:(12-r).toNat=12-r.toNat:=by omega
 have hk2:(12-r).toNat≤12:=by omega
 rw [show IntKind.i64.wrap (12-r)=12-r from a5 (by omega)];refine a7 (at5 (12-r) (by omega)) rfl trivial ?_;have hb:=ll (12-r).toNat hk2
 push_cast [Ei.v,Ei.rv]
 refine b7 (as':=[(g7 (12-r).toNat).v]) rfl ?_;refine a7 (a04 _ (hb.mono (by decide))) rfl trivial ?_
 push_cast [Ei.v,Ei.rv]
 have hp:=p7 (12-r).toNat hk2;rw [show IntKind.i64.wrap (12-r)=12-r from a5 (by omega)];have ht:=bbe 7 (12-r) (by decide) (by unfold in64; omega);rw [if_neg (show ¬12-r<0 by omega),ad4 (by unfold in64; omega)] at ht;refine a7 ht rfl trivial ?_
 push_cast
 have hm:=a7e h hk2;refine b7 (as':=[(ax x y).v,(g7 (12-r).toNat).conj.v]) rfl ?_;refine a7 (afd _ _ ((a3l h).mono (by decide)) ((at7 hb).mono (by decide)) (hm.mono (by decide))) rfl trivial ?_
 push_cast [Ei.v,Ei.rv]
 rw [show IntKind.i64.wrap (2340*7^(12-r).toNat)=2340*7^(12-r).toNat from a5 (by omega)];refine b7 (as':=[((ax x y).mul (g7 (12-r).toNat).conj).v,int .i64 (2340*7^(12-r).toNat)]) rfl ?_;refine a7 (aye _ _ (hm.mono (by decide)) (by omega)) rfl trivial ?_
 push_cast [Ei.v,Ei.rv,g9,hk]

def vv (i:Nat):Ei:=match i with | 0=>⟨1,1⟩ | 1=>⟨-1,2⟩ | 2=>⟨-2,1⟩ | 3=>⟨-1,-1⟩ | 4=>⟨1,-2⟩ | _=>⟨2,-1⟩
def hc (z:Ei) (r i:Nat):Ei:=(g7 (12-r)).mul ⟨3*z.a+(vv i).a,3*z.b+(vv i).b⟩
def hx (z:Ei) (r i:Nat):Int:=52*(hc z r i).a+26*(hc z r i).b
def hy (z:Ei) (r i:Nat):Int:=45*(hc z r i).b
def cx (z:Ei) (r:Nat):Int:=52*((g7 (12-r)).mul z).a+26*((g7 (12-r)).mul z).b
def cy (z:Ei) (r:Nat):Int:=45*((g7 (12-r)).mul z).b
def kx (r i:Nat):Int:=52*((g7 (12-r)).mul (vv i)).a+26*((g7 (12-r)).mul (vv i)).b
def ky (r i:Nat):Int:=45*((g7 (12-r)).mul (vv i)).b
theorem ao (z:Ei) (r i:Nat):hx z r i=3*cx z r+kx r i:=by
 simp only [hx,cx,kx,hc,Ei.mul,zci,Int.mul_left_comm _ (3:Int)];omega
theorem an (z:Ei) (r i:Nat):hy z r i=3*cy z r+ky r i:=by
 simp only [hy,cy,ky,hc,Ei.mul,zci,Int.mul_left_comm _ (3:Int)];omega
def crs (z:Ei) (r i j:Nat) (x y:Int):Int:=(kx r j-kx r i)*(y-hy z r i)-(ky r j-ky r i)*(x-hx z r i)
theorem axv (r i:Nat) (hr:r≤12) (hi:i<6):(-100000000≤kx r i∧kx r i≤100000000)∧(-100000000≤ky r i∧ky r i≤100000000):=by
 have:∀j:Fin 13,∀i:Fin 6,(-100000000≤kx j.val i.val∧kx j.val i.val≤100000000)∧(-100000000≤ky j.val i.val∧ky j.val i.val≤100000000):=by decide +kernel
 exact this ⟨r,by omega⟩ ⟨i,hi⟩
def sk (x y:Int) (z:Ei) (r:Nat):Prop:=
 ((-50000000≤cx z r-x∧cx z r-x≤50000000)∧(-50000000≤cy z r-y∧cy z r-y≤50000000)) ∧
 (∀i,i<6→0≤crs z r i ((i+1)%6) (3*x) (3*y)) ∧
 (∃i,i<6∧hx z r i≤3*x)∧(∃i,i<6∧3*x≤hx z r i)∧(∃i,i<6∧hy z r i≤3*y)∧(∃i,i<6∧3*y≤hy z r i)
theorem lt6 {i:Nat} (h:i<6):i=0∨i=1∨i=2∨i=3∨i=4∨i=5:=by omega
theorem bjn (x y:Int):sk x y (g9 x y 0) 0:=by
 have h:=j8 ((ax x y).mul (g7 (12-0)).conj) (d:=2340*7^(12-0)) (by decide);have e:(g7 (12-0)).conj=⟨-128231,102960⟩:=by decide
 have ed:(2340*7^(12-0):Int)=32388612050340:=by decide
 have eb:g7 (12-0)=⟨-25271,-102960⟩:=by decide
 unfold g9;generalize Ei.round _ _=q at *;rw [e,ed] at h;have ex:cx q 0=52*(-25271*q.a - -102960*q.b)+26*(-25271*q.b + -102960*q.a + -102960*q.b):=by simp only [cx,eb,Ei.mul]
 have ey:cy q 0=45*(-25271*q.b + -102960*q.a + -102960*q.b):=by simp only [cy,eb,Ei.mul]
 have x0:kx 0 0=-1971138:=by decide
 have y0:ky 0 0=-10403595:=by decide
 have x1:kx 0 1=8030880:=by decide
 have y1:ky 0 1=-6907590:=by decide
 have x2:kx 0 2=10002018:=by decide
 have y2:ky 0 2=3496005:=by decide
 have x3:kx 0 3=1971138:=by decide
 have y3:ky 0 3=10403595:=by decide
 have x4:kx 0 4=-8030880:=by decide
 have y4:ky 0 4=6907590:=by decide
 have x5:kx 0 5=-10002018:=by decide
 have y5:ky 0 5=-3496005:=by decide
 unfold i7 at h;simp only [Ei.mul,ax] at h;have g:∀i,hx q 0 i=3*cx q 0+kx 0 i:=fun i=>ao q 0 i;have g':∀i,hy q 0 i=3*cy q 0+ky 0 i:=fun i=>an q 0 i;have h1:=h.1;have h2:=h.2.1;have h3:=h.2.2;refine ⟨by omega,fun i hi=>?_,⟨5,by decide,?_⟩,⟨2,by decide,?_⟩,⟨0,by decide,?_⟩,⟨3,by decide,?_⟩⟩
 ·rcases lt6 hi with rfl | rfl | rfl | rfl | rfl | rfl<;>simp only [crs,g,g',x0,x1,x2,x3,x4,x5,y0,y1,y2,y3,y4,y5]<;>omega
 ·simp only [g,x0,x1,x2,x3,x4,x5]; omega
 ·simp only [g,x0,x1,x2,x3,x4,x5]; omega
 ·simp only [g',y0,y1,y2,y3,y4,y5]; omega
 ·simp only [g',y0,y1,y2,y3,y4,y5]; omega
theorem bjm (x y:Int):sk x y (g9 x y 1) 1:=by
 have h:=j8 ((ax x y).mul (g7 (12-1)).conj) (d:=2340*7^(12-1)) (by decide);have e:(g7 (12-1)).conj=⟨-51346,25807⟩:=by decide
 have ed:(2340*7^(12-1):Int)=4626944578620:=by decide
 have eb:g7 (12-1)=⟨-25539,-25807⟩:=by decide
 unfold g9;generalize Ei.round _ _=q at *;rw [e,ed] at h;have ex:cx q 1=52*(-25539*q.a - -25807*q.b)+26*(-25539*q.b + -25807*q.a + -25807*q.b):=by simp only [cx,eb,Ei.mul]
 have ey:cy q 1=45*(-25539*q.b + -25807*q.a + -25807*q.b):=by simp only [cy,eb,Ei.mul]
 have x0:kx 1 0=-1992042:=by decide
 have y0:ky 1 0=-3471885:=by decide
 have x1:kx 1 1=2012946:=by decide
 have y1:ky 1 1=-3459825:=by decide
 have x2:kx 1 2=4004988:=by decide
 have y2:ky 1 2=12060:=by decide
 have x3:kx 1 3=1992042:=by decide
 have y3:ky 1 3=3471885:=by decide
 have x4:kx 1 4=-2012946:=by decide
 have y4:ky 1 4=3459825:=by decide
 have x5:kx 1 5=-4004988:=by decide
 have y5:ky 1 5=-12060:=by decide
 unfold i7 at h;simp only [Ei.mul,ax] at h;have g:∀i,hx q 1 i=3*cx q 1+kx 1 i:=fun i=>ao q 1 i;have g':∀i,hy q 1 i=3*cy q 1+ky 1 i:=fun i=>an q 1 i;have h1:=h.1;have h2:=h.2.1;have h3:=h.2.2;refine ⟨by omega,fun i hi=>?_,⟨5,by decide,?_⟩,⟨2,by decide,?_⟩,⟨0,by decide,?_⟩,⟨3,by decide,?_⟩⟩
 ·rcases lt6 hi with rfl | rfl | rfl | rfl | rfl | rfl<;>simp only [crs,g,g',x0,x1,x2,x3,x4,x5,y0,y1,y2,y3,y4,y5]<;>omega
 ·simp only [g,x0,x1,x2,x3,x4,x5]; omega
 ·simp only [g,x0,x1,x2,x3,x4,x5]; omega
 ·simp only [g',y0,y1,y2,y3,y4,y5]; omega
 ·simp only [g',y0,y1,y2,y3,y4,y5]; omega
theorem bjl (x y:Int):sk x y (g9 x y 2) 2:=by
 have h:=j8 ((ax x y).mul (g7 (12-2)).conj) (d:=2340*7^(12-2)) (by decide);have e:(g7 (12-2)).conj=⟨-18357,3725⟩:=by decide
 have ed:(2340*7^(12-2):Int)=660992082660:=by decide
 have eb:g7 (12-2)=⟨-14632,-3725⟩:=by decide
 unfold g9;generalize Ei.round _ _=q at *;rw [e,ed] at h;have ex:cx q 2=52*(-14632*q.a - -3725*q.b)+26*(-14632*q.b + -3725*q.a + -3725*q.b):=by simp only [cx,eb,Ei.mul]
 have ey:cy q 2=45*(-14632*q.b + -3725*q.a + -3725*q.b):=by simp only [cy,eb,Ei.mul]
 have x0:kx 2 0=-1141296:=by decide
 have y0:ky 2 0=-993690:=by decide
 have x1:kx 2 1=290550:=by decide
 have y1:ky 2 1=-1484505:=by decide
 have x2:kx 2 2=1431846:=by decide
 have y2:ky 2 2=-490815:=by decide
 have x3:kx 2 3=1141296:=by decide
 have y3:ky 2 3=993690:=by decide
 have x4:kx 2 4=-290550:=by decide
 have y4:ky 2 4=1484505:=by decide
 have x5:kx 2 5=-1431846:=by decide
 have y5:ky 2 5=490815:=by decide
 unfold i7 at h;simp only [Ei.mul,ax] at h;have g:∀i,hx q 2 i=3*cx q 2+kx 2 i:=fun i=>ao q 2 i;have g':∀i,hy q 2 i=3*cy q 2+ky 2 i:=fun i=>an q 2 i;have h1:=h.1;have h2:=h.2.1;have h3:=h.2.2;refine ⟨by omega,fun i hi=>?_,⟨5,by decide,?_⟩,⟨2,by decide,?_⟩,⟨1,by decide,?_⟩,⟨4,by decide,?_⟩⟩
 ·rcases lt6 hi with rfl | rfl | rfl | rfl | rfl | rfl<;>simp only [crs,g,g',x0,x1,x2,x3,x4,x5,y0,y1,y2,y3,y4,y5]<;>omega
 ·simp only [g,x0,x1,x2,x3,x4,x5]; omega
 ·simp only [g,x0,x1,x2,x3,x4,x5]; omega
 ·simp only [g',y0,y1,y2,y3,y4,y5]; omega
 ·simp only [g',y0,y1,y2,y3,y4,y5]; omega
theorem bjk (x y:Int):sk x y (g9 x y 3) 3:=by
 have h:=j8 ((ax x y).mul (g7 (12-3)).conj) (d:=2340*7^(12-3)) (by decide);have e:(g7 (12-3)).conj=⟨-5777,-1026⟩:=by decide
 have ed:(2340*7^(12-3):Int)=94427440380:=by decide
 have eb:g7 (12-3)=⟨-6803,1026⟩:=by decide
 unfold g9;generalize Ei.round _ _=q at *;rw [e,ed] at h;have ex:cx q 3=52*(-6803*q.a-1026*q.b)+26*(-6803*q.b+1026*q.a+1026*q.b):=by simp only [cx,eb,Ei.mul]
 have ey:cy q 3=45*(-6803*q.b+1026*q.a+1026*q.b):=by simp only [cy,eb,Ei.mul]
 have x0:kx 3 0=-530634:=by decide
 have y0:ky 3 0=-213795:=by decide
 have x1:kx 3 1=-80028:=by decide
 have y1:ky 3 1=-566100:=by decide
 have x2:kx 3 2=450606:=by decide
 have y2:ky 3 2=-352305:=by decide
 have x3:kx 3 3=530634:=by decide
 have y3:ky 3 3=213795:=by decide
 have x4:kx 3 4=80028:=by decide
 have y4:ky 3 4=566100:=by decide
 have x5:kx 3 5=-450606:=by decide
 have y5:ky 3 5=352305:=by decide
 unfold i7 at h;simp only [Ei.mul,ax] at h;have g:∀i,hx q 3 i=3*cx q 3+kx 3 i:=fun i=>ao q 3 i;have g':∀i,hy q 3 i=3*cy q 3+ky 3 i:=fun i=>an q 3 i;have h1:=h.1;have h2:=h.2.1;have h3:=h.2.2;refine ⟨by omega,fun i hi=>?_,⟨0,by decide,?_⟩,⟨3,by decide,?_⟩,⟨1,by decide,?_⟩,⟨4,by decide,?_⟩⟩
 ·rcases lt6 hi with rfl | rfl | rfl | rfl | rfl | rfl<;>simp only [crs,g,g',x0,x1,x2,x3,x4,x5,y0,y1,y2,y3,y4,y5]<;>omega
 ·simp only [g,x0,x1,x2,x3,x4,x5]; omega
 ·simp only [g,x0,x1,x2,x3,x4,x5]; omega
 ·simp only [g',y0,y1,y2,y3,y4,y5]; omega
 ·simp only [g',y0,y1,y2,y3,y4,y5]; omega
theorem bjj (x y:Int):sk x y (g9 x y 4) 4:=by
 have h:=j8 ((ax x y).mul (g7 (12-4)).conj) (d:=2340*7^(12-4)) (by decide);have e:(g7 (12-4)).conj=⟨-1504,-1265⟩:=by decide
 have ed:(2340*7^(12-4):Int)=13489634340:=by decide
 have eb:g7 (12-4)=⟨-2769,1265⟩:=by decide
 unfold g9;generalize Ei.round _ _=q at *;rw [e,ed] at h;have ex:cx q 4=52*(-2769*q.a-1265*q.b)+26*(-2769*q.b+1265*q.a+1265*q.b):=by simp only [cx,eb,Ei.mul]
 have ey:cy q 4=45*(-2769*q.b+1265*q.a+1265*q.b):=by simp only [cy,eb,Ei.mul]
 have x0:kx 4 0=-215982:=by decide
 have y0:ky 4 0=-10755:=by decide
 have x1:kx 4 1=-98670:=by decide
 have y1:ky 4 1=-192285:=by decide
 have x2:kx 4 2=117312:=by decide
 have y2:ky 4 2=-181530:=by decide
 have x3:kx 4 3=215982:=by decide
 have y3:ky 4 3=10755:=by decide
 have x4:kx 4 4=98670:=by decide
 have y4:ky 4 4=192285:=by decide
 have x5:kx 4 5=-117312:=by decide
 have y5:ky 4 5=181530:=by decide
 unfold i7 at h;simp only [Ei.mul,ax] at h;have g:∀i,hx q 4 i=3*cx q 4+kx 4 i:=fun i=>ao q 4 i;have g':∀i,hy q 4 i=3*cy q 4+ky 4 i:=fun i=>an q 4 i;have h1:=h.1;have h2:=h.2.1;have h3:=h.2.2;refine ⟨by omega,fun i hi=>?_,⟨0,by decide,?_⟩,⟨3,by decide,?_⟩,⟨1,by decide,?_⟩,⟨4,by decide,?_⟩⟩
 ·rcases lt6 hi with rfl | rfl | rfl | rfl | rfl | rfl<;>simp only [crs,g,g',x0,x1,x2,x3,x4,x5,y0,y1,y2,y3,y4,y5]<;>omega
 ·simp only [g,x0,x1,x2,x3,x4,x5]; omega
 ·simp only [g,x0,x1,x2,x3,x4,x5]; omega
 ·simp only [g',y0,y1,y2,y3,y4,y5]; omega
 ·simp only [g',y0,y1,y2,y3,y4,y5]; omega
theorem bji (x y:Int):sk x y (g9 x y 5) 5:=by
 have h:=j8 ((ax x y).mul (g7 (12-5)).conj) (d:=2340*7^(12-5)) (by decide);have e:(g7 (12-5)).conj=⟨-249,-757⟩:=by decide
 have ed:(2340*7^(12-5):Int)=1927090620:=by decide
 have eb:g7 (12-5)=⟨-1006,757⟩:=by decide
 unfold g9;generalize Ei.round _ _=q at *;rw [e,ed] at h;have ex:cx q 5=52*(-1006*q.a-757*q.b)+26*(-1006*q.b+757*q.a+757*q.b):=by simp only [cx,eb,Ei.mul]
 have ey:cy q 5=45*(-1006*q.b+757*q.a+757*q.b):=by simp only [cy,eb,Ei.mul]
 have x0:kx 5 0=-78468:=by decide
 have y0:ky 5 0=22860:=by decide
 have x1:kx 5 1=-59046:=by decide
 have y1:ky 5 1=-56475:=by decide
 have x2:kx 5 2=19422:=by decide
 have y2:ky 5 2=-79335:=by decide
 have x3:kx 5 3=78468:=by decide
 have y3:ky 5 3=-22860:=by decide
 have x4:kx 5 4=59046:=by decide
 have y4:ky 5 4=56475:=by decide
 have x5:kx 5 5=-19422:=by decide
 have y5:ky 5 5=79335:=by decide
 unfold i7 at h;simp only [Ei.mul,ax] at h;have g:∀i,hx q 5 i=3*cx q 5+kx 5 i:=fun i=>ao q 5 i;have g':∀i,hy q 5 i=3*cy q 5+ky 5 i:=fun i=>an q 5 i;have h1:=h.1;have h2:=h.2.1;have h3:=h.2.2;refine ⟨by omega,fun i hi=>?_,⟨0,by decide,?_⟩,⟨3,by decide,?_⟩,⟨2,by decide,?_⟩,⟨5,by decide,?_⟩⟩
 ·rcases lt6 hi with rfl | rfl | rfl | rfl | rfl | rfl<;>simp only [crs,g,g',x0,x1,x2,x3,x4,x5,y0,y1,y2,y3,y4,y5]<;>omega
 ·simp only [g,x0,x1,x2,x3,x4,x5]; omega
 ·simp only [g,x0,x1,x2,x3,x4,x5]; omega
 ·simp only [g',y0,y1,y2,y3,y4,y5]; omega
 ·simp only [g',y0,y1,y2,y3,y4,y5]; omega
theorem bjh (x y:Int):sk x y (g9 x y 6) 6:=by
 have h:=j8 ((ax x y).mul (g7 (12-6)).conj) (d:=2340*7^(12-6)) (by decide);have e:(g7 (12-6)).conj=⟨37,-360⟩:=by decide
 have ed:(2340*7^(12-6):Int)=275298660:=by decide
 have eb:g7 (12-6)=⟨-323,360⟩:=by decide
 unfold g9;generalize Ei.round _ _=q at *;rw [e,ed] at h;have ex:cx q 6=52*(-323*q.a-360*q.b)+26*(-323*q.b+360*q.a+360*q.b):=by simp only [cx,eb,Ei.mul]
 have ey:cy q 6=45*(-323*q.b+360*q.a+360*q.b):=by simp only [cy,eb,Ei.mul]
 have x0:kx 6 0=-25194:=by decide
 have y0:ky 6 0=17865:=by decide
 have x1:kx 6 1=-28080:=by decide
 have y1:ky 6 1=-12870:=by decide
 have x2:kx 6 2=-2886:=by decide
 have y2:ky 6 2=-30735:=by decide
 have x3:kx 6 3=25194:=by decide
 have y3:ky 6 3=-17865:=by decide
 have x4:kx 6 4=28080:=by decide
 have y4:ky 6 4=12870:=by decide
 have x5:kx 6 5=2886:=by decide
 have y5:ky 6 5=30735:=by decide
 unfold i7 at h;simp only [Ei.mul,ax] at h;have g:∀i,hx q 6 i=3*cx q 6+kx 6 i:=fun i=>ao q 6 i;have g':∀i,hy q 6 i=3*cy q 6+ky 6 i:=fun i=>an q 6 i;have h1:=h.1;have h2:=h.2.1;have h3:=h.2.2;refine ⟨by omega,fun i hi=>?_,⟨1,by decide,?_⟩,⟨4,by decide,?_⟩,⟨2,by decide,?_⟩,⟨5,by decide,?_⟩⟩
 ·rcases lt6 hi with rfl | rfl | rfl | rfl | rfl | rfl<;>simp only [crs,g,g',x0,x1,x2,x3,x4,x5,y0,y1,y2,y3,y4,y5]<;>omega
 ·simp only [g,x0,x1,x2,x3,x4,x5]; omega
 ·simp only [g,x0,x1,x2,x3,x4,x5]; omega
 ·simp only [g',y0,y1,y2,y3,y4,y5]; omega
 ·simp only [g',y0,y1,y2,y3,y4,y5]; omega
theorem bjg (x y:Int):sk x y (g9 x y 7) 7:=by
 have h:=j8 ((ax x y).mul (g7 (12-7)).conj) (d:=2340*7^(12-7)) (by decide);have e:(g7 (12-7)).conj=⟨62,-149⟩:=by decide
 have ed:(2340*7^(12-7):Int)=39328380:=by decide
 have eb:g7 (12-7)=⟨-87,149⟩:=by decide
 unfold g9;generalize Ei.round _ _=q at *;rw [e,ed] at h;have ex:cx q 7=52*(-87*q.a-149*q.b)+26*(-87*q.b+149*q.a+149*q.b):=by simp only [cx,eb,Ei.mul]
 have ey:cy q 7=45*(-87*q.b+149*q.a+149*q.b):=by simp only [cy,eb,Ei.mul]
 have x0:kx 7 0=-6786:=by decide
 have y0:ky 7 0=9495:=by decide
 have x1:kx 7 1=-11622:=by decide
 have y1:ky 7 1=-1125:=by decide
 have x2:kx 7 2=-4836:=by decide
 have y2:ky 7 2=-10620:=by decide
 have x3:kx 7 3=6786:=by decide
 have y3:ky 7 3=-9495:=by decide
 have x4:kx 7 4=11622:=by decide
 have y4:ky 7 4=1125:=by decide
 have x5:kx 7 5=4836:=by decide
 have y5:ky 7 5=10620:=by decide
 unfold i7 at h;simp only [Ei.mul,ax] at h;have g:∀i,hx q 7 i=3*cx q 7+kx 7 i:=fun i=>ao q 7 i;have g':∀i,hy q 7 i=3*cy q 7+ky 7 i:=fun i=>an q 7 i;have h1:=h.1;have h2:=h.2.1;have h3:=h.2.2;refine ⟨by omega,fun i hi=>?_,⟨1,by decide,?_⟩,⟨4,by decide,?_⟩,⟨2,by decide,?_⟩,⟨5,by decide,?_⟩⟩
 ·rcases lt6 hi with rfl | rfl | rfl | rfl | rfl | rfl<;>simp only [crs,g,g',x0,x1,x2,x3,x4,x5,y0,y1,y2,y3,y4,y5]<;>omega
 ·simp only [g,x0,x1,x2,x3,x4,x5]; omega
 ·simp only [g,x0,x1,x2,x3,x4,x5]; omega
 ·simp only [g',y0,y1,y2,y3,y4,y5]; omega
 ·simp only [g',y0,y1,y2,y3,y4,y5]; omega
theorem bjf (x y:Int):sk x y (g9 x y 8) 8:=by
 have h:=j8 ((ax x y).mul (g7 (12-8)).conj) (d:=2340*7^(12-8)) (by decide);have e:(g7 (12-8)).conj=⟨39,-55⟩:=by decide
 have ed:(2340*7^(12-8):Int)=5618340:=by decide
 have eb:g7 (12-8)=⟨-16,55⟩:=by decide
 unfold g9;generalize Ei.round _ _=q at *;rw [e,ed] at h;have ex:cx q 8=52*(-16*q.a-55*q.b)+26*(-16*q.b+55*q.a+55*q.b):=by simp only [cx,eb,Ei.mul]
 have ey:cy q 8=45*(-16*q.b+55*q.a+55*q.b):=by simp only [cy,eb,Ei.mul]
 have x0:kx 8 0=-1248:=by decide
 have y0:ky 8 0=4230:=by decide
 have x1:kx 8 1=-4290:=by decide
 have y1:ky 8 1=1035:=by decide
 have x2:kx 8 2=-3042:=by decide
 have y2:ky 8 2=-3195:=by decide
 have x3:kx 8 3=1248:=by decide
 have y3:ky 8 3=-4230:=by decide
 have x4:kx 8 4=4290:=by decide
 have y4:ky 8 4=-1035:=by decide
 have x5:kx 8 5=3042:=by decide
 have y5:ky 8 5=3195:=by decide
 unfold i7 at h;simp only [Ei.mul,ax] at h;have g:∀i,hx q 8 i=3*cx q 8+kx 8 i:=fun i=>ao q 8 i;have g':∀i,hy q 8 i=3*cy q 8+ky 8 i:=fun i=>an q 8 i;have h1:=h.1;have h2:=h.2.1;have h3:=h.2.2;refine ⟨by omega,fun i hi=>?_,⟨1,by decide,?_⟩,⟨4,by decide,?_⟩,⟨3,by decide,?_⟩,⟨0,by decide,?_⟩⟩
 ·rcases lt6 hi with rfl | rfl | rfl | rfl | rfl | rfl<;>simp only [crs,g,g',x0,x1,x2,x3,x4,x5,y0,y1,y2,y3,y4,y5]<;>omega
 ·simp only [g,x0,x1,x2,x3,x4,x5]; omega
 ·simp only [g,x0,x1,x2,x3,x4,x5]; omega
 ·simp only [g',y0,y1,y2,y3,y4,y5]; omega
 ·simp only [g',y0,y1,y2,y3,y4,y5]; omega
theorem bje (x y:Int):sk x y (g9 x y 9) 9:=by
 have h:=j8 ((ax x y).mul (g7 (12-9)).conj) (d:=2340*7^(12-9)) (by decide);have e:(g7 (12-9)).conj=⟨19,-18⟩:=by decide
 have ed:(2340*7^(12-9):Int)=802620:=by decide
 have eb:g7 (12-9)=⟨1,18⟩:=by decide
 unfold g9;generalize Ei.round _ _=q at *;rw [e,ed] at h;have ex:cx q 9=52*(1*q.a-18*q.b)+26*(1*q.b+18*q.a+18*q.b):=by simp only [cx,eb,Ei.mul]
 have ey:cy q 9=45*(1*q.b+18*q.a+18*q.b):=by simp only [cy,eb,Ei.mul]
 have x0:kx 9 0=78:=by decide
 have y0:ky 9 0=1665:=by decide
 have x1:kx 9 1=-1404:=by decide
 have y1:ky 9 1=900:=by decide
 have x2:kx 9 2=-1482:=by decide
 have y2:ky 9 2=-765:=by decide
 have x3:kx 9 3=-78:=by decide
 have y3:ky 9 3=-1665:=by decide
 have x4:kx 9 4=1404:=by decide
 have y4:ky 9 4=-900:=by decide
 have x5:kx 9 5=1482:=by decide
 have y5:ky 9 5=765:=by decide
 unfold i7 at h;simp only [Ei.mul,ax] at h;have g:∀i,hx q 9 i=3*cx q 9+kx 9 i:=fun i=>ao q 9 i;have g':∀i,hy q 9 i=3*cy q 9+ky 9 i:=fun i=>an q 9 i;have h1:=h.1;have h2:=h.2.1;have h3:=h.2.2;refine ⟨by omega,fun i hi=>?_,⟨2,by decide,?_⟩,⟨5,by decide,?_⟩,⟨3,by decide,?_⟩,⟨0,by decide,?_⟩⟩
 ·rcases lt6 hi with rfl | rfl | rfl | rfl | rfl | rfl<;>simp only [crs,g,g',x0,x1,x2,x3,x4,x5,y0,y1,y2,y3,y4,y5]<;>omega
 ·simp only [g,x0,x1,x2,x3,x4,x5]; omega
 ·simp only [g,x0,x1,x2,x3,x4,x5]; omega
 ·simp only [g',y0,y1,y2,y3,y4,y5]; omega
 ·simp only [g',y0,y1,y2,y3,y4,y5]; omega
theorem bg0 (x y:Int):sk x y (g9 x y 10) 10:=by
 have h:=j8 ((ax x y).mul (g7 (12-10)).conj) (d:=2340*7^(12-10)) (by decide);have e:(g7 (12-10)).conj=⟨8,-5⟩:=by decide
 have ed:(2340*7^(12-10):Int)=114660:=by decide
 have eb:g7 (12-10)=⟨3,5⟩:=by decide
 unfold g9;generalize Ei.round _ _=q at *;rw [e,ed] at h;have ex:cx q 10=52*(3*q.a-5*q.b)+26*(3*q.b+5*q.a+5*q.b):=by simp only [cx,eb,Ei.mul]
 have ey:cy q 10=45*(3*q.b+5*q.a+5*q.b):=by simp only [cy,eb,Ei.mul]
 have x0:kx 10 0=234:=by decide
 have y0:ky 10 0=585:=by decide
 have x1:kx 10 1=-390:=by decide
 have y1:ky 10 1=495:=by decide
 have x2:kx 10 2=-624:=by decide
 have y2:ky 10 2=-90:=by decide
 have x3:kx 10 3=-234:=by decide
 have y3:ky 10 3=-585:=by decide
 have x4:kx 10 4=390:=by decide
 have y4:ky 10 4=-495:=by decide
 have x5:kx 10 5=624:=by decide
 have y5:ky 10 5=90:=by decide
 unfold i7 at h;simp only [Ei.mul,ax] at h;have g:∀i,hx q 10 i=3*cx q 10+kx 10 i:=fun i=>ao q 10 i;have g':∀i,hy q 10 i=3*cy q 10+ky 10 i:=fun i=>an q 10 i;have h1:=h.1;have h2:=h.2.1;have h3:=h.2.2;refine ⟨by omega,fun i hi=>?_,⟨2,by decide,?_⟩,⟨5,by decide,?_⟩,⟨3,by decide,?_⟩,⟨0,by decide,?_⟩⟩
 ·rcases lt6 hi with rfl | rfl | rfl | rfl | rfl | rfl<;>simp only [crs,g,g',x0,x1,x2,x3,x4,x5,y0,y1,y2,y3,y4,y5]<;>omega
 ·simp only [g,x0,x1,x2,x3,x4,x5]; omega
 ·simp only [g,x0,x1,x2,x3,x4,x5]; omega
 ·simp only [g',y0,y1,y2,y3,y4,y5]; omega
 ·simp only [g',y0,y1,y2,y3,y4,y5]; omega
theorem bgz (x y:Int):sk x y (g9 x y 11) 11:=by
 have h:=j8 ((ax x y).mul (g7 (12-11)).conj) (d:=2340*7^(12-11)) (by decide);have e:(g7 (12-11)).conj=⟨3,-1⟩:=by decide
 have ed:(2340*7^(12-11):Int)=16380:=by decide
 have eb:g7 (12-11)=⟨2,1⟩:=by decide
 unfold g9;generalize Ei.round _ _=q at *;rw [e,ed] at h;have ex:cx q 11=52*(2*q.a-1*q.b)+26*(2*q.b+1*q.a+1*q.b):=by simp only [cx,eb,Ei.mul]
 have ey:cy q 11=45*(2*q.b+1*q.a+1*q.b):=by simp only [cy,eb,Ei.mul]
 have x0:kx 11 0=156:=by decide
 have y0:ky 11 0=180:=by decide
 have x1:kx 11 1=-78:=by decide
 have y1:ky 11 1=225:=by decide
 have x2:kx 11 2=-234:=by decide
 have y2:ky 11 2=45:=by decide
 have x3:kx 11 3=-156:=by decide
 have y3:ky 11 3=-180:=by decide
 have x4:kx 11 4=78:=by decide
 have y4:ky 11 4=-225:=by decide
 have x5:kx 11 5=234:=by decide
 have y5:ky 11 5=-45:=by decide
 unfold i7 at h;simp only [Ei.mul,ax] at h;have g:∀i,hx q 11 i=3*cx q 11+kx 11 i:=fun i=>ao q 11 i;have g':∀i,hy q 11 i=3*cy q 11+ky 11 i:=fun i=>an q 11 i;have h1:=h.1;have h2:=h.2.1;have h3:=h.2.2;refine ⟨by omega,fun i hi=>?_,⟨2,by decide,?_⟩,⟨5,by decide,?_⟩,⟨4,by decide,?_⟩,⟨1,by decide,?_⟩⟩
 ·rcases lt6 hi with rfl | rfl | rfl | rfl | rfl | rfl<;>simp only [crs,g,g',x0,x1,x2,x3,x4,x5,y0,y1,y2,y3,y4,y5]<;>omega
 ·simp only [g,x0,x1,x2,x3,x4,x5]; omega
 ·simp only [g,x0,x1,x2,x3,x4,x5]; omega
 ·simp only [g',y0,y1,y2,y3,y4,y5]; omega
 ·simp only [g',y0,y1,y2,y3,y4,y5]; omega
theorem bgy (x y:Int):sk x y (g9 x y 12) 12:=by
 have h:=j8 ((ax x y).mul (g7 (12-12)).conj) (d:=2340*7^(12-12)) (by decide);have e:(g7 (12-12)).conj=⟨1,0⟩:=by decide
 have ed:(2340*7^(12-12):Int)=2340:=by decide
 have eb:g7 (12-12)=⟨1,0⟩:=by decide
 unfold g9;generalize Ei.round _ _=q at *;rw [e,ed] at h;have ex:cx q 12=52*(1*q.a-0*q.b)+26*(1*q.b+0*q.a+0*q.b):=by simp only [cx,eb,Ei.mul]
 have ey:cy q 12=45*(1*q.b+0*q.a+0*q.b):=by simp only [cy,eb,Ei.mul]
 have x0:kx 12 0=78:=by decide
 have y0:ky 12 0=45:=by decide
 have x1:kx 12 1=0:=by decide
 have y1:ky 12 1=90:=by decide
 have x2:kx 12 2=-78:=by decide
 have y2:ky 12 2=45:=by decide
 have x3:kx 12 3=-78:=by decide
 have y3:ky 12 3=-45:=by decide
 have x4:kx 12 4=0:=by decide
 have y4:ky 12 4=-90:=by decide
 have x5:kx 12 5=78:=by decide
 have y5:ky 12 5=-45:=by decide
 unfold i7 at h;simp only [Ei.mul,ax] at h;have g:∀i,hx q 12 i=3*cx q 12+kx 12 i:=fun i=>ao q 12 i;have g':∀i,hy q 12 i=3*cy q 12+ky 12 i:=fun i=>an q 12 i;have h1:=h.1;have h2:=h.2.1;have h3:=h.2.2;refine ⟨by omega,fun i hi=>?_,⟨2,by decide,?_⟩,⟨0,by decide,?_⟩,⟨4,by decide,?_⟩,⟨1,by decide,?_⟩⟩
 ·rcases lt6 hi with rfl | rfl | rfl | rfl | rfl | rfl<;>simp only [crs,g,g',x0,x1,x2,x3,x4,x5,y0,y1,y2,y3,y4,y5]<;>omega
 ·simp only [g,x0,x1,x2,x3,x4,x5]; omega
 ·simp only [g,x0,x1,x2,x3,x4,x5]; omega
 ·simp only [g',y0,y1,y2,y3,y4,y5]; omega
 ·simp only [g',y0,y1,y2,y3,y4,y5]; omega
theorem axs (x y:Int) (r:Nat) (hr:r≤12):sk x y (g9 x y r) r:=by
 match r,hr with
 | 0,_=>exact bjn x y
 | 1,_=>exact bjm x y
 | 2,_=>exact bjl x y
 | 3,_=>exact bjk x y
 | 4,_=>exact bjj x y
 | 5,_=>exact bji x y
 | 6,_=>exact bjh x y
 | 7,_=>exact bjg x y
 | 8,_=>exact bjf x y
 | 9,_=>exact bje x y
 | 10,_=>exact bg0 x y
 | 11,_=>exact bgz x y
 | 12,_=>exact bgy x y
 | r+13,h=>omega

theorem lb {r:Nat} (hr:r≤12):(g7 (12-r)).In 120000:=ll _ (by omega)
theorem ape {z:Ei} {n:Int} {by_:Int} (h:z.In n) (hb:0≤by_∧by_≤3) (hn:0≤n):(⟨by_*z.a,by_*z.b⟩:Ei).In (3*n):=by
 have h1:=fm (show -3≤by_∧by_≤3 by omega) h.1;have h2:=fm (show -3≤by_∧by_≤3 by omega) h.2;exact ⟨h1,h2⟩
def iu (z:Ei) (r:Nat) (b:Int):Ei:=(g7 (12-r)).mul ⟨b*z.a,b*z.b⟩
theorem au1 {z:Ei} {r:Nat} {b:Int} (h:z.In 1073741824) (hr:r≤12) (hb:0≤b∧b≤3):(iu z r b).In 1159641169920000:=(acm (lb hr) (ape h hb (by decide))).mono (by decide)
theorem bdl (z:Ei) (r b:Int) (h:z.In 1073741824) (hr:0≤r∧r≤12) (hb:0≤b∧b≤3):a8 P0 124 [z.v,int .i64 r,int .i64 b] [] (.tup [(iu z r.toNat b).v,bl true]) []:=by
 refine alj rfl (by decide) ?_;have h':=h;unfold Ei.In at h';have i1:in64 z.a∧in64 z.b:=by unfold in64; omega
 push_cast [aif,Ei.v,Ei.rv,zaa]
 refine a7 (atv r) rfl trivial ?_;rw [decide_eq_true hr]
 push_cast
 refine a7 (aa6 _ _ i1.1 (by decide)) rfl trivial ?_;rw [show decide (-1073741824≤z.a∧z.a≤1073741824)=true from decide_eq_true h'.1]
 push_cast
 refine a7 (aa6 _ _ i1.2 (by decide)) rfl trivial ?_;rw [show decide (-1073741824≤z.b∧z.b≤1073741824)=true from decide_eq_true h'.2]
 push_cast
 rw [show IntKind.i64.wrap (12-r)=12-r from a5 (by omega)];refine a7 (at5 (12-r) (by omega)) rfl trivial ?_
 push_cast [Ei.v,Ei.rv]
 have hs:=ape h hb (by decide);unfold Ei.In at hs;rw [show IntKind.i64.wrap (b*z.a)=b*z.a from a5 (by have:=hs.1; dsimp only at this; omega),show IntKind.i64.wrap (b*z.b)=b*z.b from a5 (by have:=hs.2; dsimp only at this; omega)];refine b7 (as':=[(g7 (12-r).toNat).v,Ei.v ⟨b*z.a,b*z.b⟩]) rfl ?_;have e:(12-r).toNat=12-r.toNat:=by omega
 refine a7 (afd _ _ ((ll _ (by omega)).mono (by decide)) ((ape h hb (by decide)).mono (by decide)) ?_) rfl trivial ?_
 ·rw [e]; exact (au1 h (by omega) hb).mono (by decide)
 push_cast [iu,← e,Ei.v,Ei.rv]
def pnt (x y:Int):RV:=.agg [.v (.int .i64 x),.v (.int .i64 y)]
theorem bfs (w:Ei) (h:w.In 10000000000000000):a8 P0 179 [w.v] [] (.r (pnt (52*w.a+26*w.b) (45*w.b))) []:=by
 refine anr rfl (by decide) ?_;unfold Ei.In at h
 push_cast [akh,Ei.v,Ei.rv,zaa]
 rw [show IntKind.i64.wrap (52*w.a)=52*w.a from a5 (by omega),show IntKind.i64.wrap (26*w.b)=26*w.b from a5 (by omega),show IntKind.i64.wrap (52*w.a+26*w.b)=52*w.a+26*w.b from a5 (by omega),show IntKind.i64.wrap (45*w.b)=45*w.b from a5 (by omega)]
 rfl
theorem bii {x y:Ei} {n m:Int} (hx:x.In n) (hy:y.In m):(x.add y).In (n+m):=by
 unfold Ei.In Ei.add at *;dsimp only;omega
theorem ba1 (i:Nat):(vv i).In 2:=by
 unfold vv;split<;>unfold Ei.In<;>decide
def cen (m b:Ei):AV:=.r (.agg [.v (.int .i64 m.a),.v (.int .i64 m.b),.v (.int .i64 b.a),.v (.int .i64 b.b)])
theorem ayj (m b k:Ei) (hm:m.In 1159641169920000) (hb:b.In 120000) (hk:k.In 2):a8 P0 126 [cen m b,k.v] [] (.r (pnt (52*(m.add (b.mul k)).a+26*(m.add (b.mul k)).b) (45*(m.add (b.mul k)).b))) []:=by
 refine adc rfl (by decide) ?_;have hbk:(b.mul k).In 720000:=(acm hb hk).mono (by decide)
 push_cast [vt,cen,Ei.v,Ei.rv,zaa]
 refine b7 (as':=[b.v,k.v]) rfl ?_;refine a7 (afd _ _ (hb.mono (by decide)) (hk.mono (by decide)) (hbk.mono (by decide))) rfl trivial ?_
 push_cast [Ei.v,Ei.rv]
 refine b7 (as':=[m.v,(b.mul k).v]) rfl ?_;have hs:=bii hm hbk;refine a7 (a6q _ _ (hm.mono (by decide)) (hbk.mono (by decide)) (hs.mono (by decide))) rfl trivial ?_
 push_cast [Ei.v,Ei.rv]
 refine b7 (as':=[(m.add (b.mul k)).v]) rfl ?_;refine a7 (bfs _ (hs.mono (by decide))) rfl trivial ?_
 push_cast [pnt]
def a2z (z:Ei) (r i:Nat):RV:=pnt (hx z r i) (hy z r i)
def xh (z:Ei) (r:Nat) (n:Nat):List RV:=(List.range n).map (a2z z r)
theorem a6h (z:Ei) (r n:Nat):xh z r n++[a2z z r n]=xh z r (n+1):=by simp [xh,List.range_succ]
theorem ax4 (z:Ei) (r n:Nat):(xh z r n).length=n:=by simp [xh]
theorem a0w (z:Ei) (r i:Nat):RV.agg [.v (.int .i64 (52*((iu z r 3).add ((g7 (12-r)).mul (vv i))).a+26*((iu z r 3).add ((g7 (12-r)).mul (vv i))).b)),.v (.int .i64 (45*((iu z r 3).add ((g7 (12-r)).mul (vv i))).b))]=a2z z r i:=by
 have h:(iu z r 3).add ((g7 (12-r)).mul (vv i))=hc z r i:=by
  apply Ei.ext'<;>simp only [iu,Ei.add,Ei.mul,hc,zci]<;>omega
 rw [h]; rfl
def vvL:List RV:=[(vv 0).rv,(vv 1).rv,(vv 2).rv,(vv 3).rv,(vv 4).rv,(vv 5).rv]
theorem a3y (i:Nat) (h:i<6) (d:RV):vvL.getD i d=.agg [.v (.int .i64 (vv i).a),.v (.int .i64 (vv i).b)]:=by
 rcases lt6 h with rfl | rfl | rfl | rfl | rfl | rfl<;>rfl
theorem bbs (z:Ei) (r:Int) (h:z.In 1073741824) (hr:0≤r∧r≤12):a8 P0 73 [z.v,int .i64 r] [] (.tup [.own 1000000 0 0 6,bl true]) [.row 2 (pnt 0 0) true true (xh z r.toNat 6)]:=by
  refine apj rfl (by decide) ?_;simp only [aln,Ei.v,Ei.rv,push_cast,↓reduceIte,reduceCtorEq,zB,zE,zA,zS,zL,zD,zM];refine b7 (as':=[z.v,int .i64 r,int .i64 3]) rfl ?_;refine a7 (bdl z r 3 h hr (by decide)) rfl trivial ?_;simp only [Ei.v,Ei.rv,push_cast,↓reduceIte,reduceCtorEq,zB,zE,zA,zS,zL,zD,zM];rw [show IntKind.i64.wrap (12-r)=12-r from a5 (by omega)];refine a7 (at5 (12-r) (by omega)) rfl trivial ?_;simp only [Ei.v,Ei.rv,push_cast,↓reduceIte,reduceCtorEq,zB,zE,zA,zS,zL,zD,zM];refine ⟨by simp,?_⟩;have e:(12-r).toNat=12-r.toNat:=by omega
  have hk:r.toNat≤12:=by omega
  have hmax:=k7;generalize hR:r.toNat=R at *;rw [e];have hm:(iu z R 3).In 1159641169920000:=au1 h hk (by decide);have hb:(g7 (12-R)).In 120000:=lb hk
  refine run_loop [(38,false),(39,false),(40,false),(10,false),(11,false)] (fun vs pos los=>∃i:Nat,i≤6∧pos=[] ∧
    ((i=0∧vs=[.own 2000000 0 0 6,int .i64 6,int .i64 i,.fn (.func 126) [.agg [int .i64 (iu z R 3).a,int .i64 (iu z R 3).b,int .i64 (g7 (12-R)).a,int .i64 (g7 (12-R)).b]] 1,.nils 2 (.agg [.v (.int .i64 0),.v (.int .i64 0)])]∧los=[.row 2 (.agg [.v (.int .i64 0),.v (.int .i64 0)]) true true vvL]) ∨
     (0<i∧vs=[.own 2000000 0 0 6,int .i64 6,int .i64 i,.fn (.func 126) [.agg [int .i64 (iu z R 3).a,int .i64 (iu z R 3).b,int .i64 (g7 (12-R)).a,int .i64 (g7 (12-R)).b]] 1,.own 2000001 0 0 i]∧los=[.row 2 (.agg [.v (.int .i64 0),.v (.int .i64 0)]) true true vvL,.row 2 (pnt 0 0) true true (xh z R i)])))
    (fun vs _ _=>match vs with | _::_ :: .r (.v (.int _ j))::_=>(6-j).toNat | _=>0) rfl ?_ ?_
  · simp only [push_cast,↓reduceIte,reduceCtorEq,zB,zE,zA,zS,zL,zD,zM];exact ⟨0,by omega,.inl ⟨rfl,rfl,rfl⟩⟩
  · rintro vs pos los ⟨i,i6,rfl,⟨i0,rfl,rfl⟩ | ⟨i0,rfl,rfl⟩⟩
    · subst i0;simp only [push_cast,↓reduceIte,reduceCtorEq,zB,zE,zA,zS,zL,zD,zM];rw [show decide ((0:Int)<6)=true from rfl];simp only [push_cast,↓reduceIte,reduceCtorEq,zB,zE,zA,zS,zL,zD,zM];refine ⟨by simp,?_⟩;rw [show (0:Int).toNat=0 from rfl,show 0+0=0 from rfl,a3y 0 (by decide)];simp only [push_cast,↓reduceIte,reduceCtorEq,zB,zE,zA,zS,zL,zD,zM];refine ⟨by kernel_rfl,?_⟩;refine b7 (as':=[cen (iu z R 3) (g7 (12-R)),(vv 0).v]) rfl ?_;refine a7 (ayj _ _ _ hm hb (ba1 0)) rfl trivial ?_;simp only [pnt,push_cast,↓reduceIte,reduceCtorEq,zB,zE,zA,zS,zL,zD,zM];refine ⟨by decide,by omega,?_,?_⟩
      · refine ⟨1,by omega,.inr ⟨by omega,?_,?_⟩⟩
        · rw [show IntKind.i64.wrap (0+1)=((1:Nat):Int) by decide]
        · rw [a0w]; rfl
      · decide
    · simp only [push_cast,↓reduceIte,reduceCtorEq,zB,zE,zA,zS,zL,zD,zM];refine b9 (fun h=>?_) (fun h=>?_)
      · have hi:i<6:=by simp at h; omega
        simp only [push_cast,↓reduceIte,reduceCtorEq,zB,zE,zA,zS,zL,zD,zM];refine ⟨by simp; omega,?_⟩;rw [Int.toNat_natCast,zct,a3y i hi];simp only [push_cast,↓reduceIte,reduceCtorEq,zB,zE,zA,zS,zL,zD,zM];refine ⟨by kernel_rfl,?_⟩;refine b7 (as':=[cen (iu z R 3) (g7 (12-R)),(vv i).v]) rfl ?_;refine a7 (ayj _ _ _ hm hb (ba1 i)) rfl trivial ?_;simp only [pnt,push_cast,↓reduceIte,reduceCtorEq,zB,zE,zA,zS,zL,zD,zM];rw [a0w,show IntKind.i64.wrap ((i:Int)+1)=((i+1:Nat):Int) by rw [a5 (by omega)]; omega,List.take_of_length_le (by rw [ax4]; exact Nat.le_refl _),a6h];refine ⟨by decide,by omega,?_,?_⟩
        · exact ⟨i+1,by omega,.inr ⟨by omega,rfl,rfl⟩⟩
        · omega
      · have hi:i=6:=by simp at h; omega
        subst hi;simp only [push_cast,↓reduceIte,reduceCtorEq,zB,zE,zA,zS,zL,zD,zM]

def akr:Mk P0 f199:={ x:=_ }
theorem an2:d5 199 1 akr:=c8 func199
def aks:Mk P0 f198:={ x:=_ }
theorem an3:d5 198 1 aks:=c8 func198
def akt:Mk P0 f200:={ x:=_ }
theorem an4:d5 200 1 akt:=c8 func200
def aku:Mk P0 f201:={ x:=_ }
theorem an5:d5 201 1 aku:=c8 func201
def aot:Mk P0 f162:={ x:=_ }
theorem ass:d5 162 1 aot:=c8 func162
def ast:Mk P0 f166:={ x:=_ }
theorem at9:d5 166 1 ast:=c8 func166
def asu:Mk P0 f114:={ x:=_ }
theorem aua:d5 114 3 asu:=c8 func114
theorem a2c {z:Ei} {n:Int} (h:z.In n) (h1:2≤n):(pr z).In n:=by
 obtain ⟨l,_,g1,e1,f1⟩:=aet z;generalize pr z=q at *;unfold Ei.H at g1;unfold Ei.In at *;omega
theorem as1 {z:Ei} {n:Int} (k:Nat) (h:z.In n) (h1:2≤n):(anc k z).In n:=by
 induction k generalizing z with
 | zero=>exact h
 | succ k ih=>exact ih (a2c h h1)
theorem a58 (z:Ei):(lft z).In 1:=by
 obtain ⟨l,e,g1,_⟩:=aet z;rw [e];exact g1.in
theorem bcl (z:Ei) (h:z.In 1073741824):a8 P0 199 [z.v] [] (.tup [(pr z).v,(lft z).v]) []:=by
 refine an2 rfl (by decide) ?_
 push_cast [akr,Ei.v,Ei.rv,zaa]
 refine b7 (as':=[ar.v]) rfl ?_;refine a7 (a04 ar (by unfold Ei.In; decide)) rfl trivial ?_
 push_cast [Ei.v,Ei.rv]
 have h1:(z.mul ⟨3,-1⟩).In 9663676416:=(acm h (show (⟨3,-1⟩:Ei).In 3 by unfold Ei.In; decide)).mono (by decide);refine b7 (as':=[z.v,Ei.v ⟨3,-1⟩]) rfl ?_;refine a7 (afd _ _ (h.mono (by decide)) (show (⟨3,-1⟩:Ei).In _ by unfold Ei.In; decide) (h1.mono (by decide))) rfl trivial ?_
 push_cast [Ei.v,Ei.rv]
 refine b7 (as':=[(z.mul ⟨3,-1⟩).v,int .i64 7]) rfl ?_;refine a7 (aye _ 7 (h1.mono (by decide)) (by decide)) rfl trivial ?_;rw [show (z.mul ⟨3,-1⟩).round 7=pr z from rfl];have h2:(pr z).In 1073741824:=a2c h (by decide);have h3:((pr z).mul ar).In 6442450944:=(acm h2 (show ar.In 2 by unfold Ei.In; decide)).mono (by decide)
 push_cast [Ei.v,Ei.rv]
 refine b7 (as':=[(pr z).v,ar.v]) rfl ?_;refine a7 (afd _ _ (h2.mono (by decide)) (show ar.In _ by unfold Ei.In; decide) (h3.mono (by decide))) rfl trivial ?_
 push_cast [Ei.v,Ei.rv]
 refine b7 (as':=[z.v,((pr z).mul ar).v]) rfl ?_;refine a7 (bhp _ _ (h.mono (by decide)) (h3.mono (by decide)) ((a58 z).mono (by decide))) rfl trivial ?_;rw [show z.sub ((pr z).mul ar)=lft z from rfl]
 push_cast [Ei.v,Ei.rv]
 kernel_rfl
def cel (r:Int) (z:Ei):AV:=.r (.agg [.v (.int .i64 r),.v (.int .i64 z.a),.v (.int .i64 z.b)])
instance (z:Ei) (n:Int):Decidable (z.In n):=inferInstanceAs (Decidable (_∧_))
def pg (r:Int) (z:Ei):Bool:=decide ((0≤r∧r≤12)∧z.In 1073741824)
theorem bco (r:Int) (z:Ei) (hz:z.In M63):a8 P0 198 [cel r z] [] (bl (pg r z)) []:=by
 refine an3 rfl (by decide) ?_
 push_cast [aks,cel,zaa]
 by_cases h1:0≤r
 ·by_cases h2:r≤12
  ·have g1:decide (r≥0)=true:=by simp; omega
   have g2:decide (r≤12)=true:=by simp; omega
   push_cast [g1,g2]
   refine a7 (aa6 _ _ hz.ok.1 (by decide)) rfl trivial ?_;by_cases h3:-1073741824≤z.a∧z.a≤1073741824
   ·rw [decide_eq_true h3]
    push_cast
    refine a7 (aa6 _ _ hz.ok.2 (by decide)) rfl trivial ?_
    push_cast
    refine fo ?_;simp [pg,Ei.In,h1,h2,h3.1,h3.2]
   ·rw [decide_eq_false h3]
    push_cast
    have:pg r z=false:=by simp only [pg,Ei.In]; exact decide_eq_false fun c=>h3 c.2.1
    rw [this]
  ·have g1:decide (r≥0)=true:=by simp; omega
   have g2:decide (r≤12)=false:=by simp; omega
   push_cast [g1,g2]
   have:pg r z=false:=by simp only [pg,decide_eq_false_iff_not]; omega
   rw [this]
 ·have g1:decide (r≥0)=false:=by simp; omega
  push_cast [g1]
  have:pg r z=false:=by simp only [pg,decide_eq_false_iff_not]; omega
  rw [this]
theorem ayi (i:Nat) (h:i<6):dgOf (uni i)=i+1:=by
 rcases lt6 h with rfl | rfl | rfl | rfl | rfl | rfl<;>decide
theorem a06 (l:Ei) (h:∀j:Nat,j<6→uni j≠l):dgOf l=0:=by
 have h0:=h 0 (by decide); have h1:=h 1 (by decide); have h2:=h 2 (by decide); have h3:=h 3 (by decide); have h4:=h 4 (by decide); have h5:=h 5 (by decide);unfold dgOf;rw [if_neg (show ¬l=⟨1,0⟩ from Ne.symm h0),if_neg (show ¬l=⟨0,1⟩ from Ne.symm h1),if_neg (show ¬l=⟨-1,1⟩ from Ne.symm h2),if_neg (show ¬l=⟨-1,0⟩ from Ne.symm h3),if_neg (show ¬l=⟨0,-1⟩ from Ne.symm h4),if_neg (show ¬l=⟨1,-1⟩ from Ne.symm h5)]
theorem bee (l:Ei):a8 P0 200 [l.v] [] (int .i64 (dgOf l)) []:=by
 refine an4 rfl (by decide) ?_
 push_cast [akt,Ei.v,Ei.rv,zaa]
 refine run_loop [(4,false),(1,false)] (fun vs pos los=>∃i:Int,(0≤i∧i≤6)∧(∀j:Nat,(j:Int)<i→uni j≠l)∧vs=[int .i64 i,.ptr 2000000 0 0]∧pos=[]∧los=[.box [int .i64 l.a,int .i64 l.b]])
  (fun vs _ _=>match vs with | .r (.v (.int _ j))::_=>(6-j).toNat | _=>0) rfl ?_ ?_
 ·push_cast
  exact ⟨0,by omega,fun j hj=>by omega,rfl⟩
 ·rintro vs pos los ⟨i,i6,hj,rfl,rfl,rfl⟩
  push_cast
  refine b9 (fun h=>?_) (fun h=>?_)
  ·simp only [decide_eq_true_eq] at h
   push_cast
   refine d9 (a02 i ⟨i6.1,h⟩) rfl trivial ?_
   push_cast [Ei.v,Ei.rv]
   refine ⟨by kernel_rfl,b9 (fun h'=>?_) (fun h'=>?_)⟩
   ·have e:uni i.toNat=l:=by
     simp only [Bool.and_eq_true,beq_iff_eq] at h';exact Ei.ext' h'.1 h'.2
    push_cast
    rw [← e,ayi _ (by omega),a5 (by omega),show ((i.toNat+1:Nat):Int)=i+1 by omega]
   ·have e:uni i.toNat≠l:=fun e=>by rw [e] at h'; simp at h'
    push_cast
    rw [a5 (by omega)];refine ⟨⟨i+1,by omega,fun j hj'=>?_,rfl⟩,by omega⟩;by_cases hji:(j:Int)=i
    ·rw [show j=i.toNat by omega]; exact e
    ·exact hj j (by omega)
  ·have hi:i=6:=by simp at h; omega
   subst hi
   push_cast
   rw [a06 l fun j h6=>hj j (by omega)]
   rfl
theorem bha (n:Int):a8 P0 201 [int .i64 n] [] (bl (decide (-512≤n∧n≤511))) []:=by
 refine an5 rfl (by decide) ?_
 push_cast [aku,zaa]
 refine fo ?_;by_cases h1:-512≤n<;>by_cases h2:n<512<;>simp [h1,h2]<;>omega
def ck (r:Nat) (z:Ei) (i:Nat):List AV:=(List.range 13).map fun j=>int .i64 (if i<j∧j≤r then (dg (anc (r-j) z):Int) else 0)
theorem xk (r:Nat) (z:Ei) (i:Nat):(ck r z i).length=13:=by simp [ck]
theorem a6t (r:Nat) (z:Ei):ck r z r=[int .i64 0,int .i64 0,int .i64 0,int .i64 0,int .i64 0,int .i64 0,int .i64 0,int .i64 0,int .i64 0,int .i64 0,int .i64 0,int .i64 0,int .i64 0]:=by
 have:∀j,¬(r<j∧j≤r):=fun j=>by omega
 simp only [ck,this,if_false]
 rfl
theorem a6u (r:Nat) (z:Ei) (i:Nat) (h1:1≤i) (h2:i≤r) (hr:r≤12):d7 (ck r z i) i [int .i64 (dg (anc (r-i) z))]=ck r z (i-1):=by
 have hl:=xk r z i;apply List.ext_getElem
 ·simp [d7,hl,xk]; omega
 ·intro j j1 j2;rw [xk] at j2;have e:∀(k:Nat) (hk:k<(ck r z i).length),(ck r z i)[k]=int .i64 (if i<k∧k≤r then (dg (anc (r-k) z):Int) else 0):=fun k hk=>by simp [ck]
  have e':∀(k:Nat) (hk:k<(ck r z (i-1)).length),(ck r z (i-1))[k]=int .i64 (if i-1<k∧k≤r then (dg (anc (r-k) z):Int) else 0):=fun k hk=>by simp [ck]
  rw [e'];have hm:min i 13=i:=by omega
  simp only [d7,List.getElem_append,zan,List.length_take,List.length_singleton,hl,List.getElem_take,List.getElem_drop,e,hm];by_cases c1:j<i
  ·rw [dif_pos (by omega),dif_pos c1,if_neg (by omega),if_neg (by omega)]
  ·by_cases c2:j=i
   ·subst c2;rw [dif_pos (by omega),dif_neg (by omega),if_pos (by omega)];simp
   ·rw [dif_neg (by omega)];rw [show i+1+(j-(i+1))=j by omega];by_cases c3:j≤r
    ·rw [if_pos (by omega),if_pos (by omega)]
    ·rw [if_neg (by omega),if_neg (by omega)]
theorem a6e (f:Nat→Int) (l:List Nat):m0 (l.map fun j=>int .i64 (f j))=[]:=by
 induction l with
 | nil=>rfl
 | cons a l ih=>show v9 _++m0 _=[]; rw [ih]; rfl
theorem a9s (F:Ren) (f:Nat→Int) (l:List Nat):imL F (l.map fun j=>int .i64 (f j))=l.map fun j=>int .i64 (f j):=by
 induction l with
 | nil=>rfl
 | cons a l ih=>show imV F _::imL F _ = _; rw [ih]; rfl
theorem agt (r:Nat) (z:Ei) (i:Nat):m0 (ck r z i)=[]:=a6e _ _
theorem ajr (F:Ren) (r:Nat) (z:Ei) (i:Nat):imL F (ck r z i)=ck r z i:=a9s F _ _
theorem a39 (r:Nat) (z:Ei) (i:Nat):List.take 13 (ck r z i)=ck r z i:=List.take_of_length_le (by rw [xk]; exact Nat.le_refl _)
def aeh (r:Nat) (z:Ei) (i:Nat):List RV:=(List.range 13).map fun j=>.v (.int .i64 (if i<j∧j≤r then (dg (anc (r-j) z):Int) else 0))
theorem a8k (ob:Obs) (f:Nat→Int) (l:List Nat):rvs ob (l.map fun j=>int .i64 (f j))=some (l.map fun j=>.v (.int .i64 (f j)),[]):=by
 induction l with
 | nil=>rfl
 | cons a l ih=>show rvs ob (_::_) = _; simp only [rvs,AV.rv,ih]; rfl
theorem a8l (ob:Obs) (r:Nat) (z:Ei) (i:Nat):rvs ob (ck r z i)=some (aeh r z i,[]):=a8k ob _ _
theorem a5q (r:Nat) (z:Ei) (i:Nat):ck r z i++List.drop 13 (ck r z i)=ck r z i:=by
 rw [List.drop_of_length_le (by rw [xk]; exact Nat.le_refl _),zai]
attribute [push_cast high] a8l a5q
attribute [push_cast high] agt ajr a39 xk
theorem a95 (r:Nat) (z:Ei) (i:Nat) (h1:1≤i) (h2:i≤r) (hr:r≤12):List.take (0+i*1) (ck r z i)++[int .i64 (dgOf (lft (anc (r-i) z)))]++List.drop (0+i*1+1) (ck r z i)=ck r z (i-1):=by
 rw [← a6u r z i h1 h2 hr,d7,Nat.mul_one,zct]
 rfl
def as0 (q:Ei):Bool:=decide ((-512≤q.a∧q.a≤511)∧(-512≤q.b∧q.b≤511))
theorem ba0 (r:Int) (z:Ei) (h:pg r z=true):a8 P0 162 [cel r z] [] (.tup [(anc r.toNat z).v,.r (.agg (aeh r.toNat z 0)),bl (as0 (anc r.toNat z))]) []:=by
 refine ass rfl (by decide) ?_;have h':=h;simp only [pg,decide_eq_true_eq] at h';simp only [aot,cel,push_cast,↓reduceIte,reduceCtorEq,zB,zE,zA,zS,zL,zD,zM];refine b7 (as':=[cel r z]) rfl ?_;refine a7 (bco r z (h'.2.mono (by decide))) rfl trivial ?_;rw [h];simp only [push_cast,↓reduceIte,reduceCtorEq,zB,zE,zA,zS,zL,zD,zM];obtain ⟨⟨r0,r12⟩,hz⟩:=h'
 refine run_loop [(6,false),(5,false),(3,false),(2,false)] (fun vs pos los=>∃i:Int,(0≤i∧i≤r)∧vs=[int .i64 i,.ptr 2000000 0 0,.ptr 2000001 0 0,.ptr 2000002 0 0]∧pos=[]∧los=[.box [int .i64 (anc (r-i).toNat z).a,int .i64 (anc (r-i).toNat z).b],.box (ck r.toNat z i.toNat),.box [int .i64 0,int .i64 0]])
  (fun vs _ _=>match vs with | .r (.v (.int _ j))::_=>j.toNat | _=>0) rfl ?_ ?_
 ·simp only [push_cast,↓reduceIte,reduceCtorEq,zB,zE,zA,zS,zL,zD,zM];refine ⟨r,by omega,?_⟩;rw [a6t,Int.sub_self];exact ⟨rfl,rfl⟩
 ·rintro vs pos los ⟨i,i6,rfl,rfl,rfl⟩;simp only [push_cast,↓reduceIte,reduceCtorEq,zB,zE,zA,zS,zL,zD,zM];refine b9 (fun h=>?_) (fun h=>?_)
  ·simp only [decide_eq_true_eq] at h;simp only [push_cast,↓reduceIte,reduceCtorEq,zB,zE,zA,zS,zL,zD,zM];have ha:=as1 (r-i).toNat hz (by decide);refine b7 (as':=[(anc (r-i).toNat z).v]) rfl ?_;refine a7 (bcl _ ha) rfl trivial ?_;simp only [Ei.v,Ei.rv,push_cast,↓reduceIte,reduceCtorEq,zB,zE,zA,zS,zL,zD,zM];refine q8 (as':=[(lft (anc (r-i).toNat z)).v]) rfl ?_;refine d9 (bee _) rfl trivial ?_;have hst:=a95 r.toNat z i.toNat (by omega) (by omega) (by omega);rw [show r.toNat-i.toNat=(r-i).toNat by omega] at hst;have hpr:pr (anc (r-i).toNat z)=anc (r-(i-1)).toNat z:=by rw [← akb,show (r-i).toNat+1=(r-(i-1)).toNat by omega]
   simp only [Ei.v,Ei.rv,hst,push_cast,↓reduceIte,reduceCtorEq,zB,zE,zA,zS,zL,zD,zM];rw [show IntKind.i64.wrap (i-1)=i-1 from a5 (by omega),hpr];refine ⟨by omega,by omega,by kernel_rfl,⟨i-1,by omega,rfl,?_⟩,by omega⟩;rw [show (i-1).toNat=i.toNat-1 by omega]
  ·have hi:i=0:=by simp at h; omega
   subst hi;have ha:=as1 r.toNat hz (by decide);simp only [push_cast,↓reduceIte,reduceCtorEq,zB,zE,zA,zS,zL,zD,zM];rw [show (r-0).toNat=r.toNat by omega,show Int.toNat 0=0 from rfl];refine ⟨by kernel_rfl,?_⟩;refine d9 (bha _) rfl trivial ?_;by_cases c:-512≤(anc r.toNat z).a∧(anc r.toNat z).a≤511
   ·rw [decide_eq_true c];simp only [push_cast,↓reduceIte,reduceCtorEq,zB,zE,zA,zS,zL,zD,zM];refine ⟨by kernel_rfl,?_⟩;refine d9 (bha _) rfl trivial ?_;simp only [Ei.v,Ei.rv,push_cast,↓reduceIte,reduceCtorEq,zB,zE,zA,zS,zL,zD,zM];refine ⟨by kernel_rfl,?_⟩;simp [as0,c.1,c.2];kernel_rfl
   ·rw [decide_eq_false c];simp only [Ei.v,Ei.rv,push_cast,↓reduceIte,reduceCtorEq,zB,zE,zA,zS,zL,zD,zM];refine ⟨by kernel_rfl,?_⟩;simp only [as0,c,false_and,decide_false];exact ⟨by kernel_rfl,trivial⟩
theorem a2e {r:Int} {z:Ei} (h0:0≤r) (h:okc r.toNat z):pg r z=true∧as0 (anc r.toNat z)=true:=by
 obtain ⟨h1,h2,h3,h4⟩:=h;simp only [pg,as0,decide_eq_true_eq];exact ⟨⟨⟨h0,by omega⟩,h2⟩,h3,h4⟩
theorem bjv (r:Int) (z:Ei) (h0:0≤r) (h:okc r.toNat z):a8 P0 166 [cel r z] [] (bl true) []:=by
 refine at9 rfl (by decide) ?_
 push_cast [ast,cel,zaa]
 refine b7 (as':=[cel r z]) rfl ?_;refine a7 (ba0 r z (a2e h0 h).1) rfl trivial ?_;rw [(a2e h0 h).2]
 push_cast [Ei.v,Ei.rv]
 refine ⟨by simp [aeh],?_⟩;simp only [aeh,List.map_map,List.all_map];rw [List.all_eq_true];intro x hx
 rfl
theorem bjw (x y r:Int) (h:inW x y) (hr:0≤r∧r≤12):a8 P0 114 [int .i64 x,int .i64 y,int .i64 r] [] (.tup [cel r (g9 x y r.toNat),int .i64 0]) []:=by
 refine aua rfl (by decide) ?_
 push_cast [asu,cel,zaa]
 refine a7 (bbf x y) rfl trivial ?_;rw [decide_eq_true h]
 push_cast
 refine a7 (bgt x y r h hr) rfl trivial ?_
 push_cast [Ei.v,Ei.rv]

theorem ye {a b k:Nat} (h:a<2^k):a ||| b*2^k=b*2^k+a:=by
 rw [zco,← Nat.shiftLeft_eq,Nat.shiftLeft_add_eq_or_of_lt h]
theorem p8 (n:Nat):0<8^n:=zce (by decide)
theorem bef {a b d k:Nat} (hb:b<2^k) (hd:d<8) (hk:k+3≤64) (ha:(a*8+7)*2^k+b<2^64) :
  (((a*8+7)*2^k+b) &&& (2^64-1-7*2^k)) ||| d*2^k=(a*8+d)*2^k+b:=by
 have h7:∀j,Nat.testBit 7 j=decide (j<3):=fun j=>by
  rcases (show j=0∨j=1∨j=2∨3≤j by omega) with rfl | rfl | rfl | hj
  ·rfl
  ·rfl
  ·rfl
  ·rw [zde (Nat.lt_of_lt_of_le (by decide:7<2^3) (zad (by decide) hj))]; simp; omega
 have hd3:∀j,3≤j→Nat.testBit d j=false:=fun j hj=>zde (Nat.lt_of_lt_of_le (by omega:d<2^3) (zad (by decide) hj))
 have hs:7*2^k<2^64:=by
  have:2^(k+3)≤2^64:=zad (by decide) hk;rw [zac] at this;have:=Nat.two_pow_pos k;omega
 apply Nat.eq_of_testBit_eq;intro j;rw [Nat.testBit_or,Nat.testBit_and,show 2^64-1-7*2^k=2^64-(7*2^k+1) by omega,Nat.testBit_two_pow_sub_succ hs];rw [zcn _ (2^k),zcn 7,zcn d,zcn (a*8+d)];rw [zcy _ hb,zcy _ hb,Nat.testBit_two_pow_mul,Nat.testBit_two_pow_mul];by_cases hj:j<k
 ·simp [hj,Nat.not_le.2 hj];intro hx;omega
 ·rw [if_neg hj,if_neg hj];have hkj:k≤j:=by omega
  simp only [hkj,ge_iff_le,decide_true,zak];rw [show a*8+7=2^3*a+7 by omega,show a*8+d=2^3*a+d by omega,zcy a (show 7<2^3 by decide),zcy a (show d<2^3 from hd),h7];by_cases h3:j-k<3
  ·simp [h3]
  ·rw [hd3 _ (by omega)];simp only [h3,if_false,decide_false,zam,zaj,zal];by_cases h64:j<64
   ·simp [h64]
   ·simp only [h64,decide_false,Bool.and_false];apply Eq.symm;apply zde;have e:(a*8+7)*2^k+b<2^j:=Nat.lt_of_lt_of_le ha (zad (by decide) (by omega));have e2:2^j=2^(j-k-3)*8*2^k:=by rw [show (8:Nat)=2^3 from rfl,← zac,← zac]; congr 1; omega
    rw [e2] at e;have:(a*8+7)*2^k<2^(j-k-3)*8*2^k:=by omega
    have:=Nat.lt_of_mul_lt_mul_right this;omega
def na (r:Nat) (z:Ei) (i:Nat):Nat:=((8^i-1)*8^(r-i)+val (r-i) z)*8^(12-r)+(8^(12-r)-1)
theorem bb2 (r:Nat) (z:Ei) (hr:r≤12):na r z r=68719476735:=by
 unfold na;rw [Nat.sub_self,val,Nat.pow_zero,Nat.mul_one,Nat.add_zero,Nat.sub_mul,← zac,show r+(12-r)=12 by omega,Nat.one_mul];have:8^(12-r)≤8^12:=zad (by decide) (by omega);have:=p8 (12-r);omega
theorem a71 (k:Nat) (z:Ei):val (k+1) z=dg (anc k z)*8^k+val k z:=by
 induction k generalizing z with
 | zero=>simp [val,anc]
 | succ k ih=>
  rw [val,ih (pr z),val,anc,zcm];generalize dg (anc k (pr z))=e;generalize 8^k=p;generalize val k (pr z)=q;rw [zcd,zah];omega
theorem auh (r:Nat) (z:Ei) (i:Nat) (hi:i≤r) (hr:r≤12):val (r-i) z*8^(12-r)+(8^(12-r)-1)<2^(36-3*i):=by
 have h1:=a32 (r-i) z
 have e:2^(36-3*i)=8^(r-i)*8^(12-r):=by
  rw [← zac,show (8:Nat)=2^3 from rfl,← Nat.pow_mul]; congr 1; omega
 rw [e];have hp:=p8 (12-r);generalize 8^(12-r)=p at *;generalize val (r-i) z=v at *;have h2:(v+1)*p≤8^(r-i)*p:=Nat.mul_le_mul_right _ h1;rw [zcd] at h2;omega
theorem aow (r:Nat) (z:Ei) (i:Nat) (hi:i≤r) (hr:r≤12):na r z i=(8^i-1)*2^(36-3*i)+(val (r-i) z*8^(12-r)+(8^(12-r)-1)):=by
 have e:2^(36-3*i)=8^(r-i)*8^(12-r):=by
  rw [← zac,show (8:Nat)=2^3 from rfl,← Nat.pow_mul]; congr 1; omega
 unfold na;rw [e,zcd,zah,Nat.add_assoc]
theorem ai4 (r:Nat) (z:Ei) (i:Nat) (hi:i≤r) (hr:r≤12):na r z i<68719476736:=by
 rw [aow r z i hi hr];have h:=auh r z i hi hr
 have e:(8:Nat)^i*2^(36-3*i)=68719476736:=by
  rw [show (8:Nat)=2^3 from rfl,← Nat.pow_mul,← zac,show 3*i+(36-3*i)=36 by omega]
 rw [Nat.sub_mul,e,Nat.one_mul];have:=Nat.two_pow_pos (36-3*i);have:2^(36-3*i)≤2^36:=zad (by decide) (by omega);omega
theorem a1j (r:Nat) (z:Ei) (i:Nat) (h1:1≤i) (hi:i≤r) (hr:r≤12) :
  ((na r z i &&& (2^64-1-7*2^(36-3*i))) ||| dg (anc (r-i) z)*2^(36-3*i))=na r z (i-1):=by
 have hl:=ai4 r z i hi hr;have hlow:=auh r z i hi hr;have hd:=dg_lt (anc (r-i) z)
 have e8:(8:Nat)^i-1=(8^(i-1)-1)*8+7:=by
  have:(8:Nat)^i=8^(i-1)*8:=by conv=>lhs; rw [show i=i-1+1 by omega,zcm]
  have:=p8 (i-1);omega
 have e0:=aow r z i hi hr;rw [e8] at e0;rw [e0] at hl ⊢;rw [bef hlow (by omega) (by omega) (by omega),aow r z (i-1) (by omega) hr,show r-(i-1)=r-i+1 by omega,a71];have e9:2^(36-3*(i-1))=8*2^(36-3*i):=by rw [show (8:Nat)=2^3 from rfl,← zac]; congr 1; omega
 have e10:8^(r-i)*8^(12-r)=2^(36-3*i):=by
  rw [← zac,show (8:Nat)=2^3 from rfl,← Nat.pow_mul]; congr 1; omega
 rw [e9,← e10];generalize 8^(i-1)-1=A;generalize 8^(r-i)=B;generalize 8^(12-r)=C;generalize dg (anc (r-i) z)=D;generalize val (r-i) z=V;simp only [zcd,zah];omega
theorem bb1 (r:Nat) (z:Ei) (hr:r≤12) (A B:Nat) (hA:A<1024) (hB:B<1024) (hA':(anc r z).a+512=A) (hB':(anc r z).b+512=B) :
  ((((na r z 0 ||| 1152921504606846976) ||| r*2^56) ||| A*2^46) ||| B*2^36)=x8 r z:=by
 have hl:=ai4 r z 0 (by omega) hr
 have e:x8 r z=od r (anc r z)*2^36+na r z 0:=by
  unfold x8 na;rw [zcd,zah,← zac,show r+(12-r)=12 by omega];simp;omega
 rw [e];generalize na r z 0=w at *;rw [zcp,zcp,zcp,zco,zcp,zcp,zcp]
 rw [zco (B*2^36),ye (show w<2^36 from hl),zco (A*2^46),ye (show B*2^36+w<2^46 by omega),zco (r*2^56),ye (show A*2^46+(B*2^36+w)<2^56 by omega),
  show (1152921504606846976:Nat)=1*2^60 from rfl,zco (1*2^60),ye (show r*2^56+(A*2^46+(B*2^36+w))<2^60 by omega)]
 unfold od;omega

def aih:Mk P0 f164:={ x:=_ }
theorem alm:d5 164 1 aih:=c8 func164
def aa2:Mk P0 f81:={ x:=_ }
theorem af7:d5 81 1 aa2:=c8 func81
def aay:Mk P0 f80:={ x:=_ }
theorem af3:d5 80 1 aay:=c8 func80
def aj:Mk P0 f41:={ x:=_ }
theorem ahq:d5 41 1 aj:=c8 func41
def acw:Mk P0 f42:={ x:=_ }
theorem ahr:d5 42 1 acw:=c8 func42
def aqm:Mk P0 f116:={ x:=_ }
theorem as2:d5 116 1 aqm:=c8 func116
def akz:Mk P0 f75:={ x:=_ }
theorem aoy:d5 75 1 akz:=c8 func75
def ak2:Mk P0 f117:={ x:=_ }
theorem aoz:d5 117 1 ak2:=c8 func117
def aqn:Mk P0 f66:={ x:=_ }
theorem as3:d5 66 1 aqn:=c8 func66
def ah5:Mk P0 f74:={ x:=_ }
theorem ak1:d5 74 1 ah5:=c8 func74
def aa5:Mk P0 f26:={ x:=_ }
theorem aga:d5 26 4 aa5:=c8 func26
structure Til where
 z:Int
 x:Int
 y:Int
 r:Int
def Til.v (t:Til):AV:=.r (.agg [.v (.int .i64 t.z),.v (.int .i64 t.x),.v (.int .i64 t.y),.v (.int .i64 t.r)])
def Til.ok (t:Til):Prop:=in64 t.z∧in64 t.x∧in64 t.y∧in64 t.r
def tis (t:Til):Bool:=decide (0≤t.z∧t.z≤18∧0≤t.r∧t.r≤12∧0≤t.x∧t.x<2^t.z.toNat∧0≤t.y∧t.y<2^t.z.toNat)
theorem a2u (t:Til):a8 P0 116 [t.v] [] (bl (tis t)) []:=by
 refine as2 rfl (by decide) ?_
 push_cast [aqm,Til.v,zaa]
 repeat refine And.intro (by simp +contextual) ?_
 refine b9 (fun h=>?_) (fun h=>?_)
 ·push_cast
  refine fo ?_;simp [tis] at h ⊢;omega
 ·have hz:0≤t.z∧t.z≤18∧0≤t.r∧t.r≤12:=by simp at h; omega
  push_cast
  refine And.intro ?_ ?_
  ·rw [IntKind.wrap_u64]; omega
  rw [a8d _ hz.1 (by omega)]
  repeat refine And.intro (by simp +contextual) ?_
  refine fo ?_;simp [tis];omega
theorem a34 (t:Til) (h0:0≤t.z) (h1:t.z≤18):a8 P0 75 [t.v] [] (int .i64 (2^(18-t.z).toNat)) []:=by
 refine aoy rfl (by decide) ?_
 push_cast [akz,Til.v,zaa]
 rw [show IntKind.i64.wrap (18-t.z)=18-t.z from a5 (by omega)];refine And.intro ?_ ?_
 ·rw [IntKind.wrap_u64]; omega
 ·rw [a8d _ (by omega) (by omega)]
def rok (r:Int):Bool:=decide (0≤r∧r≤12)
theorem bb3 (r:Int) (hr:in64 r):a8 P0 164 [int .i64 r] [] (.tup [int .i64 (if rok r then 169*7^(12-r).toNat else 0),bl (rok r)]) []:=by
 refine alm rfl (by decide) ?_
 push_cast [aih,zaa]
 refine a7 (atv r) rfl trivial ?_
 push_cast
 refine b9 (fun h=>?_) (fun h=>?_)
 ·push_cast
  have:rok r=false:=by simp [rok] at h ⊢; omega
  simp [this]
 ·have h:rok r=true:=by simpa [rok] using h
  have h':0≤r∧r≤12:=by simpa [rok] using h
  push_cast
  rw [show IntKind.i64.wrap (12-r)=12-r from a5 (by omega)];have hp:=p7 (12-r).toNat (by omega);have ht:=bbe 7 (12-r) (by decide) (by unfold in64; omega);rw [if_neg (show ¬12-r<0 by omega)] at ht;refine a7 ht rfl trivial ?_
  push_cast [sm,if_pos (show in64 (7^(12-r).toNat) by unfold in64; omega)]
  rw [a5 (by omega)];simp [h]
theorem azw (k:Int) (h0:0≤k) (h1:k≤12):a8 P0 81 [int .i64 k] [] (int .i64 (7^k.toNat)) []:=by
 refine af7 rfl (by decide) ?_
 push_cast [aa2,zaa]
 have hp:=p7 k.toNat (by omega);have ht:=bf3 7 k (by decide) (by unfold in64; omega);rw [if_neg (show ¬k<0 by omega)] at ht;refine a7 ht rfl trivial ?_
 push_cast [sm,if_pos (show in64 (7^k.toNat) by unfold in64; omega)]
theorem azv (k:Int) (h0:0≤k) (h1:k≤36):a8 P0 80 [int .i64 k] [] (int .i64 (2^k.toNat)) []:=by
 refine af3 rfl (by decide) ?_
 push_cast [aay,zaa]
 refine ⟨by omega,?_⟩;rw [bj6 k h0 h1]
def fine (t:Til):Bool:=tis t&&decide (169*7^(12-t.r).toNat<16*2^(18-t.z).toNat*(2:Int)^(18-t.z).toNat)
theorem bhn (t:Til) (ht:t.ok):a8 P0 117 [t.v] [] (bl (fine t)) []:=by
 refine aoz rfl (by decide) ?_
 push_cast [ak2,Til.v,zaa]
 refine a7 (bb3 t.r ht.2.2.2) rfl trivial ?_
 push_cast
 refine q8 (as':=[t.v]) rfl ?_;refine d9 (a2u t) rfl trivial ?_;cases hti:tis t with
 | false=>
  push_cast
  exact ⟨by kernel_rfl,by simp [fine,hti]⟩
 | true=>
  have hr:0≤t.z∧t.z≤18∧0≤t.r∧t.r≤12:=by simp [tis] at hti; omega
  have hrok:rok t.r=true:=by simp [rok]; omega
  have hp:=p2 (18-t.z).toNat (by omega);have hu:=a34 t hr.1 hr.2.1
  push_cast [hrok]
  refine q8 (as':=[t.v]) rfl ?_;refine d9 hu rfl trivial ?_
  push_cast
  refine q8 (as':=[t.v]) rfl ?_;refine d9 hu rfl trivial ?_
  push_cast
  refine ⟨by kernel_rfl,?_⟩;have hq:(18-t.z).toNat≤18:=by omega
  have hq2:(2:Int)^(18-t.z).toNat≤262144:=by
   have h1:2^(18-t.z).toNat≤2^18:=zad (by decide) hq;have h3:((2^(18-t.z).toNat:Nat):Int)=(2:Int)^(18-t.z).toNat:=by simp
   omega
  rw [show IntKind.i64.wrap (16*2^(18-t.z).toNat)=16*2^(18-t.z).toNat from a5 (by omega)];have hm:16*(2:Int)^(18-t.z).toNat*2^(18-t.z).toNat≤4194304*262144:=Int.mul_le_mul (by omega) hq2 (by omega) (by omega);have hm0:0≤16*(2:Int)^(18-t.z).toNat*2^(18-t.z).toNat:=zcr (by omega) (by omega);rw [a5 (by omega)];refine fo ?_;simp [fine,hti]
theorem bgk (t:Til) (ht:t.ok):a8 P0 66 [t.v] [] (int .i64 (if tis t then (if fine t then 14 else 0) else 1)) []:=by
 refine as3 rfl (by decide) ?_
 push_cast [aqn,Til.v,zaa]
 refine b7 (as':=[t.v]) rfl ?_;refine a7 (a2u t) rfl trivial ?_;cases hti:tis t with
 | false=>
  push_cast
 | true=>
  push_cast
  refine b7 (as':=[t.v]) rfl ?_;refine a7 (bhn t ht) rfl trivial ?_;cases hf:fine t<;>push_cast
theorem aw9 (t:Til) (hi:tis t=true):a8 P0 74 [t.v] [] (.tup [int .i64 (t.x*2^(30-t.z).toNat),int .i64 (t.y*2^(30-t.z).toNat),int .i64 (2^(30-t.z).toNat)]) []:=by
 refine ak1 rfl (by decide) ?_
 push_cast [ah5,Til.v,zaa]
 refine b7 (as':=[t.v]) rfl ?_;refine a7 (a2u t) rfl trivial ?_;rw [hi]
 push_cast
 simp only [tis,decide_eq_true_eq] at hi;obtain ⟨z0,z1,r0,r1,x0,x1,y0,y1⟩:=hi;have hp:=p2 t.z.toNat (by omega);have hq:=p2 (30-t.z).toNat (by omega)
 have hpq:(2:Int)^t.z.toNat*2^(30-t.z).toNat=1073741824:=by
  rw [← Int.pow_add,show t.z.toNat+(30-t.z).toNat=30 by omega]; rfl
 have hx:t.x*2^(30-t.z).toNat≤1073741824:=by rw [← hpq]; exact zcv (by omega) (by omega)
 have hy:t.y*2^(30-t.z).toNat≤1073741824:=by rw [← hpq]; exact zcv (by omega) (by omega)
 have hx0:0≤t.x*2^(30-t.z).toNat:=zcr x0 (by omega);have hy0:0≤t.y*2^(30-t.z).toNat:=zcr y0 (by omega);rw [show IntKind.i64.wrap (30-t.z)=30-t.z from a5 (by omega),a8d _ (by omega) (by omega)];refine ⟨by rw [IntKind.wrap_u64]; omega,by kernel_rfl,?_⟩;rw [a5 (by omega),a5 (by omega)]

def aa4:Mk P0 f146:={ x:=_ }
theorem af9:d5 146 2 aa4:=c8 func146
def adv:Mk P0 f152:={ x:=_ }
theorem aiy:d5 152 2 adv:=c8 func152
def adx:Mk P0 f96:={ x:=_ }
theorem ai0:d5 96 2 adx:=c8 func96
def ac3:Mk P0 f139:={ x:=_ }
theorem ahx:d5 139 1 ac3:=c8 func139
def acy:Mk P0 f97:={ x:=_ }
theorem aht:d5 97 1 acy:=c8 func97
def acx:Mk P0 f193:={ x:=_ }
theorem ahs:d5 193 1 acx:=c8 func193
def aaz:Mk P0 f155:={ x:=_ }
theorem af4:d5 155 3 aaz:=c8 func155
def aa3:Mk P0 f98:={ x:=_ }
theorem af8:d5 98 2 aa3:=c8 func98
def aa0:Mk P0 f95:={ x:=_ }
theorem af5:d5 95 2 aa0:=c8 func95
def ac2:Mk P0 f53:={ x:=_ }
theorem ahw:d5 53 3 ac2:=c8 func53
theorem awz (a b:Int) (ha:in64 a) (hb:in64 b):a8 P0 146 [int .i64 a,int .i64 b] [] (.tup [int .i64 (if 0<b then a/b else 0),int .i64 (if 0<b then a%b else 0),bl (decide (0<b))]) []:=by
 refine af9 rfl (by decide) ?_
 push_cast [aa4,zaa]
 refine b9 (fun h=>?_) (fun h=>?_)
 ·push_cast
  simp at h;have:¬0<b:=by omega
  simp [this]
 ·push_cast
  simp at h;refine ⟨by omega,by omega,by kernel_rfl,?_⟩;obtain ⟨q1,q2,q3⟩:=aom ha h;have hw:IntKind.i64.wrap (a.tdiv b)=a.tdiv b:=wrap_i64_tdiv a b ha.1 ha.2 (by omega);rw [hw];refine b9 (fun h'=>?_) (fun h'=>?_)
  ·push_cast
   simp at h';obtain ⟨e1,e2⟩:=q2 h';refine a1q (aco ?_) (aco ?_) (av4 ?_)
   ·rw [if_pos h,← e1,a5];unfold in64 at ha; rw [e1]; omega
   ·rw [if_pos h,← e2,a5];have h5:=zae a h;have h6:=zaf a (show b≠0 by omega);rw [e2];unfold in64 at hb; omega
   ·simp [h]
  ·push_cast
   simp at h';obtain ⟨e1,e2⟩:=q3 h';refine a1q (aco ?_) (aco ?_) (av4 ?_)
   ·rw [if_pos h,e1]
   ·rw [if_pos h,e2]
   ·simp [h]
theorem bf2 (a b:Int) (ha:in64 a) (hb:in64 b):a8 P0 152 [t9 a,t9 b] [] (.tup [Ei.v ⟨a,b⟩,bl true]) []:=by
 refine aiy rfl (by decide) ?_
 push_cast [adv,t9,zaa]
 have ha':=ha;have hb':=hb;unfold in64 at ha' hb';refine b7 (as':=[t9 a]) rfl ?_;refine a7 (as8 a (by omega)) rfl trivial ?_;rw [ad4 ha]
 push_cast
 refine b7 (as':=[t9 b]) rfl ?_;refine a7 (as8 b (by omega)) rfl trivial ?_;rw [ad4 hb]
 push_cast [Ei.v,Ei.rv]
theorem aq3 (x y:Ei) (hx:x.In M63) (hy:y.In M63) (hz:(x.mul y).In M63):a8 P0 96 [x.v,y.v] [] (.tup [(x.mul y).v,bl true]) []:=by
 refine ai0 rfl (by decide) ?_
 push_cast [adx,Ei.v,Ei.rv,zaa]
 refine a7 (aia x.b y.b hx.ok.2 hy.ok.2) rfl trivial ?_
 push_cast [t9]
 refine d9 (aia x.a y.a hx.ok.1 hy.ok.1) rfl trivial ?_
 push_cast [t9]
 refine q8 (as':=[t9 (x.b*y.b)]) rfl ?_;refine d9 (ao2 _) rfl trivial ?_
 push_cast [t9]
 refine q8 (as':=[t9 (x.a*y.a),t9 (-(x.b*y.b))]) rfl ?_;refine d9 (ara _ _) rfl trivial ?_
 push_cast [t9]
 refine d9 (aia x.a y.b hx.ok.1 hy.ok.2) rfl trivial ?_
 push_cast [t9]
 refine d9 (aia x.b y.a hx.ok.2 hy.ok.1) rfl trivial ?_
 push_cast [t9]
 refine q8 (as':=[t9 (x.a*y.b),t9 (x.b*y.a)]) rfl ?_;refine d9 (ara _ _) rfl trivial ?_
 push_cast [t9]
 refine q8 (as':=[t9 (x.a*y.b+x.b*y.a),t9 (x.b*y.b)]) rfl ?_;refine d9 (ara _ _) rfl trivial ?_
 push_cast [t9]
 refine q8 (as':=[t9 (x.a*y.a + -(x.b*y.b)),t9 (x.a*y.b+x.b*y.a+x.b*y.b)]) rfl ?_;have e:x.a*y.a + -(x.b*y.b)=(x.mul y).a:=by simp only [Ei.mul]; omega
 have e':x.a*y.b+x.b*y.a+x.b*y.b=(x.mul y).b:=rfl;rw [e,e'];refine d9 (bf2 _ _ hz.ok.1 hz.ok.2) rfl trivial ?_
 push_cast [Ei.v,Ei.rv]
 kernel_rfl
theorem bdj (k:Int) (hk:0≤k∧k≤12):a8 P0 139 [int .i64 k] [] (.tup [(g7 k.toNat).v,bl true]) []:=by
 refine ahx rfl (by decide) ?_;have c1:decide (k<0)=false:=by simp; omega
 have c2:decide (k>20)=false:=by simp; omega
 push_cast [ac3,zaa,c1,c2]
 refine run_loop [(5,false),(0,false),(4,false),(2,false)] (fun vs pos los=>∃i:Int,0≤i∧i≤k∧vs=[int .i64 i,int .i64 k,.ptr 2000000 0 0,.ptr 2000001 0 0]∧pos=[]∧los=[.box [int .i64 (g7 i.toNat).a,int .i64 (g7 i.toNat).b],.box [int .i64 0,int .i64 0]])
  (fun vs _ _=>match vs with | .r (.v (.int _ j))::_=>(k-j).toNat | _=>0) rfl ?_ ?_
 ·push_cast
  exact ⟨0,by omega,by omega,rfl,rfl⟩
 ·rintro vs pos los ⟨i,i0,ik,rfl,rfl,rfl⟩
  push_cast
  refine b9 (fun h=>?_) (fun h=>?_)
  ·simp only [decide_eq_true_eq] at h
   push_cast
   have h1:=ll i.toNat (by omega);have h2:=ll (i.toNat+1) (by omega);refine b7 (as':=[(g7 i.toNat).v,ar.v]) rfl ?_;refine a7 (aq3 _ _ (h1.mono (by decide)) (by unfold Ei.In; decide) (h2.mono (by decide))) rfl trivial ?_
   push_cast [Ei.v,Ei.rv]
   rw [show IntKind.i64.wrap (i+1)=i+1 from a5 (by omega)];refine ⟨⟨i+1,by omega,by omega,rfl,?_⟩,by omega⟩;rw [show (i+1).toNat=i.toNat+1 by omega]
   rfl
  ·simp only [decide_eq_false_iff_not] at h;have:i=k:=by omega
   subst this
   push_cast [Ei.v,Ei.rv]
theorem bdi (k:Int) (hk:0≤k∧k≤12):a8 P0 97 [int .i64 k] [] ((g7 k.toNat).conj.v) []:=by
 refine aht rfl (by decide) ?_
 push_cast [acy,zaa]
 refine a7 (bdj k hk) rfl trivial ?_;have hb:=ll k.toNat (by omega);unfold Ei.In at hb
 push_cast [Ei.v,Ei.rv,Ei.conj]
 rw [a5 (by omega),a5 (by omega),Int.zero_sub]
theorem as9 (n:Int) (h:in64 n) (h':n≠-9223372036854775808):a8 P0 193 [int .i64 n] [] (int .i64 n.natAbs) []:=by
 refine ahs rfl (by decide) ?_
 push_cast [acx,zaa]
 unfold in64 at h;refine b9 (fun hc=>?_) (fun hc=>?_)
 ·simp at hc
  push_cast
  rw [a5 (by omega)];rw [show 0-n=(n.natAbs:Int) by omega]
 ·simp at hc
  push_cast
  rw [show n=(n.natAbs:Int) by omega];simp
theorem a8q (s t d:Int) (hs:-9007199254740992≤s∧s≤9007199254740992) (ht:-9007199254740992≤t∧t≤9007199254740992):a8 P0 155 [int .i64 s,int .i64 t,int .i64 d] [] (bl (decide (i7 d s t))) []:=by
 refine af4 rfl (by decide) ?_
 push_cast [aaz,zaa]
 rw [show IntKind.i64.wrap (2*s)=2*s from a5 (by omega),show IntKind.i64.wrap (2*s+t)=2*s+t from a5 (by omega)];refine a7 (as9 _ (by unfold in64; omega) (by omega)) rfl trivial ?_;by_cases h1:((2*s+t).natAbs:Int)≤d
 ·have g1:decide (((2*s+t).natAbs:Int)≤d)=true:=decide_eq_true h1
  push_cast [g1]
  rw [show IntKind.i64.wrap (2*t)=2*t from a5 (by omega),show IntKind.i64.wrap (s+2*t)=s+2*t from a5 (by omega)];refine a7 (as9 _ (by unfold in64; omega) (by omega)) rfl trivial ?_;by_cases h2:((s+2*t).natAbs:Int)≤d
  ·have g2:decide (((s+2*t).natAbs:Int)≤d)=true:=decide_eq_true h2
   push_cast [g2]
   rw [show IntKind.i64.wrap (s-t)=s-t from a5 (by omega)];refine a7 (as9 _ (by unfold in64; omega) (by omega)) rfl trivial ?_
   push_cast
   refine fo ?_;simp only [decide_eq_true_eq];unfold i7;omega
  ·have g2:decide (((s+2*t).natAbs:Int)≤d)=false:=decide_eq_false h2
   push_cast [g2]
   rw [decide_eq_false (show ¬i7 d s t by unfold i7; omega)]
 ·have g1:decide (((2*s+t).natAbs:Int)≤d)=false:=decide_eq_false h1
  push_cast [g1]
  rw [decide_eq_false (show ¬i7 d s t by unfold i7; omega)]
theorem awx (u:Ei) (d:Int) (hu:u.In 1152921504606846976) (hd:1≤d∧d≤1125899906842624):a8 P0 98 [u.v,int .i64 d] [] (.tup [(u.round d).v,bl true]) []:=by
 refine af8 rfl (by decide) ?_;have hu':=hu;unfold Ei.In at hu';have c1:decide (d<1)=false:=by simp; omega
 have c2:decide (d>1125899906842624)=false:=by simp; omega
 have c3:decide (u.a < -1152921504606846976)=false:=by simp; omega
 have c4:decide (u.a>1152921504606846976)=false:=by simp; omega
 have c5:decide (u.b < -1152921504606846976)=false:=by simp; omega
 have c6:decide (u.b>1152921504606846976)=false:=by simp; omega
 have ia:in64 u.a:=by unfold in64; omega
 have ib:in64 u.b:=by unfold in64; omega
 have ed:in64 d:=by unfold in64; omega
 push_cast [aa3,Ei.v,Ei.rv,zaa,c1,c2,c3,c4,c5,c6]
 refine a7 (awz _ _ ia ed) rfl trivial ?_;have hd0:0<d:=by omega
 push_cast [hd0,if_true]
 refine a7 (awz _ _ ib ed) rfl trivial ?_
 push_cast [hd0,if_true]
 have ha:0≤u.a%d∧u.a%d<d:=⟨zaf _ (by omega),zae _ hd0⟩
 have hb:0≤u.b%d∧u.b%d<d:=⟨zaf _ (by omega),zae _ hd0⟩
 have hqa:-1152921504606846976≤u.a/d∧u.a/d≤1152921504606846976:=asi hu'.1 hd.1;have hqb:-1152921504606846976≤u.b/d∧u.b/d≤1152921504606846976:=asi hu'.2 hd.1;have hround:u.round d=⟨u.a/d+(gc d (u.a%d) (u.b%d)).a,u.b/d+(gc d (u.a%d) (u.b%d)).b⟩:=rfl;generalize u.a%d=a at *;generalize u.b%d=b at *;generalize u.a/d=qa at *;generalize u.b/d=qb at *
 have hmul:∀i:Int,-1≤i→i≤2→-1125899906842624≤i*d∧i*d≤2251799813685248:=fun i h1 h2=>by
  rcases (show i=-1∨i=0∨i=1∨i=2 by omega) with rfl | rfl | rfl | rfl<;>omega
 refine run_loop [(12,false),(1,false),(6,false),(7,false),(9,false),(10,false),(4,false)] (fun vs pos los=>∃i:Int,(-1≤i∧i≤3)∧(∀i' k':Int,-1≤i'→i'<i→-1≤k'→k'≤2→¬i7 d (a-i'*d) (b-k'*d))∧vs=[int .i64 i,int .i64 d,int .i64 qa,int .i64 a,int .i64 qb,int .i64 b,.ptr 2000000 0 0]∧pos=[]∧los=[.box [int .i64 0,int .i64 0]])
  (fun vs _ _=>match vs with | .r (.v (.int _ j))::_=>(3-j).toNat | _=>0) rfl ?_ ?_
 ·push_cast
  exact ⟨-1,by omega,fun i' k' h1 h2=>by omega,rfl⟩
 ·rintro vs pos los ⟨i,i3,hno,rfl,rfl,rfl⟩
  push_cast
  refine b9 (fun h=>?_) (fun h=>?_)
  ·have hi:i≤2:=by simpa using h
   have mi:=hmul i i3.1 hi
   push_cast
   refine run_loop [(13,false),(12,false),(1,false),(6,false),(7,false),(9,false),(10,false),(4,false)] (fun vs pos los=>∃k:Int,(-1≤k∧k≤3)∧(∀k':Int,-1≤k'→k'<k→¬i7 d (a-i*d) (b-k'*d))∧vs=[int .i64 k,int .i64 i,int .i64 d,int .i64 qa,int .i64 a,int .i64 qb,int .i64 b,.ptr 2000000 0 0]∧pos=[]∧los=[.box [int .i64 0,int .i64 0]])
    (fun vs _ _=>match vs with | .r (.v (.int _ j))::_=>(3-j).toNat | _=>0) rfl ?_ ?_
   ·push_cast
    exact ⟨-1,by omega,fun k' h1 h2=>by omega,rfl⟩
   ·rintro vs pos los ⟨k,k3,hnk,rfl,rfl,rfl⟩
    push_cast
    refine b9 (fun h=>?_) (fun h=>?_)
    ·have hk:k≤2:=by simpa using h
     have mk:=hmul k k3.1 hk
     push_cast
     rw [show IntKind.i64.wrap (i*d)=i*d from a5 (by omega),show IntKind.i64.wrap (k*d)=k*d from a5 (by omega),show IntKind.i64.wrap (a-i*d)=a-i*d from a5 (by omega),show IntKind.i64.wrap (b-k*d)=b-k*d from a5 (by omega)];refine a7 (a8q _ _ d (by omega) (by omega)) rfl trivial ?_
     push_cast
     refine b9 (fun h=>?_) (fun h=>?_)
     ·have hh:i7 d (a-i*d) (b-k*d):=by simpa using h
      have hn:=near0_first ha hb ⟨i3.1,hi⟩ ⟨k3.1,hk⟩ hh (fun k' h1 h2=>hnk k' h1 h2) (fun i' k' h1 h2 h3 h4=>hno i' k' h1 h2 h3 h4);rw [hn] at hround
      push_cast [hround,Ei.v,Ei.rv]
      rw [a5 (by omega),a5 (by omega)]
     ·have hh:¬i7 d (a-i*d) (b-k*d):=by simpa using h
      push_cast
      rw [a5 (by omega)];refine ⟨⟨k+1,by omega,fun k' h1 h2=>?_,rfl⟩,by omega⟩;by_cases hkk:k'=k
      ·subst hkk; exact hh
      ·exact hnk k' h1 (by omega)
    ·have hk:k=3:=by simp at h; omega
     subst hk
     push_cast
     rw [a5 (by omega)];refine ⟨⟨i+1,by omega,fun i' k' h1 h2 h3 h4=>?_,rfl⟩,by omega⟩;by_cases hii:i'=i
     ·subst hii; exact hnk k' h3 (by omega)
     ·exact hno i' k' h1 (by omega) h3 h4
  ·have hi:i=3:=by simp at h; omega
   subst hi;exact (a9i ha hb hno).elim
theorem a8j (x y:Int):a8 P0 95 [int .i64 x,int .i64 y] [] (bl (decide (inW x y))) []:=by
 refine af5 rfl (by decide) ?_
 push_cast [aa0,zaa]
 repeat refine And.intro (by simp +contextual) ?_
 refine fo ?_;unfold inW;by_cases h1:0≤x<;>by_cases h2:x<1073741824<;>by_cases h3:0≤y<;>by_cases h4:y<1073741824<;>simp [h1,h2,h3,h4]
theorem bde (x y r:Int) (h:inW x y) (hr:0≤r∧r≤12):a8 P0 53 [int .i64 x,int .i64 y,int .i64 r] [] (.tup [(g9 x y r.toNat).v,bl true]) []:=by
 refine ahw rfl (by decide) ?_;have c1:decide (r<0)=false:=by simp; omega
 have c2:decide (r>12)=false:=by simp; omega
 push_cast [ac2,zaa]
 refine a7 (a8j x y) rfl trivial ?_;rw [decide_eq_true h]
 push_cast [c1,c2]
 have hk:(12-r).toNat=12-r.toNat:=by omega
 have hk2:(12-r).toNat≤12:=by omega
 have h':=h;unfold inW at h';rw [show IntKind.i64.wrap (45*x)=45*x from a5 (by omega),show IntKind.i64.wrap (26*y)=26*y from a5 (by omega),show IntKind.i64.wrap (52*y)=52*y from a5 (by omega),show IntKind.i64.wrap (45*x-26*y)=45*x-26*y from a5 (by omega),show IntKind.i64.wrap (12-r)=12-r from a5 (by omega)];refine a7 (bdi (12-r) (by omega)) rfl trivial ?_;have hb:=ll (12-r).toNat hk2;have hm:=a7e h hk2
 push_cast [Ei.v,Ei.rv]
 refine b7 (as':=[(ax x y).v,(g7 (12-r).toNat).conj.v]) rfl ?_;refine a7 (aq3 _ _ ((a3l h).mono (by decide)) ((at7 hb).mono (by decide)) (hm.mono (by decide))) rfl trivial ?_
 push_cast [Ei.v,Ei.rv]
 rw [show IntKind.i64.wrap (12-r)=12-r from a5 (by omega)];refine d9 (azw (12-r) (by omega) (by omega)) rfl trivial ?_
 push_cast
 have hp:=p7 (12-r).toNat hk2;rw [show IntKind.i64.wrap (2340*7^(12-r).toNat)=2340*7^(12-r).toNat from a5 (by omega)];refine q8 (as':=[((ax x y).mul (g7 (12-r).toNat).conj).v,int .i64 (2340*7^(12-r).toNat)]) rfl ?_;refine d9 (awx _ _ (hm.mono (by decide)) (by omega)) rfl trivial ?_
 push_cast [Ei.v,Ei.rv,g9,hk]
 kernel_rfl

def ac1:Mk P0 f137:={ x:=_ }
theorem ahv:d5 137 1 ac1:=c8 func137
def aal:Mk P0 f100:={ x:=_ }
theorem afr:d5 100 1 aal:=c8 func100
def afs:Mk P0 f99:={ x:=_ }
theorem aj8:d5 99 1 afs:=c8 func99
theorem bdc (k:Int) (hk:0≤k∧k<6):a8 P0 137 [int .i64 k] [] ((uni k.toNat).v) []:=by
 refine ahv rfl (by decide) ?_
 have hm:(IntKind.i64.wrap (Int.tmod k 6+6)).tmod 6=k:=by
  rw [zcl hk.1,a5 (by omega),zcl (by omega)]; omega
 simp only [ac1,hm,Ei.v,Ei.rv,push_cast,↓reduceIte,reduceCtorEq,zB,zE,zA,zS,zL,zD,zM];refine ⟨by decide,by decide,hk,by omega,?_⟩;rcases (show k=0∨k=1∨k=2∨k=3∨k=4∨k=5 by omega) with rfl | rfl | rfl | rfl | rfl | rfl
 all_goals
  simp only [Int.reduceToNat,Nat.zero_mul,Nat.add_zero,zct,ba7,ba6,ba5,ba4,ba3,ba2,push_cast,↓reduceIte,reduceCtorEq,zB,zE,zA,zS,zL,zD,zM]
theorem aus (z:Ei) (h:z.In 1073741824):a8 P0 100 [z.v] [] (.tup [(pr z).v,int .i64 (dg z)]) []:=by
 refine afr rfl (by decide) ?_
 push_cast [aal,Ei.v,Ei.rv,zaa]
 have h1:(z.mul ⟨3,-1⟩).In 9663676416:=(acm h (show (⟨3,-1⟩:Ei).In 3 by unfold Ei.In; decide)).mono (by decide);have h2:(pr z).In 1073741824:=a2c h (by decide);have h3:((pr z).mul ar).In 6442450944:=(acm h2 (show ar.In 2 by unfold Ei.In; decide)).mono (by decide);have hl:=a58 z;refine b7 (as':=[z.v,Ei.v ⟨3,-1⟩]) rfl ?_;refine a7 (aq3 _ _ (h.mono (by decide)) (show (⟨3,-1⟩:Ei).In _ by unfold Ei.In; decide) (h1.mono (by decide))) rfl trivial ?_
 push_cast [Ei.v,Ei.rv]
 refine b7 (as':=[(z.mul ⟨3,-1⟩).v,int .i64 7]) rfl ?_;refine a7 (awx _ 7 (h1.mono (by decide)) (by decide)) rfl trivial ?_;rw [show (z.mul ⟨3,-1⟩).round 7=pr z from rfl]
 push_cast [Ei.v,Ei.rv]
 refine b7 (as':=[(pr z).v,ar.v]) rfl ?_;refine a7 (aq3 _ _ (h2.mono (by decide)) (show ar.In _ by unfold Ei.In; decide) (h3.mono (by decide))) rfl trivial ?_;have e1:z.a-((pr z).mul ar).a=(lft z).a:=rfl;have e2:z.b-((pr z).mul ar).b=(lft z).b:=rfl;unfold Ei.In at hl;rw [← e1,← e2] at hl
 push_cast [Ei.v,Ei.rv]
 rw [show IntKind.i64.wrap (z.a-((pr z).mul ar).a)=(lft z).a by rw [← e1]; exact a5 (by omega),show IntKind.i64.wrap (z.b-((pr z).mul ar).b)=(lft z).b by rw [← e2]; exact a5 (by omega)];rw [show dg z=dgOf (lft z) from rfl];generalize lft z=l at *;generalize pr z=q at *
 refine run_loop [(11,false),(10,false),(6,false),(2,false)] (fun vs pos los=>∃i:Int,(0≤i∧i≤6)∧(∀j:Nat,(j:Int)<i→uni j≠l)∧vs=[int .i64 i,.ptr 2000000 0 0,.ptr 2000001 0 0,.ptr 2000002 0 0]∧pos=[]∧los=[.box [int .i64 l.a,int .i64 l.b],.box [int .i64 q.a,int .i64 q.b],.box [int .i64 0,int .i64 0]])
  (fun vs _ _=>match vs with | .r (.v (.int _ j))::_=>(6-j).toNat | _=>0) rfl ?_ ?_
 ·push_cast
  exact ⟨0,by omega,fun j hj=>by omega,rfl⟩
 ·rintro vs pos los ⟨i,i6,hj,rfl,rfl,rfl⟩
  push_cast
  refine b9 (fun h=>?_) (fun h=>?_)
  ·simp only [decide_eq_true_eq] at h
   push_cast
   refine d9 (bdc i ⟨i6.1,h⟩) rfl trivial ?_
   push_cast [Ei.v,Ei.rv]
   refine ⟨by kernel_rfl,b9 (fun h'=>?_) (fun h'=>?_)⟩
   ·have e:uni i.toNat=l:=by
     simp only [Bool.and_eq_true,beq_iff_eq] at h';exact Ei.ext' h'.1 h'.2
    push_cast
    rw [← e,ayi _ (by omega),a5 (by omega),show ((i.toNat+1:Nat):Int)=i+1 by omega]
   ·have e:uni i.toNat≠l:=fun e=>by rw [e] at h'; simp at h'
    push_cast
    rw [a5 (by omega)];refine ⟨⟨i+1,by omega,fun j hj'=>?_,rfl⟩,by omega⟩;by_cases hji:(j:Int)=i
    ·rw [show j=i.toNat by omega]; exact e
    ·exact hj j (by omega)
  ·have hi:i=6:=by simp at h; omega
   subst hi
   push_cast
   rw [a06 l fun j h6=>hj j (by omega)]
   rfl
theorem bf5 (r:Int) (z:Ei) (h0:0≤r) (h:okc r.toNat z):a8 P0 99 [cel r z] [] (bl true) []:=by
 refine aj8 rfl (by decide) ?_;obtain ⟨r12,hz,ha,hb⟩:=h;have hz':=hz;unfold Ei.In at hz';have c1:decide (r<0)=false:=by simp; omega
 have c2:decide (r>12)=false:=by simp; omega
 have c3:decide (z.a < -1073741824)=false:=by simp; omega
 have c4:decide (z.a>1073741824)=false:=by simp; omega
 have c5:decide (z.b < -1073741824)=false:=by simp; omega
 have c6:decide (z.b>1073741824)=false:=by simp; omega
 push_cast [afs,cel,zaa,c1,c2,c3,c4,c5,c6]
 refine run_loop [(4,false),(1,false),(3,false)] (fun vs pos los=>∃i:Int,(0≤i∧i≤r)∧vs=[int .i64 i,.ptr 2000000 0 0,.ptr 2000001 0 0]∧pos=[]∧los=[.box [int .i64 r,int .i64 z.a,int .i64 z.b],.box [int .i64 (anc i.toNat z).a,int .i64 (anc i.toNat z).b]])
  (fun vs _ _=>match vs with | .r (.v (.int _ j))::_=>(r-j).toNat | _=>0) rfl ?_ ?_
 ·push_cast
  exact ⟨0,by omega,rfl,rfl⟩
 ·rintro vs pos los ⟨i,i6,rfl,rfl,rfl⟩
  push_cast
  refine b9 (fun h=>?_) (fun h=>?_)
  ·simp only [decide_eq_true_eq] at h
   push_cast
   have hp:=as1 i.toNat hz (by decide);refine b7 (as':=[(anc i.toNat z).v]) rfl ?_;refine a7 (aus _ hp) rfl trivial ?_
   push_cast [Ei.v,Ei.rv]
   rw [show IntKind.i64.wrap (i+1)=i+1 from a5 (by omega)];refine ⟨⟨i+1,by omega,rfl,?_⟩,by omega⟩;rw [show (i+1).toNat=i.toNat+1 by omega,akb]
  ·have hi:i=r:=by simp at h; omega
   subst hi
   push_cast [ge_iff_le,ha.1,ha.2,hb.1,hb.2,decide_true]

def acz:Mk P0 f54:={ x:=_ }
theorem ahu:d5 54 1 acz:=c8 func54
theorem aa7 {a:Nat} (h:a<18446744073709551616):IntKind.u64.wrap (a:Int)=a:=by rw [IntKind.wrap_u64]; omega
theorem ofI (a:Nat) (h:a<18446744073709551616):(zab IntKind.u64.bits (a:Int)).toNat=a:=by
 rw [show IntKind.u64.bits=64 from rfl,BitVec.toNat_ofInt];omega
theorem ajl {a b:Nat} (ha:a<18446744073709551616) (hb:b<18446744073709551616):IntKind.u64.wrap (zab IntKind.u64.bits (a:Int) ||| zab IntKind.u64.bits (b:Int)).toNat=((a ||| b:Nat):Int):=by
 rw [BitVec.toNat_or,ofI a ha,ofI b hb];exact aa7 (zcz (n:=64) ha hb)
theorem a5x (x:BitVec 64):(~~~ x).toNat=2^64-1-x.toNat:=BitVec.toNat_not
theorem bas {a b:Nat} (ha:a<18446744073709551616) (hb:b<18446744073709551616):IntKind.u64.wrap (zab IntKind.u64.bits (a:Int) &&& ~~~ zab IntKind.u64.bits (b:Int)).toNat=((a &&& (2^64-1-b):Nat):Int):=by
 rw [BitVec.toNat_and,ofI a ha,show (~~~ zab IntKind.u64.bits (b:Int)).toNat=2^64-1-(zab IntKind.u64.bits (b:Int)).toNat from a5x _,ofI b hb];exact aa7 (zda Nat.and_le_left ha)
theorem bj0 {a n:Nat} (m:Int) (hm:m=2^n-1) (hn:n≤62) (ha:a<18446744073709551616):IntKind.u64.wrap (zab IntKind.u64.bits (a:Int) &&& zab IntKind.u64.bits m).toNat=((a%2^n:Nat):Int):=by
 have h1:2^n≤2^62:=zad (by decide) hn;have h2:=Nat.two_pow_pos n;have h3:((2^n:Nat):Int)=(2:Int)^n:=by simp
 have h4:m=((2^n-1:Nat):Int):=by rw [hm,← h3]; omega
 rw [h4,BitVec.toNat_and,ofI a ha,ofI _ (by omega),Nat.and_two_pow_sub_one_eq_mod];exact aa7 (zda (Nat.mod_le _ _) ha)
theorem ad5 {a k:Nat} {s:Int} (hs:s.toNat=k) (hk:k≤63) (h:a*2^k<18446744073709551616):IntKind.u64.wrap ((a:Int)*2^min s.toNat IntKind.u64.bits)=((a*2^k:Nat):Int):=by
 rw [hs,show min k IntKind.u64.bits=k from zcx (by simp [IntKind.bits]; omega),show (a:Int)*2^k=((a*2^k:Nat):Int) by simp];exact aa7 h
def uw (n:Nat):AV:=int .u64 n
theorem bdb (r:Int) (z:Ei) (h0:0≤r) (h_:okc r.toNat z):a8 P0 54 [cel r z] [] (.tup [uw (x8 r.toNat z),int .i64 0]) []:=by
 refine ahu rfl (by decide) ?_;have h':=h_;obtain ⟨r12,hz,ha,hb⟩:=h';simp only [acz,cel,push_cast,↓reduceIte,reduceCtorEq,zB,zE,zA,zS,zL,zD,zM];refine b7 (as':=[cel r z]) rfl ?_;refine a7 (bf5 r z h0 h_) rfl trivial ?_;simp only [push_cast,↓reduceIte,reduceCtorEq,zB,zE,zA,zS,zL,zD,zM];have hw0:=bb2 r.toNat z (by omega)
 refine run_loop [(6,false),(1,false),(4,false),(5,false)] (fun vs pos los=>∃i:Int,(0≤i∧i≤r)∧vs=[int .i64 i,.ptr 2000000 0 0,.ptr 2000001 0 0,int .u64 (na r.toNat z i.toNat)]∧pos=[]∧los=[.box [int .i64 r,int .i64 z.a,int .i64 z.b],.box [int .i64 (anc (r-i).toNat z).a,int .i64 (anc (r-i).toNat z).b]])
  (fun vs _ _=>match vs with | .r (.v (.int _ j))::_=>j.toNat | _=>0) rfl ?_ ?_
 ·simp only [push_cast,↓reduceIte,reduceCtorEq,zB,zE,zA,zS,zL,zD,zM];refine ⟨r,by omega,?_⟩;rw [hw0,Int.sub_self];exact ⟨rfl,rfl⟩
 ·rintro vs pos los ⟨i,i6,rfl,rfl,rfl⟩;simp only [push_cast,↓reduceIte,reduceCtorEq,zB,zE,zA,zS,zL,zD,zM];refine b9 (fun h=>?_) (fun h=>?_)
  ·simp only [decide_eq_true_eq] at h;have hp:=as1 (r-i).toNat hz (by decide);simp only [push_cast,↓reduceIte,reduceCtorEq,zB,zE,zA,zS,zL,zD,zM];refine b7 (as':=[(anc (r-i).toNat z).v]) rfl ?_;refine a7 (aus _ hp) rfl trivial ?_;simp only [Ei.v,Ei.rv,push_cast,↓reduceIte,reduceCtorEq,zB,zE,zA,zS,zL,zD,zM];rw [show IntKind.i64.wrap (3*i)=3*i from a5 (by omega),show IntKind.i64.wrap (36-3*i)=36-3*i from a5 (by omega),show IntKind.i64.wrap (i-1)=i-1 from a5 (by omega)];have hl:=ai4 r.toNat z i.toNat (by omega) r12;have hst:=a1j r.toNat z i.toNat (by omega) (by omega) r12;have hd:=dg_lt (anc (r-i).toNat z);have hat:(36-3*i).toNat=36-3*i.toNat:=by omega
   have hp2:2^(36-3*i.toNat)≤2^33:=zad (by decide) (by omega);have hd2:dg (anc (r-i).toNat z)*2^(36-3*i.toNat)≤6*2^(36-3*i.toNat):=Nat.mul_le_mul_right _ (by omega);rw [aa7 (show dg (anc (r-i).toNat z)<18446744073709551616 by omega),show (7:Int)=((7:Nat):Int) from rfl,ad5 hat (by omega) (by omega),ad5 hat (by omega) (by omega),bas (by omega) (by omega),ajl (zda Nat.and_le_left (by omega)) (by omega)];rw [show (r-i).toNat=r.toNat-i.toNat by omega] at *;rw [hst];refine ⟨by omega,by omega,by kernel_rfl,⟨i-1,by omega,?_,?_⟩,by omega⟩
   ·rw [show (i-1).toNat=i.toNat-1 by omega]
   ·rw [show (r-(i-1)).toNat=r.toNat-i.toNat+1 by omega,akb]
  ·have hi:i=0:=by simp at h; omega
   subst hi;simp only [push_cast,↓reduceIte,reduceCtorEq,zB,zE,zA,zS,zL,zD,zM];refine ⟨by decide,by decide,by decide,?_⟩;have hl:=ai4 r.toNat z 0 (by omega) r12;rw [show (r-0).toNat=r.toNat by omega];obtain ⟨A,hA⟩:∃A:Nat,(anc r.toNat z).a+512=A:=⟨((anc r.toNat z).a+512).toNat,by omega⟩
   obtain ⟨B,hB⟩:∃B:Nat,(anc r.toNat z).b+512=B:=⟨((anc r.toNat z).b+512).toNat,by omega⟩
   have ho:=bb1 r.toNat z r12 A B (by omega) (by omega) hA hB;have hwl:=amy r.toNat z h_;obtain ⟨R,rfl⟩:∃R:Nat,r=R:=⟨r.toNat,by omega⟩
   rw [Int.toNat_natCast] at *;rw [hA,hB,show IntKind.i64.wrap (A:Int)=A from a5 (by omega),show IntKind.i64.wrap (B:Int)=B from a5 (by omega),aa7 (show A<18446744073709551616 by omega),aa7 (show B<18446744073709551616 by omega),aa7 (show R<18446744073709551616 by omega)];rw [ad5 (k:=56) rfl (by decide) (by omega),ad5 (k:=46) rfl (by decide) (by omega),ad5 (k:=36) rfl (by decide) (by omega),show (1152921504606846976:Int)=((1152921504606846976:Nat):Int) from rfl,Int.toNat_zero];have l1:na R z 0 ||| 1152921504606846976<18446744073709551616:=zcz (n:=64) (by omega) (by omega);have l2:na R z 0 ||| 1152921504606846976 ||| R*2^56<18446744073709551616:=zcz (n:=64) l1 (by omega)
   have l3:na R z 0 ||| 1152921504606846976 ||| R*2^56 ||| A*2^46<18446744073709551616:=zcz (n:=64) l2 (by omega);rw [ajl (by omega) (by omega),ajl l1 (by omega),ajl l2 (by omega),ajl l3 (by omega),ho]
   rfl
def atu (w:Nat):Bool:=decide (w/1152921504606846976=1)&&decide (ec w≤12)&&(List.range 13).all fun i=>decide (i=0)||(decide (dgt w i=7) == decide (ec w<i))
theorem axw (w:Nat):atu w=true↔isW w:=by
 simp only [atu,isW,Bool.and_eq_true,decide_eq_true_eq,List.all_eq_true,List.mem_range,Bool.or_eq_true,beq_iff_eq,decide_eq_decide];constructor
 ·rintro ⟨⟨h1,h2⟩,h3⟩;refine ⟨h1,h2,fun i i1 i2=>?_⟩;rcases h3 i (by omega) with h | h
  ·omega
  ·exact h
 ·rintro ⟨h1,h2,h3⟩;refine ⟨⟨h1,h2⟩,fun i hi=>?_⟩;by_cases h0:i=0
  ·exact .inl h0
  ·exact .inr (h3 i (by omega) (by omega))
theorem avb {r:Nat} {z:Ei} (h:okc r z):atu (x8 r z)=true:=(axw _).2 (aou r z h).1
theorem bfu {a k:Nat} {s:Int} (hs:s.toNat=k) (hk:k≤63):(a:Int).fdiv (2^min s.toNat IntKind.u64.bits)=((a/2^k:Nat):Int):=by
 rw [hs,show min k IntKind.u64.bits=k from zcx (by simp [IntKind.bits]; omega)];rw [zdb _ (by have:=Int.pow_pos (n:=2) (m:=k) (by decide); omega)];simp
theorem am4 {a k n:Nat} {s m:Int} (hs:s.toNat=k) (hk:k≤63) (hm:m=2^n-1) (hn:n≤62) (ha:a<18446744073709551616) :
  IntKind.u64.wrap (zab IntKind.u64.bits ((a:Int).fdiv (2^min s.toNat IntKind.u64.bits)) &&& zab IntKind.u64.bits m).toNat=((a/2^k%2^n:Nat):Int):=by
 rw [bfu hs hk,bj0 m hm hn (zda (Nat.div_le_self _ _) ha)]
theorem a05 (w:Nat) (i:Nat) (hi:i≤12):(z8 w i).In 1000000000000:=by
 have h:∀i:Nat,∀n:Int,(z8 w i).In n→1≤n→(z8 w (i+1)).In (5*n):=fun i n hn h1=>by
  have hd:∀d,(uni d).In 1:=fun d=>by unfold uni; split<;>unfold Ei.In<;>decide
  have hu:=hd (dgt w (i+1)-1);unfold Ei.In at hn hu ⊢;rw [z8,aej];split<;>simp only [Ei.mul,ar,Ei.add]<;>omega
 have h0:(z8 w 0).In 512:=by
  unfold Ei.In z8 a3j;dsimp only;omega
 have h1:=h 0 _ h0 (by decide);have h2:=h 1 _ h1 (by decide);have h3:=h 2 _ h2 (by decide);have h4:=h 3 _ h3 (by decide);have h5:=h 4 _ h4 (by decide);have h6:=h 5 _ h5 (by decide);have h7:=h 6 _ h6 (by decide);have h8:=h 7 _ h7 (by decide);have h9:=h 8 _ h8 (by decide);have h10:=h 9 _ h9 (by decide);have h11:=h 10 _ h10 (by decide);have h12:=h 11 _ h11 (by decide);rcases (show i=0∨i=1∨i=2∨i=3∨i=4∨i=5∨i=6∨i=7∨i=8∨i=9∨i=10∨i=11∨i=12 by omega) with rfl | rfl | rfl | rfl | rfl | rfl | rfl | rfl | rfl | rfl | rfl | rfl | rfl
 ·exact h0.mono (by decide)
 ·exact h1.mono (by decide)
 ·exact h2.mono (by decide)
 ·exact h3.mono (by decide)
 ·exact h4.mono (by decide)
 ·exact h5.mono (by decide)
 ·exact h6.mono (by decide)
 ·exact h7.mono (by decide)
 ·exact h8.mono (by decide)
 ·exact h9.mono (by decide)
 ·exact h10.mono (by decide)
 ·exact h11.mono (by decide)
 ·exact h12.mono (by decide)

end
end Go.Ev

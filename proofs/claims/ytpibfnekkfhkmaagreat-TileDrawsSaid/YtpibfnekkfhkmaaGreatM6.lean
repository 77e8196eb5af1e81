import Derived.Test.YtpibfnekkfhkmaaGreatChecked
import Derived.KernelRfl
import Derived.Test.YtpibfnekkfhkmaaGreatM5
open Nat renaming reduceBEq → zB, reduceEqDiff → zE, reduceAdd → zA, reduceSub → zS, reduceLT → zL, reduceLeDiff → zD, reduceMul → zM
open Go.Proofs.Tryz renaming prog → P0
open Go.Proofs.Tryz
open List renaming length_nil → zaa, append_nil → zaf, length_append → zal, range_zero → zao, length_cons → zar, length_map → zas, map_cons → zat, map_nil → zau, getD_cons_zero → zav, getD_cons_succ → zaw, take_succ_cons → zax, take_zero → zay, drop_succ_cons → zaz, drop_zero → zba, cons_append → zbb, nil_append → zbc, all_cons → zbd, all_nil → zbe, contains_cons → zbl, contains_nil → zbm, filter_cons → zbn, filter_nil → zbo, getElem?_cons_zero → zbr, getElem?_cons_succ → zbs, getElem?_nil → zbt, take_nil → zbu, drop_nil → zbv, take_of_length_le → zdb
open Nat renaming pow_add → zab, mul_assoc → zae, pow_le_pow_right → zam, reduceEqDiff → zbx, reduceAdd → zby, reduceSub → zbz, reduceLT → zca, reduceLeDiff → zcb, reduceMul → zcc, add_mul → zce, pow_pos → zcf, mul_le_mul → zch, pow_succ → zcn, mul_comm → zco, or_comm → zcp, or_assoc → zcq, add_mul_div_right → zct, zero_add → zcu, div_eq_of_lt → zcx, testBit_two_pow_mul_add → zcy, div_div_eq_div_mul → zda, testBit_lt_two_pow → zdc
open Int renaming emod_lt_of_pos → zac, emod_nonneg → zad, mul_comm → zcd, lt_or_le → zci, mul_add → zcj, pow_succ → zck, one_mul → zcl, tmod_eq_emod_of_nonneg → zcm, natAbs_mul → zcr, mul_nonneg → zcs, mul_ediv_add_emod → zcv, mul_le_mul_of_nonneg_right → zcw
open Bool renaming and_true → zah, true_and → zai, or_false → zaj, not_false → zak, false_and → zbf, and_self → zbg, or_true → zbh, true_or → zbi, false_or → zbj, not_true → zbk, false_eq_true → zbw
open BitVec renaming ofInt → zan, ofNat → zcg, toNat_ofNat → zcz
open Option renaming getD_some → zap, getD_none → zaq, map_some → zbp, map_none → zbq
namespace Go.Ev
set_option maxHeartbeats 8000000
set_option maxRecDepth 100000
noncomputable section
open Go
set_option linter.unusedSectionVars false
set_option linter.unnecessarySimpa false
set_option linter.unusedVariables false
def asw:Mk P0 f176:={ x:=_ }
def ass:Mk P0 f246:={ x:=_ }
def asu:Mk P0 f231:={ x:=_ }
def ap4:Mk P0 f247:={ x:=_ }
def amq:Mk P0 f191:={ x:=_ }
def asv:Mk P0 f233:={ x:=_ }
def ank:Mk P0 f135:={ x:=_ }
def sm (x:Int):AV:=.tup [int .i64 (if c7 x then x else 0),bl (decide (c7 x))]
variable {x y:Int}
theorem vl (h:x=y) (hx:c7 y):AV.tup [int .i64 x,bl true]=sm y:=by simp [sm,hx,h]
theorem ak8 (hx:¬c7 y):AV.tup [int .i64 0,bl false]=sm y:=by simp [sm,hx]
theorem bmo (n:Nat):(n:Int).fdiv (2^min (Int.toNat 32) IntKind.u64.bits)=((n/4294967296:Nat):Int):=by
 have:(2:Int)^min (Int.toNat 32) IntKind.u64.bits=4294967296:=by decide
 rw [this,Int.fdiv_eq_ediv_of_nonneg _ (by decide)];omega
theorem bl9 (n:Nat):IntKind.u64.wrap (n:Int)=((n%18446744073709551616:Nat):Int):=by
 rw [IntKind.wrap_u64]; omega
theorem bnw (n:Nat):(zan IntKind.u64.bits (n:Int) &&& zan IntKind.u64.bits 4294967295).toNat=n%4294967296:=by
 have a:zan IntKind.u64.bits (n:Int)=zcg 64 n:=by simp [IntKind.bits]
 have b:zan IntKind.u64.bits 4294967295=zcg 64 (2^32-1):=rfl;rw [a,b];show (zcg 64 n &&& zcg 64 (2^32-1)).toNat = _;rw [BitVec.toNat_and,zcz,zcz,show (2^32-1)%2^64=2^32-1 by decide,Nat.and_two_pow_sub_one_eq_mod];omega
theorem a70 {x y a b c d:Nat} (hx:x=a*4294967296+b) (hy:y=c*4294967296+d):x*y=(a*c)*18446744073709551616+(a*d+b*c)*4294967296+b*d:=by
 subst hx; subst hy;rw [zce,Nat.mul_add,Nat.mul_add]
 have f:a*4294967296*(c*4294967296)=(a*c)*18446744073709551616:=by
  rw [Nat.mul_mul_mul_comm]
 have e:a*4294967296*d=(a*d)*4294967296:=Nat.mul_right_comm _ _ _;have g:b*(c*4294967296)=(b*c)*4294967296:=(zae _ _ _).symm;rw [f,e,g];omega
theorem ai6 {a b:Nat} (c:a<4294967296) (d:b<4294967296):a*b<=18446744065119617025:=by
 have:a*b<=4294967295*4294967295:=zch (by omega) (by omega);omega
theorem a5f (a b:Int) (f:c7 a) (g:c7 b):a8 P0 176 [int .i64 a,int .i64 b] [] (sm (a+b)) []:=by
 refine asw.t func176 ?_
 push_cast [asw,zaa]
 unfold c7 at f g;refine b7 (λ h=>?_) (λ h=>?_)
 ·push_cast
  refine ak8 ?_;rw [IntKind.wrap_i64] at h;unfold c7; by_cases e:(a+b+9223372036854775808)%18446744073709551616-9223372036854775808>a<;>by_cases c:b>0<;>by_cases d:b=0<;>simp only [e,c,d,decide_true,decide_false] at h<;>first | omega | (simp at h; done) | (simp at h; omega)
 push_cast
 rw [IntKind.wrap_i64] at h |-
 have:c7 (a+b):=by
  unfold c7; by_cases e:(a+b+9223372036854775808)%18446744073709551616-9223372036854775808>a<;>by_cases c:b>0<;>by_cases d:b=0<;>simp only [e,c,d,decide_true,decide_false] at h<;>first | omega | (simp at h; done) | (simp at h; omega)
 exact vl (by unfold c7 at this; omega) this
theorem a3j (a b:Int) (f:c7 a) (g:c7 b):a8 P0 246 [int .i64 a,int .i64 b] [] (sm (a-b)) []:=by
 refine ass.t func246 ?_
 push_cast [ass,zaa]
 unfold c7 at f g;refine b7 (λ h=>?_) (λ h=>?_)
 ·push_cast
  refine ak8 ?_;rw [IntKind.wrap_i64] at h;unfold c7; by_cases e:(a-b+9223372036854775808)%18446744073709551616-9223372036854775808<a<;>by_cases c:b>0<;>by_cases d:b=0<;>simp only [e,c,d,decide_true,decide_false] at h<;>first | omega | (simp at h; done) | (simp at h; omega)
 push_cast
 rw [IntKind.wrap_i64] at h |-
 have:c7 (a-b):=by
  unfold c7; by_cases e:(a-b+9223372036854775808)%18446744073709551616-9223372036854775808<a<;>by_cases c:b>0<;>by_cases d:b=0<;>simp only [e,c,d,decide_true,decide_false] at h<;>first | omega | (simp at h; done) | (simp at h; omega)
 exact vl (by unfold c7 at this; omega) this
theorem bm0 (a:Int) (b:c7 a):a8 P0 231 [int .i64 a] [] (sm (-a)) []:=by
 refine asu.t func231 ?_
 push_cast [asu,zaa]
 refine a6 (a3j 0 a (by decide) b) rfl trivial ?_
 push_cast [sm]
 simp
theorem a58 (a:Int) (b:c7 a):a8 P0 247 [int .i64 a] [] (int .u64 a.natAbs) []:=by
 refine ap4.t func247 ?_
 push_cast [ap4,zaa]
 unfold c7 at b;refine b7 (λ h=>?_) (λ h=>?_)
 ·push_cast
  simp at h;rw [IntKind.wrap_u64,IntKind.wrap_u64];congr 3;omega
 push_cast
 simp at h;rw [IntKind.wrap_u64];congr 3;omega
theorem auo (x y:Nat) (hx:x<18446744073709551616) (hy:y<18446744073709551616):a8 P0 191 [int .u64 x,int .u64 y] [] (.tup [int .u64 (x*y/18446744073709551616:Nat),int .u64 (x*y%18446744073709551616:Nat)]) []:=by
 refine amq.t func191 ?_;simp only [amq,push_cast,↓reduceIte,reduceCtorEq,zE,zA];refine ⟨by decide,by decide,by decide,by decide,by decide,?_⟩;simp only [bmo,bnw,bl9,<- Int.natCast_mul,<- Int.natCast_add];have f:∀n:Nat,n%4294967296%18446744073709551616=n%4294967296:=λ n=>by omega
 simp only [f];have e:=a70 (x:=x) (y:=y) (a:=x/4294967296) (b:=x%4294967296) (c:=y/4294967296) (d:=y%4294967296) (by omega) (by omega);have g:=ai6 (a:=x/4294967296) (b:=y/4294967296) (by omega) (by omega);have h:=ai6 (a:=x/4294967296) (b:=y%4294967296) (by omega) (by omega);have j:=ai6 (a:=x%4294967296) (b:=y/4294967296) (by omega) (by omega);have i:=ai6 (a:=x%4294967296) (b:=y%4294967296) (by omega) (by omega);generalize x/4294967296*(y/4294967296)=p at *;generalize x/4294967296*(y%4294967296)=q at *;generalize x%4294967296*(y/4294967296)=r at *;generalize x%4294967296*(y%4294967296)=t at *;rw [e];congr 5;omega

theorem bm2 (a b:Int) (l:c7 a) (n:c7 b):a8 P0 233 [int .i64 a,int .i64 b] [] (sm (a*b)) []:=by
 refine asv.t func233 ?_;have k:=l;have f:=n;unfold c7 at k f
 simp only [asv,zaa,xm,xo,rk,nu,xf,xl,re,la,tg,kw,abt,nz,ahq,ahr,ahk,yes,PO.see,Vs.q,AV.bare,AV.may,n7,eu,qu,q7,mn,br,o6,s9,ao,imV,imL,obs,↓reduceIte,true_and,and_self,zaa,zaf,reduceCtorEq,zby]
 refine a6 (a58 a l) rfl trivial ?_
 simp only [nu,xf,xl,re,la,tg,kw,ac4,abt,nz,ahq,ahk,yes,PO.see,Vs.q,AV.bare,AV.may,n7,eu,q7,mn,br,o6,s9,ao,gk,imV,imL,↓reduceIte,true_and,and_self,zaf,reduceCtorEq,zbx]
 refine a6 (a58 b n) rfl trivial ?_
 simp only [nu,re,la,tg,kw,ac4,abt,nz,ahq,yes,AV.bare,AV.may,n7,eu,q7,mn,br,o6,s9,ao,gk,imV,imL,↓reduceIte,true_and,and_self,zaf,zbx]
 refine a6 (auo a.natAbs b.natAbs (by omega) (by omega)) rfl trivial ?_
 simp only [xm,xo,rk,nu,xf,xl,ac4,rj,nt,abt,nz,ahq,ahr,ahk,ahj,yes,ah0,PO.see,Vs.q,AV.bare,AV.may,aer,ain,aes,xw,un1,aen,gk,imV,imL,th,ox,↓reduceIte,true_and,and_self,true_implies,imp_self,zar,zaa,zav,zaw,reduceCtorEq,zbx,zby,zca]
 have c:a.natAbs*b.natAbs=(a*b).natAbs:=(zcr a b).symm;rw [c];have o:(a*b).natAbs<=9223372036854775808*9223372036854775808:=by rw [<- c]; exact zch (by omega) (by omega)
 have r:(a<0/\b<0->0<a*b)/\(a<0/\0<=b->a*b<=0)/\(0<=a/\b<0->a*b<=0)/\(0<=a/\0<=b->0<=a*b):=
  ⟨λ h=>Int.mul_pos_of_neg_of_neg h.1 h.2,λ h=>Int.mul_nonpos_of_nonpos_of_nonneg (by omega) h.2,λ h=>Int.mul_nonpos_of_nonneg_of_nonpos h.1 (by omega),λ h=>zcs h.1 h.2⟩
 clear c;generalize a*b=m at *
 repeat refine And.intro (by simp +contextual) ?_
 refine b7 (λ h=>?_) (λ h=>?_)
 ·simp only [xm,xo,rk,nu,xf,xl,xn,xc,kh,ag8,yo,xy,xx,abt,nz,ahr,ahk,ab3,ajt,yc,kq,kp,yes,PO.see,Vs.q,AV.bare,AV.may,freeze,au,uo,yx,age,xu,br,o6,s9,imV,imL,fj,ab8,ql,vz,↓reduceIte,true_and,and_true,and_self,zat,zau,zaf,zbo,zbx,zby]
  refine ak8 ?_;unfold c7;by_cases j:m.natAbs/18446744073709551616=0<;>by_cases i:m.natAbs%18446744073709551616=9223372036854775808<;>by_cases d:a<0<;>by_cases e:b<0<;>simp [j,i,d,e] at h<;>omega
 have s:m.natAbs<=9223372036854775808/\(m.natAbs=9223372036854775808->(a<0/\0<=b)\/(0<=a/\b<0)):=by
  by_cases j:m.natAbs/18446744073709551616=0<;>by_cases i:m.natAbs%18446744073709551616=9223372036854775808<;>by_cases d:a<0<;>by_cases e:b<0<;>simp [j,i,d,e] at h<;>omega
 clear h
 simp only [xm,xo,rk,nu,xf,xl,rj,abt,nz,ahq,ahk,yes,PO.see,Vs.q,AV.bare,AV.may,↓reduceIte,true_and,and_self,zbx]
 refine b7 (λ g=>?_) (λ g=>?_)
 ·simp only [xm,xo,rk,nu,xf,xl,xn,xc,kh,ag8,yo,xy,xx,abt,nz,ahq,ahr,ahk,ab3,ajt,yc,kq,kp,yes,PO.see,Vs.q,AV.bare,AV.may,un1,yh,freeze,au,uo,yx,age,xu,br,o6,s9,imV,imL,fj,ab8,ql,vz,↓reduceIte,true_and,and_true,and_self,zat,zau,zaf,zbo,zbx,zby]
  have p:m<=0:=by by_cases d:a<0<;>by_cases e:b<0<;>simp [d,e] at g<;>omega
  refine vl ?_ ?_
  ·rw [IntKind.wrap_i64,IntKind.wrap_i64];omega
  unfold c7; omega
 simp only [rf,xm,xo,rk,nu,xf,xl,xn,xt,xc,yo,xy,xx,abt,nz,ahq,ahr,ahk,ab3,ajt,yc,kq,kp,yes,PO.see,Vs.q,AV.bare,AV.may,yh,freeze,au,uo,yx,age,xu,br,o6,s9,imV,imL,fj,ab8,ql,vz,↓reduceIte,true_and,and_true,and_self,zat,zau,zaf,zbo,zbx,zby]
 have p:0<=m/\m.natAbs≠9223372036854775808:=by by_cases d:a<0<;>by_cases e:b<0<;>simp [d,e] at g<;>omega
 refine vl ?_ ?_
 ·rw [IntKind.wrap_i64];omega
 unfold c7; omega
theorem a3f {a b c d e c':AV} (g:a=d) (f:b=e) (h:c=c'):AV.tup [a,b,c]=AV.tup [d,e,c']:=by rw [g,f,h]
variable {a b:Int}
theorem aff {k:IntKind} (h:a=b):int k a=int k b:=by rw [h]
theorem aw8 {a b:Bool} (h:a=b):bl a=bl b:=by rw [h]
theorem ap9 (e:c7 a) (c:0<b):(-9223372036854775808<=a/b/\a/b<=9223372036854775807)/\(a.tmod b<0->a.tdiv b-1=a/b/\a.tmod b+b=a%b)/\(0<=a.tmod b->a.tdiv b=a/b/\a.tmod b=a%b):=by
 unfold c7 at e;have i:=Int.mul_tdiv_add_tmod a b;have f:a.tmod b<b:=Int.tmod_lt_of_pos a c
 have g:-b<a.tmod b:=by
  have:=Int.lt_tmod_of_pos a c;omega
 refine ⟨?_,λ h=>?_,λ h=>?_⟩
 ·have k:=zcv a b;have l:=zac a c;have j:=zad a (show b≠0 by omega);generalize a/b=q at *;generalize a%b=r at *;constructor
  ·rcases zci q 0 with d | d
   ·have:b*(q+1)<=1*(q+1):=Int.mul_le_mul_of_nonpos_right (by omega) (by omega);rw [zcj] at this;omega
   omega
  rcases zci q 0 with d | d
  ·omega
  have:1*q<=b*q:=zcw (by omega) d;omega
 ·have:=(Int.ediv_emod_unique (a:=a) (b:=b) (r:=a.tmod b+b) (q:=a.tdiv b-1) c).2 ⟨by rw [Int.mul_sub]; omega,by omega,by omega⟩;exact ⟨this.1.symm,this.2.symm⟩
 have:=(Int.ediv_emod_unique (a:=a) (b:=b) (r:=a.tmod b) (q:=a.tdiv b) c).2 ⟨by omega,by omega,by omega⟩;exact ⟨this.1.symm,this.2.symm⟩
theorem uj (a b:Int) (f:c7 a) (j:c7 b):a8 P0 135 [int .i64 a,int .i64 b] [] (.tup [int .i64 (if 0<b then a/b else 0),int .i64 (if 0<b then a%b else 0),bl (decide (0<b))]) []:=by
 refine ank.t func135 ?_
 push_cast [ank,zaa]
 refine b7 (λ h=>?_) (λ h=>?_)
 ·push_cast
  simp at h;have:¬0<b:=by omega
  simp [this]
 push_cast
 simp at h;refine ⟨by omega,by omega,by kernel_rfl,?_⟩;obtain ⟨n,k,i⟩:=ap9 f h;have g:IntKind.i64.wrap (a.tdiv b)=a.tdiv b:=wrap_i64_tdiv a b f.1 f.2 (by omega);rw [g];refine b7 (λ c=>?_) (λ c=>?_)
 ·push_cast
  simp at c;obtain ⟨e,d⟩:=k c;refine a3f (aff ?_) (aff ?_) (aw8 ?_)
  ·rw [if_pos h,<- e,a5];unfold c7 at f; rw [e]; omega
  ·rw [if_pos h,<- d,a5];have m:=zac a h;have l:=zad a (show b≠0 by omega);rw [d];unfold c7 at j; omega
  simp [h]
 push_cast
 simp at c;obtain ⟨e,d⟩:=i c;refine a3f (aff ?_) (aff ?_) (aw8 ?_)
 ·rw [if_pos h,e]
 ·rw [if_pos h,d]
 simp [h]

def aji:Mk P0 f229:={ x:=_ }
def yq:PC:=
 (.seq (.reg [p_a 2 (.box (.t 0)),p_a 3 (.box (.t 1)),p_a 4 (.new [(.r (.v (.int .u64 0))),(.r (.v (.int .u64 0)))])])
 (.seq (.reg [p_s 10 (.fa 1 (.t 2)),p_s 11 (.ld none (.t 10)),p_s 12 (.fa 1 (.t 3)),p_s 13 (.ld none (.t 12)),p_s 14 (.carry false (.t 11) (.t 13) (.c (.r (.v (.int .u64 0))))),
 p_m 9 14,p_s 15 (.ext (.t 9) 0),p_s 16 (.ext (.t 9) 1),p_m 5 15,p_m 6 16])
 (.seq (.reg [p_s 18 (.fa 0 (.t 2)),p_s 19 (.ld none (.t 18)),p_s 20 (.fa 0 (.t 3)),p_s 21 (.ld none (.t 20)),p_m 22 6,p_s 23 (.carry false (.t 19) (.t 21) (.t 22)),p_m 17 23,
 p_s 24 (.ext (.t 17) 0),p_s 25 (.ext (.t 17) 1),p_m 7 24,p_m 8 25])
 (.seq (.reg [p_m 26 7,p_m 27 5,p_s 28 (.build [(.r (.v (.int .u64 0))),(.r (.v (.int .u64 0)))] [(0,1,(.t 26)),(1,1,(.t 27))]),⟨none,none,0,.act (.st 2 (.t 4) (.t 28))⟩])
 .ret))))
theorem af3:Fun P0 153 2 [(4,false,some (221,(some 2)))] yq:=afh func153 rfl (by decide) (by kernel_rfl) (by decide) rfl (by kernel_rfl) (by kernel_rfl) (by decide)
def vh:Mk P0 f154:={ x:=_ }
def adp:Mk P0 f151:={ x:=_ }
def wg:Mk P0 f186:={ x:=_ }
def o7 (x:Int):AV:=.r (.agg [.v (.int .u64 (x/18446744073709551616%18446744073709551616)),.v (.int .u64 (x%18446744073709551616))])
theorem ud (c:a=x/18446744073709551616%18446744073709551616) (d:b=x%18446744073709551616):AV.r (.agg [.v (.int .u64 a),.v (.int .u64 b)])=o7 x:=by rw [c,d]; rfl
theorem bmn (a:Int) (b:c7 a):a.fdiv (2^min (Int.toNat 63) IntKind.i64.bits)=if a<0 then -1 else 0:=by
 have:(2:Int)^min (Int.toNat 63) IntKind.i64.bits=9223372036854775808:=by decide
 rw [this,Int.fdiv_eq_ediv_of_nonneg _ (by decide)];unfold c7 at b;split<;>omega
theorem w_t (a:Int) (b:c7 a):a8 P0 229 [int .i64 a] [] (o7 a) []:=by
 refine aji.t func229 ?_;simp only [aji,push_cast,↓reduceIte,reduceCtorEq,zE,zA,zD];refine ⟨by decide,ud ?_ ?_⟩
 ·rw [bmn a b,IntKind.wrap_u64];unfold c7 at b;split<;>omega
 rw [IntKind.wrap_u64]
theorem bd3 (c:0<=x) (d:x<18446744073709551616):IntKind.u64.wrap ((zan IntKind.u64.bits (if IntKind.u64.signed=true then -1 else IntKind.u64.max) ^^^ zan IntKind.u64.bits x).toNat)=18446744073709551615-x:=by
 obtain ⟨n,rfl⟩:=Int.eq_ofNat_of_zero_le c;have b:zan IntKind.u64.bits (if IntKind.u64.signed=true then -1 else IntKind.u64.max)=BitVec.allOnes 64:=by rfl
 have a:zan IntKind.u64.bits (n:Int)=zcg 64 n:=by simp [IntKind.bits]
 rw [b,a];show IntKind.u64.wrap ((BitVec.allOnes 64 ^^^ zcg 64 n).toNat:Int) = _;rw [BitVec.allOnes_xor,BitVec.toNat_not,zcz,IntKind.wrap_u64];omega
theorem am8 (a b:Int):a8 P0 153 [o7 a,o7 b] [] (o7 (a+b)) []:=by
 refine af3 rfl (by decide) ?_
 push_cast [yq,o7,zaa]
 refine ⟨by omega,by omega,ud (by omega) (by omega)⟩
theorem auc (a:Int) (h:-170141183460469231731687303715884105728<=a/\a<170141183460469231731687303715884105728):a8 P0 186 [o7 a] [] (sm a) []:=by
 refine wg.t func186 ?_
 push_cast [wg,o7,zaa]
 rw [IntKind.wrap_i64];refine d5 (w_t _ (by unfold c7; omega)) rfl trivial ?_
 push_cast [o7]
 refine ⟨by kernel_rfl,?_⟩;refine b7 (λ h=>?_) (λ h=>?_)
 ·push_cast
  refine ak8 ?_;unfold c7;simp at h;omega
 push_cast
 simp at h;refine vl ?_ ?_
 ·omega
 unfold c7; omega
theorem ak3 (a:Int):a8 P0 154 [o7 a] [] (o7 (-a)) []:=by
 refine vh.t func154 ?_
 push_cast [vh,o7,zaa]
 rw [bd3 (by omega) (by omega),bd3 (by omega) (by omega)];refine b5 (as':=[o7 (-1-a),o7 1]) ?_ ?_
 ·congr 1;exact ud (by omega) (by omega)
 refine a6 (am8 (-1-a) 1) rfl trivial ?_
 push_cast [o7]
 exact ud (by omega) (by omega)
theorem axc (a:Int) (b:c7 a):(a<0->IntKind.u64.wrap (0-IntKind.u64.wrap a)=a.natAbs)/\(¬a<0->IntKind.u64.wrap a=a.natAbs):=by
 unfold c7 at b;rw [IntKind.wrap_u64,IntKind.wrap_u64];omega
theorem ad0 (a b:Int) (n:c7 a) (o:c7 b):a8 P0 151 [int .i64 a,int .i64 b] [] (o7 (a*b)) []:=by
 refine adp.t func151 ?_;have l:=n;have k:=o;unfold c7 at l k;obtain ⟨f,e⟩:=axc a n;obtain ⟨g,j⟩:=axc b o;have i:a.natAbs*b.natAbs=(a*b).natAbs:=(zcr a b).symm;have p:(a*b).natAbs<=9223372036854775808*9223372036854775808:=by rw [<- i]; exact zch (by omega) (by omega)
 have q:(a<0/\b<0->0<a*b)/\(a<0/\0<=b->a*b<=0)/\(0<=a/\b<0->a*b<=0)/\(0<=a/\0<=b->0<=a*b):=
  ⟨λ h=>Int.mul_pos_of_neg_of_neg h.1 h.2,λ h=>Int.mul_nonpos_of_nonpos_of_nonneg (by omega) h.2,λ h=>Int.mul_nonpos_of_nonneg_of_nonpos h.1 (by omega),λ h=>zcs h.1 h.2⟩
 push_cast [adp,zaa]
 refine b7 (λ d=>?_) (λ d=>?_)<;>push_cast<;>refine b7 (λ c=>?_) (λ c=>?_)<;>push_cast
 all_goals
  simp only [decide_eq_true_eq,decide_eq_false_iff_not] at d c;refine b5 (as':=[int .u64 a.natAbs,int .u64 b.natAbs]) (by first | rw [f d,g c] | rw [f d,j c] | rw [e d,g c] | rw [e d,j c]) ?_;refine a6 (auo a.natAbs b.natAbs (by omega) (by omega)) rfl trivial ?_;rw [i]
  push_cast [d,c,Bool.true_beq,Bool.false_beq]
  generalize a*b=m at *
 ·exact ud (by omega) (by omega)
 ·refine b5 (as':=[o7 (-m)]) (by congr 1; exact ud (by omega) (by omega)) ?_;refine a6 (ak3 (-m)) rfl trivial ?_
  push_cast [o7]
  exact ud (by omega) (by omega)
 ·refine b5 (as':=[o7 (-m)]) (by congr 1; exact ud (by omega) (by omega)) ?_;refine a6 (ak3 (-m)) rfl trivial ?_
  push_cast [o7]
  exact ud (by omega) (by omega)
 exact ud (by omega) (by omega)

def anj:Mk P0 f232:={ x:=_ }
def ast:Mk P0 f196:={ x:=_ }
def agz:Mk P0 f136:={ x:=_ }
theorem bah (x a:Int) (y:Bool) (hx:c7 x) (b:c7 a):a8 P0 232 [.ptr 1000000 0 0,.ptr 1000001 0 0,.ptr 1000002 0 0] [.box [int .i64 x],.box [int .i64 a],.box [bl y]] (.tup [])
 [.box [int .i64 (if c7 (x*a) then x*a else 0)],.box [int .i64 a],.box [bl (decide (c7 (x*a)))]]:=by
 refine anj.t func232 ?_
 push_cast [anj,zaa]
 refine a6 (bm2 x a hx b) rfl trivial ?_
 push_cast [sm]
theorem a7g (f:-1<=a) (c:a<=1) (n:Nat):a^(min n (2-n%2))=a^n:=by
 have b:∀m:Nat,1<=m->a^(m+2)=a^m:=λ m d=>by
  have:a=-1\/a=0\/a=1:=by omega
  rcases this with rfl | rfl | rfl
  ·rw [zck,zck]; omega
  ·rw [Int.zero_pow (by omega),Int.zero_pow (by omega)]
  rw [Int.one_pow,Int.one_pow]
 induction n using Nat.strongRecOn with
 | ind n ih=>
   rcases (show n=0\/n=1\/n=2\/3<=n by omega) with h | h | h | h
   ·subst h; rfl
   ·subst h; rfl
   ·subst h; rfl
   have:=ih (n-2) (by omega);have e:=b (n-2) (by omega);rw [show n-2+2=n by omega] at e;rw [e,<- this];congr 1;omega
theorem a1s {T:Int} {n:Nat} (b:-1<=a/\a<=1->-1<=x/\x<=1) (hx:c7 x) (l:c7 a) (h:¬c7 (x*a)) (c:x*a*a^n=T):¬c7 T:=by
 have d:¬(-1<=a/\a<=1):=λ e=>by
  have:=b e;have d:a=-1\/a=0\/a=1:=by omega
  apply h;unfold c7;rcases d with rfl | rfl | rfl<;>omega
 have j:2<=a.natAbs:=by omega
 have i:9223372036854775808<=(x*a).natAbs:=by unfold c7 at h; omega
 have k:T.natAbs=(x*a).natAbs*a.natAbs^n:=by rw [<- c,zcr,Int.natAbs_pow]
 cases n with
 | zero=>
   simp at c;rw [<- c]; exact h
 | succ n=>
   have g:2<=a.natAbs^(n+1):=Nat.le_trans j (Nat.le_self_pow (by omega) _);have f:9223372036854775808*2<=(x*a).natAbs*a.natAbs^(n+1):=zch i g;rw [<- k] at f;unfold c7;omega
theorem bdv (a k:Int) (G:c7 a) (N:c7 k):a8 P0 196 [int .i64 a,int .i64 k] [] (if k<0 then .tup [int .i64 0,bl false] else sm (a^k.toNat)) []:=by
 refine ast.t func196 ?_;simp only [ast,push_cast,↓reduceIte,reduceCtorEq,zE,zA];refine b7 (λ f=>?_) (λ f=>?_)
 ·simp only [decide_eq_true_eq] at f;simp only [if_pos f,push_cast,↓reduceIte,zE,zA]
 simp only [decide_eq_false_iff_not] at f;simp only [if_neg f,push_cast,↓reduceIte,zE,zA,zL];generalize E:a^k.toNat=T;refine al2 (λ e ob=>∃b,e 1=int .i64 b/\e 2=.ptr 2 0 0/\0<=b/\c7 b/\a^b.toNat=T/\(a=-1\/a=0\/a=1->b<=2)/\ob=upd 2 (0,.box [int .i64 a]) (λ _=>none)) ?_ (λ D=>?_) (λ D=>?_)
 ·rintro e ob ⟨b,l,d,s,B,C,J,rfl⟩;simp only [d,push_cast,↓reduceIte,zE,zA,zD]
  refine b9 [(1,false),(6,false),(2,false),(7,false),(8,false)] (λ vs pos m=>∃(j x:Int) (y:Bool),0<=j/\c7 j/\c7 x/\(y=true->x*a^j.toNat=T)/\(y=false->x=0/\¬c7 T)/\(-1<=a/\a<=1->-1<=x/\x<=1) /\
   vs=[int .i64 j,.ptr 2000000 0 0,.ptr 2000001 0 0,.ptr 2000002 0 0,.fn (.func 232) [.ptr 2000000 0 0,.ptr 2000001 0 0,.ptr 2000002 0 0]]/\pos=[]/\m=[.box [int .i64 x],.box [int .i64 a],.box [bl y]])
   (λ vs _ _=>match vs with | .r (.v (.int _ j))::_=>j.toNat | _=>0) rfl ?_ ?_
  ·simp only [l,d,push_cast,↓reduceIte,zB,zE,zA,zL,zD];exact ⟨b,1,true,s,B,by decide,λ _=>by rw [zcl,C],by simp,λ _=>by decide,rfl,rfl⟩
  rintro vs pos m ⟨j,x,y,P,F,u,i,A,n,rfl,rfl,rfl⟩;simp only [push_cast,↓reduceIte,zE,zA,zL];refine b7 (λ h=>?_) (λ h=>?_)
  ·have z:0<j:=by
    rcases zci 0 j with o | o
    ·exact o
    simp [show ¬j>0 by omega] at h
   have hy:y=true:=by simpa [z] using h
   simp only [push_cast,↓reduceIte,zB,zE,zA];refine ⟨by kernel_rfl,?_⟩;refine a6 (bah x a y u G) rfl ⟨rfl,rfl,rfl,trivial⟩ ?_;simp only [push_cast,↓reduceIte,zB,zE,zA,zL,zD];have M:IntKind.i64.wrap (j-1)=j-1:=a5 (by unfold c7 at F; omega);rw [M];have w:j.toNat=(j-1).toNat+1:=by omega
   have g:x*a*a^(j-1).toNat=T:=by
    rw [<- i hy,w,zck,Int.mul_assoc,zcd a]
   refine ⟨⟨j-1,_,_,by omega,by unfold c7 at F |-; omega,?_,?_,?_,?_,rfl,rfl⟩,by omega⟩
   ·split
    ·assumption
    decide
   ·intro c;rw [if_pos (of_decide_eq_true c)];exact g
   ·intro c;have c:=of_decide_eq_false c;rw [if_neg c];refine ⟨rfl,?_⟩;exact a1s n u G c g
   intro K;have:=n K;have H:a=-1\/a=0\/a=1:=by omega
   split
   ·rcases H with rfl | rfl | rfl<;>omega
   omega
  simp only [push_cast,↓reduceIte,zE,zA,zL];refine ⟨by kernel_rfl,?_⟩;cases y with
  | true=>
    have z:j=0:=by
     rcases zci 0 j with o | o
     ·simp [o] at h
     omega
    subst z;have:=i rfl;simp at this;subst this;exact vl rfl u
  | false=>
    obtain ⟨rfl,L⟩:=A rfl;exact ak8 L
 ·simp only [push_cast,↓reduceIte,reduceCtorEq,zE]
  have H:a=-1\/a=0\/a=1:=by
   by_cases p:a>=-1<;>by_cases q:a<=1<;>simp [p,q] at D<;>omega
  have I:k.tmod 2=k%2:=by
   rw [zcm (by omega)]
  have O:IntKind.i64.wrap (2-k.tmod 2)=2-k%2:=by rw [I]; exact a5 (by omega)
  rw [O];refine ⟨by decide,min k (2-k%2),rfl,by omega,by unfold c7 at *; omega,?_,by omega⟩;rw [show (min k (2-k%2)).toNat=min k.toNat (2-k.toNat%2) by omega,a7g (by omega) (by omega),E]
 simp only [push_cast,↓reduceIte,reduceCtorEq,zE];refine ⟨k,rfl,by omega,N,E,λ h=>?_⟩;rcases h with rfl | rfl | rfl<;>simp at D

theorem bba (h:-1<=a/\a<=1) (n:Nat):-1<=a^n/\a^n<=1:=by
 induction n with
 | zero=>simp
 | succ n ih=>
   rw [zck];have:a=-1\/a=0\/a=1:=by omega
   rcases this with rfl | rfl | rfl<;>omega
theorem ao6 (n:Nat):(-1:Int)^n=if n%2=1 then -1 else 1:=by
 induction n with
 | zero=>rfl
 | succ n ih=>
   rw [zck,ih];split<;>split<;>omega
theorem bjm (a k:Int) (s:c7 a) (y:c7 k):a8 P0 136 [int .i64 a,int .i64 k] [] (if k<0 then .tup [int .i64 0,bl false] else sm (a^k.toNat)) []:=by
 refine agz.t func136 ?_;simp only [agz,push_cast,↓reduceIte,reduceCtorEq,zE,zA];refine b7 (λ e=>?_) (λ e=>?_)
 ·simp only [decide_eq_true_eq] at e;simp only [if_pos e,push_cast,↓reduceIte,zE,zA]
 simp only [decide_eq_false_iff_not] at e;simp only [if_neg e,push_cast]
 refine b9 [(0,false),(1,false),(6,false),(7,false)] (λ vs pos f=>∃(n i:Int),0<=i/\i<=k/\c7 n/\n=a^i.toNat/\vs=[int .i64 a,int .i64 k,int .i64 n,int .i64 i]/\pos=[]/\f=[])
  (λ vs _ _=>match vs with | [_,_,_,.r (.v (.int _ j))]=>(k-j).toNat | _=>0) rfl ?_ ?_
 ·simp only [push_cast,↓reduceIte,reduceCtorEq,zE,zA];exact ⟨1,0,by omega,by omega,by decide,by simp,rfl⟩
 rintro vs pos f ⟨n,i,B,z,l,b,rfl,rfl,rfl⟩;simp only [push_cast,↓reduceIte,reduceCtorEq,zE];unfold c7 at y;refine b7 (λ h=>?_) (λ h=>?_)
 ·simp only [decide_eq_true_eq] at h;simp only [push_cast,↓reduceIte,reduceCtorEq,zE]
  repeat refine And.intro (by simp +contextual) ?_
  have o:n*a*a^(k-i-1).toNat=a^k.toNat:=by
   rw [b,Int.mul_assoc,<- Int.pow_succ',<- Int.pow_add];congr 1;omega
  refine b7 (λ u=>?_) (λ u=>?_)
  ·simp only [push_cast,↓reduceIte,reduceCtorEq,zE,zA]
   have c:n=0\/a=1:=by
    by_cases p:n=0<;>by_cases q:n=1<;>by_cases r:a=1<;>simp [p,q,r] at u |-
   refine vl ?_ ?_
   ·rcases c with c | c
    ·rw [<- o,c]; simp
    rw [b,c,Int.one_pow,Int.one_pow]
   rcases c with c | c
   ·rw [<- o,c]; simp; decide
   rw [c,Int.one_pow]; decide
  simp only [push_cast,↓reduceIte,reduceCtorEq];refine b7 (λ m=>?_) (λ m=>?_)
  ·simp only [push_cast,↓reduceIte,reduceCtorEq,zE];have m:a=-1:=by simpa using m
   subst m;have w:k.tmod 2=k%2:=zcm (by omega);refine ⟨by decide,?_⟩;rw [w];refine b7 (λ g=>?_) (λ g=>?_)
   ·simp only [push_cast,↓reduceIte,zE,zA];have g:k%2=1:=by simpa using g
    exact vl (by rw [ao6,if_pos (by omega)]) (by rw [ao6,if_pos (by omega)]; decide)
   simp only [push_cast,↓reduceIte,zE,zA];have g:¬k%2=1:=by simpa using g
   exact vl (by rw [ao6,if_neg (by omega)]) (by rw [ao6,if_neg (by omega)]; decide)
  simp only [push_cast,↓reduceIte,reduceCtorEq,zE];refine a6 (ad0 n a l s) rfl trivial ?_;simp only [o7,push_cast,↓reduceIte]
  have A:(n*a).natAbs<=9223372036854775808*9223372036854775808:=by
   rw [zcr];unfold c7 at l s;exact zch (by omega) (by omega)
  refine b5 (as':=[o7 (n*a)]) rfl ?_;refine a6 (auc (n*a) (by omega)) rfl trivial ?_;simp only [sm,push_cast,↓reduceIte,zE,zA,zL];refine b7 (λ d=>?_) (λ d=>?_)
  ·simp only [push_cast,↓reduceIte,zE,zA];have d:¬c7 (n*a):=by simpa using d
   refine ak8 ?_;exact a1s (λ x=>by rw [b]; exact bba x _) l s d o
  simp only [push_cast,↓reduceIte,reduceCtorEq,zE,zA];have d:c7 (n*a):=by simpa using d
  rw [if_pos d,show IntKind.i64.wrap (i+1)=i+1 from a5 (by omega)];refine ⟨⟨n*a,i+1,by omega,by omega,d,?_,rfl⟩,by omega⟩;rw [show (i+1).toNat=i.toNat+1 by omega,zck,<- b]
 simp only [decide_eq_false_iff_not] at h;simp only [push_cast,↓reduceIte,reduceCtorEq,zE,zA];have:i=k:=by omega
 subst this;exact vl b (by rw [<- b]; exact l)

def ae4:Mk P0 f169:={ x:=_ }
def agn:PC:=
 (.seq (.reg [p_s 2 (.mov (o_i 0))])
 (.seq (.seq (.reg [p_m 3 0,p_s 4 (.bin .geq (.t 3) (.c (.r (.v (.int .u64 4294967296)))))])
 (.cond (.t 4)
 (.seq (.reg [p_m 5 0,p_s 6 (.bin .shr (.t 5) (.c (.r (.v (.int .u64 32))))),p_m 0 6])
 (.reg [p_s 2 (.mov (o_i 32))]))
 .skip))
 (.seq (.seq (.reg [p_m 7 0,p_s 8 (.bin .geq (.t 7) (.c (.r (.v (.int .u64 65536)))))])
 (.cond (.t 8)
 (.seq (.reg [p_m 9 0,p_s 10 (.bin .shr (.t 9) (.c (.r (.v (.int .u64 16))))),p_m 0 10])
 (.reg [p_m 11 2,p_s 12 (.bin .add (.t 11) (o_i 16)),p_m 2 12]))
 .skip))
 (.seq (.seq (.reg [p_m 13 0,p_s 14 (.bin .geq (.t 13) (.c (.r (.v (.int .u64 256)))))])
 (.cond (.t 14)
 (.seq (.reg [p_m 15 0,p_s 16 (.bin .shr (.t 15) (.c (.r (.v (.int .u64 8))))),p_m 0 16])
 (.reg [p_m 17 2,p_s 18 (.bin .add (.t 17) (o_i 8)),p_m 2 18]))
 .skip))
 (.seq (.reg [p_m 19 2,p_m 20 0,p_s 21 (.conv .u8 (.t 20)),p_s 22 (.ixs (.c (.r (.v (.string ⟨#[0,1,2,2,3,3,3,3,4,4,4,4,4,4,4,4,5,5,5,5,5,5,5,5,5,5,5,5,5,5,5,5,6,6,6,6,6,6,6,6,6,6,6,6,6,6,6,6,6,6,6,6,6,6,6,6,6,6,6,6,6,6,6,6,7,7,7,7,7,7,7,7,7,7,7,7,7,7,7,7,7,7,7,7,7,7,7,7,7,7,7,7,7,7,7,7,7,7,7,7,7,7,7,7,7,7,7,7,7,7,7,7,7,7,7,7,7,7,7,7,7,7,7,7,7,7,7,7,8,8,8,8,8,8,8,8,8,8,8,8,8,8,8,8,8,8,8,8,8,8,8,8,8,8,8,8,8,8,8,8,8,8,8,8,8,8,8,8,8,8,8,8,8,8,8,8,8,8,8,8,8,8,8,8,8,8,8,8,8,8,8,8,8,8,8,8,8,8,8,8,8,8,8,8,8,8,8,8,8,8,8,8,8,8,8,8,8,8,8,8,8,8,8,8,8,8,8,8,8,8,8,8,8,8,8,8,8,8,8,8,8,8,8,8,8,8,8,8,8,8,8,8,8,8,8,8]⟩)))) (.t 21)),
 p_s 23 (.conv .i64 (.t 22)),p_s 24 (.bin .add (.t 19) (.t 23)),p_m 2 24])
 .ret)))))
theorem agu:Fun P0 214 1 [(2,false,none)] agn:=afh func214 rfl (by decide) (by kernel_rfl) (by decide) rfl (by kernel_rfl) (by kernel_rfl) (by decide)

structure Ei where
 a:Int
 b:Int
deriving DecidableEq
def Ei.rv (z:Ei):RV:=.agg [.v (.int .i64 z.a),.v (.int .i64 z.b)]
def Ei.v (z:Ei):AV:=.r z.rv
def Ei.mul (x y:Ei):Ei:=⟨x.a*y.a-x.b*y.b,x.a*y.b+x.b*y.a+x.b*y.b⟩
def Ei.add (x y:Ei):Ei:=⟨x.a+y.a,x.b+y.b⟩
def Ei.sub (x y:Ei):Ei:=⟨x.a-y.a,x.b-y.b⟩
def Ei.conj (x:Ei):Ei:=⟨x.a+x.b,-x.b⟩
def Ei.In (z:Ei) (n:Int):Prop:=(-n<=z.a/\z.a<=n)/\(-n<=z.b/\z.b<=n)
def Ei.H (z:Ei) (n:Int):Prop:=(-n<=z.a/\z.a<=n)/\(-n<=z.b/\z.b<=n)/\(-n<=z.a+z.b/\z.a+z.b<=n)
theorem Ei.ext' {x y:Ei} (c:x.a=y.a) (d:x.b=y.b):x=y:=by cases x; cases y; simp_all
variable {z:Ei} {n m:Int}
theorem Ei.In.mono (h:z.In n) (a:n<=m):z.In m:=by unfold Ei.In at *; omega
theorem Ei.H.mono (h:z.H n) (a:n<=m):z.H m:=by unfold Ei.H at *; omega
theorem Ei.H.in (h:z.H n):z.In n:=by unfold Ei.H Ei.In at *; omega
def aw:Ei:=⟨2,1⟩
theorem gm (a:-n<=x/\x<=n) (c:-m<=y/\y<=m):-(n*m)<=x*y/\x*y<=n*m:=by
 have h:(x*y).natAbs<=n.toNat*m.toNat:=by rw [zcr]; exact zch (by omega) (by omega)
 have b:((n.toNat*m.toNat:Nat):Int)=n*m:=by
  rw [Int.natCast_mul,Int.toNat_of_nonneg (by omega),Int.toNat_of_nonneg (by omega)]
 omega
def i8 (d s t:Int):Prop:=(-d<=2*s+t/\2*s+t<=d)/\(-d<=s+2*t/\s+2*t<=d)/\(-d<=s-t/\s-t<=d)
instance (d s t:Int):Decidable (i8 d s t):=inferInstanceAs (Decidable (_/\_/\_))
def km (d s t:Int):Ei:=if i8 d s t then ⟨0,0⟩ else if i8 d s (t-d) then ⟨0,1⟩ else if i8 d (s-d) t then ⟨1,0⟩ else ⟨1,1⟩
def Ei.round (u:Ei) (d:Int):Ei:=⟨u.a/d+(km d (u.a%d) (u.b%d)).a,u.b/d+(km d (u.a%d) (u.b%d)).b⟩
variable {d s t:Int}
theorem asz (c:0<=s/\s<d) (e:0<=t/\t<d) :
 i8 d (s-(km d s t).a*d) (t-(km d s t).b*d)/\(0<=(km d s t).a/\(km d s t).a<=1)/\(0<=(km d s t).b/\(km d s t).b<=1):=by
 unfold km;split
 ·next h=>unfold i8 at *; dsimp only; omega
 split
 ·next h=>unfold i8 at *; dsimp only; omega
 split
 ·next h=>unfold i8 at *; dsimp only; omega
 next h=>unfold i8 at *; dsimp only; omega
theorem a0p {i k:Int} (q:0<=s/\s<d) (p:0<=t/\t<d) (hi:-1<=i/\i<=2) (r:-1<=k/\k<=2)
 (h:i8 d (s-i*d) (t-k*d)) (b:∀a,-1<=a->a<k->¬i8 d (s-i*d) (t-a*d))
 (e:∀m a,-1<=m->m<i->-1<=a->a<=2->¬i8 d (s-m*d) (t-a*d)):km d s t=⟨i,k⟩:=by
 have l:i=-1\/i=0\/i=1\/i=2:=by omega
 have f:k=-1\/k=0\/k=1\/k=2:=by omega
 have o:(-1:Int)*d=-d:=by omega
 have j:(0<i\/(i=0/\0<k))->¬i8 d s t:=λ c=>by
  rcases c with c | ⟨c,c'⟩
  ·have:=e 0 0 (by omega) c (by omega) (by omega); simpa using this
  have:=b 0 (by omega) c'; rw [c] at this; simpa using this
 have g:(0<i\/(i=0/\1<k))->¬i8 d s (t-d):=λ c=>by
  rcases c with c | ⟨c,c'⟩
  ·have:=e 0 1 (by omega) c (by omega) (by omega); simpa using this
  have:=b 1 (by omega) c'; rw [c] at this; simpa using this
 have n:(1<i\/(i=1/\0<k))->¬i8 d (s-d) t:=λ c=>by
  rcases c with c | ⟨c,c'⟩
  ·have:=e 1 0 (by omega) c (by omega) (by omega); simpa using this
  have:=b 0 (by omega) c'; rw [c] at this; simpa using this
 clear b e
 rcases l with rfl | rfl | rfl | rfl<;>rcases f with rfl | rfl | rfl | rfl <;>
  first
  | (exfalso; unfold i8 at h; omega)
  | (simp only [Int.zero_mul,zcl,Int.sub_zero] at h
     simp [km,h]; done)
  | (simp only [Int.zero_mul,zcl,Int.sub_zero] at h
     simp [km,h,j,g,n])
theorem bbs (c:0<=s/\s<d) (f:0<=t/\t<d)
 (e:∀a b,-1<=a->a<3->-1<=b->b<=2->¬i8 d (s-a*d) (t-b*d)):False:=by
 obtain ⟨h,g,i⟩:=asz c f;exact e _ _ (by omega) (by omega) (by omega) (by omega) h
def fr (d a b:Int) (z:Ei):Int:=d*(z.a*z.a+z.a*z.b+z.b*z.b)-z.a*(2*a+b)-z.b*(a+2*b)
def pk (d a b:Int) (p:Int×Ei) (z:Ei):Int×Ei:=if fr d a b z<p.1 then (fr d a b z,z) else p
def ae3:List Ei:=[⟨0,1⟩,⟨1,0⟩,⟨1,1⟩]
theorem a0o (i:0<=a/\a<d) (j:0<=b/\b<d):(ae3.foldl (pk d a b) (0,⟨0,0⟩)).2=km d a b:=by
 simp only [ae3,List.foldl_cons,List.foldl_nil];have f:fr d a b ⟨0,1⟩=d-(a+2*b):=by simp [fr]
 have e:fr d a b ⟨1,0⟩=d-(2*a+b):=by simp [fr]
 have h:fr d a b ⟨1,1⟩=d*3-(2*a+b)-(a+2*b):=by simp [fr]
 unfold km;by_cases g:d-(a+2*b)<0
 ·by_cases c2:d-(2*a+b)<d-(a+2*b)
  ·by_cases c:d*3-(2*a+b)-(a+2*b)<d-(2*a+b)
   ·simp only [pk,f,e,h,g,c2,c,if_true];rw [if_neg (by unfold i8; omega),if_neg (by unfold i8; omega),if_neg (by unfold i8; omega)]
   simp only [pk,f,e,h,g,c2,c,if_true,if_false];rw [if_neg (by unfold i8; omega),if_neg (by unfold i8; omega),if_pos (by unfold i8; omega)]
  by_cases c:d*3-(2*a+b)-(a+2*b)<d-(a+2*b)
  ·simp only [pk,f,e,h,g,c2,c,if_true,if_false];rw [if_neg (by unfold i8; omega),if_neg (by unfold i8; omega),if_neg (by unfold i8; omega)]
  simp only [pk,f,e,h,g,c2,c,if_true,if_false];rw [if_neg (by unfold i8; omega),if_pos (by unfold i8; omega)]
 by_cases c2:d-(2*a+b)<0
 ·by_cases c:d*3-(2*a+b)-(a+2*b)<d-(2*a+b)
  ·simp only [pk,f,e,h,g,c2,c,if_true,if_false];rw [if_neg (by unfold i8; omega),if_neg (by unfold i8; omega),if_neg (by unfold i8; omega)]
  simp only [pk,f,e,h,g,c2,c,if_true,if_false];rw [if_neg (by unfold i8; omega),if_neg (by unfold i8; omega),if_pos (by unfold i8; omega)]
 by_cases c:d*3-(2*a+b)-(a+2*b)<0
 ·exfalso; omega
 simp only [pk,f,e,h,g,c2,c,if_false];rw [if_pos (by unfold i8; omega)]
theorem m6 (u:Ei) (c:0<d):i8 d (u.a-(u.round d).a*d) (u.b-(u.round d).b*d):=by
 have m:=zcv u.a d;have l:=zcv u.b d;have f:=zac u.a c;have j:=zad u.a (show d≠0 by omega);have k:=zac u.b c;have i:=zad u.b (show d≠0 by omega);obtain ⟨h,_⟩:=asz (d:=d) (s:=u.a%d) (t:=u.b%d) ⟨j,f⟩ ⟨i,k⟩
 have g:u.a-(u.round d).a*d=u.a%d-(km d (u.a%d) (u.b%d)).a*d:=by
  simp only [Ei.round,Int.add_mul];rw [zcd (u.a/d) d];omega
 have e:u.b-(u.round d).b*d=u.b%d-(km d (u.a%d) (u.b%d)).b*d:=by
  simp only [Ei.round,Int.add_mul];rw [zcd (u.b/d) d];omega
 rw [g,e]; exact h
def pr (z:Ei):Ei:=(z.mul ⟨3,-1⟩).round 7
def lft (z:Ei):Ei:=z.sub ((pr z).mul aw)
def al0 (l:Ei):Nat:=if l=⟨1,0⟩ then 1 else if l=⟨0,1⟩ then 2 else if l=⟨-1,1⟩ then 3 else if l=⟨-1,0⟩ then 4 else if l=⟨0,-1⟩ then 5 else if l=⟨1,-1⟩ then 6 else 0
def dg (z:Ei):Nat:=al0 (lft z)
def uni (d:Nat):Ei:=match d with | 0=>⟨1,0⟩ | 1=>⟨0,1⟩ | 2=>⟨-1,1⟩ | 3=>⟨-1,0⟩ | 4=>⟨0,-1⟩ | _=>⟨1,-1⟩
def vg (z:Ei) (d:Nat):Ei:=if d=0 then z.mul aw else (z.mul aw).add (uni (d-1))
theorem alz (z:Ei):dg z<7:=by
 unfold dg al0; repeat' split
 all_goals omega
theorem ahw (z:Ei):∃l:Ei,lft z=l/\l.H 1/\z.a=2*(pr z).a-(pr z).b+l.a/\z.b=(pr z).a+3*(pr z).b+l.b:=by
 have h:=m6 (z.mul ⟨3,-1⟩) (d:=7) (by decide);refine ⟨lft z,rfl,?_,?_,?_⟩
 ·unfold i8 at h;unfold Ei.H lft Ei.sub pr;simp only [Ei.mul,aw] at *;generalize Ei.round _ 7=q at *;simp only [Int.mul_one,Int.mul_neg] at *;omega
 ·simp only [lft,Ei.sub,Ei.mul,aw]; omega
 simp only [lft,Ei.sub,Ei.mul,aw]; omega
theorem a4v (z:Ei):vg (pr z) (dg z)=z:=by
 obtain ⟨l,f,e,g,h⟩:=ahw z;have i:=m6 (z.mul ⟨3,-1⟩) (d:=7) (by decide)
 have c:l=⟨0,0⟩\/l=⟨1,0⟩\/l=⟨0,1⟩\/l=⟨-1,1⟩\/l=⟨-1,0⟩\/l=⟨0,-1⟩\/l=⟨1,-1⟩:=by
  obtain ⟨a,b⟩:=l;unfold Ei.H at e;dsimp only at e;simp only [Ei.mk.injEq];omega
 unfold vg dg;rw [f];rcases c with rfl | rfl | rfl | rfl | rfl | rfl | rfl<;>apply Ei.ext'<;>simp [al0,uni,Ei.add,Ei.mul,aw] at g h |- <;> omega
def anc:Nat->Ei->Ei
 | 0,z=>z
 | k+1,z=>anc k (pr z)
theorem al7 (k:Nat) (z:Ei):anc (k+1) z=pr (anc k z):=by
 induction k generalizing z with
 | zero=>rfl
 | succ k ih=>rw [anc,ih]; rfl
def val:Nat->Ei->Nat
 | 0,_=>0
 | r+1,z=>val r (pr z)*8+dg z
theorem a5u (r:Nat) (z:Ei):val r z<8^r:=by
 induction r generalizing z with
 | zero=>simp [val]
 | succ r ih=>
   have:=ih (pr z);have:=alz z;rw [val,zcn];omega
theorem beu (r i:Nat) (z:Ei) (h:i<=r):val r z/8^i=val (r-i) (anc i z):=by
 induction i generalizing r z with
 | zero=>simp [anc]
 | succ i ih=>
   obtain ⟨r,rfl⟩:∃m,r=m+1:=⟨r-1,by omega⟩
   rw [show r+1-(i+1)=r-i by omega,anc,<- ih r (pr z) (by omega),zcn,zco,<- zda,val];have:=alz z;congr 1;omega
def okc (r:Nat) (z:Ei):Prop:=r<=12/\z.In 1073741824/\(-512<=(anc r z).a/\(anc r z).a<=511)/\(-512<=(anc r z).b/\(anc r z).b<=511)
instance (r:Nat) (z:Ei):Decidable (okc r z):=by unfold okc Ei.In; infer_instance
def si (r:Nat) (q:Ei):Nat:=((16+r)*1024+(q.a+512).toNat)*1024+(q.b+512).toNat
def y6 (r:Nat) (z:Ei):Nat:=(si r (anc r z)*8^r+val r z)*8^(12-r)+(8^(12-r)-1)
def dgt (w i:Nat):Nat:=w/8^(12-i)%8
def z9 (w:Nat):Nat:=w/72057594037927936%16
def a48 (w:Nat):Ei:=⟨((w/70368744177664%1024:Nat):Int)-512,((w/68719476736%1024:Nat):Int)-512⟩
def s7 (w:Nat):Nat->Ei
 | 0=>a48 w
 | i+1=>vg (s7 w i) (dgt w (i+1))
def isW (w:Nat):Prop:=w/1152921504606846976=1/\z9 w<=12/\∀i,1<=i->i<=12->(dgt w i=7↔z9 w<i)
theorem akz (r:Nat) (z:Ei) (d:r<=12):y6 r z/68719476736=si r (anc r z):=by
 have hv:=a5u r z;have e:(68719476736:Nat)=8^r*8^(12-r):=by rw [<- zab,show r+(12-r)=12 by omega]
 have a:0<8^(12-r):=zcf (by decide);have c:0<8^r:=zcf (by decide);rw [e,zco (8^r),<- zda,y6]
 have b:((si r (anc r z)*8^r+val r z)*8^(12-r)+(8^(12-r)-1))/8^(12-r)=si r (anc r z)*8^r+val r z:=by
  rw [Nat.add_comm,zct _ _ a,zcx (by omega)]; omega
 rw [b,Nat.add_comm,zct _ _ c,zcx hv]; omega
theorem aqi (r i:Nat) (z:Ei) (g:r<=12) (f:1<=i) (d:i<=r):dgt (y6 r z) i=dg (anc (r-i) z):=by
 have a:0<8^(12-r):=zcf (by decide);have e:8^(12-i)=8^(12-r)*8^(r-i):=by rw [<- zab,show 12-r+(r-i)=12-i by omega]
 unfold dgt y6;rw [e,<- zda]
 have c:((si r (anc r z)*8^r+val r z)*8^(12-r)+(8^(12-r)-1))/8^(12-r)=si r (anc r z)*8^r+val r z:=by
  rw [Nat.add_comm,zct _ _ a,zcx (by omega)]; omega
 rw [c]
 have b:si r (anc r z)*8^r=si r (anc r z)*8^(i-1)*8*8^(r-i):=by
  rw [zae (si r (anc r z)),<- zcn,zae,<- zab,show i-1+1+(r-i)=r by omega]
 rw [b,Nat.add_comm,zct _ _ (zcf (by decide)),beu r (r-i) z (by omega),show r-(r-i)=(i-1)+1 by omega,val];have:=alz (anc (r-i) z);generalize si r (anc r z)*8^(i-1)=m;omega
theorem arv (r i:Nat) (z:Ei) (f:r<i) (d:i<=12):dgt (y6 r z) i=7:=by
 unfold dgt y6;have e:8^(12-r)=8^(i-r-1)*8*8^(12-i):=by rw [<- zcn,<- zab,show i-r-1+1+(12-i)=12-r by omega]
 have b:0<8^(12-i):=zcf (by decide);have c:0<8^(i-r-1):=zcf (by decide);rw [e];generalize si r (anc r z)*8^r+val r z=m;generalize hx:8^(i-r-1)=x at *;generalize hy:8^(12-i)=y at *
 have a:m*(x*8*y)+(x*8*y-1)=(y-1)+(m*(x*8)+(x*8-1))*y:=by
  have:(x*8-1)*y=x*8*y-y:=by rw [Nat.sub_mul,Nat.one_mul]
  have h:y<=x*8*y:=Nat.le_mul_of_pos_left _ (by omega);rw [zce,this,<- zae];omega
 rw [a,zct _ _ b,zcx (by omega)];have g:m*(x*8)=m*x*8:=(zae _ _ _).symm;omega
theorem alv (r:Nat) (q:Ei) (e:r<=12) (c:-512<=q.a/\q.a<=511) (d:-512<=q.b/\q.b<=511) :
 si r q/16777216=1/\si r q/1048576%16=r/\((si r q/1024%1024:Nat):Int)-512=q.a/\((si r q%1024:Nat):Int)-512=q.b:=by
 unfold si;omega
theorem aou (r:Nat) (z:Ei) (h:okc r z):y6 r z<18446744073709551616:=by
 have b:=akz r z h.1;have a:=alv r (anc r z) h.1 h.2.2.1 h.2.2.2;omega
theorem aqh (r:Nat) (z:Ei) (h:okc r z):isW (y6 r z)/\z9 (y6 r z)=r:=by
 have e:=akz r z h.1;have d:=alv r (anc r z) h.1 h.2.2.1 h.2.2.2;have a:z9 (y6 r z)=r:=by unfold z9; omega
 refine ⟨⟨by omega,by rw [a]; exact h.1,λ i b c=>?_⟩,a⟩;rw [a];by_cases hi:r<i
 ·simp [hi,arv r i z hi c]
 simp only [hi,iff_false];rw [aqi r i z h.1 b (by omega)];have:=alz (anc (r-i) z);omega
theorem a5m (r i:Nat) (z:Ei) (h:okc r z) (hi:i<=r):s7 (y6 r z) i=anc (r-i) z:=by
 induction i with
 | zero=>
   have b:=akz r z h.1;have a:=alv r (anc r z) h.1 h.2.2.1 h.2.2.2;apply Ei.ext'<;>simp only [s7,a48]<;>rw [Nat.sub_zero]<;>omega
 | succ i ih=>
   rw [s7,ih (by omega),aqi r (i+1) z h.1 (by omega) hi];rw [show r-i=r-(i+1)+1 by omega,al7,a4v]

def d7:Nat->Ei
 | 0=>⟨1,0⟩
 | k+1=>(d7 k).mul aw
theorem pi (k:Nat) (h:k<=12):(d7 k).In 120000:=by
 have:∀j:Fin 13,(d7 j.val).In 120000:=by unfold Ei.In; decide
 exact this ⟨k,by omega⟩
def ax (x y:Int):Ei:=⟨45*x-26*y,52*y⟩
def g8 (x y:Int) (r:Nat):Ei:=((ax x y).mul (d7 (12-r)).conj).round (2340*7^(12-r))
theorem agd (h:z.H n) (b:3*n+4<7*(m+1)):(pr z).H m:=by
 have a:=m6 (z.mul ⟨3,-1⟩) (d:=7) (by decide);unfold i8 at a;unfold Ei.H pr at *;simp only [Ei.mul] at *;generalize Ei.round _ 7=q at *;simp only [Int.mul_one,Int.mul_neg] at *;omega
theorem iy (h:z.H n) (f:19*n+330<343*(m+1)):(anc 3 z).H m:=by
 obtain ⟨c,_,e,j,i⟩:=ahw z;obtain ⟨g,_,k,d,l⟩:=ahw (pr z);obtain ⟨r,_,a,s,b⟩:=ahw (pr (pr z));show (pr (pr (pr z))).H m;generalize pr (pr (pr z))=q at *;generalize pr (pr z)=o at *;generalize pr z=p at *;unfold Ei.H at *;omega
theorem a2a (x y:Int) (hx:0<=x/\x<1073741824) (hy:0<=y/\y<1073741824):(g8 x y 0).H 260:=by
 have h:=m6 ((ax x y).mul (d7 (12-0)).conj) (d:=2340*7^(12-0)) (by decide);have e:(d7 (12-0)).conj=⟨-128231,102960⟩:=by decide
 have a:(2340*7^(12-0):Int)=32388612050340:=by decide
 unfold g8;generalize Ei.round _ _=q at *;rw [e,a] at h;unfold i8 Ei.H at *;simp only [Ei.mul,ax] at *;omega
theorem a19 (x y:Int) (hx:0<=x/\x<1073741824) (hy:0<=y/\y<1073741824):(g8 x y 1).H 734:=by
 have h:=m6 ((ax x y).mul (d7 (12-1)).conj) (d:=2340*7^(12-1)) (by decide);have e:(d7 (12-1)).conj=⟨-51346,25807⟩:=by decide
 have a:(2340*7^(12-1):Int)=4626944578620:=by decide
 unfold g8;generalize Ei.round _ _=q at *;rw [e,a] at h;unfold i8 Ei.H at *;simp only [Ei.mul,ax] at *;omega
theorem a18 (x y:Int) (hx:0<=x/\x<1073741824) (hy:0<=y/\y<1073741824):(g8 x y 2).H 2004:=by
 have h:=m6 ((ax x y).mul (d7 (12-2)).conj) (d:=2340*7^(12-2)) (by decide);have e:(d7 (12-2)).conj=⟨-18357,3725⟩:=by decide
 have a:(2340*7^(12-2):Int)=660992082660:=by decide
 unfold g8;generalize Ei.round _ _=q at *;rw [e,a] at h;unfold i8 Ei.H at *;simp only [Ei.mul,ax] at *;omega
theorem a17 (x y:Int) (hx:0<=x/\x<1073741824) (hy:0<=y/\y<1073741824):(g8 x y 3).H 4887:=by
 have h:=m6 ((ax x y).mul (d7 (12-3)).conj) (d:=2340*7^(12-3)) (by decide);have e:(d7 (12-3)).conj=⟨-5777,-1026⟩:=by decide
 have a:(2340*7^(12-3):Int)=94427440380:=by decide
 unfold g8;generalize Ei.round _ _=q at *;rw [e,a] at h;unfold i8 Ei.H at *;simp only [Ei.mul,ax] at *;omega
theorem a16 (x y:Int) (hx:0<=x/\x<1073741824) (hy:0<=y/\y<1073741824):(g8 x y 4).H 13376:=by
 have h:=m6 ((ax x y).mul (d7 (12-4)).conj) (d:=2340*7^(12-4)) (by decide);have e:(d7 (12-4)).conj=⟨-1504,-1265⟩:=by decide
 have a:(2340*7^(12-4):Int)=13489634340:=by decide
 unfold g8;generalize Ei.round _ _=q at *;rw [e,a] at h;unfold i8 Ei.H at *;simp only [Ei.mul,ax] at *;omega
theorem a15 (x y:Int) (hx:0<=x/\x<1073741824) (hy:0<=y/\y<1073741824):(g8 x y 5).H 37163:=by
 have h:=m6 ((ax x y).mul (d7 (12-5)).conj) (d:=2340*7^(12-5)) (by decide);have e:(d7 (12-5)).conj=⟨-249,-757⟩:=by decide
 have a:(2340*7^(12-5):Int)=1927090620:=by decide
 unfold g8;generalize Ei.round _ _=q at *;rw [e,a] at h;unfold i8 Ei.H at *;simp only [Ei.mul,ax] at *;omega
theorem a14 (x y:Int) (hx:0<=x/\x<1073741824) (hy:0<=y/\y<1073741824):(g8 x y 6).H 92189:=by
 have h:=m6 ((ax x y).mul (d7 (12-6)).conj) (d:=2340*7^(12-6)) (by decide);have e:(d7 (12-6)).conj=⟨37,-360⟩:=by decide
 have a:(2340*7^(12-6):Int)=275298660:=by decide
 unfold g8;generalize Ei.round _ _=q at *;rw [e,a] at h;unfold i8 Ei.H at *;simp only [Ei.mul,ax] at *;omega
theorem a13 (x y:Int) (hx:0<=x/\x<1073741824) (hy:0<=y/\y<1073741824):(g8 x y 7).H 243699:=by
 have h:=m6 ((ax x y).mul (d7 (12-7)).conj) (d:=2340*7^(12-7)) (by decide);have e:(d7 (12-7)).conj=⟨62,-149⟩:=by decide
 have a:(2340*7^(12-7):Int)=39328380:=by decide
 unfold g8;generalize Ei.round _ _=q at *;rw [e,a] at h;unfold i8 Ei.H at *;simp only [Ei.mul,ax] at *;omega
theorem a11 (x y:Int) (hx:0<=x/\x<1073741824) (hy:0<=y/\y<1073741824):(g8 x y 8).H 688202:=by
 have h:=m6 ((ax x y).mul (d7 (12-8)).conj) (d:=2340*7^(12-8)) (by decide);have e:(d7 (12-8)).conj=⟨39,-55⟩:=by decide
 have a:(2340*7^(12-8):Int)=5618340:=by decide
 unfold g8;generalize Ei.round _ _=q at *;rw [e,a] at h;unfold i8 Ei.H at *;simp only [Ei.mul,ax] at *;omega
theorem a10 (x y:Int) (hx:0<=x/\x<1073741824) (hy:0<=y/\y<1073741824):(g8 x y 9).H 1735123:=by
 have h:=m6 ((ax x y).mul (d7 (12-9)).conj) (d:=2340*7^(12-9)) (by decide);have e:(d7 (12-9)).conj=⟨19,-18⟩:=by decide
 have a:(2340*7^(12-9):Int)=802620:=by decide
 unfold g8;generalize Ei.round _ _=q at *;rw [e,a] at h;unfold i8 Ei.H at *;simp only [Ei.mul,ax] at *;omega
theorem ayw (x y:Int) (hx:0<=x/\x<1073741824) (hy:0<=y/\y<1073741824):(g8 x y 10).H 4429444:=by
 have h:=m6 ((ax x y).mul (d7 (12-10)).conj) (d:=2340*7^(12-10)) (by decide);have e:(d7 (12-10)).conj=⟨8,-5⟩:=by decide
 have a:(2340*7^(12-10):Int)=114660:=by decide
 unfold g8;generalize Ei.round _ _=q at *;rw [e,a] at h;unfold i8 Ei.H at *;simp only [Ei.mul,ax] at *;omega
theorem ayv (x y:Int) (hx:0<=x/\x<1073741824) (hy:0<=y/\y<1073741824):(g8 x y 11).H 12717090:=by
 have h:=m6 ((ax x y).mul (d7 (12-11)).conj) (d:=2340*7^(12-11)) (by decide);have e:(d7 (12-11)).conj=⟨3,-1⟩:=by decide
 have a:(2340*7^(12-11):Int)=16380:=by decide
 unfold g8;generalize Ei.round _ _=q at *;rw [e,a] at h;unfold i8 Ei.H at *;simp only [Ei.mul,ax] at *;omega
theorem ayu (x y:Int) (hx:0<=x/\x<1073741824) (hy:0<=y/\y<1073741824):(g8 x y 12).H 32579347:=by
 have h:=m6 ((ax x y).mul (d7 (12-12)).conj) (d:=2340*7^(12-12)) (by decide);have e:(d7 (12-12)).conj=⟨1,0⟩:=by decide
 have a:(2340*7^(12-12):Int)=2340:=by decide
 unfold g8;generalize Ei.round _ _=q at *;rw [e,a] at h;unfold i8 Ei.H at *;simp only [Ei.mul,ax] at *;omega
theorem blw (a:z.H 260):(anc 0 z).H 511:=by
 exact a.mono (by decide)
theorem a4g (x y:Int) (hx:0<=x/\x<1073741824) (hy:0<=y/\y<1073741824):(anc 0 (g8 x y 0)).H 511:=blw (a2a x y hx hy)
theorem blv (b:z.H 734):(anc 1 z).H 511:=by
 have a:=agd (m:=315) b (by decide);exact a.mono (by decide)
theorem a4f (x y:Int) (hx:0<=x/\x<1073741824) (hy:0<=y/\y<1073741824):(anc 1 (g8 x y 1)).H 511:=blv (a19 x y hx hy)
theorem blu (b:z.H 2004):(anc 2 z).H 511:=by
 have a:=agd (m:=859) b (by decide);have c:=agd (m:=368) a (by decide);exact c.mono (by decide)
theorem a4e (x y:Int) (hx:0<=x/\x<1073741824) (hy:0<=y/\y<1073741824):(anc 2 (g8 x y 2)).H 511:=blu (a18 x y hx hy)
theorem blt (b:z.H 4887):(anc 3 z).H 511:=by
 have a:=iy (m:=271) b (by decide);exact a.mono (by decide)
theorem a4d (x y:Int) (hx:0<=x/\x<1073741824) (hy:0<=y/\y<1073741824):(anc 3 (g8 x y 3)).H 511:=blt (a17 x y hx hy)
theorem bls (b:z.H 13376):(anc 4 z).H 511:=by
 have a:=agd (m:=5733) b (by decide);have c:=iy (m:=318) a (by decide);exact c.mono (by decide)
theorem a4c (x y:Int) (hx:0<=x/\x<1073741824) (hy:0<=y/\y<1073741824):(anc 4 (g8 x y 4)).H 511:=bls (a16 x y hx hy)
theorem blr (b:z.H 37163):(anc 5 z).H 511:=by
 have a:=agd (m:=15927) b (by decide);have d:=agd (m:=6826) a (by decide);have c:=iy (m:=379) d (by decide);exact c.mono (by decide)
theorem a4b (x y:Int) (hx:0<=x/\x<1073741824) (hy:0<=y/\y<1073741824):(anc 5 (g8 x y 5)).H 511:=blr (a15 x y hx hy)
theorem blq (b:z.H 92189):(anc 6 z).H 511:=by
 have a:=iy (m:=5107) b (by decide);have c:=iy (m:=283) a (by decide);exact c.mono (by decide)
theorem a4a (x y:Int) (hx:0<=x/\x<1073741824) (hy:0<=y/\y<1073741824):(anc 6 (g8 x y 6)).H 511:=blq (a14 x y hx hy)
theorem blp (b:z.H 243699):(anc 7 z).H 511:=by
 have a:=agd (m:=104443) b (by decide);have d:=iy (m:=5786) a (by decide);have c:=iy (m:=321) d (by decide);exact c.mono (by decide)
theorem a39 (x y:Int) (hx:0<=x/\x<1073741824) (hy:0<=y/\y<1073741824):(anc 7 (g8 x y 7)).H 511:=blp (a13 x y hx hy)
theorem blo (e:z.H 688202):(anc 8 z).H 511:=by
 have c:=agd (m:=294944) e (by decide);have a:=agd (m:=126405) c (by decide);have b:=iy (m:=7002) a (by decide);have d:=iy (m:=388) b (by decide);exact d.mono (by decide)
theorem a38 (x y:Int) (hx:0<=x/\x<1073741824) (hy:0<=y/\y<1073741824):(anc 8 (g8 x y 8)).H 511:=blo (a11 x y hx hy)
theorem bln (b:z.H 1735123):(anc 9 z).H 511:=by
 have a:=iy (m:=96115) b (by decide);have d:=iy (m:=5325) a (by decide);have c:=iy (m:=295) d (by decide);exact c.mono (by decide)
theorem a37 (x y:Int) (hx:0<=x/\x<1073741824) (hy:0<=y/\y<1073741824):(anc 9 (g8 x y 9)).H 511:=bln (a10 x y hx hy)
theorem bhu (e:z.H 4429444):(anc 10 z).H 511:=by
 have c:=agd (m:=1898333) e (by decide);have a:=iy (m:=105156) c (by decide);have b:=iy (m:=5825) a (by decide);have d:=iy (m:=323) b (by decide);exact d.mono (by decide)
theorem a0n (x y:Int) (hx:0<=x/\x<1073741824) (hy:0<=y/\y<1073741824):(anc 10 (g8 x y 10)).H 511:=bhu (ayw x y hx hy)
theorem bht (e:z.H 12717090):(anc 11 z).H 511:=by
 have c:=agd (m:=5450182) e (by decide);have a:=agd (m:=2335792) c (by decide);have b:=iy (m:=129388) a (by decide);have d:=iy (m:=7168) b (by decide);have f:=iy (m:=398) d (by decide);exact f.mono (by decide)
theorem a0m (x y:Int) (hx:0<=x/\x<1073741824) (hy:0<=y/\y<1073741824):(anc 11 (g8 x y 11)).H 511:=bht (ayv x y hx hy)
theorem bhs (e:z.H 32579347):(anc 12 z).H 511:=by
 have c:=iy (m:=1804687) e (by decide);have a:=iy (m:=99969) c (by decide);have b:=iy (m:=5538) a (by decide);have d:=iy (m:=307) b (by decide);exact d.mono (by decide)
theorem a0l (x y:Int) (hx:0<=x/\x<1073741824) (hy:0<=y/\y<1073741824):(anc 12 (g8 x y 12)).H 511:=bhs (ayu x y hx hy)
theorem bkf (x y:Int) (r:Nat) (hx:0<=x/\x<1073741824) (hy:0<=y/\y<1073741824) (a:r<=12):(g8 x y r).H 32579347:=by
 rcases (show r=0\/r=1\/r=2\/r=3\/r=4\/r=5\/r=6\/r=7\/r=8\/r=9\/r=10\/r=11\/r=12 by omega) with rfl | rfl | rfl | rfl | rfl | rfl | rfl | rfl | rfl | rfl | rfl | rfl | rfl
 ·exact (a2a x y hx hy).mono (by decide)
 ·exact (a19 x y hx hy).mono (by decide)
 ·exact (a18 x y hx hy).mono (by decide)
 ·exact (a17 x y hx hy).mono (by decide)
 ·exact (a16 x y hx hy).mono (by decide)
 ·exact (a15 x y hx hy).mono (by decide)
 ·exact (a14 x y hx hy).mono (by decide)
 ·exact (a13 x y hx hy).mono (by decide)
 ·exact (a11 x y hx hy).mono (by decide)
 ·exact (a10 x y hx hy).mono (by decide)
 ·exact (ayw x y hx hy).mono (by decide)
 ·exact (ayv x y hx hy).mono (by decide)
 exact (ayu x y hx hy).mono (by decide)
theorem a7z (x y:Int) (r:Nat) (hx:0<=x/\x<1073741824) (hy:0<=y/\y<1073741824) (a:r<=12):(anc r (g8 x y r)).H 511:=by
 rcases (show r=0\/r=1\/r=2\/r=3\/r=4\/r=5\/r=6\/r=7\/r=8\/r=9\/r=10\/r=11\/r=12 by omega) with rfl | rfl | rfl | rfl | rfl | rfl | rfl | rfl | rfl | rfl | rfl | rfl | rfl
 ·exact a4g x y hx hy
 ·exact a4f x y hx hy
 ·exact a4e x y hx hy
 ·exact a4d x y hx hy
 ·exact a4c x y hx hy
 ·exact a4b x y hx hy
 ·exact a4a x y hx hy
 ·exact a39 x y hx hy
 ·exact a38 x y hx hy
 ·exact a37 x y hx hy
 ·exact a0n x y hx hy
 ·exact a0m x y hx hy
 exact a0l x y hx hy
theorem mf (x y:Int) (r:Nat) (hx:0<=x/\x<1073741824) (hy:0<=y/\y<1073741824) (a:r<=12):okc r (g8 x y r):=by
 have c:=bkf x y r hx hy a;have b:=a7z x y r hx hy a;unfold okc;unfold Ei.In;unfold Ei.H at c b;omega

def akp:Mk P0 f171:={ x:=_ }
def afj:PC:=
 (.seq (.reg [p_a 2 (.box (.t 0)),p_a 3 (.box (.t 1)),p_a 4 (.new [(.r (.v (.int .i64 0))),(.r (.v (.int .u64 0)))])])
 (.seq (.reg [p_s 8 (.fa 1 (.t 2)),p_s 9 (.ld none (.t 8)),p_s 10 (.fa 1 (.t 3)),p_s 11 (.ld none (.t 10)),p_s 12 (.carry false (.t 9) (.t 11) (.c (.r (.v (.int .u64 0))))),
 p_m 7 12,p_s 13 (.ext (.t 7) 0),p_s 14 (.ext (.t 7) 1),p_m 5 13,p_m 6 14])
 (.seq (.reg [p_s 15 (.fa 0 (.t 2)),p_s 16 (.ld none (.t 15)),p_s 17 (.fa 0 (.t 3)),p_s 18 (.ld none (.t 17)),p_s 19 (.bin .add (.t 16) (.t 18)),p_m 20 6,p_s 21 (.conv .i64 (.t 20)),
 p_s 22 (.bin .add (.t 19) (.t 21)),p_m 23 5,p_s 24 (.build [(.r (.v (.int .i64 0))),(.r (.v (.int .u64 0)))] [(0,1,(.t 22)),(1,1,(.t 23))]),⟨none,none,0,.act (.st 2 (.t 4) (.t 24))⟩])
 .ret)))
theorem ajx:Fun P0 170 2 [(4,false,some (246,(some 2)))] afj:=afh func170 rfl (by decide) (by kernel_rfl) (by decide) rfl (by kernel_rfl) (by kernel_rfl) (by decide)
def ada:PC:=
 (.seq (.reg [p_a 2 (.box (.t 0)),p_a 3 (.box (.t 1)),p_a 4 (.new [(.r (.v (.int .i64 0))),(.r (.v (.int .u64 0)))])])
 (.seq (.reg [p_s 8 (.fa 1 (.t 2)),p_s 9 (.ld none (.t 8)),p_s 10 (.fa 1 (.t 3)),p_s 11 (.ld none (.t 10)),p_s 12 (.carry true (.t 9) (.t 11) (.c (.r (.v (.int .u64 0))))),
 p_m 7 12,p_s 13 (.ext (.t 7) 0),p_s 14 (.ext (.t 7) 1),p_m 5 13,p_m 6 14])
 (.seq (.reg [p_s 15 (.fa 0 (.t 2)),p_s 16 (.ld none (.t 15)),p_s 17 (.fa 0 (.t 3)),p_s 18 (.ld none (.t 17)),p_s 19 (.bin .sub (.t 16) (.t 18)),p_m 20 6,p_s 21 (.conv .i64 (.t 20)),
 p_s 22 (.bin .sub (.t 19) (.t 21)),p_m 23 5,p_s 24 (.build [(.r (.v (.int .i64 0))),(.r (.v (.int .u64 0)))] [(0,1,(.t 22)),(1,1,(.t 23))]),⟨none,none,0,.act (.st 2 (.t 4) (.t 24))⟩])
 .ret)))
theorem air:Fun P0 172 2 [(4,false,some (246,(some 2)))] ada:=afh func172 rfl (by decide) (by kernel_rfl) (by decide) rfl (by kernel_rfl) (by kernel_rfl) (by decide)
def ac9:Mk P0 f173:={ x:=_ }
def amh:Mk P0 f174:={ x:=_ }
def an8:Mk P0 f121:={ x:=_ }
def wid (x:Int):AV:=.r (.agg [.v (.int .i64 (IntKind.i64.wrap (x/18446744073709551616))),.v (.int .u64 (x%18446744073709551616))])
theorem axh (c:a=IntKind.i64.wrap (x/18446744073709551616)) (d:b=x%18446744073709551616):AV.r (.agg [.v (.int .i64 a),.v (.int .u64 b)])=wid x:=by rw [c,d]; rfl
theorem a0y (a b:Int):a8 P0 170 [wid a,wid b] [] (wid (a+b)) []:=by
 refine ajx rfl (by decide) ?_
 push_cast [afj,wid,zaa]
 refine ⟨by omega,axh ?_ ?_⟩
 ·simp only [IntKind.wrap_i64]; omega
 omega
theorem a96 (a b:Int):a8 P0 172 [wid a,wid b] [] (wid (a-b)) []:=by
 refine air rfl (by decide) ?_
 push_cast [ada,wid,zaa]
 refine ⟨by omega,axh ?_ ?_⟩
 ·simp only [IntKind.wrap_i64]; omega
 omega
theorem axb (a:Int) (h:-170141183460469231731687303715884105728<=a/\a<170141183460469231731687303715884105728):a8 P0 173 [wid a] [] (sm a) []:=by
 refine ac9.t func173 ?_
 push_cast [ac9,wid,zaa]
 rw [IntKind.wrap_i64,IntKind.wrap_i64];have e:c7 a->(a%18446744073709551616+9223372036854775808)%18446744073709551616-9223372036854775808=a:=by unfold c7; omega
 have f:(a/18446744073709551616+9223372036854775808)%18446744073709551616-9223372036854775808=a/18446744073709551616:=by omega
 rw [f];have j:a/18446744073709551616=0->(a%18446744073709551616+9223372036854775808)%18446744073709551616-9223372036854775808>=0->c7 a:=by unfold c7; omega
 have i:a/18446744073709551616=-1->(a%18446744073709551616+9223372036854775808)%18446744073709551616-9223372036854775808<0->c7 a:=by unfold c7; omega
 have g:c7 a->(a/18446744073709551616=0/\(a%18446744073709551616+9223372036854775808)%18446744073709551616-9223372036854775808>=0)\/(a/18446744073709551616=-1/\(a%18446744073709551616+9223372036854775808)%18446744073709551616-9223372036854775808<0):=by unfold c7; omega
 generalize a/18446744073709551616=q at *;generalize (a%18446744073709551616+9223372036854775808)%18446744073709551616-9223372036854775808=n at *;refine ⟨by simp +contextual,by simp +contextual; omega,b7 (λ hc=>?_) (λ hc=>?_)⟩
 ·push_cast
  have hy:c7 a:=by
   by_cases d:n<0
   ·by_cases c2:q=-1
    ·exact i c2 d
    simp [d,c2] at hc; omega
   by_cases c2:q=0
   ·exact j c2 (by omega)
   simp [d,c2] at hc
  exact vl (e hy) hy
 push_cast
 refine ak8 λ hy=>?_;rcases g hy with ⟨c,b⟩ | ⟨c,b⟩
 ·simp [c,b] at hc
 simp [c,b] at hc
theorem ao9 (b:c7 a):IntKind.u64.wrap a=if a<0 then a+18446744073709551616 else a:=by
 unfold c7 at b;rw [IntKind.wrap_u64];split<;>omega
theorem aky (a b:Int) (c:c7 a) (d:c7 b):a8 P0 171 [int .i64 a,int .i64 b] [] (wid (a*b)) []:=by
 refine akp.t func171 ?_
 push_cast [akp,zaa]
 have j:=c;have g:=d;unfold c7 at j g
 have f:∀x:Int,c7 x->((IntKind.u64.wrap x).toNat:Int)=if x<0 then x+18446744073709551616 else x:=λ x hx=>by
  rw [ao9 hx];unfold c7 at hx;split<;>omega
 have e:∀x:Int,c7 x->(IntKind.u64.wrap x).toNat<18446744073709551616:=λ x hx=>by
  rw [ao9 hx];unfold c7 at hx;split<;>omega
 refine b5 (as':=[int .u64 (IntKind.u64.wrap a).toNat,int .u64 (IntKind.u64.wrap b).toNat]) (by rw [f a c,f b d,ao9 c,ao9 d]) ?_;refine a6 (auo _ _ (e a c) (e b d)) rfl trivial ?_
 push_cast
 have k:((IntKind.u64.wrap a).toNat:Int)*((IntKind.u64.wrap b).toNat:Int)=a*b+(if a<0 then b*18446744073709551616 else 0)+(if b<0 then a*18446744073709551616 else 0)+(if a<0 then if b<0 then 340282366920938463463374607431768211456 else 0 else 0):=by
  rw [f a c,f b d];split<;>split<;>(try simp only [Int.add_mul,zcj])<;>omega
 rw [k];generalize a*b=m;refine b7 (λ i=>?_) (λ i=>?_)<;>push_cast<;>refine b7 (λ h=>?_) (λ h=>?_)<;>push_cast
 all_goals
  simp only [decide_eq_true_eq,decide_eq_false_iff_not] at i h;simp only [i,h,if_true,if_false];refine axh ?_ ?_
  ·simp only [IntKind.wrap_i64]; omega
  omega
theorem at2 (a b:Int):a8 P0 174 [int .i64 a,bl true,int .i64 b,bl true] [] (.tup [Ei.v ⟨a,b⟩,bl true]) []:=by
 refine amh.t func174 ?_
 push_cast [amh,Ei.v,Ei.rv,zaa]
abbrev M63:Int:=9223372036854775807
theorem Ei.In.ok (h:z.In M63):c7 z.a/\c7 z.b:=by unfold Ei.In M63 at h; unfold c7; omega
theorem bj4 {x y:Ei} (hx:x.In 4611686018427387904) (hy:y.In 4611686018427387904):(-21267647932558653966460912964485513216<=x.a*y.a/\x.a*y.a<=21267647932558653966460912964485513216)/\(-21267647932558653966460912964485513216<=x.a*y.b/\x.a*y.b<=21267647932558653966460912964485513216)/\(-21267647932558653966460912964485513216<=x.b*y.a/\x.b*y.a<=21267647932558653966460912964485513216)/\(-21267647932558653966460912964485513216<=x.b*y.b/\x.b*y.b<=21267647932558653966460912964485513216):=
 ⟨gm hx.1 hy.1,gm hx.1 hy.2,gm hx.2 hy.1,gm hx.2 hy.2⟩
theorem aih (x y:Ei) (hx:x.In 4611686018427387904) (hy:y.In 4611686018427387904) (g:(x.mul y).In M63):a8 P0 121 [x.v,y.v] [] (.tup [(x.mul y).v,bl true]) []:=by
 refine an8.t func121 ?_;have f:=g.ok.1;have e:=g.ok.2;simp only [Ei.mul] at f e
 push_cast [an8,Ei.v,Ei.rv,zaa]
 have d:c7 x.a/\c7 x.b:=by unfold Ei.In at hx; unfold c7; omega
 have c:c7 y.a/\c7 y.b:=by unfold Ei.In at hy; unfold c7; omega
 refine a6 (aky x.b y.b d.2 c.2) rfl trivial ?_
 push_cast [wid]
 refine d5 (aky x.a y.a d.1 c.1) rfl trivial ?_
 push_cast [wid]
 refine i5 (as':=[wid (x.a*y.a),wid (x.b*y.b)]) rfl ?_;refine d5 (a96 _ _) rfl trivial ?_
 push_cast [wid]
 refine i5 (as':=[wid (x.a*y.a-x.b*y.b)]) rfl ?_;refine d5 (axb _ ?_) rfl trivial ?_
 ·have:=bj4 hx hy;omega
 push_cast [sm,f,if_pos]
 refine And.intro (by kernel_rfl) ?_;refine d5 (aky x.a y.b d.1 c.2) rfl trivial ?_
 push_cast [wid]
 refine d5 (aky x.b y.a d.2 c.1) rfl trivial ?_
 push_cast [wid]
 refine And.intro (by kernel_rfl) ?_;refine i5 (as':=[wid (x.a*y.b),wid (x.b*y.a)]) rfl ?_;refine d5 (a0y _ _) rfl trivial ?_
 push_cast [wid]
 refine And.intro (by kernel_rfl) ?_;refine i5 (as':=[wid (x.a*y.b+x.b*y.a),wid (x.b*y.b)]) rfl ?_;refine d5 (a0y _ _) rfl trivial ?_
 push_cast [wid]
 refine i5 (as':=[wid (x.a*y.b+x.b*y.a+x.b*y.b)]) rfl ?_;refine d5 (axb _ ?_) rfl trivial ?_
 ·have:=bj4 hx hy;omega
 push_cast [sm,e,if_pos]
 refine And.intro (by kernel_rfl) ?_;refine a6 (at2 _ _) rfl trivial ?_
 push_cast [Ei.v,Ei.rv,Ei.mul]

def yd:Mk P0 f175:={ x:=_ }
def an9:Mk P0 f122:={ x:=_ }
def an7:Mk P0 f234:={ x:=_ }
def amj:Mk P0 f195:={ x:=_ }
def ami:Mk P0 f123:={ x:=_ }
def amk:Mk P0 f125:={ x:=_ }
def ame:Mk P0 f178:={ x:=_ }
def akq:Mk P0 f197:={ x:=_ }
theorem aha (h:c7 x):sm x=.tup [int .i64 x,bl true]:=by simp [sm,h]
theorem a82 (x y:Ei) (hx:x.In M63) (hy:y.In M63) (c:(x.add y).In M63):a8 P0 122 [x.v,y.v] [] (.tup [(x.add y).v,bl true]) []:=by
 have d:a8 P0 175 [x.v,y.v,.fn (.func 176) []] [] (.tup [(x.add y).v,bl true]) []:=by
  refine yd.t func175 ?_
  push_cast [yd,Ei.v,Ei.rv,zaa]
  refine ⟨by kernel_rfl,?_⟩;refine a6 (a5f _ _ hx.ok.1 hy.ok.1) rfl trivial ?_;rw [aha (show c7 (x.a+y.a) from c.ok.1)]
  push_cast
  refine ⟨by kernel_rfl,?_⟩;refine a6 (a5f _ _ hx.ok.2 hy.ok.2) rfl trivial ?_;rw [aha (show c7 (x.b+y.b) from c.ok.2)]
  push_cast
  refine a6 (at2 _ _) rfl trivial ?_
  push_cast [Ei.v,Ei.rv,Ei.add]
 refine an9.t func122 ?_
 push_cast [an9,Ei.v,Ei.rv,zaa]
 refine b5 (as':=[x.v,y.v,.fn (.func 176) []]) rfl ?_;refine a6 d rfl trivial ?_
 push_cast [Ei.v,Ei.rv,Ei.add]
theorem bk8 (x y:Ei) (hx:x.In M63) (hy:y.In M63) (c:(x.sub y).In M63):a8 P0 234 [x.v,y.v] [] (.tup [(x.sub y).v,bl true]) []:=by
 have d:a8 P0 175 [x.v,y.v,.fn (.func 246) []] [] (.tup [(x.sub y).v,bl true]) []:=by
  refine yd.t func175 ?_
  push_cast [yd,Ei.v,Ei.rv,zaa]
  refine ⟨by kernel_rfl,?_⟩;refine a6 (a3j _ _ hx.ok.1 hy.ok.1) rfl trivial ?_;rw [aha (show c7 (x.a-y.a) from c.ok.1)]
  push_cast
  refine ⟨by kernel_rfl,?_⟩;refine a6 (a3j _ _ hx.ok.2 hy.ok.2) rfl trivial ?_;rw [aha (show c7 (x.b-y.b) from c.ok.2)]
  push_cast
  refine a6 (at2 _ _) rfl trivial ?_
  push_cast [Ei.v,Ei.rv,Ei.sub]
 refine an7.t func234 ?_
 push_cast [an7,Ei.v,Ei.rv,zaa]
 refine b5 (as':=[x.v,y.v,.fn (.func 246) []]) rfl ?_;refine a6 d rfl trivial ?_
 push_cast [Ei.v,Ei.rv,Ei.sub]
theorem a2v (x:Ei) (hx:x.In 4611686018427387903):a8 P0 195 [x.v] [] (.tup [x.conj.v,bl true]) []:=by
 refine amj.t func195 ?_;have h:=hx;unfold Ei.In at h
 push_cast [amj,Ei.v,Ei.rv,zaa]
 refine a6 (a5f _ _ (by unfold c7; omega) (by unfold c7; omega)) rfl trivial ?_;rw [aha (by unfold c7; omega)]
 push_cast
 refine a6 (bm0 _ (by unfold c7; omega)) rfl trivial ?_;rw [aha (by unfold c7; omega)]
 push_cast
 refine a6 (at2 _ _) rfl trivial ?_
 push_cast [Ei.v,Ei.rv,Ei.conj]
theorem bdl:uni 0=⟨1,0⟩:=rfl
theorem bdk:uni 1=⟨0,1⟩:=rfl
theorem bdj:uni 2=⟨-1,1⟩:=rfl
theorem bdi:uni 3=⟨-1,0⟩:=rfl
theorem bdh:uni 4=⟨0,-1⟩:=rfl
theorem bdg:uni 5=⟨1,-1⟩:=rfl
theorem a2s (k:Int) (a:0<=k/\k<6):a8 P0 123 [int .i64 k] [] (uni k.toNat).v []:=by
 refine ami.t func123 ?_
 have b:(IntKind.i64.wrap (Int.tmod k 6+6)).tmod 6=k:=by
  rw [zcm a.1,a5 (by omega),zcm (by omega)]; omega
 simp only [ami,b,Ei.v,Ei.rv,push_cast,↓reduceIte,reduceCtorEq,zE,zA,zD];refine ⟨by decide,by decide,a,by omega,?_⟩;rcases (show k=0\/k=1\/k=2\/k=3\/k=4\/k=5 by omega) with rfl | rfl | rfl | rfl | rfl | rfl
 all_goals
  simp only [Int.reduceToNat,Nat.zero_mul,Nat.add_zero,zcu,bdl,bdk,bdj,bdi,bdh,bdg,push_cast,zA,zD,zM]
  first | done | trace_state
theorem adv (a m:Int) (f:c7 a) (e:0<=m/\m<=4611686018427387904):a8 P0 178 [int .i64 a,int .i64 m] [] (bl (decide (-m<=a/\a<=m))) []:=by
 refine ame.t func178 ?_
 push_cast [ame,zaa]
 rw [show IntKind.i64.wrap (0-m)=-m by rw [a5 (by omega)]; omega];refine ic ?_;by_cases d:-m<=a<;>by_cases b:a<=m<;>by_cases c:a=-9223372036854775808<;>simp [d,b,c]
 all_goals omega
theorem au2 (k:Int) (l:0<=k/\k<=12):a8 P0 125 [int .i64 k] [] (.tup [(d7 k.toNat).v,bl true]) []:=by
 refine amk.t func125 ?_;have f:decide (k<0)=false:=by simp; omega
 have c2:decide (k>20)=false:=by simp; omega
 push_cast [amk,zaa,f,c2]
 refine b9 [(14,false),(15,false),(2,false),(3,false),(4,false),(5,false)] (λ vs pos c=>∃i:Int,0<=i/\i<=k/\vs=[int .i64 k,int .i64 i,.ptr 2000000 0 0,bl false,.ptr 2000001 0 0,bl true]/\pos=[]/\c=[.box [int .i64 0,int .i64 0],.box [int .i64 (d7 i.toNat).a,int .i64 (d7 i.toNat).b]])
  (λ vs _ _=>match vs with | [_,.r (.v (.int _ j)),_,_,_,_]=>(k-j).toNat | _=>0) rfl ?_ ?_
 ·push_cast
  exact ⟨0,by omega,by omega,rfl,rfl⟩
 rintro vs pos c ⟨i,m,g,rfl,rfl,rfl⟩
 push_cast
 refine b7 (λ h=>?_) (λ h=>?_)
 ·simp only [decide_eq_true_eq] at h
  push_cast
  have e:=pi i.toNat (by omega);have d:=pi (i.toNat+1) (by omega);refine b5 (as':=[(d7 i.toNat).v,aw.v]) rfl ?_;refine a6 (aih _ _ (e.mono (by decide)) (by unfold Ei.In; decide) (d.mono (by decide))) rfl trivial ?_
  push_cast [Ei.v,Ei.rv]
  rw [show IntKind.i64.wrap (i+1)=i+1 from a5 (by omega)];refine ⟨⟨i+1,by omega,by omega,rfl,?_⟩,by omega⟩;rw [show (i+1).toNat=i.toNat+1 by omega]
  rfl
 simp only [decide_eq_false_iff_not] at h;have:i=k:=by omega
 subst this
 push_cast [Ei.v,Ei.rv]

def pkN (d a b:Int) (i:Nat):Int×Ei:=(ae3.take i).foldl (pk d a b) (0,⟨0,0⟩)
theorem ayj (d a b:Int) (i:Nat) (z:Ei) (h:ae3[i]?=some z):pkN d a b (i+1)=pk d a b (pkN d a b i) z:=by
 unfold pkN;rw [List.take_add_one,h];simp
theorem bgk (c:0<=a/\a<d) (e:0<=b/\b<d):(pkN d a b 3).2=km d a b:=a0o c e
theorem a7j (d a b:Int):∀i,(0<=(pkN d a b i).2.a/\(pkN d a b i).2.a<=1)/\(0<=(pkN d a b i).2.b/\(pkN d a b i).2.b<=1)
 | 0=>by simp [pkN]
 | i+1=>by
   have c:=a7j d a b i;rcases h:ae3[i]? with _ | z
   ·have:pkN d a b (i+1)=pkN d a b i:=by unfold pkN; rw [List.take_add_one,h]; simp
    rw [this]; exact c
   rw [ayj d a b i z h];unfold pk;split
   ·have:z∈ae3:=List.mem_of_getElem? h;simp [ae3] at this;rcases this with rfl | rfl | rfl<;>simp
   exact c
theorem atk (h:-n<=a/\a<=n) (g:1<=d):-n<=a/d/\a/d<=n:=by
 have c:=zcv a d;have f:=zac a (show 0<d by omega);have e:=zad a (show d≠0 by omega);generalize a/d=q at *;generalize a%d=r at *;constructor
 ·rcases zci q 0 with b | b
  ·have:d*(q+1)<=1*(q+1):=Int.mul_le_mul_of_nonpos_right (by omega) (by omega);rw [zcj] at this;omega
  omega
 rcases zci q 0 with b | b
 ·omega
 have:1*q<=d*q:=zcw (by omega) b;omega
theorem azo (u:Ei) (d:Int) (y:u.In 1152921504606846976) (q:1<=d/\d<=1125899906842624):a8 P0 197 [u.v,int .i64 d] [] (.tup [(u.round d).v,bl true]) []:=by
 refine akq.t func197 ?_;have c:=y;unfold Ei.In at c;have C:decide (d<1)=false:=by simp; omega
 have c2:decide (d>1125899906842624)=false:=by simp; omega
 have w:c7 u.a:=by unfold c7; omega
 have s:c7 u.b:=by unfold c7; omega
 have o:c7 d:=by unfold c7; omega
 push_cast [akq,Ei.v,Ei.rv,zaa,C,c2]
 refine a6 (adv _ _ w (by decide)) rfl trivial ?_;rw [show decide (-1152921504606846976<=u.a/\u.a<=1152921504606846976)=true from decide_eq_true c.1]
 push_cast
 refine a6 (adv _ _ s (by decide)) rfl trivial ?_;rw [show decide (-1152921504606846976<=u.b/\u.b<=1152921504606846976)=true from decide_eq_true c.2]
 push_cast
 refine a6 (uj _ _ w o) rfl trivial ?_;have e:0<d:=by omega
 push_cast [e,if_true]
 refine a6 (uj _ _ s o) rfl trivial ?_
 push_cast [e,if_true]
 have D:0<=u.a%d/\u.a%d<d:=⟨zad _ (by omega),zac _ e⟩
 have I:0<=u.b%d/\u.b%d<d:=⟨zad _ (by omega),zac _ e⟩
 have K:-1152921504606846976<=u.a/d/\u.a/d<=1152921504606846976:=atk c.1 q.1;have J:-1152921504606846976<=u.b/d/\u.b/d<=1152921504606846976:=atk c.2 q.1;generalize B:u.a%d=a at *;generalize E:u.b%d=b at *;generalize m:u.a/d=A at *;generalize n:u.b/d=x at *;refine ⟨by simp,?_⟩
 refine b9 [(57,false),(58,false),(59,false),(1,false),(4,false),(5,false),(6,false),(7,false),(9,false),(10,false),(12,false),(13,false)] (λ vs pos g=>∃i:Nat,i<=3/\vs=[.own 2000000 0 0 3,int .i64 3,int .i64 i,int .i64 d,.ptr 2000001 0 0,bl false,int .i64 A,int .i64 a,int .i64 x,int .i64 b,int .i64 (pkN d a b i).1,.ptr 2000002 0 0]/\pos=[] /\
  g=[.row 2 (Ei.rv ⟨0,0⟩) true true (ae3.map Ei.rv),.box [int .i64 0,int .i64 0],.box [int .i64 (pkN d a b i).2.a,int .i64 (pkN d a b i).2.b]])
  (λ vs _ _=>match vs with | _::_ :: .r (.v (.int _ j))::_=>(3-j).toNat | _=>0) rfl ?_ ?_
 ·push_cast
  exact ⟨0,by omega,rfl,rfl⟩
 rintro vs pos g ⟨i,L,rfl,rfl,rfl⟩
 push_cast
 refine b7 (λ h=>?_) (λ h=>?_)
 ·have hi:i=0\/i=1\/i=2:=by simp at h; omega
  obtain ⟨z,p,k⟩:∃z,ae3[i]?=some z/\((z=⟨0,1⟩\/z=⟨1,0⟩\/z=⟨1,1⟩)):=by
   rcases hi with rfl | rfl | rfl
   ·exact ⟨_,rfl,by simp⟩
   ·exact ⟨_,rfl,by simp⟩
   exact ⟨_,rfl,by simp⟩
  have F:(List.map Ei.rv ae3).getD i (Ei.rv ⟨0,0⟩)=.agg [.v (.int .i64 z.a),.v (.int .i64 z.b)]:=by
   rw [List.getD_eq_getElem?_getD,List.getElem?_map,p]; rfl
  have H:(IntKind.i64.wrap (IntKind.i64.wrap (IntKind.i64.wrap (z.a*z.a)+IntKind.i64.wrap (z.a*z.b))+IntKind.i64.wrap (z.b*z.b)))=z.a*z.a+z.a*z.b+z.b*z.b:=by
   rcases k with rfl | rfl | rfl<;>decide
  have G:IntKind.i64.wrap (IntKind.i64.wrap (IntKind.i64.wrap (d*(z.a*z.a+z.a*z.b+z.b*z.b))-IntKind.i64.wrap (z.a*IntKind.i64.wrap (IntKind.i64.wrap (2*a)+b)))-IntKind.i64.wrap (z.b*IntKind.i64.wrap (a+IntKind.i64.wrap (2*b))))=fr d a b z:=by
   rw [show IntKind.i64.wrap (2*a)=2*a from a5 (by omega),show IntKind.i64.wrap (2*b)=2*b from a5 (by omega),show IntKind.i64.wrap (2*a+b)=2*a+b from a5 (by omega),show IntKind.i64.wrap (a+2*b)=a+2*b from a5 (by omega)];rcases k with rfl | rfl | rfl<;>simp only [fr,Int.zero_mul,Int.mul_zero,zcl,Int.mul_one,Int.add_zero,Int.zero_add,IntKind.wrap_i64]<;>omega
  have l:=ayj d a b i z p
  push_cast [Int.toNat_natCast,zcu,F,H,G]
  refine ⟨by omega,?_⟩;refine b7 (λ f=>?_) (λ f=>?_)
  ·simp only [decide_eq_true_eq] at f
   push_cast
   refine ⟨by kernel_rfl,?_⟩;rw [show IntKind.i64.wrap (i+1)=i+1 from a5 (by omega)];refine ⟨⟨i+1,by omega,?_,?_⟩,by omega⟩
   ·rw [l,pk,if_pos f]<;>rfl
   rw [l,pk,if_pos f]<;>rfl
  simp only [decide_eq_false_iff_not] at f
  push_cast
  rw [show IntKind.i64.wrap (i+1)=i+1 from a5 (by omega)];refine ⟨⟨i+1,by omega,?_,?_⟩,by omega⟩
  ·rw [l,pk,if_neg f]<;>rfl
  rw [l,pk,if_neg f]<;>rfl
 have:i=3:=by simp at h; omega
 subst this
 push_cast
 have hN:=a7j d a b 3;rw [a5 (by omega),a5 (by omega),bgk D I,<- m,<- n,<- B,<- E]
 rfl

def akd:Mk P0 f177:={ x:=_ }
def apz:Mk P0 f160:={ x:=_ }
def akf:Mk P0 f194:={ x:=_ }
def amd:Mk P0 f161:={ x:=_ }
def akc:Mk P0 f124:={ x:=_ }
def amc:Mk P0 f179:={ x:=_ }
def ze:Mk P0 f126:={ x:=_ }
def ana:Mk P0 f73:={ x:=_ }
theorem p2 (n:Nat) (h:n<=36):1<=(2:Int)^n/\(2:Int)^n<=68719476736:=by
 have c:2^n<=2^36:=zam (by decide) h;have a:1<=2^n:=Nat.one_le_two_pow;have b:((2^n:Nat):Int)=(2:Int)^n:=by simp
 omega
theorem p7 (n:Nat) (h:n<=12):1<=(7:Int)^n/\(7:Int)^n<=13841287201:=by
 have c:7^n<=7^12:=zam (by decide) h;have a:1<=7^n:=Nat.one_le_pow _ _ (by decide);have b:((7^n:Nat):Int)=(7:Int)^n:=by simp
 omega
theorem ban (z:Int) (b:0<=z) (a:z<=36):IntKind.i64.wrap (1*2^min (IntKind.u64.wrap z).toNat IntKind.i64.bits)=2^z.toNat:=by
 have c:=p2 z.toNat (by omega);rw [IntKind.wrap_u64,show (z%18446744073709551616).toNat=z.toNat by omega,show min z.toNat IntKind.i64.bits=z.toNat from Nat.min_eq_left (by simp [IntKind.bits]; omega),zcl,a5 (by omega)]
theorem bn1 (z:Int) (b:0<=z) (a:z<=36):IntKind.i64.wrap (1*2^min z.toNat IntKind.i64.bits)=2^z.toNat:=by
 have c:=p2 z.toNat (by omega);rw [show min z.toNat IntKind.i64.bits=z.toNat from Nat.min_eq_left (by simp [IntKind.bits]; omega),zcl,a5 (by omega)]
theorem aus (r:Int):a8 P0 177 [int .i64 r] [] (bl (decide (0<=r/\r<=12))) []:=by
 refine akd.t func177 ?_
 push_cast [akd,zaa]
 refine ic ?_;simp
theorem vp {x y:Ei} (hx:x.In n) (hy:y.In m):(x.mul y).In (3*(n*m)):=by
 have c:=gm hx.1 hy.1;have a:=gm hx.1 hy.2;have b:=gm hx.2 hy.1;have d:=gm hx.2 hy.2;unfold Ei.In Ei.mul;dsimp only;generalize n*m=q at *;omega
theorem au5 {x:Ei} (hx:x.In n):x.conj.In (2*n):=by
 unfold Ei.In Ei.conj at *;dsimp only;omega
def inW (x y:Int):Prop:=(0<=x/\x<1073741824)/\(0<=y/\y<1073741824)
instance (x y:Int):Decidable (inW x y):=inferInstanceAs (Decidable (_/\_))
theorem a5a (h:inW x y):(ax x y).In 60000000000:=by
 unfold inW at h;unfold ax Ei.In;dsimp only;omega
variable {k:Nat}
theorem a9n (h:inW x y) (a:k<=12):((ax x y).mul (d7 k).conj).In 43200000000000000:=
 (vp (a5a h) (au5 (pi k a))).mono (by decide)
theorem bdw (x y:Int):a8 P0 160 [int .i64 x,int .i64 y] [] (bl (decide (inW x y))) []:=by
 refine apz.t func160 ?_
 push_cast [apz,zaa]
 repeat refine And.intro (by simp +contextual) ?_
 refine ic ?_;unfold inW;by_cases c:0<=x<;>by_cases a:x<1073741824<;>by_cases b:0<=y<;>by_cases d:y<1073741824<;>simp [c,a,b,d]
theorem bh6 (x y:Int) (h:inW x y):a8 P0 194 [int .i64 x,int .i64 y] [] (.tup [(ax x y).v,bl true]) []:=by
 refine akf.t func194 ?_
 push_cast [akf,zaa]
 refine a6 (bdw x y) rfl trivial ?_;rw [decide_eq_true h]
 push_cast
 unfold inW at h;rw [show IntKind.i64.wrap (45*x)=45*x from a5 (by omega),show IntKind.i64.wrap (26*y)=26*y from a5 (by omega),show IntKind.i64.wrap (52*y)=52*y from a5 (by omega),show IntKind.i64.wrap (45*x-26*y)=45*x-26*y from a5 (by omega)];simp only [ax,Ei.v,Ei.rv]
theorem bke (x y r:Int) (h:inW x y) (e:0<=r/\r<=12):a8 P0 161 [int .i64 x,int .i64 y,int .i64 r] [] (.tup [(g8 x y r.toNat).v,bl true]) []:=by
 refine amd.t func161 ?_
 push_cast [amd,zaa]
 refine a6 (bh6 x y h) rfl trivial ?_
 push_cast [Ei.v,Ei.rv]
 refine a6 (aus r) rfl trivial ?_;rw [decide_eq_true e]
 push_cast
 have f:(12-r).toNat=12-r.toNat:=by omega
 have a:(12-r).toNat<=12:=by omega
 rw [show IntKind.i64.wrap (12-r)=12-r from a5 (by omega)];refine a6 (au2 (12-r) (by omega)) rfl trivial ?_;have c:=pi (12-r).toNat a
 push_cast [Ei.v,Ei.rv]
 refine b5 (as':=[(d7 (12-r).toNat).v]) rfl ?_;refine a6 (a2v _ (c.mono (by decide))) rfl trivial ?_
 push_cast [Ei.v,Ei.rv]
 have g:=p7 (12-r).toNat a;rw [show IntKind.i64.wrap (12-r)=12-r from a5 (by omega)];have b:=bdv 7 (12-r) (by decide) (by unfold c7; omega);rw [if_neg (show ¬12-r<0 by omega),aha (by unfold c7; omega)] at b;refine a6 b rfl trivial ?_
 push_cast
 have d:=a9n h a;refine b5 (as':=[(ax x y).v,(d7 (12-r).toNat).conj.v]) rfl ?_;refine a6 (aih _ _ ((a5a h).mono (by decide)) ((au5 c).mono (by decide)) (d.mono (by decide))) rfl trivial ?_
 push_cast [Ei.v,Ei.rv]
 rw [show IntKind.i64.wrap (2340*7^(12-r).toNat)=2340*7^(12-r).toNat from a5 (by omega)];refine b5 (as':=[((ax x y).mul (d7 (12-r).toNat).conj).v,int .i64 (2340*7^(12-r).toNat)]) rfl ?_;refine a6 (azo _ _ (d.mono (by decide)) (by omega)) rfl trivial ?_
 push_cast [Ei.v,Ei.rv,g8,f]

def vv (i:Nat):Ei:=match i with | 0=>⟨1,1⟩ | 1=>⟨-1,2⟩ | 2=>⟨-2,1⟩ | 3=>⟨-1,-1⟩ | 4=>⟨1,-2⟩ | _=>⟨2,-1⟩
def hc (z:Ei) (r i:Nat):Ei:=(d7 (12-r)).mul ⟨3*z.a+(vv i).a,3*z.b+(vv i).b⟩
def hx (z:Ei) (r i:Nat):Int:=52*(hc z r i).a+26*(hc z r i).b
def hy (z:Ei) (r i:Nat):Int:=45*(hc z r i).b
def cx (z:Ei) (r:Nat):Int:=52*((d7 (12-r)).mul z).a+26*((d7 (12-r)).mul z).b
def cy (z:Ei) (r:Nat):Int:=45*((d7 (12-r)).mul z).b
def kx (r i:Nat):Int:=52*((d7 (12-r)).mul (vv i)).a+26*((d7 (12-r)).mul (vv i)).b
def ky (r i:Nat):Int:=45*((d7 (12-r)).mul (vv i)).b
theorem bq (z:Ei) (r i:Nat):hx z r i=3*cx z r+kx r i:=by
 simp only [hx,cx,kx,hc,Ei.mul,zcj,Int.mul_left_comm _ (3:Int)];omega
theorem bp (z:Ei) (r i:Nat):hy z r i=3*cy z r+ky r i:=by
 simp only [hy,cy,ky,hc,Ei.mul,zcj,Int.mul_left_comm _ (3:Int)];omega
def crs (z:Ei) (r i j:Nat) (x y:Int):Int:=(kx r j-kx r i)*(y-hy z r i)-(ky r j-ky r i)*(x-hx z r i)
theorem aq9 (r i:Nat) (a:r<=12) (hi:i<6):(-100000000<=kx r i/\kx r i<=100000000)/\(-100000000<=ky r i/\ky r i<=100000000):=by
 have:∀j:Fin 13,∀i:Fin 6,(-100000000<=kx j.val i.val/\kx j.val i.val<=100000000)/\(-100000000<=ky j.val i.val/\ky j.val i.val<=100000000):=by decide +kernel
 exact this ⟨r,by omega⟩ ⟨i,hi⟩
theorem bng (r i:Nat) (a:r<=12) (hi:i<6):0<(kx r ((i+1)%6)-kx r i)*(ky r ((i+3)%6)-ky r i)-(ky r ((i+1)%6)-ky r i)*(kx r ((i+3)%6)-kx r i):=by
 have:∀j:Fin 13,∀i:Fin 6,0<(kx j.val ((i.val+1)%6)-kx j.val i.val)*(ky j.val ((i.val+3)%6)-ky j.val i.val)-(ky j.val ((i.val+1)%6)-ky j.val i.val)*(kx j.val ((i.val+3)%6)-kx j.val i.val):=by decide +kernel
 exact this ⟨r,by omega⟩ ⟨i,hi⟩
def zc (x y:Int) (z:Ei) (r:Nat):Prop:=
 ((-50000000<=cx z r-x/\cx z r-x<=50000000)/\(-50000000<=cy z r-y/\cy z r-y<=50000000)) /\
 (∀i,i<6->0<=crs z r i ((i+1)%6) (3*x) (3*y)) /\
 (∃i,i<6/\hx z r i<=3*x)/\(∃i,i<6/\3*x<=hx z r i)/\(∃i,i<6/\hy z r i<=3*y)/\(∃i,i<6/\3*y<=hy z r i)
theorem lt6 {i:Nat} (h:i<6):i=0\/i=1\/i=2\/i=3\/i=4\/i=5:=by omega
theorem bnf (x y:Int):zc x y (g8 x y 0) 0:=by
 have h:=m6 ((ax x y).mul (d7 (12-0)).conj) (d:=2340*7^(12-0)) (by decide);have e:(d7 (12-0)).conj=⟨-128231,102960⟩:=by decide
 have p:(2340*7^(12-0):Int)=32388612050340:=by decide
 have o:d7 (12-0)=⟨-25271,-102960⟩:=by decide
 unfold g8;generalize Ei.round _ _=q at *;rw [e,p] at h;have ex:cx q 0=52*(-25271*q.a - -102960*q.b)+26*(-25271*q.b + -102960*q.a + -102960*q.b):=by simp only [cx,o,Ei.mul]
 have u:cy q 0=45*(-25271*q.b + -102960*q.a + -102960*q.b):=by simp only [cy,o,Ei.mul]
 have n:kx 0 0=-1971138:=by decide
 have m:ky 0 0=-10403595:=by decide
 have x1:kx 0 1=8030880:=by decide
 have y1:ky 0 1=-6907590:=by decide
 have x2:kx 0 2=10002018:=by decide
 have y2:ky 0 2=3496005:=by decide
 have x3:kx 0 3=1971138:=by decide
 have y3:ky 0 3=10403595:=by decide
 have j:kx 0 4=-8030880:=by decide
 have c:ky 0 4=6907590:=by decide
 have f:kx 0 5=-10002018:=by decide
 have k:ky 0 5=-3496005:=by decide
 unfold i8 at h;simp only [Ei.mul,ax] at h;have g:∀i,hx q 0 i=3*cx q 0+kx 0 i:=λ i=>bq q 0 i;have l:∀i,hy q 0 i=3*cy q 0+ky 0 i:=λ i=>bp q 0 i;have s:=h.1;have t:=h.2.1;have r:=h.2.2;refine ⟨by omega,λ i hi=>?_,⟨5,by decide,?_⟩,⟨2,by decide,?_⟩,⟨0,by decide,?_⟩,⟨3,by decide,?_⟩⟩
 ·rcases lt6 hi with rfl | rfl | rfl | rfl | rfl | rfl<;>simp only [crs,g,l,n,x1,x2,x3,j,f,m,y1,y2,y3,c,k]<;>omega
 ·simp only [g,f]; omega
 ·simp only [g,x2]; omega
 ·simp only [l,m]; omega
 simp only [l,y3]; omega
theorem bnc (x y:Int):zc x y (g8 x y 1) 1:=by
 have h:=m6 ((ax x y).mul (d7 (12-1)).conj) (d:=2340*7^(12-1)) (by decide);have e:(d7 (12-1)).conj=⟨-51346,25807⟩:=by decide
 have p:(2340*7^(12-1):Int)=4626944578620:=by decide
 have o:d7 (12-1)=⟨-25539,-25807⟩:=by decide
 unfold g8;generalize Ei.round _ _=q at *;rw [e,p] at h;have ex:cx q 1=52*(-25539*q.a - -25807*q.b)+26*(-25539*q.b + -25807*q.a + -25807*q.b):=by simp only [cx,o,Ei.mul]
 have u:cy q 1=45*(-25539*q.b + -25807*q.a + -25807*q.b):=by simp only [cy,o,Ei.mul]
 have n:kx 1 0=-1992042:=by decide
 have m:ky 1 0=-3471885:=by decide
 have x1:kx 1 1=2012946:=by decide
 have y1:ky 1 1=-3459825:=by decide
 have x2:kx 1 2=4004988:=by decide
 have y2:ky 1 2=12060:=by decide
 have x3:kx 1 3=1992042:=by decide
 have y3:ky 1 3=3471885:=by decide
 have j:kx 1 4=-2012946:=by decide
 have c:ky 1 4=3459825:=by decide
 have f:kx 1 5=-4004988:=by decide
 have k:ky 1 5=-12060:=by decide
 unfold i8 at h;simp only [Ei.mul,ax] at h;have g:∀i,hx q 1 i=3*cx q 1+kx 1 i:=λ i=>bq q 1 i;have l:∀i,hy q 1 i=3*cy q 1+ky 1 i:=λ i=>bp q 1 i;have s:=h.1;have t:=h.2.1;have r:=h.2.2;refine ⟨by omega,λ i hi=>?_,⟨5,by decide,?_⟩,⟨2,by decide,?_⟩,⟨0,by decide,?_⟩,⟨3,by decide,?_⟩⟩
 ·rcases lt6 hi with rfl | rfl | rfl | rfl | rfl | rfl<;>simp only [crs,g,l,n,x1,x2,x3,j,f,m,y1,y2,y3,c,k]<;>omega
 ·simp only [g,f]; omega
 ·simp only [g,x2]; omega
 ·simp only [l,m]; omega
 simp only [l,y3]; omega
theorem bnb (x y:Int):zc x y (g8 x y 2) 2:=by
 have h:=m6 ((ax x y).mul (d7 (12-2)).conj) (d:=2340*7^(12-2)) (by decide);have e:(d7 (12-2)).conj=⟨-18357,3725⟩:=by decide
 have p:(2340*7^(12-2):Int)=660992082660:=by decide
 have o:d7 (12-2)=⟨-14632,-3725⟩:=by decide
 unfold g8;generalize Ei.round _ _=q at *;rw [e,p] at h;have ex:cx q 2=52*(-14632*q.a - -3725*q.b)+26*(-14632*q.b + -3725*q.a + -3725*q.b):=by simp only [cx,o,Ei.mul]
 have u:cy q 2=45*(-14632*q.b + -3725*q.a + -3725*q.b):=by simp only [cy,o,Ei.mul]
 have n:kx 2 0=-1141296:=by decide
 have m:ky 2 0=-993690:=by decide
 have x1:kx 2 1=290550:=by decide
 have y1:ky 2 1=-1484505:=by decide
 have x2:kx 2 2=1431846:=by decide
 have y2:ky 2 2=-490815:=by decide
 have x3:kx 2 3=1141296:=by decide
 have y3:ky 2 3=993690:=by decide
 have j:kx 2 4=-290550:=by decide
 have c:ky 2 4=1484505:=by decide
 have f:kx 2 5=-1431846:=by decide
 have k:ky 2 5=490815:=by decide
 unfold i8 at h;simp only [Ei.mul,ax] at h;have g:∀i,hx q 2 i=3*cx q 2+kx 2 i:=λ i=>bq q 2 i;have l:∀i,hy q 2 i=3*cy q 2+ky 2 i:=λ i=>bp q 2 i;have s:=h.1;have t:=h.2.1;have r:=h.2.2;refine ⟨by omega,λ i hi=>?_,⟨5,by decide,?_⟩,⟨2,by decide,?_⟩,⟨1,by decide,?_⟩,⟨4,by decide,?_⟩⟩
 ·rcases lt6 hi with rfl | rfl | rfl | rfl | rfl | rfl<;>simp only [crs,g,l,n,x1,x2,x3,j,f,m,y1,y2,y3,c,k]<;>omega
 ·simp only [g,f]; omega
 ·simp only [g,x2]; omega
 ·simp only [l,y1]; omega
 simp only [l,c]; omega
theorem bna (x y:Int):zc x y (g8 x y 3) 3:=by
 have h:=m6 ((ax x y).mul (d7 (12-3)).conj) (d:=2340*7^(12-3)) (by decide);have e:(d7 (12-3)).conj=⟨-5777,-1026⟩:=by decide
 have p:(2340*7^(12-3):Int)=94427440380:=by decide
 have o:d7 (12-3)=⟨-6803,1026⟩:=by decide
 unfold g8;generalize Ei.round _ _=q at *;rw [e,p] at h;have ex:cx q 3=52*(-6803*q.a-1026*q.b)+26*(-6803*q.b+1026*q.a+1026*q.b):=by simp only [cx,o,Ei.mul]
 have u:cy q 3=45*(-6803*q.b+1026*q.a+1026*q.b):=by simp only [cy,o,Ei.mul]
 have n:kx 3 0=-530634:=by decide
 have m:ky 3 0=-213795:=by decide
 have x1:kx 3 1=-80028:=by decide
 have y1:ky 3 1=-566100:=by decide
 have x2:kx 3 2=450606:=by decide
 have y2:ky 3 2=-352305:=by decide
 have x3:kx 3 3=530634:=by decide
 have y3:ky 3 3=213795:=by decide
 have j:kx 3 4=80028:=by decide
 have c:ky 3 4=566100:=by decide
 have f:kx 3 5=-450606:=by decide
 have k:ky 3 5=352305:=by decide
 unfold i8 at h;simp only [Ei.mul,ax] at h;have g:∀i,hx q 3 i=3*cx q 3+kx 3 i:=λ i=>bq q 3 i;have l:∀i,hy q 3 i=3*cy q 3+ky 3 i:=λ i=>bp q 3 i;have s:=h.1;have t:=h.2.1;have r:=h.2.2;refine ⟨by omega,λ i hi=>?_,⟨0,by decide,?_⟩,⟨3,by decide,?_⟩,⟨1,by decide,?_⟩,⟨4,by decide,?_⟩⟩
 ·rcases lt6 hi with rfl | rfl | rfl | rfl | rfl | rfl<;>simp only [crs,g,l,n,x1,x2,x3,j,f,m,y1,y2,y3,c,k]<;>omega
 ·simp only [g,n]; omega
 ·simp only [g,x3]; omega
 ·simp only [l,y1]; omega
 simp only [l,c]; omega
theorem bm9 (x y:Int):zc x y (g8 x y 4) 4:=by
 have h:=m6 ((ax x y).mul (d7 (12-4)).conj) (d:=2340*7^(12-4)) (by decide);have e:(d7 (12-4)).conj=⟨-1504,-1265⟩:=by decide
 have p:(2340*7^(12-4):Int)=13489634340:=by decide
 have o:d7 (12-4)=⟨-2769,1265⟩:=by decide
 unfold g8;generalize Ei.round _ _=q at *;rw [e,p] at h;have ex:cx q 4=52*(-2769*q.a-1265*q.b)+26*(-2769*q.b+1265*q.a+1265*q.b):=by simp only [cx,o,Ei.mul]
 have u:cy q 4=45*(-2769*q.b+1265*q.a+1265*q.b):=by simp only [cy,o,Ei.mul]
 have n:kx 4 0=-215982:=by decide
 have m:ky 4 0=-10755:=by decide
 have x1:kx 4 1=-98670:=by decide
 have y1:ky 4 1=-192285:=by decide
 have x2:kx 4 2=117312:=by decide
 have y2:ky 4 2=-181530:=by decide
 have x3:kx 4 3=215982:=by decide
 have y3:ky 4 3=10755:=by decide
 have j:kx 4 4=98670:=by decide
 have c:ky 4 4=192285:=by decide
 have f:kx 4 5=-117312:=by decide
 have k:ky 4 5=181530:=by decide
 unfold i8 at h;simp only [Ei.mul,ax] at h;have g:∀i,hx q 4 i=3*cx q 4+kx 4 i:=λ i=>bq q 4 i;have l:∀i,hy q 4 i=3*cy q 4+ky 4 i:=λ i=>bp q 4 i;have s:=h.1;have t:=h.2.1;have r:=h.2.2;refine ⟨by omega,λ i hi=>?_,⟨0,by decide,?_⟩,⟨3,by decide,?_⟩,⟨1,by decide,?_⟩,⟨4,by decide,?_⟩⟩
 ·rcases lt6 hi with rfl | rfl | rfl | rfl | rfl | rfl<;>simp only [crs,g,l,n,x1,x2,x3,j,f,m,y1,y2,y3,c,k]<;>omega
 ·simp only [g,n]; omega
 ·simp only [g,x3]; omega
 ·simp only [l,y1]; omega
 simp only [l,c]; omega
theorem bm8 (x y:Int):zc x y (g8 x y 5) 5:=by
 have h:=m6 ((ax x y).mul (d7 (12-5)).conj) (d:=2340*7^(12-5)) (by decide);have e:(d7 (12-5)).conj=⟨-249,-757⟩:=by decide
 have p:(2340*7^(12-5):Int)=1927090620:=by decide
 have o:d7 (12-5)=⟨-1006,757⟩:=by decide
 unfold g8;generalize Ei.round _ _=q at *;rw [e,p] at h;have ex:cx q 5=52*(-1006*q.a-757*q.b)+26*(-1006*q.b+757*q.a+757*q.b):=by simp only [cx,o,Ei.mul]
 have u:cy q 5=45*(-1006*q.b+757*q.a+757*q.b):=by simp only [cy,o,Ei.mul]
 have n:kx 5 0=-78468:=by decide
 have m:ky 5 0=22860:=by decide
 have x1:kx 5 1=-59046:=by decide
 have y1:ky 5 1=-56475:=by decide
 have x2:kx 5 2=19422:=by decide
 have y2:ky 5 2=-79335:=by decide
 have x3:kx 5 3=78468:=by decide
 have y3:ky 5 3=-22860:=by decide
 have j:kx 5 4=59046:=by decide
 have c:ky 5 4=56475:=by decide
 have f:kx 5 5=-19422:=by decide
 have k:ky 5 5=79335:=by decide
 unfold i8 at h;simp only [Ei.mul,ax] at h;have g:∀i,hx q 5 i=3*cx q 5+kx 5 i:=λ i=>bq q 5 i;have l:∀i,hy q 5 i=3*cy q 5+ky 5 i:=λ i=>bp q 5 i;have s:=h.1;have t:=h.2.1;have r:=h.2.2;refine ⟨by omega,λ i hi=>?_,⟨0,by decide,?_⟩,⟨3,by decide,?_⟩,⟨2,by decide,?_⟩,⟨5,by decide,?_⟩⟩
 ·rcases lt6 hi with rfl | rfl | rfl | rfl | rfl | rfl<;>simp only [crs,g,l,n,x1,x2,x3,j,f,m,y1,y2,y3,c,k]<;>omega
 ·simp only [g,n]; omega
 ·simp only [g,x3]; omega
 ·simp only [l,y2]; omega
 simp only [l,k]; omega
theorem bm7 (x y:Int):zc x y (g8 x y 6) 6:=by
 have h:=m6 ((ax x y).mul (d7 (12-6)).conj) (d:=2340*7^(12-6)) (by decide);have e:(d7 (12-6)).conj=⟨37,-360⟩:=by decide
 have p:(2340*7^(12-6):Int)=275298660:=by decide
 have o:d7 (12-6)=⟨-323,360⟩:=by decide
 unfold g8;generalize Ei.round _ _=q at *;rw [e,p] at h;have ex:cx q 6=52*(-323*q.a-360*q.b)+26*(-323*q.b+360*q.a+360*q.b):=by simp only [cx,o,Ei.mul]
 have u:cy q 6=45*(-323*q.b+360*q.a+360*q.b):=by simp only [cy,o,Ei.mul]
 have n:kx 6 0=-25194:=by decide
 have m:ky 6 0=17865:=by decide
 have x1:kx 6 1=-28080:=by decide
 have y1:ky 6 1=-12870:=by decide
 have x2:kx 6 2=-2886:=by decide
 have y2:ky 6 2=-30735:=by decide
 have x3:kx 6 3=25194:=by decide
 have y3:ky 6 3=-17865:=by decide
 have j:kx 6 4=28080:=by decide
 have c:ky 6 4=12870:=by decide
 have f:kx 6 5=2886:=by decide
 have k:ky 6 5=30735:=by decide
 unfold i8 at h;simp only [Ei.mul,ax] at h;have g:∀i,hx q 6 i=3*cx q 6+kx 6 i:=λ i=>bq q 6 i;have l:∀i,hy q 6 i=3*cy q 6+ky 6 i:=λ i=>bp q 6 i;have s:=h.1;have t:=h.2.1;have r:=h.2.2;refine ⟨by omega,λ i hi=>?_,⟨1,by decide,?_⟩,⟨4,by decide,?_⟩,⟨2,by decide,?_⟩,⟨5,by decide,?_⟩⟩
 ·rcases lt6 hi with rfl | rfl | rfl | rfl | rfl | rfl<;>simp only [crs,g,l,n,x1,x2,x3,j,f,m,y1,y2,y3,c,k]<;>omega
 ·simp only [g,x1]; omega
 ·simp only [g,j]; omega
 ·simp only [l,y2]; omega
 simp only [l,k]; omega
theorem bm6 (x y:Int):zc x y (g8 x y 7) 7:=by
 have h:=m6 ((ax x y).mul (d7 (12-7)).conj) (d:=2340*7^(12-7)) (by decide);have e:(d7 (12-7)).conj=⟨62,-149⟩:=by decide
 have p:(2340*7^(12-7):Int)=39328380:=by decide
 have o:d7 (12-7)=⟨-87,149⟩:=by decide
 unfold g8;generalize Ei.round _ _=q at *;rw [e,p] at h;have ex:cx q 7=52*(-87*q.a-149*q.b)+26*(-87*q.b+149*q.a+149*q.b):=by simp only [cx,o,Ei.mul]
 have u:cy q 7=45*(-87*q.b+149*q.a+149*q.b):=by simp only [cy,o,Ei.mul]
 have n:kx 7 0=-6786:=by decide
 have m:ky 7 0=9495:=by decide
 have x1:kx 7 1=-11622:=by decide
 have y1:ky 7 1=-1125:=by decide
 have x2:kx 7 2=-4836:=by decide
 have y2:ky 7 2=-10620:=by decide
 have x3:kx 7 3=6786:=by decide
 have y3:ky 7 3=-9495:=by decide
 have j:kx 7 4=11622:=by decide
 have c:ky 7 4=1125:=by decide
 have f:kx 7 5=4836:=by decide
 have k:ky 7 5=10620:=by decide
 unfold i8 at h;simp only [Ei.mul,ax] at h;have g:∀i,hx q 7 i=3*cx q 7+kx 7 i:=λ i=>bq q 7 i;have l:∀i,hy q 7 i=3*cy q 7+ky 7 i:=λ i=>bp q 7 i;have s:=h.1;have t:=h.2.1;have r:=h.2.2;refine ⟨by omega,λ i hi=>?_,⟨1,by decide,?_⟩,⟨4,by decide,?_⟩,⟨2,by decide,?_⟩,⟨5,by decide,?_⟩⟩
 ·rcases lt6 hi with rfl | rfl | rfl | rfl | rfl | rfl<;>simp only [crs,g,l,n,x1,x2,x3,j,f,m,y1,y2,y3,c,k]<;>omega
 ·simp only [g,x1]; omega
 ·simp only [g,j]; omega
 ·simp only [l,y2]; omega
 simp only [l,k]; omega
theorem bm5 (x y:Int):zc x y (g8 x y 8) 8:=by
 have h:=m6 ((ax x y).mul (d7 (12-8)).conj) (d:=2340*7^(12-8)) (by decide);have e:(d7 (12-8)).conj=⟨39,-55⟩:=by decide
 have p:(2340*7^(12-8):Int)=5618340:=by decide
 have o:d7 (12-8)=⟨-16,55⟩:=by decide
 unfold g8;generalize Ei.round _ _=q at *;rw [e,p] at h;have ex:cx q 8=52*(-16*q.a-55*q.b)+26*(-16*q.b+55*q.a+55*q.b):=by simp only [cx,o,Ei.mul]
 have u:cy q 8=45*(-16*q.b+55*q.a+55*q.b):=by simp only [cy,o,Ei.mul]
 have n:kx 8 0=-1248:=by decide
 have m:ky 8 0=4230:=by decide
 have x1:kx 8 1=-4290:=by decide
 have y1:ky 8 1=1035:=by decide
 have x2:kx 8 2=-3042:=by decide
 have y2:ky 8 2=-3195:=by decide
 have x3:kx 8 3=1248:=by decide
 have y3:ky 8 3=-4230:=by decide
 have j:kx 8 4=4290:=by decide
 have c:ky 8 4=-1035:=by decide
 have f:kx 8 5=3042:=by decide
 have k:ky 8 5=3195:=by decide
 unfold i8 at h;simp only [Ei.mul,ax] at h;have g:∀i,hx q 8 i=3*cx q 8+kx 8 i:=λ i=>bq q 8 i;have l:∀i,hy q 8 i=3*cy q 8+ky 8 i:=λ i=>bp q 8 i;have s:=h.1;have t:=h.2.1;have r:=h.2.2;refine ⟨by omega,λ i hi=>?_,⟨1,by decide,?_⟩,⟨4,by decide,?_⟩,⟨3,by decide,?_⟩,⟨0,by decide,?_⟩⟩
 ·rcases lt6 hi with rfl | rfl | rfl | rfl | rfl | rfl<;>simp only [crs,g,l,n,x1,x2,x3,j,f,m,y1,y2,y3,c,k]<;>omega
 ·simp only [g,x1]; omega
 ·simp only [g,j]; omega
 ·simp only [l,y3]; omega
 simp only [l,m]; omega
theorem bm4 (x y:Int):zc x y (g8 x y 9) 9:=by
 have h:=m6 ((ax x y).mul (d7 (12-9)).conj) (d:=2340*7^(12-9)) (by decide);have e:(d7 (12-9)).conj=⟨19,-18⟩:=by decide
 have p:(2340*7^(12-9):Int)=802620:=by decide
 have o:d7 (12-9)=⟨1,18⟩:=by decide
 unfold g8;generalize Ei.round _ _=q at *;rw [e,p] at h;have ex:cx q 9=52*(1*q.a-18*q.b)+26*(1*q.b+18*q.a+18*q.b):=by simp only [cx,o,Ei.mul]
 have u:cy q 9=45*(1*q.b+18*q.a+18*q.b):=by simp only [cy,o,Ei.mul]
 have n:kx 9 0=78:=by decide
 have m:ky 9 0=1665:=by decide
 have x1:kx 9 1=-1404:=by decide
 have y1:ky 9 1=900:=by decide
 have x2:kx 9 2=-1482:=by decide
 have y2:ky 9 2=-765:=by decide
 have x3:kx 9 3=-78:=by decide
 have y3:ky 9 3=-1665:=by decide
 have j:kx 9 4=1404:=by decide
 have c:ky 9 4=-900:=by decide
 have f:kx 9 5=1482:=by decide
 have k:ky 9 5=765:=by decide
 unfold i8 at h;simp only [Ei.mul,ax] at h;have g:∀i,hx q 9 i=3*cx q 9+kx 9 i:=λ i=>bq q 9 i;have l:∀i,hy q 9 i=3*cy q 9+ky 9 i:=λ i=>bp q 9 i;have s:=h.1;have t:=h.2.1;have r:=h.2.2;refine ⟨by omega,λ i hi=>?_,⟨2,by decide,?_⟩,⟨5,by decide,?_⟩,⟨3,by decide,?_⟩,⟨0,by decide,?_⟩⟩
 ·rcases lt6 hi with rfl | rfl | rfl | rfl | rfl | rfl<;>simp only [crs,g,l,n,x1,x2,x3,j,f,m,y1,y2,y3,c,k]<;>omega
 ·simp only [g,x2]; omega
 ·simp only [g,f]; omega
 ·simp only [l,y3]; omega
 simp only [l,m]; omega
theorem bkl (x y:Int):zc x y (g8 x y 10) 10:=by
 have h:=m6 ((ax x y).mul (d7 (12-10)).conj) (d:=2340*7^(12-10)) (by decide);have e:(d7 (12-10)).conj=⟨8,-5⟩:=by decide
 have p:(2340*7^(12-10):Int)=114660:=by decide
 have o:d7 (12-10)=⟨3,5⟩:=by decide
 unfold g8;generalize Ei.round _ _=q at *;rw [e,p] at h;have ex:cx q 10=52*(3*q.a-5*q.b)+26*(3*q.b+5*q.a+5*q.b):=by simp only [cx,o,Ei.mul]
 have u:cy q 10=45*(3*q.b+5*q.a+5*q.b):=by simp only [cy,o,Ei.mul]
 have n:kx 10 0=234:=by decide
 have m:ky 10 0=585:=by decide
 have x1:kx 10 1=-390:=by decide
 have y1:ky 10 1=495:=by decide
 have x2:kx 10 2=-624:=by decide
 have y2:ky 10 2=-90:=by decide
 have x3:kx 10 3=-234:=by decide
 have y3:ky 10 3=-585:=by decide
 have j:kx 10 4=390:=by decide
 have c:ky 10 4=-495:=by decide
 have f:kx 10 5=624:=by decide
 have k:ky 10 5=90:=by decide
 unfold i8 at h;simp only [Ei.mul,ax] at h;have g:∀i,hx q 10 i=3*cx q 10+kx 10 i:=λ i=>bq q 10 i;have l:∀i,hy q 10 i=3*cy q 10+ky 10 i:=λ i=>bp q 10 i;have s:=h.1;have t:=h.2.1;have r:=h.2.2;refine ⟨by omega,λ i hi=>?_,⟨2,by decide,?_⟩,⟨5,by decide,?_⟩,⟨3,by decide,?_⟩,⟨0,by decide,?_⟩⟩
 ·rcases lt6 hi with rfl | rfl | rfl | rfl | rfl | rfl<;>simp only [crs,g,l,n,x1,x2,x3,j,f,m,y1,y2,y3,c,k]<;>omega
 ·simp only [g,x2]; omega
 ·simp only [g,f]; omega
 ·simp only [l,y3]; omega
 simp only [l,m]; omega
theorem bkk (x y:Int):zc x y (g8 x y 11) 11:=by
 have h:=m6 ((ax x y).mul (d7 (12-11)).conj) (d:=2340*7^(12-11)) (by decide);have e:(d7 (12-11)).conj=⟨3,-1⟩:=by decide
 have p:(2340*7^(12-11):Int)=16380:=by decide
 have o:d7 (12-11)=⟨2,1⟩:=by decide
 unfold g8;generalize Ei.round _ _=q at *;rw [e,p] at h;have ex:cx q 11=52*(2*q.a-1*q.b)+26*(2*q.b+1*q.a+1*q.b):=by simp only [cx,o,Ei.mul]
 have u:cy q 11=45*(2*q.b+1*q.a+1*q.b):=by simp only [cy,o,Ei.mul]
 have n:kx 11 0=156:=by decide
 have m:ky 11 0=180:=by decide
 have x1:kx 11 1=-78:=by decide
 have y1:ky 11 1=225:=by decide
 have x2:kx 11 2=-234:=by decide
 have y2:ky 11 2=45:=by decide
 have x3:kx 11 3=-156:=by decide
 have y3:ky 11 3=-180:=by decide
 have j:kx 11 4=78:=by decide
 have c:ky 11 4=-225:=by decide
 have f:kx 11 5=234:=by decide
 have k:ky 11 5=-45:=by decide
 unfold i8 at h;simp only [Ei.mul,ax] at h;have g:∀i,hx q 11 i=3*cx q 11+kx 11 i:=λ i=>bq q 11 i;have l:∀i,hy q 11 i=3*cy q 11+ky 11 i:=λ i=>bp q 11 i;have s:=h.1;have t:=h.2.1;have r:=h.2.2;refine ⟨by omega,λ i hi=>?_,⟨2,by decide,?_⟩,⟨5,by decide,?_⟩,⟨4,by decide,?_⟩,⟨1,by decide,?_⟩⟩
 ·rcases lt6 hi with rfl | rfl | rfl | rfl | rfl | rfl<;>simp only [crs,g,l,n,x1,x2,x3,j,f,m,y1,y2,y3,c,k]<;>omega
 ·simp only [g,x2]; omega
 ·simp only [g,f]; omega
 ·simp only [l,c]; omega
 simp only [l,y1]; omega
theorem bkj (x y:Int):zc x y (g8 x y 12) 12:=by
 have h:=m6 ((ax x y).mul (d7 (12-12)).conj) (d:=2340*7^(12-12)) (by decide);have e:(d7 (12-12)).conj=⟨1,0⟩:=by decide
 have p:(2340*7^(12-12):Int)=2340:=by decide
 have o:d7 (12-12)=⟨1,0⟩:=by decide
 unfold g8;generalize Ei.round _ _=q at *;rw [e,p] at h;have ex:cx q 12=52*(1*q.a-0*q.b)+26*(1*q.b+0*q.a+0*q.b):=by simp only [cx,o,Ei.mul]
 have u:cy q 12=45*(1*q.b+0*q.a+0*q.b):=by simp only [cy,o,Ei.mul]
 have n:kx 12 0=78:=by decide
 have m:ky 12 0=45:=by decide
 have x1:kx 12 1=0:=by decide
 have y1:ky 12 1=90:=by decide
 have x2:kx 12 2=-78:=by decide
 have y2:ky 12 2=45:=by decide
 have x3:kx 12 3=-78:=by decide
 have y3:ky 12 3=-45:=by decide
 have j:kx 12 4=0:=by decide
 have c:ky 12 4=-90:=by decide
 have f:kx 12 5=78:=by decide
 have k:ky 12 5=-45:=by decide
 unfold i8 at h;simp only [Ei.mul,ax] at h;have g:∀i,hx q 12 i=3*cx q 12+kx 12 i:=λ i=>bq q 12 i;have l:∀i,hy q 12 i=3*cy q 12+ky 12 i:=λ i=>bp q 12 i;have s:=h.1;have t:=h.2.1;have r:=h.2.2;refine ⟨by omega,λ i hi=>?_,⟨2,by decide,?_⟩,⟨0,by decide,?_⟩,⟨4,by decide,?_⟩,⟨1,by decide,?_⟩⟩
 ·rcases lt6 hi with rfl | rfl | rfl | rfl | rfl | rfl<;>simp only [crs,g,l,n,x1,x2,x3,j,f,m,y1,y2,y3,c,k]<;>omega
 ·simp only [g,x2]; omega
 ·simp only [g,n]; omega
 ·simp only [l,c]; omega
 simp only [l,y1]; omega
theorem aq7 (x y:Int) (r:Nat) (a:r<=12):zc x y (g8 x y r) r:=by
 match r,a with
 | 0,_=>exact bnf x y
 | 1,_=>exact bnc x y
 | 2,_=>exact bnb x y
 | 3,_=>exact bna x y
 | 4,_=>exact bm9 x y
 | 5,_=>exact bm8 x y
 | 6,_=>exact bm7 x y
 | 7,_=>exact bm6 x y
 | 8,_=>exact bm5 x y
 | 9,_=>exact bm4 x y
 | 10,_=>exact bkl x y
 | 11,_=>exact bkk x y
 | 12,_=>exact bkj x y
 | r+13,h=>omega

variable {r:Nat}
theorem lb (a:r<=12):(d7 (12-r)).In 120000:=pi _ (by omega)
theorem aqs {c:Int} (h:z.In n) (g:0<=c/\c<=3) (f:0<=n):(⟨c*z.a,c*z.b⟩:Ei).In (3*n):=by
 have e:=gm (show -3<=c/\c<=3 by omega) h.1;have d:=gm (show -3<=c/\c<=3 by omega) h.2;exact ⟨e,d⟩
def me (z:Ei) (r:Nat) (b:Int):Ei:=(d7 (12-r)).mul ⟨b*z.a,b*z.b⟩
theorem av3 (h:z.In 1073741824) (c:r<=12) (a:0<=b/\b<=3):(me z r b).In 1159641169920000:=(vp (lb c) (aqs h a (by decide))).mono (by decide)
theorem bgj (z:Ei) (r b:Int) (h:z.In 1073741824) (i:0<=r/\r<=12) (f:0<=b/\b<=3):a8 P0 124 [z.v,int .i64 r,int .i64 b] [] (.tup [(me z r.toNat b).v,bl true]) []:=by
 refine akc.t func124 ?_;have d:=h;unfold Ei.In at d;have g:c7 z.a/\c7 z.b:=by unfold c7; omega
 push_cast [akc,Ei.v,Ei.rv,zaa]
 refine a6 (aus r) rfl trivial ?_;rw [decide_eq_true i]
 push_cast
 refine a6 (adv _ _ g.1 (by decide)) rfl trivial ?_;rw [show decide (-1073741824<=z.a/\z.a<=1073741824)=true from decide_eq_true d.1]
 push_cast
 refine a6 (adv _ _ g.2 (by decide)) rfl trivial ?_;rw [show decide (-1073741824<=z.b/\z.b<=1073741824)=true from decide_eq_true d.2]
 push_cast
 rw [show IntKind.i64.wrap (12-r)=12-r from a5 (by omega)];refine a6 (au2 (12-r) (by omega)) rfl trivial ?_
 push_cast [Ei.v,Ei.rv]
 have c:=aqs h f (by decide);unfold Ei.In at c;rw [show IntKind.i64.wrap (b*z.a)=b*z.a from a5 (by have:=c.1; dsimp only at this; omega),show IntKind.i64.wrap (b*z.b)=b*z.b from a5 (by have:=c.2; dsimp only at this; omega)];refine b5 (as':=[(d7 (12-r).toNat).v,Ei.v ⟨b*z.a,b*z.b⟩]) rfl ?_;have e:(12-r).toNat=12-r.toNat:=by omega
 refine a6 (aih _ _ ((pi _ (by omega)).mono (by decide)) ((aqs h f (by decide)).mono (by decide)) ?_) rfl trivial ?_
 ·rw [e]; exact (av3 h (by omega) f).mono (by decide)
 push_cast [me,<- e,Ei.v,Ei.rv]
def pnt (x y:Int):RV:=.agg [.v (.int .i64 x),.v (.int .i64 y)]
theorem bi8 (w:Ei) (h:w.In 10000000000000000):a8 P0 179 [w.v] [] (.r (pnt (52*w.a+26*w.b) (45*w.b))) []:=by
 refine amc.t func179 ?_;unfold Ei.In at h
 push_cast [amc,Ei.v,Ei.rv,zaa]
 rw [show IntKind.i64.wrap (52*w.a)=52*w.a from a5 (by omega),show IntKind.i64.wrap (26*w.b)=26*w.b from a5 (by omega),show IntKind.i64.wrap (52*w.a+26*w.b)=52*w.a+26*w.b from a5 (by omega),show IntKind.i64.wrap (45*w.b)=45*w.b from a5 (by omega)]
 rfl
theorem bl3 {x y:Ei} (hx:x.In n) (hy:y.In m):(x.add y).In (n+m):=by
 unfold Ei.In Ei.add at *;dsimp only;omega
theorem zm (i:Nat):(vv i).In 2:=by
 unfold vv;split<;>unfold Ei.In<;>decide
def cen (m b:Ei):AV:=.r (.agg [.v (.int .i64 m.a),.v (.int .i64 m.b),.v (.int .i64 b.a),.v (.int .i64 b.b)])
theorem azt (m b k:Ei) (e:m.In 1159641169920000) (f:b.In 120000) (g:k.In 2):a8 P0 126 [cen m b,k.v] [] (.r (pnt (52*(m.add (b.mul k)).a+26*(m.add (b.mul k)).b) (45*(m.add (b.mul k)).b))) []:=by
 refine ze.t func126 ?_;have c:(b.mul k).In 720000:=(vp f g).mono (by decide)
 push_cast [ze,cen,Ei.v,Ei.rv,zaa]
 refine b5 (as':=[b.v,k.v]) rfl ?_;refine a6 (aih _ _ (f.mono (by decide)) (g.mono (by decide)) (c.mono (by decide))) rfl trivial ?_
 push_cast [Ei.v,Ei.rv]
 refine b5 (as':=[m.v,(b.mul k).v]) rfl ?_;have d:=bl3 e c;refine a6 (a82 _ _ (e.mono (by decide)) (c.mono (by decide)) (d.mono (by decide))) rfl trivial ?_
 push_cast [Ei.v,Ei.rv]
 refine b5 (as':=[(m.add (b.mul k)).v]) rfl ?_;refine a6 (bi8 _ (d.mono (by decide))) rfl trivial ?_
 push_cast [pnt]
def a4m (z:Ei) (r i:Nat):RV:=pnt (hx z r i) (hy z r i)
def nc (z:Ei) (r:Nat) (n:Nat):List RV:=(List.range n).map (a4m z r)
theorem awf (z:Ei) (r n:Nat):nc z r n++[a4m z r n]=nc z r (n+1):=by simp [nc,List.range_succ]
theorem arf (z:Ei) (r n:Nat):(nc z r n).length=n:=by simp [nc]
theorem a2k (z:Ei) (r i:Nat):RV.agg [.v (.int .i64 (52*((me z r 3).add ((d7 (12-r)).mul (vv i))).a+26*((me z r 3).add ((d7 (12-r)).mul (vv i))).b)),.v (.int .i64 (45*((me z r 3).add ((d7 (12-r)).mul (vv i))).b))]=a4m z r i:=by
 have h:(me z r 3).add ((d7 (12-r)).mul (vv i))=hc z r i:=by
  apply Ei.ext'<;>simp only [me,Ei.add,Ei.mul,hc,zcj]<;>omega
 rw [h]; rfl
def vvL:List RV:=[(vv 0).rv,(vv 1).rv,(vv 2).rv,(vv 3).rv,(vv 4).rv,(vv 5).rv]
theorem a5p (i:Nat) (h:i<6) (d:RV):vvL.getD i d=.agg [.v (.int .i64 (vv i).a),.v (.int .i64 (vv i).b)]:=by
 rcases lt6 h with rfl | rfl | rfl | rfl | rfl | rfl<;>rfl
theorem bea (z:Ei) (r:Int) (h:z.In 1073741824) (m:0<=r/\r<=12):a8 P0 73 [z.v,int .i64 r] [] (.tup [.own 1000000 0 0 6,bl true]) [.row 2 (pnt 0 0) true true (nc z r.toNat 6)]:=by
 refine ana.t func73 ?_;simp only [ana,Ei.v,Ei.rv,push_cast,↓reduceIte,reduceCtorEq,zE,zA,zD];refine b5 (as':=[z.v,int .i64 r,int .i64 3]) rfl ?_;refine a6 (bgj z r 3 h m (by decide)) rfl trivial ?_;simp only [Ei.v,Ei.rv,push_cast,↓reduceIte,reduceCtorEq,zE,zA,zL,zD];rw [show IntKind.i64.wrap (12-r)=12-r from a5 (by omega)];refine a6 (au2 (12-r) (by omega)) rfl trivial ?_;simp only [Ei.v,Ei.rv,push_cast,↓reduceIte,zE,zA,zL,zD];refine ⟨by simp,?_⟩;have e:(12-r).toNat=12-r.toNat:=by omega
 have g:r.toNat<=12:=by omega
 have d:=g7;generalize o:r.toNat=R at *;rw [e];have l:(me z R 3).In 1159641169920000:=av3 h g (by decide);have f:(d7 (12-R)).In 120000:=lb g
 refine b9 [(38,false),(39,false),(40,false),(10,false),(11,false)] (λ vs pos c=>∃i:Nat,i<=6/\pos=[] /\
  ((i=0/\vs=[.own 2000000 0 0 6,int .i64 6,int .i64 i,.fn (.func 126) [.agg [int .i64 (me z R 3).a,int .i64 (me z R 3).b,int .i64 (d7 (12-R)).a,int .i64 (d7 (12-R)).b]] 1,.nils 2 (.agg [.v (.int .i64 0),.v (.int .i64 0)])]/\c=[.row 2 (.agg [.v (.int .i64 0),.v (.int .i64 0)]) true true vvL]) \/
   (0<i/\vs=[.own 2000000 0 0 6,int .i64 6,int .i64 i,.fn (.func 126) [.agg [int .i64 (me z R 3).a,int .i64 (me z R 3).b,int .i64 (d7 (12-R)).a,int .i64 (d7 (12-R)).b]] 1,.own 2000001 0 0 i]/\c=[.row 2 (.agg [.v (.int .i64 0),.v (.int .i64 0)]) true true vvL,.row 2 (pnt 0 0) true true (nc z R i)])))
  (λ vs _ _=>match vs with | _::_ :: .r (.v (.int _ j))::_=>(6-j).toNat | _=>0) rfl ?_ ?_
 ·simp only [push_cast,↓reduceIte,zE,zA,zL,zD];exact ⟨0,by omega,.inl ⟨rfl,rfl,rfl⟩⟩
 rintro vs pos c ⟨i,n,rfl,⟨k,rfl,rfl⟩ | ⟨k,rfl,rfl⟩⟩
 ·subst k;simp only [push_cast,↓reduceIte,zE];rw [show decide ((0:Int)<6)=true from rfl];simp only [push_cast,↓reduceIte,zE,zA,zD];refine ⟨by simp,?_⟩;rw [show (0:Int).toNat=0 from rfl,show 0+0=0 from rfl,a5p 0 (by decide)];simp only [push_cast,zA,zD];refine ⟨by kernel_rfl,?_⟩;refine b5 (as':=[cen (me z R 3) (d7 (12-R)),(vv 0).v]) rfl ?_;refine a6 (azt _ _ _ l f (zm 0)) rfl trivial ?_;simp only [pnt,push_cast,↓reduceIte,zB,zE,zA,zL,zD,zM];refine ⟨by decide,by omega,?_,?_⟩
  ·refine ⟨1,by omega,.inr ⟨by omega,?_,?_⟩⟩
   ·rw [show IntKind.i64.wrap (0+1)=((1:Nat):Int) by decide]
   rw [a2k]; rfl
  decide
 simp only [push_cast,↓reduceIte,zE,zA];refine b7 (λ h=>?_) (λ h=>?_)
 ·have hi:i<6:=by simp at h; omega
  simp only [push_cast,↓reduceIte,zE,zA,zD];refine ⟨by simp; omega,?_⟩;rw [Int.toNat_natCast,zcu,a5p i hi];simp only [push_cast,zA,zD];refine ⟨by kernel_rfl,?_⟩;refine b5 (as':=[cen (me z R 3) (d7 (12-R)),(vv i).v]) rfl ?_;refine a6 (azt _ _ _ l f (zm i)) rfl trivial ?_;simp only [pnt,push_cast,↓reduceIte,zB,zE,zA,zL,zD];rw [a2k,show IntKind.i64.wrap ((i:Int)+1)=((i+1:Nat):Int) by rw [a5 (by omega)]; omega,zdb (by rw [arf]; exact Nat.le_refl _),awf];refine ⟨by decide,by omega,?_,?_⟩
  ·exact ⟨i+1,by omega,.inr ⟨by omega,rfl,rfl⟩⟩
  omega
 have hi:i=6:=by simp at h; omega
 subst hi;simp only [push_cast,↓reduceIte,zE,zA,zL,zD]

def amm:Mk P0 f199:={ x:=_ }
def amn:Mk P0 f198:={ x:=_ }
def amo:Mk P0 f200:={ x:=_ }
def amp:Mk P0 f201:={ x:=_ }
def aqg:Mk P0 f162:={ x:=_ }
def atu:Mk P0 f166:={ x:=_ }
def atv:Mk P0 f114:={ x:=_ }
theorem a30 (h:z.In n) (c:2<=n):(pr z).In n:=by
 obtain ⟨l,_,a,d,b⟩:=ahw z;generalize pr z=q at *;unfold Ei.H at a;unfold Ei.In at *;omega
theorem at4 (k:Nat) (h:z.In n) (a:2<=n):(anc k z).In n:=by
 induction k generalizing z with
 | zero=>exact h
 | succ k ih=>exact ih (a30 h a)
theorem a79 (z:Ei):(lft z).In 1:=by
 obtain ⟨l,e,a,_⟩:=ahw z;rw [e];exact a.in
theorem bfd (z:Ei) (h:z.In 1073741824):a8 P0 199 [z.v] [] (.tup [(pr z).v,(lft z).v]) []:=by
 refine amm.t func199 ?_
 push_cast [amm,Ei.v,Ei.rv,zaa]
 refine b5 (as':=[aw.v]) rfl ?_;refine a6 (a2v aw (by unfold Ei.In; decide)) rfl trivial ?_
 push_cast [Ei.v,Ei.rv]
 have c:(z.mul ⟨3,-1⟩).In 9663676416:=(vp h (show (⟨3,-1⟩:Ei).In 3 by unfold Ei.In; decide)).mono (by decide);refine b5 (as':=[z.v,Ei.v ⟨3,-1⟩]) rfl ?_;refine a6 (aih _ _ (h.mono (by decide)) (show (⟨3,-1⟩:Ei).In _ by unfold Ei.In; decide) (c.mono (by decide))) rfl trivial ?_
 push_cast [Ei.v,Ei.rv]
 refine b5 (as':=[(z.mul ⟨3,-1⟩).v,int .i64 7]) rfl ?_;refine a6 (azo _ 7 (c.mono (by decide)) (by decide)) rfl trivial ?_;rw [show (z.mul ⟨3,-1⟩).round 7=pr z from rfl];have a:(pr z).In 1073741824:=a30 h (by decide);have b:((pr z).mul aw).In 6442450944:=(vp a (show aw.In 2 by unfold Ei.In; decide)).mono (by decide)
 push_cast [Ei.v,Ei.rv]
 refine b5 (as':=[(pr z).v,aw.v]) rfl ?_;refine a6 (aih _ _ (a.mono (by decide)) (show aw.In _ by unfold Ei.In; decide) (b.mono (by decide))) rfl trivial ?_
 push_cast [Ei.v,Ei.rv]
 refine b5 (as':=[z.v,((pr z).mul aw).v]) rfl ?_;refine a6 (bk8 _ _ (h.mono (by decide)) (b.mono (by decide)) ((a79 z).mono (by decide))) rfl trivial ?_;rw [show z.sub ((pr z).mul aw)=lft z from rfl]
 push_cast [Ei.v,Ei.rv]
 kernel_rfl
def cel (r:Int) (z:Ei):AV:=.r (.agg [.v (.int .i64 r),.v (.int .i64 z.a),.v (.int .i64 z.b)])
instance (z:Ei) (n:Int):Decidable (z.In n):=inferInstanceAs (Decidable (_/\_))
def tq (r:Int) (z:Ei):Bool:=decide ((0<=r/\r<=12)/\z.In 1073741824)
theorem bfh (r:Int) (z:Ei) (f:z.In M63):a8 P0 198 [cel r z] [] (bl (tq r z)) []:=by
 refine amn.t func198 ?_
 push_cast [amn,cel,zaa]
 by_cases h:0<=r
 ·by_cases g:r<=12
  ·have b:decide (r>=0)=true:=by simp; omega
   have e:decide (r<=12)=true:=by simp; omega
   push_cast [b,e]
   refine a6 (adv _ _ f.ok.1 (by decide)) rfl trivial ?_;by_cases d:-1073741824<=z.a/\z.a<=1073741824
   ·rw [decide_eq_true d]
    push_cast
    refine a6 (adv _ _ f.ok.2 (by decide)) rfl trivial ?_
    push_cast
    refine ic ?_;simp [tq,Ei.In,h,g,d.1,d.2]
   rw [decide_eq_false d]
   push_cast
   have:tq r z=false:=by simp only [tq,Ei.In]; exact decide_eq_false λ c=>d c.2.1
   rw [this]
  have b:decide (r>=0)=true:=by simp; omega
  have e:decide (r<=12)=false:=by simp; omega
  push_cast [b,e]
  have:tq r z=false:=by simp only [tq,decide_eq_false_iff_not]; omega
  rw [this]
 have b:decide (r>=0)=false:=by simp; omega
 push_cast [b]
 have:tq r z=false:=by simp only [tq,decide_eq_false_iff_not]; omega
 rw [this]
theorem azs (i:Nat) (h:i<6):al0 (uni i)=i+1:=by
 rcases lt6 h with rfl | rfl | rfl | rfl | rfl | rfl<;>decide
theorem a2w (l:Ei) (h:∀j:Nat,j<6->uni j≠l):al0 l=0:=by
 have e:=h 0 (by decide); have c:=h 1 (by decide); have a:=h 2 (by decide); have b:=h 3 (by decide); have d:=h 4 (by decide); have f:=h 5 (by decide);unfold al0;rw [if_neg (show ¬l=⟨1,0⟩ from Ne.symm e),if_neg (show ¬l=⟨0,1⟩ from Ne.symm c),if_neg (show ¬l=⟨-1,1⟩ from Ne.symm a),if_neg (show ¬l=⟨-1,0⟩ from Ne.symm b),if_neg (show ¬l=⟨0,-1⟩ from Ne.symm d),if_neg (show ¬l=⟨1,-1⟩ from Ne.symm f)]
theorem bhj (l:Ei):a8 P0 200 [l.v] [] (int .i64 (al0 l)) []:=by
 refine amo.t func200 ?_
 push_cast [amo,Ei.v,Ei.rv,zaa]
 refine b9 [(4,false),(1,false)] (λ vs pos d=>∃i:Int,(0<=i/\i<=6)/\(∀j:Nat,(j:Int)<i->uni j≠l)/\vs=[int .i64 i,.ptr 2000000 0 0]/\pos=[]/\d=[.box [int .i64 l.a,int .i64 l.b]])
  (λ vs _ _=>match vs with | .r (.v (.int _ j))::_=>(6-j).toNat | _=>0) rfl ?_ ?_
 ·push_cast
  exact ⟨0,by omega,λ j f=>by omega,rfl⟩
 rintro vs pos d ⟨i,k,f,rfl,rfl,rfl⟩
 push_cast
 refine b7 (λ h=>?_) (λ h=>?_)
 ·simp only [decide_eq_true_eq] at h
  push_cast
  refine d5 (a2s i ⟨k.1,h⟩) rfl trivial ?_
  push_cast [Ei.v,Ei.rv]
  refine ⟨by kernel_rfl,b7 (λ c=>?_) (λ c=>?_)⟩
  ·have e:uni i.toNat=l:=by
    simp only [Bool.and_eq_true,beq_iff_eq] at c;exact Ei.ext' c.1 c.2
   push_cast
   rw [<- e,azs _ (by omega),a5 (by omega),show ((i.toNat+1:Nat):Int)=i+1 by omega]
  have e:uni i.toNat≠l:=λ e=>by rw [e] at c; simp at c
  push_cast
  rw [a5 (by omega)];refine ⟨⟨i+1,by omega,λ j g=>?_,rfl⟩,by omega⟩;by_cases m:(j:Int)=i
  ·rw [show j=i.toNat by omega]; exact e
  exact f j (by omega)
 have hi:i=6:=by simp at h; omega
 subst hi
 push_cast
 rw [a2w l λ j n=>f j (by omega)]
 rfl
theorem bkv (n:Int):a8 P0 201 [int .i64 n] [] (bl (decide (-512<=n/\n<=511))) []:=by
 refine amp.t func201 ?_
 push_cast [amp,zaa]
 refine ic ?_;by_cases a:-512<=n<;>by_cases b:n<512<;>simp [a,b]<;>omega
def fu (r:Nat) (z:Ei) (i:Nat):List AV:=(List.range 13).map λ j=>int .i64 (if i<j/\j<=r then (dg (anc (r-j) z):Int) else 0)
theorem aak (r:Nat) (z:Ei) (i:Nat):(fu r z i).length=13:=by simp [fu]
theorem a87 (r:Nat) (z:Ei):fu r z r=[int .i64 0,int .i64 0,int .i64 0,int .i64 0,int .i64 0,int .i64 0,int .i64 0,int .i64 0,int .i64 0,int .i64 0,int .i64 0,int .i64 0,int .i64 0]:=by
 have:∀j,¬(r<j/\j<=r):=λ j=>by omega
 simp only [fu,this,if_false]
 rfl
theorem a88 (r:Nat) (z:Ei) (i:Nat) (l:1<=i) (g:i<=r) (m:r<=12):d9 (fu r z i) i [int .i64 (dg (anc (r-i) z))]=fu r z (i-1):=by
 have b:=aak r z i;apply List.ext_getElem
 ·simp [d9,b,aak]; omega
 intro j n c;rw [aak] at c;have e:∀(k:Nat) (a:k<(fu r z i).length),(fu r z i)[k]=int .i64 (if i<k/\k<=r then (dg (anc (r-k) z):Int) else 0):=λ k a=>by simp [fu]
 have e':∀(k:Nat) (a:k<(fu r z (i-1)).length),(fu r z (i-1))[k]=int .i64 (if i-1<k/\k<=r then (dg (anc (r-k) z):Int) else 0):=λ k a=>by simp [fu]
 rw [e'];have f:min i 13=i:=by omega
 simp only [d9,List.getElem_append,zal,List.length_take,List.length_singleton,b,List.getElem_take,List.getElem_drop,e,f];by_cases d:j<i
 ·rw [dif_pos (by omega),dif_pos d,if_neg (by omega),if_neg (by omega)]
 by_cases c2:j=i
 ·subst c2;rw [dif_pos (by omega),dif_neg (by omega),if_pos (by omega)];simp
 rw [dif_neg (by omega)];rw [show i+1+(j-(i+1))=j by omega];by_cases h:j<=r
 ·rw [if_pos (by omega),if_pos (by omega)]
 rw [if_neg (by omega),if_neg (by omega)]
theorem a8m (f:Nat->Int) (l:List Nat):o6 (l.map λ j=>int .i64 (f j))=[]:=by
 induction l with
 | nil=>rfl
 | cons a l ih=>show br _++o6 _=[]; rw [ih]; rfl
theorem bb5 (F:Ren) (f:Nat->Int) (l:List Nat):imL F (l.map λ j=>int .i64 (f j))=l.map λ j=>int .i64 (f j):=by
 induction l with
 | nil=>rfl
 | cons a l ih=>show imV F _::imL F _ = _; rw [ih]; rfl
theorem ajb (r:Nat) (z:Ei) (i:Nat):o6 (fu r z i)=[]:=a8m _ _
theorem alq (F:Ren) (r:Nat) (z:Ei) (i:Nat):imL F (fu r z i)=fu r z i:=bb5 F _ _
theorem a51 (r:Nat) (z:Ei) (i:Nat):List.take 13 (fu r z i)=fu r z i:=zdb (by rw [aak]; exact Nat.le_refl _)
def ahl (r:Nat) (z:Ei) (i:Nat):List RV:=(List.range 13).map λ j=>.v (.int .i64 (if i<j/\j<=r then (dg (anc (r-j) z):Int) else 0))
theorem bau (ob:Obs) (f:Nat->Int) (l:List Nat):rvs ob (l.map λ j=>int .i64 (f j))=some (l.map λ j=>.v (.int .i64 (f j)),[]):=by
 induction l with
 | nil=>rfl
 | cons a l ih=>show rvs ob (_::_) = _; simp only [rvs,AV.rv,ih]; rfl
theorem bav (ob:Obs) (r:Nat) (z:Ei) (i:Nat):rvs ob (fu r z i)=some (ahl r z i,[]):=bau ob _ _
theorem a7p (r:Nat) (z:Ei) (i:Nat):fu r z i++List.drop 13 (fu r z i)=fu r z i:=by
 rw [List.drop_of_length_le (by rw [aak]; exact Nat.le_refl _),zaf]
attribute [push_cast high] bav a7p
attribute [push_cast high] ajb alq a51 aak
theorem bcl (r:Nat) (z:Ei) (i:Nat) (b:1<=i) (a:i<=r) (c:r<=12):List.take (0+i*1) (fu r z i)++[int .i64 (al0 (lft (anc (r-i) z)))]++List.drop (0+i*1+1) (fu r z i)=fu r z (i-1):=by
 rw [<- a88 r z i b a c,d9,Nat.mul_one,zcu]
 rfl
def at3 (q:Ei):Bool:=decide ((-512<=q.a/\q.a<=511)/\(-512<=q.b/\q.b<=511))
theorem bdf (r:Int) (z:Ei) (h:tq r z=true):a8 P0 162 [cel r z] [] (.tup [(anc r.toNat z).v,.r (.agg (ahl r.toNat z 0)),bl (at3 (anc r.toNat z))]) []:=by
 refine aqg.t func162 ?_;have g:=h;simp only [tq,decide_eq_true_eq] at g;simp only [aqg,cel,push_cast,↓reduceIte,zE,zA,zD];refine b5 (as':=[cel r z]) rfl ?_;refine a6 (bfh r z (g.2.mono (by decide))) rfl trivial ?_;rw [h];simp only [push_cast,↓reduceIte,zE,zA,zL,zD];obtain ⟨⟨o,m⟩,k⟩:=g
 refine b9 [(6,false),(5,false),(3,false),(2,false)] (λ vs pos e=>∃i:Int,(0<=i/\i<=r)/\vs=[int .i64 i,.ptr 2000000 0 0,.ptr 2000001 0 0,.ptr 2000002 0 0]/\pos=[]/\e=[.box [int .i64 (anc (r-i).toNat z).a,int .i64 (anc (r-i).toNat z).b],.box (fu r.toNat z i.toNat),.box [int .i64 0,int .i64 0]])
  (λ vs _ _=>match vs with | .r (.v (.int _ j))::_=>j.toNat | _=>0) rfl ?_ ?_
 ·simp only [push_cast,↓reduceIte,zB,zE,zA,zL,zD];refine ⟨r,by omega,?_⟩;rw [a87,Int.sub_self];exact ⟨rfl,rfl⟩
 rintro vs pos e ⟨i,n,rfl,rfl,rfl⟩;simp only [push_cast,↓reduceIte,zA];refine b7 (λ h=>?_) (λ h=>?_)
 ·simp only [decide_eq_true_eq] at h;simp only [push_cast,↓reduceIte,zE,zA,zD];have l:=at4 (r-i).toNat k (by decide);refine b5 (as':=[(anc (r-i).toNat z).v]) rfl ?_;refine a6 (bfd _ l) rfl trivial ?_;simp only [Ei.v,Ei.rv,push_cast,↓reduceIte,zE,zA,zL,zD];refine i5 (as':=[(lft (anc (r-i).toNat z)).v]) rfl ?_;refine d5 (bhj _) rfl trivial ?_;have d:=bcl r.toNat z i.toNat (by omega) (by omega) (by omega);rw [show r.toNat-i.toNat=(r-i).toNat by omega] at d;have f:pr (anc (r-i).toNat z)=anc (r-(i-1)).toNat z:=by rw [<- al7,show (r-i).toNat+1=(r-(i-1)).toNat by omega]
  simp only [d,push_cast,↓reduceIte,zB,zE,zA,zL,zD];rw [show IntKind.i64.wrap (i-1)=i-1 from a5 (by omega),f];refine ⟨by omega,by omega,by kernel_rfl,⟨i-1,by omega,rfl,?_⟩,by omega⟩;rw [show (i-1).toNat=i.toNat-1 by omega]
 have hi:i=0:=by simp at h; omega
 subst hi;have l:=at4 r.toNat k (by decide);simp only [push_cast,↓reduceIte,zE,zA,zL,zD];rw [show (r-0).toNat=r.toNat by omega,show Int.toNat 0=0 from rfl];refine ⟨by kernel_rfl,?_⟩;refine d5 (bkv _) rfl trivial ?_;by_cases c:-512<=(anc r.toNat z).a/\(anc r.toNat z).a<=511
 ·rw [decide_eq_true c];simp only [push_cast,↓reduceIte,zE,zA,zL];refine ⟨by kernel_rfl,?_⟩;refine d5 (bkv _) rfl trivial ?_;simp only [Ei.v,Ei.rv,push_cast,↓reduceIte,zE,zA,zD];refine ⟨by kernel_rfl,?_⟩;simp [at3,c.1,c.2];kernel_rfl
 rw [decide_eq_false c];simp only [Ei.v,Ei.rv,push_cast,↓reduceIte,zE,zA,zL,zD];refine ⟨by kernel_rfl,?_⟩;simp only [at3,c,false_and,decide_false];exact ⟨by kernel_rfl,trivial⟩
theorem a33 {r:Int} (d:0<=r) (h:okc r.toNat z):tq r z=true/\at3 (anc r.toNat z)=true:=by
 obtain ⟨e,a,b,c⟩:=h;simp only [tq,at3,decide_eq_true_eq];exact ⟨⟨⟨d,by omega⟩,a⟩,b,c⟩
theorem bnp (r:Int) (z:Ei) (a:0<=r) (h:okc r.toNat z):a8 P0 166 [cel r z] [] (bl true) []:=by
 refine atu.t func166 ?_
 push_cast [atu,cel,zaa]
 refine b5 (as':=[cel r z]) rfl ?_;refine a6 (bdf r z (a33 a h).1) rfl trivial ?_;rw [(a33 a h).2]
 push_cast [Ei.v,Ei.rv]
 refine ⟨by simp [ahl],?_⟩;simp only [ahl,List.map_map,List.all_map];rw [List.all_eq_true];intro x hx
 rfl
theorem bnq (x y r:Int) (h:inW x y) (a:0<=r/\r<=12):a8 P0 114 [int .i64 x,int .i64 y,int .i64 r] [] (.tup [cel r (g8 x y r.toNat),int .i64 0]) []:=by
 refine atv.t func114 ?_
 push_cast [atv,cel,zaa]
 refine a6 (bdw x y) rfl trivial ?_;rw [decide_eq_true h]
 push_cast
 refine a6 (bke x y r h a) rfl trivial ?_
 push_cast [Ei.v,Ei.rv]

theorem aa4 {a b:Nat} (h:a<2^k):a ||| b*2^k=b*2^k+a:=by
 rw [zcp,<- Nat.shiftLeft_eq,Nat.shiftLeft_add_eq_or_of_lt h]
theorem p8 (n:Nat):0<8^n:=zcf (by decide)
theorem bhk {a b d:Nat} (l:b<2^k) (o:d<8) (q:k+3<=64) (p:(a*8+7)*2^k+b<2^64) :
 (((a*8+7)*2^k+b) &&& (2^64-1-7*2^k)) ||| d*2^k=(a*8+d)*2^k+b:=by
 have r:∀j,Nat.testBit 7 j=decide (j<3):=λ j=>by
  rcases (show j=0\/j=1\/j=2\/3<=j by omega) with rfl | rfl | rfl | c
  ·rfl
  ·rfl
  ·rfl
  rw [zdc (Nat.lt_of_lt_of_le (by decide:7<2^3) (zam (by decide) c))]; simp; omega
 have g:∀j,3<=j->Nat.testBit d j=false:=λ j c=>zdc (Nat.lt_of_lt_of_le (by omega:d<2^3) (zam (by decide) c))
 have m:7*2^k<2^64:=by
  have:2^(k+3)<=2^64:=zam (by decide) q;rw [zab] at this;have:=Nat.two_pow_pos k;omega
 apply Nat.eq_of_testBit_eq;intro j;rw [Nat.testBit_or,Nat.testBit_and,show 2^64-1-7*2^k=2^64-(7*2^k+1) by omega,Nat.testBit_two_pow_sub_succ m];rw [zco _ (2^k),zco 7,zco d,zco (a*8+d)];rw [zcy _ l,zcy _ l,Nat.testBit_two_pow_mul,Nat.testBit_two_pow_mul];by_cases c:j<k
 ·simp [c,Nat.not_le.2 c];intro hx;omega
 rw [if_neg c,if_neg c];have h:k<=j:=by omega
 simp only [h,decide_true,zai];rw [show a*8+7=2^3*a+7 by omega,show a*8+d=2^3*a+d by omega,zcy a (show 7<2^3 by decide),zcy a (show d<2^3 from o),r];by_cases i:j-k<3
 ·simp [i]
 rw [g _ (by omega)];simp only [i,if_false,decide_false,zak,zah,zaj];by_cases f:j<64
 ·simp [f]
 simp only [f,decide_false,Bool.and_false];apply Eq.symm;apply zdc;have e:(a*8+7)*2^k+b<2^j:=Nat.lt_of_lt_of_le p (zam (by decide) (by omega));have n:2^j=2^(j-k-3)*8*2^k:=by rw [show (8:Nat)=2^3 from rfl,<- zab,<- zab]; congr 1; omega
 rw [n] at e;have:(a*8+7)*2^k<2^(j-k-3)*8*2^k:=by omega
 have:=Nat.lt_of_mul_lt_mul_right this;omega
def qz (r:Nat) (z:Ei) (i:Nat):Nat:=((8^i-1)*8^(r-i)+val (r-i) z)*8^(12-r)+(8^(12-r)-1)
theorem beo (r:Nat) (z:Ei) (a:r<=12):qz r z r=68719476735:=by
 unfold qz;rw [Nat.sub_self,val,Nat.pow_zero,Nat.mul_one,Nat.add_zero,Nat.sub_mul,<- zab,show r+(12-r)=12 by omega,Nat.one_mul];have:8^(12-r)<=8^12:=zam (by decide) (by omega);have:=p8 (12-r);omega
theorem bab (k:Nat) (z:Ei):val (k+1) z=dg (anc k z)*8^k+val k z:=by
 induction k generalizing z with
 | zero=>simp [val,anc]
 | succ k ih=>
   rw [val,ih (pr z),val,anc,zcn];generalize dg (anc k (pr z))=e;generalize 8^k=p;generalize val k (pr z)=q;rw [zce,zae];omega
theorem au9 (r:Nat) (z:Ei) (i:Nat) (hi:i<=r) (d:r<=12):val (r-i) z*8^(12-r)+(8^(12-r)-1)<2^(36-3*i):=by
 have b:=a5u (r-i) z
 have e:2^(36-3*i)=8^(r-i)*8^(12-r):=by
  rw [<- zab,show (8:Nat)=2^3 from rfl,<- Nat.pow_mul]; congr 1; omega
 rw [e];have c:=p8 (12-r);generalize 8^(12-r)=p at *;generalize val (r-i) z=v at *;have a:(v+1)*p<=8^(r-i)*p:=Nat.mul_le_mul_right _ b;rw [zce] at a;omega
theorem aqj (r:Nat) (z:Ei) (i:Nat) (hi:i<=r) (a:r<=12):qz r z i=(8^i-1)*2^(36-3*i)+(val (r-i) z*8^(12-r)+(8^(12-r)-1)):=by
 have e:2^(36-3*i)=8^(r-i)*8^(12-r):=by
  rw [<- zab,show (8:Nat)=2^3 from rfl,<- Nat.pow_mul]; congr 1; omega
 unfold qz;rw [e,zce,zae,Nat.add_assoc]
theorem ak0 (r:Nat) (z:Ei) (i:Nat) (hi:i<=r) (a:r<=12):qz r z i<68719476736:=by
 rw [aqj r z i hi a];have h:=au9 r z i hi a
 have e:(8:Nat)^i*2^(36-3*i)=68719476736:=by
  rw [show (8:Nat)=2^3 from rfl,<- Nat.pow_mul,<- zab,show 3*i+(36-3*i)=36 by omega]
 rw [Nat.sub_mul,e,Nat.one_mul];have:=Nat.two_pow_pos (36-3*i);have:2^(36-3*i)<=2^36:=zam (by decide) (by omega);omega
theorem a28 (r:Nat) (z:Ei) (i:Nat) (h:1<=i) (hi:i<=r) (b:r<=12) :
 ((qz r z i &&& (2^64-1-7*2^(36-3*i))) ||| dg (anc (r-i) z)*2^(36-3*i))=qz r z (i-1):=by
 have e:=ak0 r z i hi b;have a:=au9 r z i hi b;have j:=alz (anc (r-i) z)
 have f:(8:Nat)^i-1=(8^(i-1)-1)*8+7:=by
  have:(8:Nat)^i=8^(i-1)*8:=by conv=>lhs; rw [show i=i-1+1 by omega,zcn]
  have:=p8 (i-1);omega
 have d:=aqj r z i hi b;rw [f] at d;rw [d] at e |-;rw [bhk a (by omega) (by omega) (by omega),aqj r z (i-1) (by omega) b,show r-(i-1)=r-i+1 by omega,bab];have g:2^(36-3*(i-1))=8*2^(36-3*i):=by rw [show (8:Nat)=2^3 from rfl,<- zab]; congr 1; omega
 have c:8^(r-i)*8^(12-r)=2^(36-3*i):=by
  rw [<- zab,show (8:Nat)=2^3 from rfl,<- Nat.pow_mul]; congr 1; omega
 rw [g,<- c];generalize 8^(i-1)-1=A;generalize 8^(r-i)=B;generalize 8^(12-r)=C;generalize dg (anc (r-i) z)=D;generalize val (r-i) z=V;simp only [zce,zae];omega
theorem ben (r:Nat) (z:Ei) (f:r<=12) (A B:Nat) (h:A<1024) (i:B<1024) (g:(anc r z).a+512=A) (d:(anc r z).b+512=B) :
 ((((qz r z 0 ||| 1152921504606846976) ||| r*2^56) ||| A*2^46) ||| B*2^36)=y6 r z:=by
 have c:=ak0 r z 0 (by omega) f
 have e:y6 r z=si r (anc r z)*2^36+qz r z 0:=by
  unfold y6 qz;rw [zce,zae,<- zab,show r+(12-r)=12 by omega];simp;omega
 rw [e];generalize qz r z 0=w at *;rw [zcq,zcq,zcq,zcp,zcq,zcq,zcq]
 rw [zcp (B*2^36),aa4 (show w<2^36 from c),zcp (A*2^46),aa4 (show B*2^36+w<2^46 by omega),zcp (r*2^56),aa4 (show A*2^46+(B*2^36+w)<2^56 by omega),
  show (1152921504606846976:Nat)=1*2^60 from rfl,zcp (1*2^60),aa4 (show r*2^56+(A*2^46+(B*2^36+w))<2^60 by omega)]
 unfold si;omega

def ake:Mk P0 f164:={ x:=_ }
def adq:Mk P0 f81:={ x:=_ }
def ade:Mk P0 f80:={ x:=_ }
def dh:Mk P0 f41:={ x:=_ }
def afu:Mk P0 f42:={ x:=_ }
def arx:Mk P0 f116:={ x:=_ }
def amu:Mk P0 f75:={ x:=_ }
def amv:Mk P0 f117:={ x:=_ }
def ary:Mk P0 f66:={ x:=_ }
def aj5:Mk P0 f74:={ x:=_ }
def adu:Mk P0 f26:={ x:=_ }
structure Til where
 z:Int
 x:Int
 y:Int
 r:Int
def Til.v (t:Til):AV:=.r (.agg [.v (.int .i64 t.z),.v (.int .i64 t.x),.v (.int .i64 t.y),.v (.int .i64 t.r)])
def Til.ok (t:Til):Prop:=c7 t.z/\c7 t.x/\c7 t.y/\c7 t.r
def tis (t:Til):Bool:=decide (0<=t.z/\t.z<=18/\0<=t.r/\t.r<=12/\0<=t.x/\t.x<2^t.z.toNat/\0<=t.y/\t.y<2^t.z.toNat)
theorem a4i (t:Til):a8 P0 116 [t.v] [] (bl (tis t)) []:=by
 refine arx.t func116 ?_
 push_cast [arx,Til.v,zaa]
 repeat refine And.intro (by simp +contextual) ?_
 refine b7 (λ h=>?_) (λ h=>?_)
 ·push_cast
  refine ic ?_;simp [tis] at h |-;omega
 have a:0<=t.z/\t.z<=18/\0<=t.r/\t.r<=12:=by simp at h; omega
 push_cast
 refine And.intro ?_ ?_
 ·rw [IntKind.wrap_u64]; omega
 rw [ban _ a.1 (by omega)]
 repeat refine And.intro (by simp +contextual) ?_
 refine ic ?_;simp [tis];omega
theorem a5w (t:Til) (b:0<=t.z) (a:t.z<=18):a8 P0 75 [t.v] [] (int .i64 (2^(18-t.z).toNat)) []:=by
 refine amu.t func75 ?_
 push_cast [amu,Til.v,zaa]
 rw [show IntKind.i64.wrap (18-t.z)=18-t.z from a5 (by omega)];refine And.intro ?_ ?_
 ·rw [IntKind.wrap_u64]; omega
 rw [ban _ (by omega) (by omega)]
def rok (r:Int):Bool:=decide (0<=r/\r<=12)
theorem bep (r:Int) (d:c7 r):a8 P0 164 [int .i64 r] [] (.tup [int .i64 (if rok r then 169*7^(12-r).toNat else 0),bl (rok r)]) []:=by
 refine ake.t func164 ?_
 push_cast [ake,zaa]
 refine a6 (aus r) rfl trivial ?_
 push_cast
 refine b7 (λ h=>?_) (λ h=>?_)
 ·push_cast
  have:rok r=false:=by simp [rok] at h |-; omega
  simp [this]
 have h:rok r=true:=by simpa [rok] using h
 have b:0<=r/\r<=12:=by simpa [rok] using h
 push_cast
 rw [show IntKind.i64.wrap (12-r)=12-r from a5 (by omega)];have c:=p7 (12-r).toNat (by omega);have a:=bdv 7 (12-r) (by decide) (by unfold c7; omega);rw [if_neg (show ¬12-r<0 by omega)] at a;refine a6 a rfl trivial ?_
 push_cast [sm,if_pos (show c7 (7^(12-r).toNat) by unfold c7; omega)]
 rw [a5 (by omega)];simp [h]
theorem a1a (k:Int) (d:0<=k) (c:k<=12):a8 P0 81 [int .i64 k] [] (int .i64 (7^k.toNat)) []:=by
 refine adq.t func81 ?_
 push_cast [adq,zaa]
 have b:=p7 k.toNat (by omega);have a:=bjm 7 k (by decide) (by unfold c7; omega);rw [if_neg (show ¬k<0 by omega)] at a;refine a6 a rfl trivial ?_
 push_cast [sm,if_pos (show c7 (7^k.toNat) by unfold c7; omega)]
theorem ao4 (k:Int) (b:0<=k) (a:k<=36):a8 P0 80 [int .i64 k] [] (int .i64 (2^k.toNat)) []:=by
 refine ade.t func80 ?_
 push_cast [ade,zaa]
 refine ⟨by omega,?_⟩;rw [bn1 k b a]
def cn (t:Til):Bool:=tis t&&decide (169*7^(12-t.r).toNat<16*2^(18-t.z).toNat*(2:Int)^(18-t.z).toNat)
theorem bk6 (t:Til) (f:t.ok):a8 P0 117 [t.v] [] (bl (cn t)) []:=by
 refine amv.t func117 ?_
 push_cast [amv,Til.v,zaa]
 refine a6 (bep t.r f.2.2.2) rfl trivial ?_
 push_cast
 refine i5 (as':=[t.v]) rfl ?_;refine d5 (a4i t) rfl trivial ?_;cases hti:tis t with
 | false=>
   push_cast
   exact ⟨by kernel_rfl,by simp [cn,hti]⟩
 | true=>
   have c:0<=t.z/\t.z<=18/\0<=t.r/\t.r<=12:=by simp [tis] at hti; omega
   have a:rok t.r=true:=by simp [rok]; omega
   have h:=p2 (18-t.z).toNat (by omega);have d:=a5w t c.1 c.2.1
   push_cast [a]
   refine i5 (as':=[t.v]) rfl ?_;refine d5 d rfl trivial ?_
   push_cast
   refine i5 (as':=[t.v]) rfl ?_;refine d5 d rfl trivial ?_
   push_cast
   refine ⟨by kernel_rfl,?_⟩;have g:(18-t.z).toNat<=18:=by omega
   have b:(2:Int)^(18-t.z).toNat<=262144:=by
    have j:2^(18-t.z).toNat<=2^18:=zam (by decide) g;have i:((2^(18-t.z).toNat:Nat):Int)=(2:Int)^(18-t.z).toNat:=by simp
    omega
   rw [show IntKind.i64.wrap (16*2^(18-t.z).toNat)=16*2^(18-t.z).toNat from a5 (by omega)];have k:16*(2:Int)^(18-t.z).toNat*2^(18-t.z).toNat<=4194304*262144:=Int.mul_le_mul (by omega) b (by omega) (by omega);have e:0<=16*(2:Int)^(18-t.z).toNat*2^(18-t.z).toNat:=zcs (by omega) (by omega);rw [a5 (by omega)];refine ic ?_;simp [cn,hti]
theorem bbl (t:Til) (a:t.ok):a8 P0 66 [t.v] [] (int .i64 (if tis t then (if cn t then 14 else 0) else 1)) []:=by
 refine ary.t func66 ?_
 push_cast [ary,Til.v,zaa]
 refine b5 (as':=[t.v]) rfl ?_;refine a6 (a4i t) rfl trivial ?_;cases hti:tis t with
 | false=>
   push_cast
 | true=>
   push_cast
   refine b5 (as':=[t.v]) rfl ?_;refine a6 (bk6 t a) rfl trivial ?_;cases hf:cn t<;>push_cast
theorem aym (t:Til) (hi:tis t=true):a8 P0 74 [t.v] [] (.tup [int .i64 (t.x*2^(30-t.z).toNat),int .i64 (t.y*2^(30-t.z).toNat),int .i64 (2^(30-t.z).toNat)]) []:=by
 refine aj5.t func74 ?_
 push_cast [aj5,Til.v,zaa]
 refine b5 (as':=[t.v]) rfl ?_;refine a6 (a4i t) rfl trivial ?_;rw [hi]
 push_cast
 simp only [tis,decide_eq_true_eq] at hi;obtain ⟨f,j,i,h,e,x1,d,y1⟩:=hi;have g:=p2 t.z.toNat (by omega);have k:=p2 (30-t.z).toNat (by omega)
 have a:(2:Int)^t.z.toNat*2^(30-t.z).toNat=1073741824:=by
  rw [<- Int.pow_add,show t.z.toNat+(30-t.z).toNat=30 by omega]; rfl
 have hx:t.x*2^(30-t.z).toNat<=1073741824:=by rw [<- a]; exact zcw (by omega) (by omega)
 have hy:t.y*2^(30-t.z).toNat<=1073741824:=by rw [<- a]; exact zcw (by omega) (by omega)
 have b:0<=t.x*2^(30-t.z).toNat:=zcs e (by omega);have c:0<=t.y*2^(30-t.z).toNat:=zcs d (by omega);rw [show IntKind.i64.wrap (30-t.z)=30-t.z from a5 (by omega),ban _ (by omega) (by omega)];refine ⟨by rw [IntKind.wrap_u64]; omega,by kernel_rfl,?_⟩;rw [a5 (by omega),a5 (by omega)]

def adt:Mk P0 f146:={ x:=_ }
def agx:Mk P0 f152:={ x:=_ }
def ag0:Mk P0 f96:={ x:=_ }
def af7:Mk P0 f139:={ x:=_ }
def af1:Mk P0 f97:={ x:=_ }
def af0:Mk P0 f193:={ x:=_ }
def adn:Mk P0 f155:={ x:=_ }
def ads:Mk P0 f98:={ x:=_ }
def ado:Mk P0 f95:={ x:=_ }
def af5:Mk P0 f53:={ x:=_ }
theorem aab (a b:Int) (f:c7 a) (j:c7 b):a8 P0 146 [int .i64 a,int .i64 b] [] (.tup [int .i64 (if 0<b then a/b else 0),int .i64 (if 0<b then a%b else 0),bl (decide (0<b))]) []:=by
 refine adt.t func146 ?_
 push_cast [adt,zaa]
 refine b7 (λ h=>?_) (λ h=>?_)
 ·push_cast
  simp at h;have:¬0<b:=by omega
  simp [this]
 push_cast
 simp at h;refine ⟨by omega,by omega,by kernel_rfl,?_⟩;obtain ⟨n,k,i⟩:=ap9 f h;have g:IntKind.i64.wrap (a.tdiv b)=a.tdiv b:=wrap_i64_tdiv a b f.1 f.2 (by omega);rw [g];refine b7 (λ c=>?_) (λ c=>?_)
 ·push_cast
  simp at c;obtain ⟨e,d⟩:=k c;refine a3f (aff ?_) (aff ?_) (aw8 ?_)
  ·rw [if_pos h,<- e,a5];unfold c7 at f; rw [e]; omega
  ·rw [if_pos h,<- d,a5];have m:=zac a h;have l:=zad a (show b≠0 by omega);rw [d];unfold c7 at j; omega
  simp [h]
 push_cast
 simp at c;obtain ⟨e,d⟩:=i c;refine a3f (aff ?_) (aff ?_) (aw8 ?_)
 ·rw [if_pos h,e]
 ·rw [if_pos h,d]
 simp [h]
theorem bjl (a b:Int) (e:c7 a) (f:c7 b):a8 P0 152 [o7 a,o7 b] [] (.tup [Ei.v ⟨a,b⟩,bl true]) []:=by
 refine agx.t func152 ?_
 push_cast [agx,o7,zaa]
 have d:=e;have c:=f;unfold c7 at d c;refine b5 (as':=[o7 a]) rfl ?_;refine a6 (auc a (by omega)) rfl trivial ?_;rw [aha e]
 push_cast
 refine b5 (as':=[o7 b]) rfl ?_;refine a6 (auc b (by omega)) rfl trivial ?_;rw [aha f]
 push_cast [Ei.v,Ei.rv]
theorem afc (x y:Ei) (hx:x.In M63) (hy:y.In M63) (c:(x.mul y).In M63):a8 P0 96 [x.v,y.v] [] (.tup [(x.mul y).v,bl true]) []:=by
 refine ag0.t func96 ?_
 push_cast [ag0,Ei.v,Ei.rv,zaa]
 refine a6 (ad0 x.b y.b hx.ok.2 hy.ok.2) rfl trivial ?_
 push_cast [o7]
 refine d5 (ad0 x.a y.a hx.ok.1 hy.ok.1) rfl trivial ?_
 push_cast [o7]
 refine i5 (as':=[o7 (x.b*y.b)]) rfl ?_;refine d5 (ak3 _) rfl trivial ?_
 push_cast [o7]
 refine i5 (as':=[o7 (x.a*y.a),o7 (-(x.b*y.b))]) rfl ?_;refine d5 (am8 _ _) rfl trivial ?_
 push_cast [o7]
 refine d5 (ad0 x.a y.b hx.ok.1 hy.ok.2) rfl trivial ?_
 push_cast [o7]
 refine d5 (ad0 x.b y.a hx.ok.2 hy.ok.1) rfl trivial ?_
 push_cast [o7]
 refine i5 (as':=[o7 (x.a*y.b),o7 (x.b*y.a)]) rfl ?_;refine d5 (am8 _ _) rfl trivial ?_
 push_cast [o7]
 refine i5 (as':=[o7 (x.a*y.b+x.b*y.a),o7 (x.b*y.b)]) rfl ?_;refine d5 (am8 _ _) rfl trivial ?_
 push_cast [o7]
 refine i5 (as':=[o7 (x.a*y.a + -(x.b*y.b)),o7 (x.a*y.b+x.b*y.a+x.b*y.b)]) rfl ?_;have e:x.a*y.a + -(x.b*y.b)=(x.mul y).a:=by simp only [Ei.mul]; omega
 have e':x.a*y.b+x.b*y.a+x.b*y.b=(x.mul y).b:=rfl;rw [e,e'];refine d5 (bjl _ _ c.ok.1 c.ok.2) rfl trivial ?_
 push_cast [Ei.v,Ei.rv]
 kernel_rfl
theorem aui (k:Int) (l:0<=k/\k<=12):a8 P0 139 [int .i64 k] [] (.tup [(d7 k.toNat).v,bl true]) []:=by
 refine af7.t func139 ?_;have f:decide (k<0)=false:=by simp; omega
 have c2:decide (k>20)=false:=by simp; omega
 push_cast [af7,zaa,f,c2]
 refine b9 [(5,false),(0,false),(4,false),(2,false)] (λ vs pos c=>∃i:Int,0<=i/\i<=k/\vs=[int .i64 i,int .i64 k,.ptr 2000000 0 0,.ptr 2000001 0 0]/\pos=[]/\c=[.box [int .i64 (d7 i.toNat).a,int .i64 (d7 i.toNat).b],.box [int .i64 0,int .i64 0]])
  (λ vs _ _=>match vs with | .r (.v (.int _ j))::_=>(k-j).toNat | _=>0) rfl ?_ ?_
 ·push_cast
  exact ⟨0,by omega,by omega,rfl,rfl⟩
 rintro vs pos c ⟨i,m,g,rfl,rfl,rfl⟩
 push_cast
 refine b7 (λ h=>?_) (λ h=>?_)
 ·simp only [decide_eq_true_eq] at h
  push_cast
  have e:=pi i.toNat (by omega);have d:=pi (i.toNat+1) (by omega);refine b5 (as':=[(d7 i.toNat).v,aw.v]) rfl ?_;refine a6 (afc _ _ (e.mono (by decide)) (by unfold Ei.In; decide) (d.mono (by decide))) rfl trivial ?_
  push_cast [Ei.v,Ei.rv]
  rw [show IntKind.i64.wrap (i+1)=i+1 from a5 (by omega)];refine ⟨⟨i+1,by omega,by omega,rfl,?_⟩,by omega⟩;rw [show (i+1).toNat=i.toNat+1 by omega]
  rfl
 simp only [decide_eq_false_iff_not] at h;have:i=k:=by omega
 subst this
 push_cast [Ei.v,Ei.rv]
theorem bge (k:Int) (a:0<=k/\k<=12):a8 P0 97 [int .i64 k] [] ((d7 k.toNat).conj.v) []:=by
 refine af1.t func97 ?_
 push_cast [af1,zaa]
 refine a6 (aui k a) rfl trivial ?_;have b:=pi k.toNat (by omega);unfold Ei.In at b
 push_cast [Ei.v,Ei.rv,Ei.conj]
 rw [a5 (by omega),a5 (by omega),Int.zero_sub]
theorem aue (n:Int) (h:c7 n) (a:n≠-9223372036854775808):a8 P0 193 [int .i64 n] [] (int .i64 n.natAbs) []:=by
 refine af0.t func193 ?_
 push_cast [af0,zaa]
 unfold c7 at h;refine b7 (λ hc=>?_) (λ hc=>?_)
 ·simp at hc
  push_cast
  rw [a5 (by omega)];rw [show 0-n=(n.natAbs:Int) by omega]
 simp at hc
 push_cast
 rw [show n=(n.natAbs:Int) by omega];simp
theorem ba2 (s t d:Int) (f:-9007199254740992<=s/\s<=9007199254740992) (g:-9007199254740992<=t/\t<=9007199254740992):a8 P0 155 [int .i64 s,int .i64 t,int .i64 d] [] (bl (decide (i8 d s t))) []:=by
 refine adn.t func155 ?_
 push_cast [adn,zaa]
 rw [show IntKind.i64.wrap (2*s)=2*s from a5 (by omega),show IntKind.i64.wrap (2*s+t)=2*s+t from a5 (by omega)];refine a6 (aue _ (by unfold c7; omega) (by omega)) rfl trivial ?_;by_cases e:((2*s+t).natAbs:Int)<=d
 ·have a:decide (((2*s+t).natAbs:Int)<=d)=true:=decide_eq_true e
  push_cast [a]
  rw [show IntKind.i64.wrap (2*t)=2*t from a5 (by omega),show IntKind.i64.wrap (s+2*t)=s+2*t from a5 (by omega)];refine a6 (aue _ (by unfold c7; omega) (by omega)) rfl trivial ?_;by_cases c:((s+2*t).natAbs:Int)<=d
  ·have b:decide (((s+2*t).natAbs:Int)<=d)=true:=decide_eq_true c
   push_cast [b]
   rw [show IntKind.i64.wrap (s-t)=s-t from a5 (by omega)];refine a6 (aue _ (by unfold c7; omega) (by omega)) rfl trivial ?_
   push_cast
   refine ic ?_;simp only [decide_eq_true_eq];unfold i8;omega
  have b:decide (((s+2*t).natAbs:Int)<=d)=false:=decide_eq_false c
  push_cast [b]
  rw [decide_eq_false (show ¬i8 d s t by unfold i8; omega)]
 have a:decide (((2*s+t).natAbs:Int)<=d)=false:=decide_eq_false e
 push_cast [a]
 rw [decide_eq_false (show ¬i8 d s t by unfold i8; omega)]
theorem ax8 (u:Ei) (d:Int) (L:u.In 1152921504606846976) (H:1<=d/\d<=1125899906842624):a8 P0 98 [u.v,int .i64 d] [] (.tup [(u.round d).v,bl true]) []:=by
 refine ads.t func98 ?_;have p:=L;unfold Ei.In at p;have M:decide (d<1)=false:=by simp; omega
 have c2:decide (d>1125899906842624)=false:=by simp; omega
 have K:decide (u.a < -1152921504606846976)=false:=by simp; omega
 have N:decide (u.a>1152921504606846976)=false:=by simp; omega
 have P:decide (u.b < -1152921504606846976)=false:=by simp; omega
 have O:decide (u.b>1152921504606846976)=false:=by simp; omega
 have T:c7 u.a:=by unfold c7; omega
 have R:c7 u.b:=by unfold c7; omega
 have C:c7 d:=by unfold c7; omega
 push_cast [ads,Ei.v,Ei.rv,zaa,M,c2,K,N,P,O]
 refine a6 (aab _ _ T C) rfl trivial ?_;have m:0<d:=by omega
 push_cast [m,if_true]
 refine a6 (aab _ _ R C) rfl trivial ?_
 push_cast [m,if_true]
 have I:0<=u.a%d/\u.a%d<d:=⟨zad _ (by omega),zac _ m⟩
 have J:0<=u.b%d/\u.b%d<d:=⟨zad _ (by omega),zac _ m⟩
 have U:-1152921504606846976<=u.a/d/\u.a/d<=1152921504606846976:=atk p.1 H.1;have S:-1152921504606846976<=u.b/d/\u.b/d<=1152921504606846976:=atk p.2 H.1;have e:u.round d=⟨u.a/d+(km d (u.a%d) (u.b%d)).a,u.b/d+(km d (u.a%d) (u.b%d)).b⟩:=rfl;generalize u.a%d=a at *;generalize u.b%d=b at *;generalize u.a/d=E at *;generalize u.b/d=D at *
 have o:∀i:Int,-1<=i->i<=2->-1125899906842624<=i*d/\i*d<=2251799813685248:=λ i g n=>by
  rcases (show i=-1\/i=0\/i=1\/i=2 by omega) with rfl | rfl | rfl | rfl<;>omega
 refine b9 [(12,false),(1,false),(6,false),(7,false),(9,false),(10,false),(4,false)] (λ vs pos f=>∃i:Int,(-1<=i/\i<=3)/\(∀l c:Int,-1<=l->l<i->-1<=c->c<=2->¬i8 d (a-l*d) (b-c*d))/\vs=[int .i64 i,int .i64 d,int .i64 E,int .i64 a,int .i64 D,int .i64 b,.ptr 2000000 0 0]/\pos=[]/\f=[.box [int .i64 0,int .i64 0]])
  (λ vs _ _=>match vs with | .r (.v (.int _ j))::_=>(3-j).toNat | _=>0) rfl ?_ ?_
 ·push_cast
  exact ⟨-1,by omega,λ l c g n=>by omega,rfl⟩
 rintro vs pos f ⟨i,F,s,rfl,rfl,rfl⟩
 push_cast
 refine b7 (λ h=>?_) (λ h=>?_)
 ·have hi:i<=2:=by simpa using h
  have W:=o i F.1 hi
  push_cast
  refine b9 [(13,false),(12,false),(1,false),(6,false),(7,false),(9,false),(10,false),(4,false)] (λ vs pos f=>∃k:Int,(-1<=k/\k<=3)/\(∀c:Int,-1<=c->c<k->¬i8 d (a-i*d) (b-c*d))/\vs=[int .i64 k,int .i64 i,int .i64 d,int .i64 E,int .i64 a,int .i64 D,int .i64 b,.ptr 2000000 0 0]/\pos=[]/\f=[.box [int .i64 0,int .i64 0]])
   (λ vs _ _=>match vs with | .r (.v (.int _ j))::_=>(3-j).toNat | _=>0) rfl ?_ ?_
  ·push_cast
   exact ⟨-1,by omega,λ c g n=>by omega,rfl⟩
  rintro vs pos f ⟨k,G,q,rfl,rfl,rfl⟩
  push_cast
  refine b7 (λ h=>?_) (λ h=>?_)
  ·have x:k<=2:=by simpa using h
   have V:=o k G.1 x
   push_cast
   rw [show IntKind.i64.wrap (i*d)=i*d from a5 (by omega),show IntKind.i64.wrap (k*d)=k*d from a5 (by omega),show IntKind.i64.wrap (a-i*d)=a-i*d from a5 (by omega),show IntKind.i64.wrap (b-k*d)=b-k*d from a5 (by omega)];refine a6 (ba2 _ _ d (by omega) (by omega)) rfl trivial ?_
   push_cast
   refine b7 (λ h=>?_) (λ h=>?_)
   ·have z:i8 d (a-i*d) (b-k*d):=by simpa using h
    have Q:=a0p I J ⟨F.1,hi⟩ ⟨G.1,x⟩ z (λ c g n=>q c g n) (λ l c g n w B=>s l c g n w B);rw [Q] at e
    push_cast [e,Ei.v,Ei.rv]
    rw [a5 (by omega),a5 (by omega)]
   have z:¬i8 d (a-i*d) (b-k*d):=by simpa using h
   push_cast
   rw [a5 (by omega)];refine ⟨⟨k+1,by omega,λ c g n=>?_,rfl⟩,by omega⟩;by_cases y:c=k
   ·subst y; exact z
   exact q c g (by omega)
  have x:k=3:=by simp at h; omega
  subst x
  push_cast
  rw [a5 (by omega)];refine ⟨⟨i+1,by omega,λ l c g n w B=>?_,rfl⟩,by omega⟩;by_cases A:l=i
  ·subst A; exact q c w (by omega)
  exact s l c g (by omega) w B
 have hi:i=3:=by simp at h; omega
 subst hi;exact (bbs I J s).elim
theorem bat (x y:Int):a8 P0 95 [int .i64 x,int .i64 y] [] (bl (decide (inW x y))) []:=by
 refine ado.t func95 ?_
 push_cast [ado,zaa]
 repeat refine And.intro (by simp +contextual) ?_
 refine ic ?_;unfold inW;by_cases c:0<=x<;>by_cases a:x<1073741824<;>by_cases b:0<=y<;>by_cases d:y<1073741824<;>simp [c,a,b,d]
theorem bga (x y r:Int) (h:inW x y) (i:0<=r/\r<=12):a8 P0 53 [int .i64 x,int .i64 y,int .i64 r] [] (.tup [(g8 x y r.toNat).v,bl true]) []:=by
 refine af5.t func53 ?_;have f:decide (r<0)=false:=by simp; omega
 have c2:decide (r>12)=false:=by simp; omega
 push_cast [af5,zaa]
 refine a6 (bat x y) rfl trivial ?_;rw [decide_eq_true h]
 push_cast [f,c2]
 have e:(12-r).toNat=12-r.toNat:=by omega
 have a:(12-r).toNat<=12:=by omega
 have c:=h;unfold inW at c;rw [show IntKind.i64.wrap (45*x)=45*x from a5 (by omega),show IntKind.i64.wrap (26*y)=26*y from a5 (by omega),show IntKind.i64.wrap (52*y)=52*y from a5 (by omega),show IntKind.i64.wrap (45*x-26*y)=45*x-26*y from a5 (by omega),show IntKind.i64.wrap (12-r)=12-r from a5 (by omega)];refine a6 (bge (12-r) (by omega)) rfl trivial ?_;have d:=pi (12-r).toNat a;have b:=a9n h a
 push_cast [Ei.v,Ei.rv]
 refine b5 (as':=[(ax x y).v,(d7 (12-r).toNat).conj.v]) rfl ?_;refine a6 (afc _ _ ((a5a h).mono (by decide)) ((au5 d).mono (by decide)) (b.mono (by decide))) rfl trivial ?_
 push_cast [Ei.v,Ei.rv]
 rw [show IntKind.i64.wrap (12-r)=12-r from a5 (by omega)];refine d5 (a1a (12-r) (by omega) (by omega)) rfl trivial ?_
 push_cast
 have g:=p7 (12-r).toNat a;rw [show IntKind.i64.wrap (2340*7^(12-r).toNat)=2340*7^(12-r).toNat from a5 (by omega)];refine i5 (as':=[((ax x y).mul (d7 (12-r).toNat).conj).v,int .i64 (2340*7^(12-r).toNat)]) rfl ?_;refine d5 (ax8 _ _ (b.mono (by decide)) (by omega)) rfl trivial ?_
 push_cast [Ei.v,Ei.rv,g8,e]
 kernel_rfl

def ac0:Mk P0 f138:={ x:=_ }
def ag1:Mk P0 f84:={ x:=_ }
def af4:Mk P0 f137:={ x:=_ }
def acz:Mk P0 f100:={ x:=_ }
def aip:Mk P0 f99:={ x:=_ }
theorem Ei.mul_comm (x y:Ei):x.mul y=y.mul x:=by
 apply Ei.ext'<;>simp only [Ei.mul]
 ·rw [zcd x.a,zcd x.b]
 rw [zcd x.a y.b,zcd x.b y.a,zcd x.b y.b]; omega
theorem bnn (h:z.In 1073741824) (a:r<=12):((d7 (12-r)).mul z).In 386547056640000:=(vp (lb a) h).mono (by decide)
theorem a6z (z:Ei) (r:Int) (h:z.In 1073741824) (n:0<=r/\r<=12):a8 P0 138 [z.v,int .i64 r] [] (.tup [int .i64 (cx z r.toNat),int .i64 (cy z r.toNat),bl true]) []:=by
 refine ac0.t func138 ?_;have g:=h;unfold Ei.In at g;have l:decide (r<0)=false:=by simp; omega
 have c2:decide (r>12)=false:=by simp; omega
 have i:decide (z.a < -1073741824)=false:=by simp; omega
 have m:decide (z.a>1073741824)=false:=by simp; omega
 have f:decide (z.b < -1073741824)=false:=by simp; omega
 have j:decide (z.b>1073741824)=false:=by simp; omega
 push_cast [ac0,Ei.v,Ei.rv,zaa,l,c2,i,m,f,j]
 rw [show IntKind.i64.wrap (12-r)=12-r from a5 (by omega)];refine a6 (aui (12-r) (by omega)) rfl trivial ?_
 push_cast [Ei.v,Ei.rv]
 have e:(12-r).toNat=12-r.toNat:=by omega
 have c:r.toNat<=12:=by omega
 rw [e];have d:=bnn h c;have k:=(lb c)
 refine b5 (as':=[z.v,(d7 (12-r.toNat)).v]) rfl ?_;refine a6 (afc _ _ (h.mono (by decide)) (k.mono (by decide)) (by rw [Ei.mul_comm]; exact d.mono (by decide))) rfl trivial ?_;rw [Ei.mul_comm];unfold Ei.In at d
 push_cast [Ei.v,Ei.rv,cx,cy]
 rw [show IntKind.i64.wrap (52*((d7 (12-r.toNat)).mul z).a)=52*((d7 (12-r.toNat)).mul z).a from a5 (by omega),show IntKind.i64.wrap (26*((d7 (12-r.toNat)).mul z).b)=26*((d7 (12-r.toNat)).mul z).b from a5 (by omega),show IntKind.i64.wrap (52*((d7 (12-r.toNat)).mul z).a+26*((d7 (12-r.toNat)).mul z).b)=52*((d7 (12-r.toNat)).mul z).a+26*((d7 (12-r.toNat)).mul z).b from a5 (by omega),show IntKind.i64.wrap (45*((d7 (12-r.toNat)).mul z).b)=45*((d7 (12-r.toNat)).mul z).b from a5 (by omega)];exact ⟨by kernel_rfl,rfl⟩
theorem aw2 (i:Nat) (h:z.In 1073741824) (c:r<=12):(hc z r i).In 1159641889920000:=by
 have hv:=zm i;unfold Ei.In at h hv;exact (vp (lb c) (show (⟨3*z.a+(vv i).a,3*z.b+(vv i).b⟩:Ei).In 3221225474 by unfold Ei.In; dsimp only; omega)).mono (by decide)
def vvB:List AV:=[int .i64 1,int .i64 1,int .i64 (-1),int .i64 2,int .i64 (-2),int .i64 1,int .i64 (-1),int .i64 (-1),int .i64 1,int .i64 (-2),int .i64 2,int .i64 (-1)]
theorem bmb (i:Nat) (h:i<6):vvB.getD (0+(i:Int).toNat*2+0) AV.undef=int .i64 (vv i).a:=by
 rcases lt6 h with rfl | rfl | rfl | rfl | rfl | rfl<;>rfl
theorem bma (i:Nat) (h:i<6):vvB.getD (0+(i:Int).toNat*2+1) AV.undef=int .i64 (vv i).b:=by
 rcases lt6 h with rfl | rfl | rfl | rfl | rfl | rfl<;>rfl
theorem bis:vvB.getD (0+(0:Int).toNat*2+0) AV.undef=int .i64 (vv 0).a:=rfl
theorem bir:vvB.getD (0+(0:Int).toNat*2+1) AV.undef=int .i64 (vv 0).b:=rfl
theorem azd:o6 vvB=[]:=rfl
theorem a2h (F:Ren):imL F vvB=vvB:=rfl
theorem a02:vvB.length=12:=rfl
theorem aw1 (z:Ei) (r i:Nat):(⟨3*z.a+(vv i).a,3*z.b+(vv i).b⟩:Ei).mul (d7 (12-r))=hc z r i:=Ei.mul_comm _ _
theorem in3 {v:Int} (h:-1073741824<=x/\x<=1073741824) (a:-2<=v/\v<=2):IntKind.i64.wrap (3*x)=3*x/\IntKind.i64.wrap (3*x+v)=3*x+v:=⟨a5 (by omega),a5 (by omega)⟩
theorem a6t (z:Ei) (r:Int) (f:z.In 1073741824) (p:0<=r/\r<=12):a8 P0 84 [z.v,int .i64 r] [] (.own 1000000 0 0 6) [.row 2 (pnt 0 0) true true (nc z r.toNat 6)]:=by
 refine ag1.t func84 ?_;simp only [ag1,Ei.v,Ei.rv,push_cast,↓reduceIte,reduceCtorEq,zE,zA,zD];refine b5 (as':=[z.v,int .i64 r]) rfl ?_;refine a6 (a6z z r f p) rfl trivial ?_;simp only [push_cast,↓reduceIte,reduceCtorEq,zE,zA,zL];rw [show IntKind.i64.wrap (12-r)=12-r from a5 (by omega)];refine a6 (aui (12-r) (by omega)) rfl trivial ?_;have e:(12-r).toNat=12-r.toNat:=by omega
 have g:r.toNat<=12:=by omega
 rw [e];simp only [Ei.v,Ei.rv,push_cast,↓reduceIte,zE,zA,zL,zD];have m:=g7;generalize s:r.toNat=R at *;have n:(d7 (12-R)).In 120000:=lb g;have c:=f;unfold Ei.In at c
 have l:∀i,(⟨3*z.a+(vv i).a,3*z.b+(vv i).b⟩:Ei).In M63:=λ i=>by
  have hv:=zm i;unfold Ei.In at hv |-;unfold M63;dsimp only;omega
 refine b9 [(12,false),(2,false),(8,false),(10,false),(11,false)] (λ vs pos d=>∃i:Nat,i<=6/\pos=[] /\
  ((i=0/\vs=[int .i64 i,.ptr 2000000 0 0,.ptr 2000001 0 0,.ptr 2000002 0 0,.nils 2 (.agg [.v (.int .i64 0),.v (.int .i64 0)])]/\d=[.box [int .i64 z.a,int .i64 z.b],.box [int .i64 (d7 (12-R)).a,int .i64 (d7 (12-R)).b],.box vvB]) \/
   (0<i/\vs=[int .i64 i,.ptr 2000000 0 0,.ptr 2000001 0 0,.ptr 2000002 0 0,.own 2000003 0 0 i]/\d=[.box [int .i64 z.a,int .i64 z.b],.box [int .i64 (d7 (12-R)).a,int .i64 (d7 (12-R)).b],.box vvB,.row 2 (pnt 0 0) true true (nc z R i)])))
  (λ vs _ _=>match vs with | .r (.v (.int _ j))::_=>(6-j).toNat | _=>0) rfl ?_ ?_
 ·simp only [push_cast,↓reduceIte,zB,zE,zA,zL,zD];exact ⟨0,by omega,.inl ⟨rfl,rfl,rfl⟩⟩
 rintro vs pos d ⟨i,q,rfl,⟨o,rfl,rfl⟩ | ⟨o,rfl,rfl⟩⟩
 ·subst o;simp only [show decide ((0:Int)<6)=true from rfl,bis,bir,a02,push_cast,↓reduceIte,zE,zA,zL,zD]
  repeat refine And.intro (by first | decide | omega) ?_
  rw [(in3 c.1 (zm 0).1).1,(in3 c.1 (zm 0).1).2,(in3 c.2 (zm 0).2).1,(in3 c.2 (zm 0).2).2];refine i5 (as':=[Ei.v ⟨3*z.a+(vv 0).a,3*z.b+(vv 0).b⟩,(d7 (12-R)).v]) rfl ?_;refine d5 (afc _ _ (l 0) (n.mono (by decide)) (by rw [aw1]; exact (aw2 0 f g).mono (by decide))) rfl trivial ?_;rw [aw1];have k:=aw2 0 f g;unfold Ei.In at k;simp only [Ei.v,Ei.rv,azd,a2h,push_cast,↓reduceIte,zB,zE,zA,zL,zD,zM]
  rw [show IntKind.i64.wrap (52*(hc z R 0).a)=52*(hc z R 0).a from a5 (by omega),show IntKind.i64.wrap (26*(hc z R 0).b)=26*(hc z R 0).b from a5 (by omega),show IntKind.i64.wrap (52*(hc z R 0).a+26*(hc z R 0).b)=52*(hc z R 0).a+26*(hc z R 0).b from a5 (by omega),show IntKind.i64.wrap (45*(hc z R 0).b)=45*(hc z R 0).b from a5 (by omega)];refine ⟨by kernel_rfl,by simp,by omega,⟨1,by omega,.inr ⟨by omega,?_,rfl⟩⟩,by decide⟩;rw [show IntKind.i64.wrap (0+1)=((1:Nat):Int) by decide]
 simp only [push_cast,↓reduceIte,zA];refine b7 (λ h=>?_) (λ h=>?_)
 ·have hi:i<6:=by simp at h; omega
  simp only [bmb i hi,bma i hi,a02,push_cast,↓reduceIte,zE,zA,zL,zD]
  repeat refine And.intro (by first | decide | omega) ?_
  rw [(in3 c.1 (zm i).1).1,(in3 c.1 (zm i).1).2,(in3 c.2 (zm i).2).1,(in3 c.2 (zm i).2).2];refine i5 (as':=[Ei.v ⟨3*z.a+(vv i).a,3*z.b+(vv i).b⟩,(d7 (12-R)).v]) rfl ?_;refine d5 (afc _ _ (l i) (n.mono (by decide)) (by rw [aw1]; exact (aw2 i f g).mono (by decide))) rfl trivial ?_;rw [aw1];have k:=aw2 i f g;unfold Ei.In at k;simp only [Ei.v,Ei.rv,azd,a2h,push_cast,↓reduceIte,zB,zE,zA,zL,zD]
  rw [show IntKind.i64.wrap (52*(hc z R i).a)=52*(hc z R i).a from a5 (by omega),show IntKind.i64.wrap (26*(hc z R i).b)=26*(hc z R i).b from a5 (by omega),show IntKind.i64.wrap (52*(hc z R i).a+26*(hc z R i).b)=52*(hc z R i).a+26*(hc z R i).b from a5 (by omega),show IntKind.i64.wrap (45*(hc z R i).b)=45*(hc z R i).b from a5 (by omega)];refine ⟨by kernel_rfl,by simp,by omega,⟨i+1,by omega,.inr ⟨by omega,?_,?_⟩⟩,?_⟩
  ·rw [show IntKind.i64.wrap ((i:Int)+1)=((i+1:Nat):Int) by rw [a5 (by omega)]; omega]
  ·rw [zdb (by rw [arf]; exact Nat.le_refl _),<- awf]; rfl
  rw [a5 (by omega)]; omega
 have hi:i=6:=by simp at h; omega
 subst hi;simp only [push_cast,↓reduceIte,zE,zA,zL,zD]
theorem a1f (k:Int) (a:0<=k/\k<6):a8 P0 137 [int .i64 k] [] ((uni k.toNat).v) []:=by
 refine af4.t func137 ?_
 have b:(IntKind.i64.wrap (Int.tmod k 6+6)).tmod 6=k:=by
  rw [zcm a.1,a5 (by omega),zcm (by omega)]; omega
 simp only [af4,b,Ei.v,Ei.rv,push_cast,↓reduceIte,reduceCtorEq,zE,zA,zD];refine ⟨by decide,by decide,a,by omega,?_⟩;rcases (show k=0\/k=1\/k=2\/k=3\/k=4\/k=5 by omega) with rfl | rfl | rfl | rfl | rfl | rfl
 all_goals
  simp only [Int.reduceToNat,Nat.zero_mul,Nat.add_zero,zcu,bdl,bdk,bdj,bdi,bdh,bdg,push_cast,zA,zD,zM]
theorem avt (z:Ei) (h:z.In 1073741824):a8 P0 100 [z.v] [] (.tup [(pr z).v,int .i64 (dg z)]) []:=by
 refine acz.t func100 ?_
 push_cast [acz,Ei.v,Ei.rv,zaa]
 have g:(z.mul ⟨3,-1⟩).In 9663676416:=(vp h (show (⟨3,-1⟩:Ei).In 3 by unfold Ei.In; decide)).mono (by decide);have n:(pr z).In 1073741824:=a30 h (by decide);have s:((pr z).mul aw).In 6442450944:=(vp n (show aw.In 2 by unfold Ei.In; decide)).mono (by decide);have k:=a79 z;refine b5 (as':=[z.v,Ei.v ⟨3,-1⟩]) rfl ?_;refine a6 (afc _ _ (h.mono (by decide)) (show (⟨3,-1⟩:Ei).In _ by unfold Ei.In; decide) (g.mono (by decide))) rfl trivial ?_
 push_cast [Ei.v,Ei.rv]
 refine b5 (as':=[(z.mul ⟨3,-1⟩).v,int .i64 7]) rfl ?_;refine a6 (ax8 _ 7 (g.mono (by decide)) (by decide)) rfl trivial ?_;rw [show (z.mul ⟨3,-1⟩).round 7=pr z from rfl]
 push_cast [Ei.v,Ei.rv]
 refine b5 (as':=[(pr z).v,aw.v]) rfl ?_;refine a6 (afc _ _ (n.mono (by decide)) (show aw.In _ by unfold Ei.In; decide) (s.mono (by decide))) rfl trivial ?_;have m:z.a-((pr z).mul aw).a=(lft z).a:=rfl;have o:z.b-((pr z).mul aw).b=(lft z).b:=rfl;unfold Ei.In at k;rw [<- m,<- o] at k
 push_cast [Ei.v,Ei.rv]
 rw [show IntKind.i64.wrap (z.a-((pr z).mul aw).a)=(lft z).a by rw [<- m]; exact a5 (by omega),show IntKind.i64.wrap (z.b-((pr z).mul aw).b)=(lft z).b by rw [<- o]; exact a5 (by omega)];rw [show dg z=al0 (lft z) from rfl];generalize lft z=l at *;generalize pr z=q at *
 refine b9 [(11,false),(10,false),(6,false),(2,false)] (λ vs pos d=>∃i:Int,(0<=i/\i<=6)/\(∀j:Nat,(j:Int)<i->uni j≠l)/\vs=[int .i64 i,.ptr 2000000 0 0,.ptr 2000001 0 0,.ptr 2000002 0 0]/\pos=[]/\d=[.box [int .i64 l.a,int .i64 l.b],.box [int .i64 q.a,int .i64 q.b],.box [int .i64 0,int .i64 0]])
  (λ vs _ _=>match vs with | .r (.v (.int _ j))::_=>(6-j).toNat | _=>0) rfl ?_ ?_
 ·push_cast
  exact ⟨0,by omega,λ j f=>by omega,rfl⟩
 rintro vs pos d ⟨i,p,f,rfl,rfl,rfl⟩
 push_cast
 refine b7 (λ h=>?_) (λ h=>?_)
 ·simp only [decide_eq_true_eq] at h
  push_cast
  refine d5 (a1f i ⟨p.1,h⟩) rfl trivial ?_
  push_cast [Ei.v,Ei.rv]
  refine ⟨by kernel_rfl,b7 (λ c=>?_) (λ c=>?_)⟩
  ·have e:uni i.toNat=l:=by
    simp only [Bool.and_eq_true,beq_iff_eq] at c;exact Ei.ext' c.1 c.2
   push_cast
   rw [<- e,azs _ (by omega),a5 (by omega),show ((i.toNat+1:Nat):Int)=i+1 by omega]
  have e:uni i.toNat≠l:=λ e=>by rw [e] at c; simp at c
  push_cast
  rw [a5 (by omega)];refine ⟨⟨i+1,by omega,λ j u=>?_,rfl⟩,by omega⟩;by_cases w:(j:Int)=i
  ·rw [show j=i.toNat by omega]; exact e
  exact f j (by omega)
 have hi:i=6:=by simp at h; omega
 subst hi
 push_cast
 rw [a2w l λ j x=>f j (by omega)]
 rfl
theorem a6r (r:Int) (z:Ei) (u:0<=r) (h:okc r.toNat z):a8 P0 99 [cel r z] [] (bl true) []:=by
 refine aip.t func99 ?_;obtain ⟨l,e,f,g⟩:=h;have d:=e;unfold Ei.In at d;have m:decide (r<0)=false:=by simp; omega
 have c2:decide (r>12)=false:=by simp; omega
 have k:decide (z.a < -1073741824)=false:=by simp; omega
 have n:decide (z.a>1073741824)=false:=by simp; omega
 have p:decide (z.b < -1073741824)=false:=by simp; omega
 have o:decide (z.b>1073741824)=false:=by simp; omega
 push_cast [aip,cel,zaa,m,c2,k,n,p,o]
 refine b9 [(4,false),(1,false),(3,false)] (λ vs pos c=>∃i:Int,(0<=i/\i<=r)/\vs=[int .i64 i,.ptr 2000000 0 0,.ptr 2000001 0 0]/\pos=[]/\c=[.box [int .i64 r,int .i64 z.a,int .i64 z.b],.box [int .i64 (anc i.toNat z).a,int .i64 (anc i.toNat z).b]])
  (λ vs _ _=>match vs with | .r (.v (.int _ j))::_=>(r-j).toNat | _=>0) rfl ?_ ?_
 ·push_cast
  exact ⟨0,by omega,rfl,rfl⟩
 rintro vs pos c ⟨i,s,rfl,rfl,rfl⟩
 push_cast
 refine b7 (λ h=>?_) (λ h=>?_)
 ·simp only [decide_eq_true_eq] at h
  push_cast
  have q:=at4 i.toNat e (by decide);refine b5 (as':=[(anc i.toNat z).v]) rfl ?_;refine a6 (avt _ q) rfl trivial ?_
  push_cast [Ei.v,Ei.rv]
  rw [show IntKind.i64.wrap (i+1)=i+1 from a5 (by omega)];refine ⟨⟨i+1,by omega,rfl,?_⟩,by omega⟩;rw [show (i+1).toNat=i.toNat+1 by omega,al7]
 have hi:i=r:=by simp at h; omega
 subst hi
 push_cast [ge_iff_le,f.1,f.2,g.1,g.2,decide_true]

end
end Go.Ev

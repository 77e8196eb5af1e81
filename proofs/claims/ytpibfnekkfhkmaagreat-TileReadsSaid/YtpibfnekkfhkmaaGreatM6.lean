import Derived.Test.YtpibfnekkfhkmaaGreatChecked
import Derived.KernelRfl
import Derived.Test.YtpibfnekkfhkmaaGreatM5
open Nat renaming reduceBEq → zB, reduceEqDiff → zE, reduceAdd → zA, reduceSub → zS, reduceLT → zL, reduceLeDiff → zD, reduceMul → zM
open Go.Proofs.Tryz renaming prog → P0
open Go.Proofs.Tryz
open List renaming length_nil → zaa, append_nil → zaf, length_append → zal, range_zero → zao, length_cons → zar, length_map → zas, map_cons → zat, map_nil → zau, getD_cons_zero → zav, getD_cons_succ → zaw, take_succ_cons → zax, take_zero → zay, drop_succ_cons → zaz, drop_zero → zba, cons_append → zbb, nil_append → zbc, all_cons → zbd, all_nil → zbe, contains_cons → zbl, contains_nil → zbm, filter_cons → zbn, filter_nil → zbo, getElem?_cons_zero → zbr, getElem?_cons_succ → zbs, getElem?_nil → zbt, take_nil → zbu, drop_nil → zbv, take_of_length_le → zdb
open Nat renaming pow_add → zab, mul_assoc → zae, pow_le_pow_right → zam, reduceEqDiff → zbx, reduceAdd → zby, reduceSub → zbz, reduceLT → zca, reduceLeDiff → zcb, reduceMul → zcc, add_mul → zce, pow_pos → zcf, mul_le_mul → zch, pow_succ → zcn, mul_comm → zco, or_comm → zcp, or_assoc → zcq, add_mul_div_right → zct, zero_add → zcu, div_eq_of_lt → zcx, testBit_two_pow_mul_add → zcy, div_div_eq_div_mul → zda, testBit_lt_two_pow → zdc
open Int renaming emod_lt_of_pos → zac, emod_nonneg → zad, mul_comm → zcd, lt_or_le → zci, mul_add → zcj, pow_succ → zck, one_mul → zcl, tmod_eq_emod_of_nonneg → zcm, natAbs_mul → zcr, mul_nonneg → zcs, mul_ediv_add_emod → zcv, mul_le_mul_of_nonneg_right → zcw
open Bool renaming and_true → zah, true_and → zai, or_false → zaj, not_false → zak, false_and → zbf, and_self → zbg, or_true → zbh, true_or → zbi, false_or → zbj, not_true → zbk, false_eq_true → zbw
open BitVec renaming ofInt → zan, ofNat → zcg, toNat_ofNat → zcz
open Option renaming getD_some → zap, getD_none → zaq, map_some → zbp, map_none → zbq
namespace Go.Ev
set_option maxRecDepth 100000
noncomputable section
open Go
set_option linter.unusedSectionVars false
set_option linter.unnecessarySimpa false
set_option linter.unusedVariables false
def auz:Mk P0 f176:={ x:=_ }
theorem awx:b8 176 2 auz:=b7 func176
def auv:Mk P0 f246:={ x:=_ }
theorem awt:b8 246 2 auv:=b7 func246
def aux:Mk P0 f231:={ x:=_ }
theorem awv:b8 231 1 aux:=b7 func231
def arj:Mk P0 f247:={ x:=_ }
theorem auu:b8 247 1 arj:=b7 func247
def anw:Mk P0 f191:={ x:=_ }
theorem aq7:b8 191 2 anw:=b7 func191
def auy:Mk P0 f233:={ x:=_ }
theorem aww:b8 233 2 auy:=b7 func233
def ao1:Mk P0 f135:={ x:=_ }
theorem asw:b8 135 2 ao1:=b7 func135
def sm (x:Int):AV:=.tup [int .i64 (if in64 x then x else 0),bl (decide (in64 x))]
theorem rn {x y:Int} (h:x=y) (hx:in64 y):AV.tup [int .i64 x,bl true]=sm y:=by simp [sm,hx,h]
theorem amc {y:Int} (hx:¬in64 y):AV.tup [int .i64 0,bl false]=sm y:=by simp [sm,hx]
theorem bk0 (n:Nat):(n:Int).fdiv (2^min (Int.toNat 32) IntKind.u64.bits)=((n/4294967296:Nat):Int):=by
 have:(2:Int)^min (Int.toNat 32) IntKind.u64.bits=4294967296:=by decide
 rw [this,Int.fdiv_eq_ediv_of_nonneg _ (by decide)];omega
theorem bkn (n:Nat):IntKind.u64.wrap (n:Int)=((n%18446744073709551616:Nat):Int):=by
 rw [IntKind.wrap_u64]; omega
theorem bl9 (n:Nat):(zan IntKind.u64.bits (n:Int) &&& zan IntKind.u64.bits 4294967295).toNat=n%4294967296:=by
 have h1:zan IntKind.u64.bits (n:Int)=zcg 64 n:=by simp [IntKind.bits]
 have h2:zan IntKind.u64.bits 4294967295=zcg 64 (2^32-1):=rfl;rw [h1,h2];show (zcg 64 n &&& zcg 64 (2^32-1)).toNat = _;rw [BitVec.toNat_and,zcz,zcz,show (2^32-1)%2^64=2^32-1 by decide,Nat.and_two_pow_sub_one_eq_mod];omega
theorem a8n {x y a b c d:Nat} (hx:x=a*4294967296+b) (hy:y=c*4294967296+d):x*y=(a*c)*18446744073709551616+(a*d+b*c)*4294967296+b*d:=by
 subst hx; subst hy;rw [zce,Nat.mul_add,Nat.mul_add]
 have e1:a*4294967296*(c*4294967296)=(a*c)*18446744073709551616:=by
  rw [Nat.mul_mul_mul_comm]
 have e2:a*4294967296*d=(a*d)*4294967296:=Nat.mul_right_comm _ _ _;have e3:b*(c*4294967296)=(b*c)*4294967296:=(zae _ _ _).symm;rw [e1,e2,e3];omega
theorem ai5 {a b:Nat} (ha:a<4294967296) (hb:b<4294967296):a*b≤18446744065119617025:=by
 have:a*b≤4294967295*4294967295:=zch (by omega) (by omega);omega
theorem a6d (a b:Int) (ha:in64 a) (hb:in64 b):a8 P0 176 [int .i64 a,int .i64 b] [] (sm (a+b)) []:=by
 refine awx rfl (by decide) ?_
 push_cast [auz,zaa]
 unfold in64 at ha hb;refine b6 (fun h=>?_) (fun h=>?_)
 ·push_cast
  refine amc ?_;rw [IntKind.wrap_i64] at h;unfold in64; by_cases h1:(a+b+9223372036854775808)%18446744073709551616-9223372036854775808>a<;>by_cases h2:b>0<;>by_cases h3:b=0<;>simp only [h1,h2,h3,decide_true,decide_false] at h<;>first | omega | (simp at h; done) | (simp at h; omega)
 ·push_cast
  rw [IntKind.wrap_i64] at h ⊢
  have:in64 (a+b):=by
   unfold in64; by_cases h1:(a+b+9223372036854775808)%18446744073709551616-9223372036854775808>a<;>by_cases h2:b>0<;>by_cases h3:b=0<;>simp only [h1,h2,h3,decide_true,decide_false] at h<;>first | omega | (simp at h; done) | (simp at h; omega)
  exact rn (by unfold in64 at this; omega) this
theorem a4u (a b:Int) (ha:in64 a) (hb:in64 b):a8 P0 246 [int .i64 a,int .i64 b] [] (sm (a-b)) []:=by
 refine awt rfl (by decide) ?_
 push_cast [auv,zaa]
 unfold in64 at ha hb;refine b6 (fun h=>?_) (fun h=>?_)
 ·push_cast
  refine amc ?_;rw [IntKind.wrap_i64] at h;unfold in64; by_cases h1:(a-b+9223372036854775808)%18446744073709551616-9223372036854775808<a<;>by_cases h2:b>0<;>by_cases h3:b=0<;>simp only [h1,h2,h3,decide_true,decide_false] at h<;>first | omega | (simp at h; done) | (simp at h; omega)
 ·push_cast
  rw [IntKind.wrap_i64] at h ⊢
  have:in64 (a-b):=by
   unfold in64; by_cases h1:(a-b+9223372036854775808)%18446744073709551616-9223372036854775808<a<;>by_cases h2:b>0<;>by_cases h3:b=0<;>simp only [h1,h2,h3,decide_true,decide_false] at h<;>first | omega | (simp at h; done) | (simp at h; omega)
  exact rn (by unfold in64 at this; omega) this
theorem blc (a:Int) (ha:in64 a):a8 P0 231 [int .i64 a] [] (sm (-a)) []:=by
 refine awv rfl (by decide) ?_
 push_cast [aux,zaa]
 refine a6 (a4u 0 a (by decide) ha) rfl trivial ?_
 push_cast [sm]
 simp
theorem a61 (a:Int) (ha:in64 a):a8 P0 247 [int .i64 a] [] (int .u64 a.natAbs) []:=by
 refine auu rfl (by decide) ?_
 push_cast [arj,zaa]
 unfold in64 at ha;refine b6 (fun h=>?_) (fun h=>?_)
 ·push_cast
  simp at h;rw [IntKind.wrap_u64,IntKind.wrap_u64];congr 3;omega
 ·push_cast
  simp at h;rw [IntKind.wrap_u64];congr 3;omega
theorem awy (x y:Nat) (hx:x<18446744073709551616) (hy:y<18446744073709551616):a8 P0 191 [int .u64 x,int .u64 y] [] (.tup [int .u64 (x*y/18446744073709551616:Nat),int .u64 (x*y%18446744073709551616:Nat)]) []:=by
 refine aq7 rfl (by decide) ?_;simp only [anw,push_cast,↓reduceIte,reduceCtorEq,zE,zA];refine ⟨by decide,by decide,by decide,by decide,by decide,?_⟩;simp only [bk0,bl9,bkn,← Int.natCast_mul,← Int.natCast_add];have hm:∀n:Nat,n%4294967296%18446744073709551616=n%4294967296:=fun n=>by omega
 simp only [hm];have key:=a8n (x:=x) (y:=y) (a:=x/4294967296) (b:=x%4294967296) (c:=y/4294967296) (d:=y%4294967296) (by omega) (by omega);have b1:=ai5 (a:=x/4294967296) (b:=y/4294967296) (by omega) (by omega);have b2:=ai5 (a:=x/4294967296) (b:=y%4294967296) (by omega) (by omega);have b3:=ai5 (a:=x%4294967296) (b:=y/4294967296) (by omega) (by omega);have b4:=ai5 (a:=x%4294967296) (b:=y%4294967296) (by omega) (by omega);generalize x/4294967296*(y/4294967296)=p at *;generalize x/4294967296*(y%4294967296)=q at *;generalize x%4294967296*(y/4294967296)=r at *;generalize x%4294967296*(y%4294967296)=t at *;rw [key];congr 5;omega

theorem blf (a b:Int) (ha:in64 a) (hb:in64 b):a8 P0 233 [int .i64 a,int .i64 b] [] (sm (a*b)) []:=by
 refine aww rfl (by decide) ?_;have ha':=ha;have hb':=hb;unfold in64 at ha' hb'
 simp only [auy,zaa,uh,uj,oe,kp,ua,ug,nz,ja,pi,iz,aac,ku,agj,agk,af4,yes,PO.see,Vs.q,AV.bare,AV.may,m7,cn,pq,o4,ju,af,n7,o9,x8,imV,imL,obs,↓reduceIte,true_and,and_self,zaa,zaf,reduceCtorEq,zby]
 refine a6 (a61 a ha) rfl trivial ?_
 simp only [kp,ua,ug,nz,ja,pi,iz,abj,aac,ku,agj,af4,yes,PO.see,Vs.q,AV.bare,AV.may,m7,cn,o4,ju,af,n7,o9,x8,dy,imV,imL,↓reduceIte,true_and,and_self,zaf,reduceCtorEq,zbx]
 refine a6 (a61 b hb) rfl trivial ?_
 simp only [kp,nz,ja,pi,iz,abj,aac,ku,agj,yes,AV.bare,AV.may,m7,cn,o4,ju,af,n7,o9,x8,dy,imV,imL,↓reduceIte,true_and,and_self,zaf,zbx]
 refine a6 (awy a.natAbs b.natAbs (by omega) (by omega)) rfl trivial ?_
 simp only [uh,uj,oe,kp,ua,ug,abj,od,ko,aac,ku,agj,agk,af4,af3,yes,agu,PO.see,Vs.q,AV.bare,AV.may,ac6,ahp,ac7,uq,un1,ac0,dy,imV,imL,pp,lq,↓reduceIte,true_and,and_self,true_implies,imp_self,zar,zaa,zav,zaw,reduceCtorEq,zbx,zby,zca]
 have hab:a.natAbs*b.natAbs=(a*b).natAbs:=(zcr a b).symm;rw [hab];have hle:(a*b).natAbs≤9223372036854775808*9223372036854775808:=by rw [← hab]; exact zch (by omega) (by omega)
 have hs:(a<0∧b<0→0<a*b)∧(a<0∧0≤b→a*b≤0)∧(0≤a∧b<0→a*b≤0)∧(0≤a∧0≤b→0≤a*b):=
  ⟨fun h=>Int.mul_pos_of_neg_of_neg h.1 h.2,fun h=>Int.mul_nonpos_of_nonpos_of_nonneg (by omega) h.2,fun h=>Int.mul_nonpos_of_nonneg_of_nonpos h.1 (by omega),fun h=>zcs h.1 h.2⟩
 clear hab;generalize a*b=m at *
 repeat refine And.intro (by simp +contextual) ?_
 refine b6 (fun h=>?_) (fun h=>?_)
 ·simp only [uh,uj,oe,kp,ua,ug,ui,to,il,afq,vj,ut,ur,aac,ku,agk,af4,aam,ajs,va,iw,iv,yes,PO.see,Vs.q,AV.bare,AV.may,freeze,y8,qr,vt,aey,up,af,n7,o9,imV,imL,cz,aaq,nn,si,↓reduceIte,true_and,and_true,and_self,zat,zau,zaf,zbo,zbx,zby]
  refine amc ?_;unfold in64;by_cases h1:m.natAbs/18446744073709551616=0<;>by_cases h2:m.natAbs%18446744073709551616=9223372036854775808<;>by_cases h3:a<0<;>by_cases h4:b<0<;>simp [h1,h2,h3,h4] at h<;>omega
 ·have hm:m.natAbs≤9223372036854775808∧(m.natAbs=9223372036854775808→(a<0∧0≤b)∨(0≤a∧b<0)):=by
   by_cases h1:m.natAbs/18446744073709551616=0<;>by_cases h2:m.natAbs%18446744073709551616=9223372036854775808<;>by_cases h3:a<0<;>by_cases h4:b<0<;>simp [h1,h2,h3,h4] at h<;>omega
  clear h
  simp only [uh,uj,oe,kp,ua,ug,od,aac,ku,agj,af4,yes,PO.see,Vs.q,AV.bare,AV.may,↓reduceIte,true_and,and_self,zbx]
  refine b6 (fun h'=>?_) (fun h'=>?_)
  ·simp only [uh,uj,oe,kp,ua,ug,ui,to,il,afq,vj,ut,ur,aac,ku,agj,agk,af4,aam,ajs,va,iw,iv,yes,PO.see,Vs.q,AV.bare,AV.may,un1,ve,freeze,y8,qr,vt,aey,up,af,n7,o9,imV,imL,cz,aaq,nn,si,↓reduceIte,true_and,and_true,and_self,zat,zau,zaf,zbo,zbx,zby]
   have hn:m≤0:=by by_cases h3:a<0<;>by_cases h4:b<0<;>simp [h3,h4] at h'<;>omega
   refine rn ?_ ?_
   ·rw [IntKind.wrap_i64,IntKind.wrap_i64];omega
   ·unfold in64; omega
  ·simp only [oa,uh,uj,oe,kp,ua,ug,ui,uo,to,vj,ut,ur,aac,ku,agj,agk,af4,aam,ajs,va,iw,iv,yes,PO.see,Vs.q,AV.bare,AV.may,ve,freeze,y8,qr,vt,aey,up,af,n7,o9,imV,imL,cz,aaq,nn,si,↓reduceIte,true_and,and_true,and_self,zat,zau,zaf,zbo,zbx,zby]
   have hn:0≤m∧m.natAbs≠9223372036854775808:=by by_cases h3:a<0<;>by_cases h4:b<0<;>simp [h3,h4] at h'<;>omega
   refine rn ?_ ?_
   ·rw [IntKind.wrap_i64];omega
   ·unfold in64; omega
theorem a4r {a b c a' b' c':AV} (h1:a=a') (h2:b=b') (h3:c=c'):AV.tup [a,b,c]=AV.tup [a',b',c']:=by rw [h1,h2,h3]
theorem adz {k:IntKind} {a b:Int} (h:a=b):int k a=int k b:=by rw [h]
theorem azm {a b:Bool} (h:a=b):bl a=bl b:=by rw [h]
theorem aro {a b:Int} (ha:in64 a) (hb:0<b):(-9223372036854775808≤a/b∧a/b≤9223372036854775807)∧(a.tmod b<0→a.tdiv b-1=a/b∧a.tmod b+b=a%b)∧(0≤a.tmod b→a.tdiv b=a/b∧a.tmod b=a%b):=by
 unfold in64 at ha;have h1:=Int.mul_tdiv_add_tmod a b;have h2:a.tmod b<b:=Int.tmod_lt_of_pos a hb
 have h3:-b<a.tmod b:=by
  have:=Int.lt_tmod_of_pos a hb;omega
 refine ⟨?_,fun h=>?_,fun h=>?_⟩
 ·have h4:=zcv a b;have h5:=zac a hb;have h6:=zad a (show b≠0 by omega);generalize a/b=q at *;generalize a%b=r at *;constructor
  ·rcases zci q 0 with hq | hq
   ·have:b*(q+1)≤1*(q+1):=Int.mul_le_mul_of_nonpos_right (by omega) (by omega);rw [zcj] at this;omega
   ·omega
  ·rcases zci q 0 with hq | hq
   ·omega
   ·have:1*q≤b*q:=zcw (by omega) hq;omega
 ·have:=(Int.ediv_emod_unique (a:=a) (b:=b) (r:=a.tmod b+b) (q:=a.tdiv b-1) hb).2 ⟨by rw [Int.mul_sub]; omega,by omega,by omega⟩;exact ⟨this.1.symm,this.2.symm⟩
 ·have:=(Int.ediv_emod_unique (a:=a) (b:=b) (r:=a.tmod b) (q:=a.tdiv b) hb).2 ⟨by omega,by omega,by omega⟩;exact ⟨this.1.symm,this.2.symm⟩
theorem qn (a b:Int) (ha:in64 a) (hb:in64 b):a8 P0 135 [int .i64 a,int .i64 b] [] (.tup [int .i64 (if 0<b then a/b else 0),int .i64 (if 0<b then a%b else 0),bl (decide (0<b))]) []:=by
 refine asw rfl (by decide) ?_
 push_cast [ao1,zaa]
 refine b6 (fun h=>?_) (fun h=>?_)
 ·push_cast
  simp at h;have:¬0<b:=by omega
  simp [this]
 ·push_cast
  simp at h;refine ⟨by omega,by omega,by kernel_rfl,?_⟩;obtain ⟨q1,q2,q3⟩:=aro ha h;have hw:IntKind.i64.wrap (a.tdiv b)=a.tdiv b:=wrap_i64_tdiv a b ha.1 ha.2 (by omega);rw [hw];refine b6 (fun h'=>?_) (fun h'=>?_)
  ·push_cast
   simp at h';obtain ⟨e1,e2⟩:=q2 h';refine a4r (adz ?_) (adz ?_) (azm ?_)
   ·rw [if_pos h,← e1,a5];unfold in64 at ha; rw [e1]; omega
   ·rw [if_pos h,← e2,a5];have h5:=zac a h;have h6:=zad a (show b≠0 by omega);rw [e2];unfold in64 at hb; omega
   ·simp [h]
  ·push_cast
   simp at h';obtain ⟨e1,e2⟩:=q3 h';refine a4r (adz ?_) (adz ?_) (azm ?_)
   ·rw [if_pos h,e1]
   ·rw [if_pos h,e2]
   ·simp [h]

def aji:Mk P0 f229:={ x:=_ }
theorem an0:b8 229 1 aji:=b7 func229
def vl:PC:=
  (.seq (.reg [p_a 2 (.box (.t 0)),p_a 3 (.box (.t 1)),p_a 4 (.new [(.r (.v (.int .u64 0))),(.r (.v (.int .u64 0)))])])
 (.seq (.reg [p_s 10 (.fa 1 (.t 2)),p_s 11 (.ld none (.t 10)),p_s 12 (.fa 1 (.t 3)),p_s 13 (.ld none (.t 12)),p_s 14 (.carry false (.t 11) (.t 13) (.c (.r (.v (.int .u64 0))))),
 p_m 9 14,p_s 15 (.ext (.t 9) 0),p_s 16 (.ext (.t 9) 1),p_m 5 15,p_m 6 16])
 (.seq (.reg [p_s 18 (.fa 0 (.t 2)),p_s 19 (.ld none (.t 18)),p_s 20 (.fa 0 (.t 3)),p_s 21 (.ld none (.t 20)),p_m 22 6,p_s 23 (.carry false (.t 19) (.t 21) (.t 22)),p_m 17 23,
 p_s 24 (.ext (.t 17) 0),p_s 25 (.ext (.t 17) 1),p_m 7 24,p_m 8 25])
 (.seq (.reg [p_m 26 7,p_m 27 5,p_s 28 (.build [(.r (.v (.int .u64 0))),(.r (.v (.int .u64 0)))] [(0,1,(.t 26)),(1,1,(.t 27))]),⟨none,none,0,.act (.st 2 (.t 4) (.t 28))⟩])
 .ret))))
theorem aem:Fun P0 153 2 [(4,false,some (221,(some 2)))] vl:=ad1 func153 rfl (by decide) (by kernel_rfl) (by decide) rfl (by kernel_rfl) (by kernel_rfl) (by decide)
def ri:Mk P0 f154:={ x:=_ }
theorem abk:b8 154 1 ri:=b7 func154
def ab5:Mk P0 f151:={ x:=_ }
theorem ain:b8 151 2 ab5:=b7 func151
def ta:Mk P0 f186:={ x:=_ }
theorem ac9:b8 186 1 ta:=b7 func186
def n8 (x:Int):AV:=.r (.agg [.v (.int .u64 (x/18446744073709551616%18446744073709551616)),.v (.int .u64 (x%18446744073709551616))])
theorem qh {x a b:Int} (h1:a=x/18446744073709551616%18446744073709551616) (h2:b=x%18446744073709551616):AV.r (.agg [.v (.int .u64 a),.v (.int .u64 b)])=n8 x:=by rw [h1,h2]; rfl
theorem bkz (a:Int) (ha:in64 a):a.fdiv (2^min (Int.toNat 63) IntKind.i64.bits)=if a<0 then -1 else 0:=by
 have:(2:Int)^min (Int.toNat 63) IntKind.i64.bits=9223372036854775808:=by decide
 rw [this,Int.fdiv_eq_ediv_of_nonneg _ (by decide)];unfold in64 at ha;split<;>omega
theorem w_t (a:Int) (ha:in64 a):a8 P0 229 [int .i64 a] [] (n8 a) []:=by
 refine an0 rfl (by decide) ?_;simp only [aji,push_cast,↓reduceIte,reduceCtorEq,zE,zA,zD];refine ⟨by decide,qh ?_ ?_⟩
 ·rw [bkz a ha,IntKind.wrap_u64];unfold in64 at ha;split<;>omega
 ·rw [IntKind.wrap_u64]
theorem bdm {x:Int} (h0:0≤x) (h1:x<18446744073709551616):IntKind.u64.wrap ((zan IntKind.u64.bits (if IntKind.u64.signed=true then -1 else IntKind.u64.max) ^^^ zan IntKind.u64.bits x).toNat)=18446744073709551615-x:=by
 obtain ⟨n,rfl⟩:=Int.eq_ofNat_of_zero_le h0;have e1:zan IntKind.u64.bits (if IntKind.u64.signed=true then -1 else IntKind.u64.max)=BitVec.allOnes 64:=by rfl
 have e2:zan IntKind.u64.bits (n:Int)=zcg 64 n:=by simp [IntKind.bits]
 rw [e1,e2];show IntKind.u64.wrap ((BitVec.allOnes 64 ^^^ zcg 64 n).toNat:Int) = _;rw [BitVec.allOnes_xor,BitVec.toNat_not,zcz,IntKind.wrap_u64];omega
theorem aop (a b:Int):a8 P0 153 [n8 a,n8 b] [] (n8 (a+b)) []:=by
 refine aem rfl (by decide) ?_
 push_cast [vl,n8,zaa]
 refine ⟨by omega,by omega,qh (by omega) (by omega)⟩
theorem awd (a:Int) (h:-170141183460469231731687303715884105728≤a∧a<170141183460469231731687303715884105728):a8 P0 186 [n8 a] [] (sm a) []:=by
 refine ac9 rfl (by decide) ?_
 push_cast [ta,n8,zaa]
 rw [IntKind.wrap_i64];refine b9 (w_t _ (by unfold in64; omega)) rfl trivial ?_
 push_cast [n8]
 refine ⟨by kernel_rfl,?_⟩;refine b6 (fun h=>?_) (fun h=>?_)
 ·push_cast
  refine amc ?_;unfold in64;simp at h;omega
 ·push_cast
  simp at h;refine rn ?_ ?_
  ·omega
  ·unfold in64; omega
theorem al8 (a:Int):a8 P0 154 [n8 a] [] (n8 (-a)) []:=by
 refine abk rfl (by decide) ?_
 push_cast [ri,n8,zaa]
 rw [bdm (by omega) (by omega),bdm (by omega) (by omega)];refine b5 (as':=[n8 (-1-a),n8 1]) ?_ ?_
 ·congr 1
  ·exact qh (by omega) (by omega)
 ·refine a6 (aop (-1-a) 1) rfl trivial ?_
  push_cast [n8]
  exact qh (by omega) (by omega)
theorem azq (a:Int) (ha:in64 a):(a<0→IntKind.u64.wrap (0-IntKind.u64.wrap a)=a.natAbs)∧(¬a<0→IntKind.u64.wrap a=a.natAbs):=by
 unfold in64 at ha;rw [IntKind.wrap_u64,IntKind.wrap_u64];omega
theorem acg (a b:Int) (ha:in64 a) (hb:in64 b):a8 P0 151 [int .i64 a,int .i64 b] [] (n8 (a*b)) []:=by
 refine ain rfl (by decide) ?_;have ha':=ha;have hb':=hb;unfold in64 at ha' hb';obtain ⟨wa1,wa2⟩:=azq a ha;obtain ⟨wb1,wb2⟩:=azq b hb;have hab:a.natAbs*b.natAbs=(a*b).natAbs:=(zcr a b).symm;have hle:(a*b).natAbs≤9223372036854775808*9223372036854775808:=by rw [← hab]; exact zch (by omega) (by omega)
 have hs:(a<0∧b<0→0<a*b)∧(a<0∧0≤b→a*b≤0)∧(0≤a∧b<0→a*b≤0)∧(0≤a∧0≤b→0≤a*b):=
  ⟨fun h=>Int.mul_pos_of_neg_of_neg h.1 h.2,fun h=>Int.mul_nonpos_of_nonpos_of_nonneg (by omega) h.2,fun h=>Int.mul_nonpos_of_nonneg_of_nonpos h.1 (by omega),fun h=>zcs h.1 h.2⟩
 push_cast [ab5,zaa]
 refine b6 (fun h1=>?_) (fun h1=>?_)<;>push_cast<;>refine b6 (fun h2=>?_) (fun h2=>?_)<;>push_cast
 all_goals
  simp only [decide_eq_true_eq,decide_eq_false_iff_not] at h1 h2;refine b5 (as':=[int .u64 a.natAbs,int .u64 b.natAbs]) (by first | rw [wa1 h1,wb1 h2] | rw [wa1 h1,wb2 h2] | rw [wa2 h1,wb1 h2] | rw [wa2 h1,wb2 h2]) ?_;refine a6 (awy a.natAbs b.natAbs (by omega) (by omega)) rfl trivial ?_;rw [hab]
  push_cast [h1,h2,Bool.true_beq,Bool.false_beq]
  generalize a*b=m at *
 ·exact qh (by omega) (by omega)
 ·refine b5 (as':=[n8 (-m)]) (by congr 1; exact qh (by omega) (by omega)) ?_;refine a6 (al8 (-m)) rfl trivial ?_
  push_cast [n8]
  exact qh (by omega) (by omega)
 ·refine b5 (as':=[n8 (-m)]) (by congr 1; exact qh (by omega) (by omega)) ?_;refine a6 (al8 (-m)) rfl trivial ?_
  push_cast [n8]
  exact qh (by omega) (by omega)
 ·exact qh (by omega) (by omega)

def ao0:Mk P0 f232:={ x:=_ }
theorem asv:b8 232 3 ao0:=b7 func232
def auw:Mk P0 f196:={ x:=_ }
theorem awu:b8 196 2 auw:=b7 func196
def afk:Mk P0 f136:={ x:=_ }
theorem alu:b8 136 2 afk:=b7 func136
theorem bai (x a:Int) (y:Bool) (hx:in64 x) (ha:in64 a):a8 P0 232 [.ptr 1000000 0 0,.ptr 1000001 0 0,.ptr 1000002 0 0] [.box [int .i64 x],.box [int .i64 a],.box [bl y]] (.tup [])
  [.box [int .i64 (if in64 (x*a) then x*a else 0)],.box [int .i64 a],.box [bl (decide (in64 (x*a)))]]:=by
 refine asv rfl (by simp) ?_
 push_cast [ao0,zaa]
 refine a6 (blf x a hx ha) rfl trivial ?_
 push_cast [sm]
theorem a76 {a:Int} (h1:-1≤a) (h2:a≤1) (n:Nat):a^(min n (2-n%2))=a^n:=by
 have key:∀m:Nat,1≤m→a^(m+2)=a^m:=fun m hm=>by
  have:a=-1∨a=0∨a=1:=by omega
  rcases this with rfl | rfl | rfl
  ·rw [zck,zck]; omega
  ·rw [Int.zero_pow (by omega),Int.zero_pow (by omega)]
  ·rw [Int.one_pow,Int.one_pow]
 induction n using Nat.strongRecOn with
 | ind n ih=>
  rcases (show n=0∨n=1∨n=2∨3≤n by omega) with h | h | h | h
  ·subst h; rfl
  ·subst h; rfl
  ·subst h; rfl
  ·have:=ih (n-2) (by omega);have e:=key (n-2) (by omega);rw [show n-2+2=n by omega] at e;rw [e,← this];congr 1;omega
theorem a3d {x a T:Int} {n:Nat} (hx1:-1≤a∧a≤1→-1≤x∧x≤1) (hx:in64 x) (ha:in64 a) (h:¬in64 (x*a)) (hT:x*a*a^n=T):¬in64 T:=by
 have h4:¬(-1≤a∧a≤1):=fun hs=>by
  have:=hx1 hs;have h4:a=-1∨a=0∨a=1:=by omega
  apply h;unfold in64;rcases h4 with rfl | rfl | rfl<;>omega
 have h5:2≤a.natAbs:=by omega
 have h6:9223372036854775808≤(x*a).natAbs:=by unfold in64 at h; omega
 have h7:T.natAbs=(x*a).natAbs*a.natAbs^n:=by rw [← hT,zcr,Int.natAbs_pow]
 cases n with
 | zero=>
  simp at hT;rw [← hT]; exact h
 | succ n=>
  have h8:2≤a.natAbs^(n+1):=Nat.le_trans h5 (Nat.le_self_pow (by omega) _);have h9:9223372036854775808*2≤(x*a).natAbs*a.natAbs^(n+1):=zch h6 h8;rw [← h7] at h9;unfold in64;omega
theorem bdf (a k:Int) (ha:in64 a) (hk:in64 k):a8 P0 196 [int .i64 a,int .i64 k] [] (if k<0 then .tup [int .i64 0,bl false] else sm (a^k.toNat)) []:=by
 refine awu rfl (by decide) ?_;simp only [auw,push_cast,↓reduceIte,reduceCtorEq,zE,zA];refine b6 (fun h1=>?_) (fun h1=>?_)
 ·simp only [decide_eq_true_eq] at h1;simp only [if_pos h1,push_cast,↓reduceIte,zE,zA]
 ·simp only [decide_eq_false_iff_not] at h1;simp only [if_neg h1,push_cast,↓reduceIte,zE,zA,zL];generalize hT:a^k.toNat=T;refine am4 (fun e ob=>∃k',e 1=int .i64 k'∧e 2=.ptr 2 0 0∧0≤k'∧in64 k'∧a^k'.toNat=T∧(a=-1∨a=0∨a=1→k'≤2)∧ob=upd 2 (0,.box [int .i64 a]) (fun _=>none)) ?_ (fun h2=>?_) (fun h2=>?_)
  ·rintro e ob ⟨k',he1,he2,hk0,hk1,hkT,hk3,rfl⟩;simp only [he2,push_cast,↓reduceIte,zE,zA,zD]
   refine run_loop [(1,false),(6,false),(2,false),(7,false),(8,false)] (fun vs pos los=>∃(j x:Int) (y:Bool),0≤j∧in64 j∧in64 x∧(y=true→x*a^j.toNat=T)∧(y=false→x=0∧¬in64 T)∧(-1≤a∧a≤1→-1≤x∧x≤1) ∧
    vs=[int .i64 j,.ptr 2000000 0 0,.ptr 2000001 0 0,.ptr 2000002 0 0,.fn (.func 232) [.ptr 2000000 0 0,.ptr 2000001 0 0,.ptr 2000002 0 0]]∧pos=[]∧los=[.box [int .i64 x],.box [int .i64 a],.box [bl y]])
    (fun vs _ _=>match vs with | .r (.v (.int _ j))::_=>j.toNat | _=>0) rfl ?_ ?_
   ·simp only [he1,he2,push_cast,↓reduceIte,zB,zE,zA,zL,zD];exact ⟨k',1,true,hk0,hk1,by decide,fun _=>by rw [zcl,hkT],by simp,fun _=>by decide,rfl,rfl⟩
   ·rintro vs pos los ⟨j,x,y,j0,j1,x0,hy1,hy2,hx1,rfl,rfl,rfl⟩;simp only [push_cast,↓reduceIte,zE,zA,zL];refine b6 (fun h=>?_) (fun h=>?_)
    ·have hj:0<j:=by
      rcases zci 0 j with h' | h'
      ·exact h'
      ·simp [show ¬j>0 by omega] at h
     have hy:y=true:=by simpa [hj] using h
     simp only [push_cast,↓reduceIte,zB,zE,zA];refine ⟨by kernel_rfl,?_⟩;refine a6 (bai x a y x0 ha) rfl ⟨rfl,rfl,rfl,trivial⟩ ?_;simp only [push_cast,↓reduceIte,zB,zE,zA,zL,zD];have hw:IntKind.i64.wrap (j-1)=j-1:=a5 (by unfold in64 at j1; omega);rw [hw];have hjn:j.toNat=(j-1).toNat+1:=by omega
     have hT':x*a*a^(j-1).toNat=T:=by
      rw [← hy1 hy,hjn,zck,Int.mul_assoc,zcd a]
     refine ⟨⟨j-1,_,_,by omega,by unfold in64 at j1 ⊢; omega,?_,?_,?_,?_,rfl,rfl⟩,by omega⟩
     ·split
      ·assumption
      ·decide
     ·intro hd;rw [if_pos (of_decide_eq_true hd)];exact hT'
     ·intro hd;have hd:=of_decide_eq_false hd;rw [if_neg hd];refine ⟨rfl,?_⟩;exact a3d hx1 x0 ha hd hT'
     ·intro hs;have:=hx1 hs;have h4:a=-1∨a=0∨a=1:=by omega
      split
      ·rcases h4 with rfl | rfl | rfl<;>omega
      ·omega
    ·simp only [push_cast,↓reduceIte,zE,zA,zL];refine ⟨by kernel_rfl,?_⟩;cases y with
     | true=>
      have hj:j=0:=by
       rcases zci 0 j with h' | h'
       ·simp [h'] at h
       ·omega
      subst hj;have:=hy1 rfl;simp at this;subst this;exact rn rfl x0
     | false=>
      obtain ⟨rfl,hn⟩:=hy2 rfl;exact amc hn
  ·simp only [push_cast,↓reduceIte,reduceCtorEq,zE]
   have h4:a=-1∨a=0∨a=1:=by
    by_cases p:a≥-1<;>by_cases q:a≤1<;>simp [p,q] at h2<;>omega
   have e0:k.tmod 2=k%2:=by
    rw [zcm (by omega)]
   have ew:IntKind.i64.wrap (2-k.tmod 2)=2-k%2:=by rw [e0]; exact a5 (by omega)
   rw [ew];refine ⟨by decide,min k (2-k%2),rfl,by omega,by unfold in64 at *; omega,?_,by omega⟩;rw [show (min k (2-k%2)).toNat=min k.toNat (2-k.toNat%2) by omega,a76 (by omega) (by omega),hT]
  ·simp only [push_cast,↓reduceIte,reduceCtorEq,zE];refine ⟨k,rfl,by omega,hk,hT,fun h=>?_⟩;rcases h with rfl | rfl | rfl<;>simp at h2

theorem ba9 {a:Int} (h:-1≤a∧a≤1) (n:Nat):-1≤a^n∧a^n≤1:=by
 induction n with
 | zero=>simp
 | succ n ih=>
  rw [zck];have:a=-1∨a=0∨a=1:=by omega
  rcases this with rfl | rfl | rfl<;>omega
theorem ap6 (n:Nat):(-1:Int)^n=if n%2=1 then -1 else 1:=by
 induction n with
 | zero=>rfl
 | succ n ih=>
  rw [zck,ih];split<;>split<;>omega
theorem big (a k:Int) (ha:in64 a) (hk:in64 k):a8 P0 136 [int .i64 a,int .i64 k] [] (if k<0 then .tup [int .i64 0,bl false] else sm (a^k.toNat)) []:=by
 refine alu rfl (by decide) ?_;simp only [afk,push_cast,↓reduceIte,reduceCtorEq,zE,zA];refine b6 (fun h1=>?_) (fun h1=>?_)
 ·simp only [decide_eq_true_eq] at h1;simp only [if_pos h1,push_cast,↓reduceIte,zE,zA]
 ·simp only [decide_eq_false_iff_not] at h1;simp only [if_neg h1,push_cast]
  refine run_loop [(0,false),(1,false),(6,false),(7,false)] (fun vs pos los=>∃(n i:Int),0≤i∧i≤k∧in64 n∧n=a^i.toNat∧vs=[int .i64 a,int .i64 k,int .i64 n,int .i64 i]∧pos=[]∧los=[])
   (fun vs _ _=>match vs with | [_,_,_,.r (.v (.int _ j))]=>(k-j).toNat | _=>0) rfl ?_ ?_
  ·simp only [push_cast,↓reduceIte,reduceCtorEq,zE,zA];exact ⟨1,0,by omega,by omega,by decide,by simp,rfl⟩
  ·rintro vs pos los ⟨n,i,i0,ik,hn,hna,rfl,rfl,rfl⟩;simp only [push_cast,↓reduceIte,reduceCtorEq,zE];unfold in64 at hk;refine b6 (fun h=>?_) (fun h=>?_)
   ·simp only [decide_eq_true_eq] at h;simp only [push_cast,↓reduceIte,reduceCtorEq,zE]
    repeat refine And.intro (by simp +contextual) ?_
    have hT:n*a*a^(k-i-1).toNat=a^k.toNat:=by
     rw [hna,Int.mul_assoc,← Int.pow_succ',← Int.pow_add];congr 1;omega
    refine b6 (fun h2=>?_) (fun h2=>?_)
    ·simp only [push_cast,↓reduceIte,reduceCtorEq,zE,zA]
     have h3:n=0∨a=1:=by
      by_cases p:n=0<;>by_cases q:n=1<;>by_cases r:a=1<;>simp [p,q,r] at h2 ⊢
     refine rn ?_ ?_
     ·rcases h3 with h3 | h3
      ·rw [← hT,h3]; simp
      ·rw [hna,h3,Int.one_pow,Int.one_pow]
     ·rcases h3 with h3 | h3
      ·rw [← hT,h3]; simp; decide
      ·rw [h3,Int.one_pow]; decide
    ·simp only [push_cast,↓reduceIte,reduceCtorEq];refine b6 (fun h4=>?_) (fun h4=>?_)
     ·simp only [push_cast,↓reduceIte,reduceCtorEq,zE];have h4:a=-1:=by simpa using h4
      subst h4;have e0:k.tmod 2=k%2:=zcm (by omega);refine ⟨by decide,?_⟩;rw [e0];refine b6 (fun h5=>?_) (fun h5=>?_)
      ·simp only [push_cast,↓reduceIte,zE,zA];have h5:k%2=1:=by simpa using h5
       exact rn (by rw [ap6,if_pos (by omega)]) (by rw [ap6,if_pos (by omega)]; decide)
      ·simp only [push_cast,↓reduceIte,zE,zA];have h5:¬k%2=1:=by simpa using h5
       exact rn (by rw [ap6,if_neg (by omega)]) (by rw [ap6,if_neg (by omega)]; decide)
     ·simp only [push_cast,↓reduceIte,reduceCtorEq,zE];refine a6 (acg n a hn ha) rfl trivial ?_;simp only [n8,push_cast,↓reduceIte]
      have hb:(n*a).natAbs≤9223372036854775808*9223372036854775808:=by
       rw [zcr];unfold in64 at hn ha;exact zch (by omega) (by omega)
      refine b5 (as':=[n8 (n*a)]) rfl ?_;refine a6 (awd (n*a) (by omega)) rfl trivial ?_;simp only [sm,push_cast,↓reduceIte,zE,zA,zL];refine b6 (fun h6=>?_) (fun h6=>?_)
      ·simp only [push_cast,↓reduceIte,zE,zA];have h6:¬in64 (n*a):=by simpa using h6
       refine amc ?_;exact a3d (fun hs=>by rw [hna]; exact ba9 hs _) hn ha h6 hT
      ·simp only [push_cast,↓reduceIte,reduceCtorEq,zE,zA];have h6:in64 (n*a):=by simpa using h6
       rw [if_pos h6,show IntKind.i64.wrap (i+1)=i+1 from a5 (by omega)];refine ⟨⟨n*a,i+1,by omega,by omega,h6,?_,rfl⟩,by omega⟩;rw [show (i+1).toNat=i.toNat+1 by omega,zck,← hna]
   ·simp only [decide_eq_false_iff_not] at h;simp only [push_cast,↓reduceIte,reduceCtorEq,zE,zA];have:i=k:=by omega
    subst this;exact rn hna (by rw [← hna]; exact hn)

def aj6:Mk P0 f169:={ x:=_ }
theorem ajh:b8 169 1 aj6:=b7 func169
def ae4:PC:=
  (.seq (.reg [p_s 2 (.mov (o_i 0))])
 (.seq (.seq (.reg [p_m 3 0,p_s 4 (.bin .geq (.t 3) (.c (.r (.v (.int .u64 4294967296)))))])
 (.cond (.t 4)
 (.seq (.reg [p_m 5 0,p_s 6 (.bin .shr (.t 5) (.c (.r (.v (.int .u64 32))))),p_m 0 6])
 (.reg [p_s 2 (.mov (o_i 32))]))
 .skip))
 (.seq (.seq (.reg [p_m 7 0,p_s 8 (.bin .geq (.t 7) (.c (.r (.v (.int .u64 65536)))))])
 (.cond (.t 8)
 (.seq (.reg [p_m 9 0,p_s 10 (.bin .shr (.t 9) (.c (.r (.v (.int .u64 16))))),p_m 0 10])
 (.reg [p_m 11 2,p_s 12 (.bin .add (.t 11) (o_i 16)),p_m 2 12]))
 .skip))
 (.seq (.seq (.reg [p_m 13 0,p_s 14 (.bin .geq (.t 13) (.c (.r (.v (.int .u64 256)))))])
 (.cond (.t 14)
 (.seq (.reg [p_m 15 0,p_s 16 (.bin .shr (.t 15) (.c (.r (.v (.int .u64 8))))),p_m 0 16])
 (.reg [p_m 17 2,p_s 18 (.bin .add (.t 17) (o_i 8)),p_m 2 18]))
 .skip))
 (.seq (.reg [p_m 19 2,p_m 20 0,p_s 21 (.conv .u8 (.t 20)),p_s 22 (.ixs (.c (.r (.v (.string ⟨#[0,1,2,2,3,3,3,3,4,4,4,4,4,4,4,4,5,5,5,5,5,5,5,5,5,5,5,5,5,5,5,5,6,6,6,6,6,6,6,6,6,6,6,6,6,6,6,6,6,6,6,6,6,6,6,6,6,6,6,6,6,6,6,6,7,7,7,7,7,7,7,7,7,7,7,7,7,7,7,7,7,7,7,7,7,7,7,7,7,7,7,7,7,7,7,7,7,7,7,7,7,7,7,7,7,7,7,7,7,7,7,7,7,7,7,7,7,7,7,7,7,7,7,7,7,7,7,7,8,8,8,8,8,8,8,8,8,8,8,8,8,8,8,8,8,8,8,8,8,8,8,8,8,8,8,8,8,8,8,8,8,8,8,8,8,8,8,8,8,8,8,8,8,8,8,8,8,8,8,8,8,8,8,8,8,8,8,8,8,8,8,8,8,8,8,8,8,8,8,8,8,8,8,8,8,8,8,8,8,8,8,8,8,8,8,8,8,8,8,8,8,8,8,8,8,8,8,8,8,8,8,8,8,8,8,8,8,8,8,8,8,8,8,8,8,8,8,8,8,8,8,8,8,8,8,8]⟩)))) (.t 21)),
 p_s 23 (.conv .i64 (.t 22)),p_s 24 (.bin .add (.t 19) (.t 23)),p_m 2 24])
 .ret)))))
theorem aff:Fun P0 214 1 [(2,false,none)] ae4:=ad1 func214 rfl (by decide) (by kernel_rfl) (by decide) rfl (by kernel_rfl) (by kernel_rfl) (by decide)

structure Ei where
 a:Int
 b:Int
deriving DecidableEq
def Ei.rv (z:Ei):RV:=.agg [.v (.int .i64 z.a),.v (.int .i64 z.b)]
def Ei.v (z:Ei):AV:=.r z.rv
def Ei.mul (x y:Ei):Ei:=⟨x.a*y.a-x.b*y.b,x.a*y.b+x.b*y.a+x.b*y.b⟩
def Ei.add (x y:Ei):Ei:=⟨x.a+y.a,x.b+y.b⟩
def Ei.sub (x y:Ei):Ei:=⟨x.a-y.a,x.b-y.b⟩
def Ei.conj (x:Ei):Ei:=⟨x.a+x.b,-x.b⟩
def Ei.In (z:Ei) (n:Int):Prop:=(-n≤z.a∧z.a≤n)∧(-n≤z.b∧z.b≤n)
def Ei.H (z:Ei) (n:Int):Prop:=(-n≤z.a∧z.a≤n)∧(-n≤z.b∧z.b≤n)∧(-n≤z.a+z.b∧z.a+z.b≤n)
theorem Ei.ext' {x y:Ei} (h1:x.a=y.a) (h2:x.b=y.b):x=y:=by cases x; cases y; simp_all
theorem Ei.In.mono {z:Ei} {n m:Int} (h:z.In n) (hm:n≤m):z.In m:=by unfold Ei.In at *; omega
theorem Ei.H.mono {z:Ei} {n m:Int} (h:z.H n) (hm:n≤m):z.H m:=by unfold Ei.H at *; omega
theorem Ei.H.in {z:Ei} {n:Int} (h:z.H n):z.In n:=by unfold Ei.H Ei.In at *; omega
def y9:Ei:=⟨2,1⟩
theorem bf {x y n m:Int} (h1:-n≤x∧x≤n) (h2:-m≤y∧y≤m):-(n*m)≤x*y∧x*y≤n*m:=by
 have h:(x*y).natAbs≤n.toNat*m.toNat:=by rw [zcr]; exact zch (by omega) (by omega)
 have h3:((n.toNat*m.toNat:Nat):Int)=n*m:=by
  rw [Int.natCast_mul,Int.toNat_of_nonneg (by omega),Int.toNat_of_nonneg (by omega)]
 omega
def i5 (d s t:Int):Prop:=(-d≤2*s+t∧2*s+t≤d)∧(-d≤s+2*t∧s+2*t≤d)∧(-d≤s-t∧s-t≤d)
instance (d s t:Int):Decidable (i5 d s t):=inferInstanceAs (Decidable (_∧_∧_))
def ir (d s t:Int):Ei:=if i5 d s t then ⟨0,0⟩ else if i5 d s (t-d) then ⟨0,1⟩ else if i5 d (s-d) t then ⟨1,0⟩ else ⟨1,1⟩
def Ei.round (u:Ei) (d:Int):Ei:=⟨u.a/d+(ir d (u.a%d) (u.b%d)).a,u.b/d+(ir d (u.a%d) (u.b%d)).b⟩
theorem au2 {d s t:Int} (hs:0≤s∧s<d) (ht:0≤t∧t<d) :
  i5 d (s-(ir d s t).a*d) (t-(ir d s t).b*d)∧(0≤(ir d s t).a∧(ir d s t).a≤1)∧(0≤(ir d s t).b∧(ir d s t).b≤1):=by
 unfold ir;split
 ·next h=>unfold i5 at *; dsimp only; omega
 ·split
  ·next h=>unfold i5 at *; dsimp only; omega
  ·split
   ·next h=>unfold i5 at *; dsimp only; omega
   ·next h=>unfold i5 at *; dsimp only; omega
theorem near0_first {d s t i k : Int} (hs : 0 ≤ s ∧ s < d) (ht : 0 ≤ t ∧ t < d) (hi : -1 ≤ i ∧ i ≤ 2) (hk : -1 ≤ k ∧ k ≤ 2)
    (h:i5 d (s-i*d) (t-k*d)) (h1:∀k',-1≤k'→k'<k→¬i5 d (s-i*d) (t-k'*d))
    (h2:∀i' k',-1≤i'→i'<i→-1≤k'→k'≤2→¬i5 d (s-i'*d) (t-k'*d)):ir d s t=⟨i,k⟩:=by
  have hi':i=-1∨i=0∨i=1∨i=2:=by omega
  have hk':k=-1∨k=0∨k=1∨k=2:=by omega
  have e0:(-1:Int)*d=-d:=by omega
  have n00:(0<i∨(i=0∧0<k))→¬i5 d s t:=fun c=>by
    rcases c with c | ⟨c,c'⟩
    · have:=h2 0 0 (by omega) c (by omega) (by omega); simpa using this
    · have:=h1 0 (by omega) c'; rw [c] at this; simpa using this
  have n01:(0<i∨(i=0∧1<k))→¬i5 d s (t-d):=fun c=>by
    rcases c with c | ⟨c,c'⟩
    · have:=h2 0 1 (by omega) c (by omega) (by omega); simpa using this
    · have:=h1 1 (by omega) c'; rw [c] at this; simpa using this
  have n10:(1<i∨(i=1∧0<k))→¬i5 d (s-d) t:=fun c=>by
    rcases c with c | ⟨c,c'⟩
    · have:=h2 1 0 (by omega) c (by omega) (by omega); simpa using this
    · have:=h1 0 (by omega) c'; rw [c] at this; simpa using this
  clear h1 h2
  rcases hi' with rfl | rfl | rfl | rfl<;>rcases hk' with rfl | rfl | rfl | rfl <;>
    first
    | (exfalso; unfold i5 at h; omega)
    | (simp only [Int.zero_mul,zcl,Int.sub_zero] at h
       simp [ir,h]; done)
    | (simp only [Int.zero_mul,zcl,Int.sub_zero] at h
       simp [ir,h,n00,n01,n10])
theorem bbm {d s t:Int} (hs:0≤s∧s<d) (ht:0≤t∧t<d)
  (h2:∀i' k',-1≤i'→i'<3→-1≤k'→k'≤2→¬i5 d (s-i'*d) (t-k'*d)):False:=by
 obtain ⟨h,ha,hb⟩:=au2 hs ht;exact h2 _ _ (by omega) (by omega) (by omega) (by omega) h
def fr (d a b:Int) (z:Ei):Int:=d*(z.a*z.a+z.a*z.b+z.b*z.b)-z.a*(2*a+b)-z.b*(a+2*b)
def pk (d a b:Int) (p:Int×Ei) (z:Ei):Int×Ei:=if fr d a b z<p.1 then (fr d a b z,z) else p
def adm:List Ei:=[⟨0,1⟩,⟨1,0⟩,⟨1,1⟩]
theorem a2g {d a b:Int} (ha:0≤a∧a<d) (hb:0≤b∧b<d):(adm.foldl (pk d a b) (0,⟨0,0⟩)).2=ir d a b:=by
 simp only [adm,List.foldl_cons,List.foldl_nil];have e1:fr d a b ⟨0,1⟩=d-(a+2*b):=by simp [fr]
 have e2:fr d a b ⟨1,0⟩=d-(2*a+b):=by simp [fr]
 have e3:fr d a b ⟨1,1⟩=d*3-(2*a+b)-(a+2*b):=by simp [fr]
 unfold ir;by_cases c1:d-(a+2*b)<0
 ·by_cases c2:d-(2*a+b)<d-(a+2*b)
  ·by_cases c3:d*3-(2*a+b)-(a+2*b)<d-(2*a+b)
   ·simp only [pk,e1,e2,e3,c1,c2,c3,if_true];rw [if_neg (by unfold i5; omega),if_neg (by unfold i5; omega),if_neg (by unfold i5; omega)]
   ·simp only [pk,e1,e2,e3,c1,c2,c3,if_true,if_false];rw [if_neg (by unfold i5; omega),if_neg (by unfold i5; omega),if_pos (by unfold i5; omega)]
  ·by_cases c3:d*3-(2*a+b)-(a+2*b)<d-(a+2*b)
   ·simp only [pk,e1,e2,e3,c1,c2,c3,if_true,if_false];rw [if_neg (by unfold i5; omega),if_neg (by unfold i5; omega),if_neg (by unfold i5; omega)]
   ·simp only [pk,e1,e2,e3,c1,c2,c3,if_true,if_false];rw [if_neg (by unfold i5; omega),if_pos (by unfold i5; omega)]
 ·by_cases c2:d-(2*a+b)<0
  ·by_cases c3:d*3-(2*a+b)-(a+2*b)<d-(2*a+b)
   ·simp only [pk,e1,e2,e3,c1,c2,c3,if_true,if_false];rw [if_neg (by unfold i5; omega),if_neg (by unfold i5; omega),if_neg (by unfold i5; omega)]
   ·simp only [pk,e1,e2,e3,c1,c2,c3,if_true,if_false];rw [if_neg (by unfold i5; omega),if_neg (by unfold i5; omega),if_pos (by unfold i5; omega)]
  ·by_cases c3:d*3-(2*a+b)-(a+2*b)<0
   ·exfalso; omega
   ·simp only [pk,e1,e2,e3,c1,c2,c3,if_false];rw [if_pos (by unfold i5; omega)]
theorem l7 (u:Ei) {d:Int} (hd:0<d):i5 d (u.a-(u.round d).a*d) (u.b-(u.round d).b*d):=by
 have h1:=zcv u.a d;have h2:=zcv u.b d;have h3:=zac u.a hd;have h4:=zad u.a (show d≠0 by omega);have h5:=zac u.b hd;have h6:=zad u.b (show d≠0 by omega);obtain ⟨h,_⟩:=au2 (d:=d) (s:=u.a%d) (t:=u.b%d) ⟨h4,h3⟩ ⟨h6,h5⟩
 have e1:u.a-(u.round d).a*d=u.a%d-(ir d (u.a%d) (u.b%d)).a*d:=by
  simp only [Ei.round,Int.add_mul];rw [zcd (u.a/d) d];omega
 have e2:u.b-(u.round d).b*d=u.b%d-(ir d (u.a%d) (u.b%d)).b*d:=by
  simp only [Ei.round,Int.add_mul];rw [zcd (u.b/d) d];omega
 rw [e1,e2]; exact h
def pr (z:Ei):Ei:=(z.mul ⟨3,-1⟩).round 7
def lft (z:Ei):Ei:=z.sub ((pr z).mul y9)
def dgOf (l:Ei):Nat:=if l=⟨1,0⟩ then 1 else if l=⟨0,1⟩ then 2 else if l=⟨-1,1⟩ then 3 else if l=⟨-1,0⟩ then 4 else if l=⟨0,-1⟩ then 5 else if l=⟨1,-1⟩ then 6 else 0
def dg (z:Ei):Nat:=dgOf (lft z)
def uni (d:Nat):Ei:=match d with | 0=>⟨1,0⟩ | 1=>⟨0,1⟩ | 2=>⟨-1,1⟩ | 3=>⟨-1,0⟩ | 4=>⟨0,-1⟩ | _=>⟨1,-1⟩
def rf (z:Ei) (d:Nat):Ei:=if d=0 then z.mul y9 else (z.mul y9).add (uni (d-1))
theorem dg_lt (z : Ei) : dg z < 7 := by unfold dg dgOf; repeat' split
                                        all_goals omega
theorem agp (z:Ei):∃l:Ei,lft z=l∧l.H 1∧z.a=2*(pr z).a-(pr z).b+l.a∧z.b=(pr z).a+3*(pr z).b+l.b:=by
 have h:=l7 (z.mul ⟨3,-1⟩) (d:=7) (by decide);refine ⟨lft z,rfl,?_,?_,?_⟩
 ·unfold i5 at h;unfold Ei.H lft Ei.sub pr;simp only [Ei.mul,y9] at *;generalize Ei.round _ 7=q at *;simp only [Int.mul_one,Int.mul_neg] at *;omega
 ·simp only [lft,Ei.sub,Ei.mul,y9]; omega
 ·simp only [lft,Ei.sub,Ei.mul,y9]; omega
theorem a5y (z:Ei):rf (pr z) (dg z)=z:=by
 obtain ⟨l,hl,h1,h2,h3⟩:=agp z;have h0:=l7 (z.mul ⟨3,-1⟩) (d:=7) (by decide)
 have hl7:l=⟨0,0⟩∨l=⟨1,0⟩∨l=⟨0,1⟩∨l=⟨-1,1⟩∨l=⟨-1,0⟩∨l=⟨0,-1⟩∨l=⟨1,-1⟩:=by
  obtain ⟨a,b⟩:=l;unfold Ei.H at h1;dsimp only at h1;simp only [Ei.mk.injEq];omega
 unfold rf dg;rw [hl];rcases hl7 with rfl | rfl | rfl | rfl | rfl | rfl | rfl<;>apply Ei.ext'<;>simp [dgOf,uni,Ei.add,Ei.mul,y9] at h2 h3 ⊢ <;> omega
def anc:Nat→Ei→Ei
 | 0,z=>z
 | k+1,z=>anc k (pr z)
theorem ana (k:Nat) (z:Ei):anc (k+1) z=pr (anc k z):=by
 induction k generalizing z with
 | zero=>rfl
 | succ k ih=>rw [anc,ih]; rfl
def val:Nat→Ei→Nat
 | 0,_=>0
 | r+1,z=>val r (pr z)*8+dg z
theorem a6q (r:Nat) (z:Ei):val r z<8^r:=by
 induction r generalizing z with
 | zero=>simp [val]
 | succ r ih=>
  have:=ih (pr z);have:=dg_lt z;rw [val,zcn];omega
theorem bd5 (r i:Nat) (z:Ei) (h:i≤r):val r z/8^i=val (r-i) (anc i z):=by
 induction i generalizing r z with
 | zero=>simp [anc]
 | succ i ih=>
  obtain ⟨r,rfl⟩:∃m,r=m+1:=⟨r-1,by omega⟩
  rw [show r+1-(i+1)=r-i by omega,anc,← ih r (pr z) (by omega),zcn,zco,← zda,val];have:=dg_lt z;congr 1;omega
def okc (r:Nat) (z:Ei):Prop:=r≤12∧z.In 1073741824∧(-512≤(anc r z).a∧(anc r z).a≤511)∧(-512≤(anc r z).b∧(anc r z).b≤511)
instance (r:Nat) (z:Ei):Decidable (okc r z):=by unfold okc Ei.In; infer_instance
def ow (r:Nat) (q:Ei):Nat:=((16+r)*1024+(q.a+512).toNat)*1024+(q.b+512).toNat
def s9 (r:Nat) (z:Ei):Nat:=(ow r (anc r z)*8^r+val r z)*8^(12-r)+(8^(12-r)-1)
def dgt (w i:Nat):Nat:=w/8^(12-i)%8
def u7 (w:Nat):Nat:=w/72057594037927936%16
def a57 (w:Nat):Ei:=⟨((w/70368744177664%1024:Nat):Int)-512,((w/68719476736%1024:Nat):Int)-512⟩
def o7 (w:Nat):Nat→Ei
 | 0=>a57 w
 | i+1=>rf (o7 w i) (dgt w (i+1))
def isW (w:Nat):Prop:=w/1152921504606846976=1∧u7 w≤12∧∀i,1≤i→i≤12→(dgt w i=7↔u7 w<i)
theorem al1 (r:Nat) (z:Ei) (hr:r≤12):s9 r z/68719476736=ow r (anc r z):=by
 have hv:=a6q r z;have e:(68719476736:Nat)=8^r*8^(12-r):=by rw [← zab,show r+(12-r)=12 by omega]
 have hp:0<8^(12-r):=zcf (by decide);have hq:0<8^r:=zcf (by decide);rw [e,zco (8^r),← zda,s9]
 have h1:((ow r (anc r z)*8^r+val r z)*8^(12-r)+(8^(12-r)-1))/8^(12-r)=ow r (anc r z)*8^r+val r z:=by
  rw [Nat.add_comm,zct _ _ hp,zcx (by omega)]; omega
 rw [h1,Nat.add_comm,zct _ _ hq,zcx hv]; omega
theorem ar0 (r i:Nat) (z:Ei) (hr:r≤12) (h1:1≤i) (h2:i≤r):dgt (s9 r z) i=dg (anc (r-i) z):=by
 have hp:0<8^(12-r):=zcf (by decide);have e:8^(12-i)=8^(12-r)*8^(r-i):=by rw [← zab,show 12-r+(r-i)=12-i by omega]
 unfold dgt s9;rw [e,← zda]
 have h3:((ow r (anc r z)*8^r+val r z)*8^(12-r)+(8^(12-r)-1))/8^(12-r)=ow r (anc r z)*8^r+val r z:=by
  rw [Nat.add_comm,zct _ _ hp,zcx (by omega)]; omega
 rw [h3]
 have e2:ow r (anc r z)*8^r=ow r (anc r z)*8^(i-1)*8*8^(r-i):=by
  rw [zae (ow r (anc r z)),← zcn,zae,← zab,show i-1+1+(r-i)=r by omega]
 rw [e2,Nat.add_comm,zct _ _ (zcf (by decide)),bd5 r (r-i) z (by omega),show r-(r-i)=(i-1)+1 by omega,val];have:=dg_lt (anc (r-i) z);generalize ow r (anc r z)*8^(i-1)=m;omega
theorem ato (r i:Nat) (z:Ei) (h1:r<i) (h2:i≤12):dgt (s9 r z) i=7:=by
 unfold dgt s9;have e:8^(12-r)=8^(i-r-1)*8*8^(12-i):=by rw [← zcn,← zab,show i-r-1+1+(12-i)=12-r by omega]
 have hq:0<8^(12-i):=zcf (by decide);have hq2:0<8^(i-r-1):=zcf (by decide);rw [e];generalize ow r (anc r z)*8^r+val r z=m;generalize hx:8^(i-r-1)=x at *;generalize hy:8^(12-i)=y at *
 have h3:m*(x*8*y)+(x*8*y-1)=(y-1)+(m*(x*8)+(x*8-1))*y:=by
  have:(x*8-1)*y=x*8*y-y:=by rw [Nat.sub_mul,Nat.one_mul]
  have h5:y≤x*8*y:=Nat.le_mul_of_pos_left _ (by omega);rw [zce,this,← zae];omega
 rw [h3,zct _ _ hq,zcx (by omega)];have h4:m*(x*8)=m*x*8:=(zae _ _ _).symm;omega
theorem amz (r:Nat) (q:Ei) (hr:r≤12) (ha:-512≤q.a∧q.a≤511) (hb:-512≤q.b∧q.b≤511) :
  ow r q/16777216=1∧ow r q/1048576%16=r∧((ow r q/1024%1024:Nat):Int)-512=q.a∧((ow r q%1024:Nat):Int)-512=q.b:=by
 unfold ow;omega
theorem ap2 (r:Nat) (z:Ei) (h:okc r z):s9 r z<18446744073709551616:=by
 have h1:=al1 r z h.1;have h2:=amz r (anc r z) h.1 h.2.2.1 h.2.2.2;omega
theorem arz (r:Nat) (z:Ei) (h:okc r z):isW (s9 r z)∧u7 (s9 r z)=r:=by
 have h1:=al1 r z h.1;have h2:=amz r (anc r z) h.1 h.2.2.1 h.2.2.2;have h3:u7 (s9 r z)=r:=by unfold u7; omega
 refine ⟨⟨by omega,by rw [h3]; exact h.1,fun i i1 i2=>?_⟩,h3⟩;rw [h3];by_cases hi:r<i
 ·simp [hi,ato r i z hi i2]
 ·simp only [hi,iff_false];rw [ar0 r i z h.1 i1 (by omega)];have:=dg_lt (anc (r-i) z);omega
theorem a6j (r i:Nat) (z:Ei) (h:okc r z) (hi:i≤r):o7 (s9 r z) i=anc (r-i) z:=by
 induction i with
 | zero=>
  have h1:=al1 r z h.1;have h2:=amz r (anc r z) h.1 h.2.2.1 h.2.2.2;apply Ei.ext'<;>simp only [o7,a57]<;>rw [Nat.sub_zero]<;>omega
 | succ i ih=>
  rw [o7,ih (by omega),ar0 r (i+1) z h.1 (by omega) hi];rw [show r-i=r-(i+1)+1 by omega,ana,a5y]

def c7:Nat→Ei
 | 0=>⟨1,0⟩
 | k+1=>(c7 k).mul y9
theorem mj (k:Nat) (h:k≤12):(c7 k).In 120000:=by
 have:∀j:Fin 13,(c7 j.val).In 120000:=by unfold Ei.In; decide
 exact this ⟨k,by omega⟩
def ax (x y:Int):Ei:=⟨45*x-26*y,52*y⟩
def d9 (x y:Int) (r:Nat):Ei:=((ax x y).mul (c7 (12-r)).conj).round (2340*7^(12-r))
theorem aew {z:Ei} {n m:Int} (h:z.H n) (hm:3*n+4<7*(m+1)):(pr z).H m:=by
 have h7:=l7 (z.mul ⟨3,-1⟩) (d:=7) (by decide);unfold i5 at h7;unfold Ei.H pr at *;simp only [Ei.mul] at *;generalize Ei.round _ 7=q at *;simp only [Int.mul_one,Int.mul_neg] at *;omega
theorem ff {z:Ei} {n m:Int} (h:z.H n) (hm:19*n+330<343*(m+1)):(anc 3 z).H m:=by
 obtain ⟨l1,_,g1,e1,f1⟩:=agp z;obtain ⟨l2,_,g2,e2,f2⟩:=agp (pr z);obtain ⟨l3,_,g3,e3,f3⟩:=agp (pr (pr z));show (pr (pr (pr z))).H m;generalize pr (pr (pr z))=q at *;generalize pr (pr z)=q2 at *;generalize pr z=q1 at *;unfold Ei.H at *;omega
theorem a3o (x y:Int) (hx:0≤x∧x<1073741824) (hy:0≤y∧y<1073741824):(d9 x y 0).H 260:=by
 have h:=l7 ((ax x y).mul (c7 (12-0)).conj) (d:=2340*7^(12-0)) (by decide);have e:(c7 (12-0)).conj=⟨-128231,102960⟩:=by decide
 have ed:(2340*7^(12-0):Int)=32388612050340:=by decide
 unfold d9;generalize Ei.round _ _=q at *;rw [e,ed] at h;unfold i5 Ei.H at *;simp only [Ei.mul,ax] at *;omega
theorem a3n (x y:Int) (hx:0≤x∧x<1073741824) (hy:0≤y∧y<1073741824):(d9 x y 1).H 734:=by
 have h:=l7 ((ax x y).mul (c7 (12-1)).conj) (d:=2340*7^(12-1)) (by decide);have e:(c7 (12-1)).conj=⟨-51346,25807⟩:=by decide
 have ed:(2340*7^(12-1):Int)=4626944578620:=by decide
 unfold d9;generalize Ei.round _ _=q at *;rw [e,ed] at h;unfold i5 Ei.H at *;simp only [Ei.mul,ax] at *;omega
theorem a3m (x y:Int) (hx:0≤x∧x<1073741824) (hy:0≤y∧y<1073741824):(d9 x y 2).H 2004:=by
 have h:=l7 ((ax x y).mul (c7 (12-2)).conj) (d:=2340*7^(12-2)) (by decide);have e:(c7 (12-2)).conj=⟨-18357,3725⟩:=by decide
 have ed:(2340*7^(12-2):Int)=660992082660:=by decide
 unfold d9;generalize Ei.round _ _=q at *;rw [e,ed] at h;unfold i5 Ei.H at *;simp only [Ei.mul,ax] at *;omega
theorem a3l (x y:Int) (hx:0≤x∧x<1073741824) (hy:0≤y∧y<1073741824):(d9 x y 3).H 4887:=by
 have h:=l7 ((ax x y).mul (c7 (12-3)).conj) (d:=2340*7^(12-3)) (by decide);have e:(c7 (12-3)).conj=⟨-5777,-1026⟩:=by decide
 have ed:(2340*7^(12-3):Int)=94427440380:=by decide
 unfold d9;generalize Ei.round _ _=q at *;rw [e,ed] at h;unfold i5 Ei.H at *;simp only [Ei.mul,ax] at *;omega
theorem a3k (x y:Int) (hx:0≤x∧x<1073741824) (hy:0≤y∧y<1073741824):(d9 x y 4).H 13376:=by
 have h:=l7 ((ax x y).mul (c7 (12-4)).conj) (d:=2340*7^(12-4)) (by decide);have e:(c7 (12-4)).conj=⟨-1504,-1265⟩:=by decide
 have ed:(2340*7^(12-4):Int)=13489634340:=by decide
 unfold d9;generalize Ei.round _ _=q at *;rw [e,ed] at h;unfold i5 Ei.H at *;simp only [Ei.mul,ax] at *;omega
theorem a3j (x y:Int) (hx:0≤x∧x<1073741824) (hy:0≤y∧y<1073741824):(d9 x y 5).H 37163:=by
 have h:=l7 ((ax x y).mul (c7 (12-5)).conj) (d:=2340*7^(12-5)) (by decide);have e:(c7 (12-5)).conj=⟨-249,-757⟩:=by decide
 have ed:(2340*7^(12-5):Int)=1927090620:=by decide
 unfold d9;generalize Ei.round _ _=q at *;rw [e,ed] at h;unfold i5 Ei.H at *;simp only [Ei.mul,ax] at *;omega
theorem a3i (x y:Int) (hx:0≤x∧x<1073741824) (hy:0≤y∧y<1073741824):(d9 x y 6).H 92189:=by
 have h:=l7 ((ax x y).mul (c7 (12-6)).conj) (d:=2340*7^(12-6)) (by decide);have e:(c7 (12-6)).conj=⟨37,-360⟩:=by decide
 have ed:(2340*7^(12-6):Int)=275298660:=by decide
 unfold d9;generalize Ei.round _ _=q at *;rw [e,ed] at h;unfold i5 Ei.H at *;simp only [Ei.mul,ax] at *;omega
theorem a3h (x y:Int) (hx:0≤x∧x<1073741824) (hy:0≤y∧y<1073741824):(d9 x y 7).H 243699:=by
 have h:=l7 ((ax x y).mul (c7 (12-7)).conj) (d:=2340*7^(12-7)) (by decide);have e:(c7 (12-7)).conj=⟨62,-149⟩:=by decide
 have ed:(2340*7^(12-7):Int)=39328380:=by decide
 unfold d9;generalize Ei.round _ _=q at *;rw [e,ed] at h;unfold i5 Ei.H at *;simp only [Ei.mul,ax] at *;omega
theorem a3g (x y:Int) (hx:0≤x∧x<1073741824) (hy:0≤y∧y<1073741824):(d9 x y 8).H 688202:=by
 have h:=l7 ((ax x y).mul (c7 (12-8)).conj) (d:=2340*7^(12-8)) (by decide);have e:(c7 (12-8)).conj=⟨39,-55⟩:=by decide
 have ed:(2340*7^(12-8):Int)=5618340:=by decide
 unfold d9;generalize Ei.round _ _=q at *;rw [e,ed] at h;unfold i5 Ei.H at *;simp only [Ei.mul,ax] at *;omega
theorem a3f (x y:Int) (hx:0≤x∧x<1073741824) (hy:0≤y∧y<1073741824):(d9 x y 9).H 1735123:=by
 have h:=l7 ((ax x y).mul (c7 (12-9)).conj) (d:=2340*7^(12-9)) (by decide);have e:(c7 (12-9)).conj=⟨19,-18⟩:=by decide
 have ed:(2340*7^(12-9):Int)=802620:=by decide
 unfold d9;generalize Ei.round _ _=q at *;rw [e,ed] at h;unfold i5 Ei.H at *;simp only [Ei.mul,ax] at *;omega
theorem a0w (x y:Int) (hx:0≤x∧x<1073741824) (hy:0≤y∧y<1073741824):(d9 x y 10).H 4429444:=by
 have h:=l7 ((ax x y).mul (c7 (12-10)).conj) (d:=2340*7^(12-10)) (by decide);have e:(c7 (12-10)).conj=⟨8,-5⟩:=by decide
 have ed:(2340*7^(12-10):Int)=114660:=by decide
 unfold d9;generalize Ei.round _ _=q at *;rw [e,ed] at h;unfold i5 Ei.H at *;simp only [Ei.mul,ax] at *;omega
theorem a0v (x y:Int) (hx:0≤x∧x<1073741824) (hy:0≤y∧y<1073741824):(d9 x y 11).H 12717090:=by
 have h:=l7 ((ax x y).mul (c7 (12-11)).conj) (d:=2340*7^(12-11)) (by decide);have e:(c7 (12-11)).conj=⟨3,-1⟩:=by decide
 have ed:(2340*7^(12-11):Int)=16380:=by decide
 unfold d9;generalize Ei.round _ _=q at *;rw [e,ed] at h;unfold i5 Ei.H at *;simp only [Ei.mul,ax] at *;omega
theorem a0u (x y:Int) (hx:0≤x∧x<1073741824) (hy:0≤y∧y<1073741824):(d9 x y 12).H 32579347:=by
 have h:=l7 ((ax x y).mul (c7 (12-12)).conj) (d:=2340*7^(12-12)) (by decide);have e:(c7 (12-12)).conj=⟨1,0⟩:=by decide
 have ed:(2340*7^(12-12):Int)=2340:=by decide
 unfold d9;generalize Ei.round _ _=q at *;rw [e,ed] at h;unfold i5 Ei.H at *;simp only [Ei.mul,ax] at *;omega
theorem bkc {z:Ei} (h0:z.H 260):(anc 0 z).H 511:=by
 exact h0.mono (by decide)
theorem a5m (x y:Int) (hx:0≤x∧x<1073741824) (hy:0≤y∧y<1073741824):(anc 0 (d9 x y 0)).H 511:=bkc (a3o x y hx hy)
theorem bkb {z:Ei} (h0:z.H 734):(anc 1 z).H 511:=by
 have h1:=aew (m:=315) h0 (by decide);exact h1.mono (by decide)
theorem a5l (x y:Int) (hx:0≤x∧x<1073741824) (hy:0≤y∧y<1073741824):(anc 1 (d9 x y 1)).H 511:=bkb (a3n x y hx hy)
theorem bka {z:Ei} (h0:z.H 2004):(anc 2 z).H 511:=by
 have h1:=aew (m:=859) h0 (by decide);have h2:=aew (m:=368) h1 (by decide);exact h2.mono (by decide)
theorem a5k (x y:Int) (hx:0≤x∧x<1073741824) (hy:0≤y∧y<1073741824):(anc 2 (d9 x y 2)).H 511:=bka (a3m x y hx hy)
theorem bj9 {z:Ei} (h0:z.H 4887):(anc 3 z).H 511:=by
 have h1:=ff (m:=271) h0 (by decide);exact h1.mono (by decide)
theorem a5j (x y:Int) (hx:0≤x∧x<1073741824) (hy:0≤y∧y<1073741824):(anc 3 (d9 x y 3)).H 511:=bj9 (a3l x y hx hy)
theorem bj8 {z:Ei} (h0:z.H 13376):(anc 4 z).H 511:=by
 have h1:=aew (m:=5733) h0 (by decide);have h2:=ff (m:=318) h1 (by decide);exact h2.mono (by decide)
theorem a5i (x y:Int) (hx:0≤x∧x<1073741824) (hy:0≤y∧y<1073741824):(anc 4 (d9 x y 4)).H 511:=bj8 (a3k x y hx hy)
theorem bj7 {z:Ei} (h0:z.H 37163):(anc 5 z).H 511:=by
 have h1:=aew (m:=15927) h0 (by decide);have h2:=aew (m:=6826) h1 (by decide);have h3:=ff (m:=379) h2 (by decide);exact h3.mono (by decide)
theorem a5h (x y:Int) (hx:0≤x∧x<1073741824) (hy:0≤y∧y<1073741824):(anc 5 (d9 x y 5)).H 511:=bj7 (a3j x y hx hy)
theorem bj6 {z:Ei} (h0:z.H 92189):(anc 6 z).H 511:=by
 have h1:=ff (m:=5107) h0 (by decide);have h2:=ff (m:=283) h1 (by decide);exact h2.mono (by decide)
theorem a5g (x y:Int) (hx:0≤x∧x<1073741824) (hy:0≤y∧y<1073741824):(anc 6 (d9 x y 6)).H 511:=bj6 (a3i x y hx hy)
theorem bj5 {z:Ei} (h0:z.H 243699):(anc 7 z).H 511:=by
 have h1:=aew (m:=104443) h0 (by decide);have h2:=ff (m:=5786) h1 (by decide);have h3:=ff (m:=321) h2 (by decide);exact h3.mono (by decide)
theorem a5f (x y:Int) (hx:0≤x∧x<1073741824) (hy:0≤y∧y<1073741824):(anc 7 (d9 x y 7)).H 511:=bj5 (a3h x y hx hy)
theorem bj4 {z:Ei} (h0:z.H 688202):(anc 8 z).H 511:=by
 have h1:=aew (m:=294944) h0 (by decide);have h2:=aew (m:=126405) h1 (by decide);have h3:=ff (m:=7002) h2 (by decide);have h4:=ff (m:=388) h3 (by decide);exact h4.mono (by decide)
theorem a5e (x y:Int) (hx:0≤x∧x<1073741824) (hy:0≤y∧y<1073741824):(anc 8 (d9 x y 8)).H 511:=bj4 (a3g x y hx hy)
theorem bj3 {z:Ei} (h0:z.H 1735123):(anc 9 z).H 511:=by
 have h1:=ff (m:=96115) h0 (by decide);have h2:=ff (m:=5325) h1 (by decide);have h3:=ff (m:=295) h2 (by decide);exact h3.mono (by decide)
theorem a5d (x y:Int) (hx:0≤x∧x<1073741824) (hy:0≤y∧y<1073741824):(anc 9 (d9 x y 9)).H 511:=bj3 (a3f x y hx hy)
theorem bgt {z:Ei} (h0:z.H 4429444):(anc 10 z).H 511:=by
 have h1:=aew (m:=1898333) h0 (by decide);have h2:=ff (m:=105156) h1 (by decide);have h3:=ff (m:=5825) h2 (by decide);have h4:=ff (m:=323) h3 (by decide);exact h4.mono (by decide)
theorem a2f (x y:Int) (hx:0≤x∧x<1073741824) (hy:0≤y∧y<1073741824):(anc 10 (d9 x y 10)).H 511:=bgt (a0w x y hx hy)
theorem bgs {z:Ei} (h0:z.H 12717090):(anc 11 z).H 511:=by
 have h1:=aew (m:=5450182) h0 (by decide);have h2:=aew (m:=2335792) h1 (by decide);have h3:=ff (m:=129388) h2 (by decide);have h4:=ff (m:=7168) h3 (by decide);have h5:=ff (m:=398) h4 (by decide);exact h5.mono (by decide)
theorem a2e (x y:Int) (hx:0≤x∧x<1073741824) (hy:0≤y∧y<1073741824):(anc 11 (d9 x y 11)).H 511:=bgs (a0v x y hx hy)
theorem bgr {z:Ei} (h0:z.H 32579347):(anc 12 z).H 511:=by
 have h1:=ff (m:=1804687) h0 (by decide);have h2:=ff (m:=99969) h1 (by decide);have h3:=ff (m:=5538) h2 (by decide);have h4:=ff (m:=307) h3 (by decide);exact h4.mono (by decide)
theorem a2d (x y:Int) (hx:0≤x∧x<1073741824) (hy:0≤y∧y<1073741824):(anc 12 (d9 x y 12)).H 511:=bgr (a0u x y hx hy)
theorem bi0 (x y:Int) (r:Nat) (hx:0≤x∧x<1073741824) (hy:0≤y∧y<1073741824) (hr:r≤12):(d9 x y r).H 32579347:=by
 rcases (show r=0∨r=1∨r=2∨r=3∨r=4∨r=5∨r=6∨r=7∨r=8∨r=9∨r=10∨r=11∨r=12 by omega) with rfl | rfl | rfl | rfl | rfl | rfl | rfl | rfl | rfl | rfl | rfl | rfl | rfl
 ·exact (a3o x y hx hy).mono (by decide)
 ·exact (a3n x y hx hy).mono (by decide)
 ·exact (a3m x y hx hy).mono (by decide)
 ·exact (a3l x y hx hy).mono (by decide)
 ·exact (a3k x y hx hy).mono (by decide)
 ·exact (a3j x y hx hy).mono (by decide)
 ·exact (a3i x y hx hy).mono (by decide)
 ·exact (a3h x y hx hy).mono (by decide)
 ·exact (a3g x y hx hy).mono (by decide)
 ·exact (a3f x y hx hy).mono (by decide)
 ·exact (a0w x y hx hy).mono (by decide)
 ·exact (a0v x y hx hy).mono (by decide)
 ·exact (a0u x y hx hy).mono (by decide)
theorem a8m (x y:Int) (r:Nat) (hx:0≤x∧x<1073741824) (hy:0≤y∧y<1073741824) (hr:r≤12):(anc r (d9 x y r)).H 511:=by
 rcases (show r=0∨r=1∨r=2∨r=3∨r=4∨r=5∨r=6∨r=7∨r=8∨r=9∨r=10∨r=11∨r=12 by omega) with rfl | rfl | rfl | rfl | rfl | rfl | rfl | rfl | rfl | rfl | rfl | rfl | rfl
 ·exact a5m x y hx hy
 ·exact a5l x y hx hy
 ·exact a5k x y hx hy
 ·exact a5j x y hx hy
 ·exact a5i x y hx hy
 ·exact a5h x y hx hy
 ·exact a5g x y hx hy
 ·exact a5f x y hx hy
 ·exact a5e x y hx hy
 ·exact a5d x y hx hy
 ·exact a2f x y hx hy
 ·exact a2e x y hx hy
 ·exact a2d x y hx hy
theorem jo (x y:Int) (r:Nat) (hx:0≤x∧x<1073741824) (hy:0≤y∧y<1073741824) (hr:r≤12):okc r (d9 x y r):=by
 have h1:=bi0 x y r hx hy hr;have h2:=a8m x y r hx hy hr;unfold okc;unfold Ei.In;unfold Ei.H at h1 h2;omega

def alg:Mk P0 f171:={ x:=_ }
theorem api:b8 171 2 alg:=b7 func171
def ad3:PC:=
  (.seq (.reg [p_a 2 (.box (.t 0)),p_a 3 (.box (.t 1)),p_a 4 (.new [(.r (.v (.int .i64 0))),(.r (.v (.int .u64 0)))])])
 (.seq (.reg [p_s 8 (.fa 1 (.t 2)),p_s 9 (.ld none (.t 8)),p_s 10 (.fa 1 (.t 3)),p_s 11 (.ld none (.t 10)),p_s 12 (.carry false (.t 9) (.t 11) (.c (.r (.v (.int .u64 0))))),
 p_m 7 12,p_s 13 (.ext (.t 7) 0),p_s 14 (.ext (.t 7) 1),p_m 5 13,p_m 6 14])
 (.seq (.reg [p_s 15 (.fa 0 (.t 2)),p_s 16 (.ld none (.t 15)),p_s 17 (.fa 0 (.t 3)),p_s 18 (.ld none (.t 17)),p_s 19 (.bin .add (.t 16) (.t 18)),p_m 20 6,p_s 21 (.conv .i64 (.t 20)),
 p_s 22 (.bin .add (.t 19) (.t 21)),p_m 23 5,p_s 24 (.build [(.r (.v (.int .i64 0))),(.r (.v (.int .u64 0)))] [(0,1,(.t 22)),(1,1,(.t 23))]),⟨none,none,0,.act (.st 2 (.t 4) (.t 24))⟩])
 .ret)))
theorem ajw:Fun P0 170 2 [(4,false,some (246,(some 2)))] ad3:=ad1 func170 rfl (by decide) (by kernel_rfl) (by decide) rfl (by kernel_rfl) (by kernel_rfl) (by decide)
def abq:PC:=
  (.seq (.reg [p_a 2 (.box (.t 0)),p_a 3 (.box (.t 1)),p_a 4 (.new [(.r (.v (.int .i64 0))),(.r (.v (.int .u64 0)))])])
 (.seq (.reg [p_s 8 (.fa 1 (.t 2)),p_s 9 (.ld none (.t 8)),p_s 10 (.fa 1 (.t 3)),p_s 11 (.ld none (.t 10)),p_s 12 (.carry true (.t 9) (.t 11) (.c (.r (.v (.int .u64 0))))),
 p_m 7 12,p_s 13 (.ext (.t 7) 0),p_s 14 (.ext (.t 7) 1),p_m 5 13,p_m 6 14])
 (.seq (.reg [p_s 15 (.fa 0 (.t 2)),p_s 16 (.ld none (.t 15)),p_s 17 (.fa 0 (.t 3)),p_s 18 (.ld none (.t 17)),p_s 19 (.bin .sub (.t 16) (.t 18)),p_m 20 6,p_s 21 (.conv .i64 (.t 20)),
 p_s 22 (.bin .sub (.t 19) (.t 21)),p_m 23 5,p_s 24 (.build [(.r (.v (.int .i64 0))),(.r (.v (.int .u64 0)))] [(0,1,(.t 22)),(1,1,(.t 23))]),⟨none,none,0,.act (.st 2 (.t 4) (.t 24))⟩])
 .ret)))
theorem ah8:Fun P0 172 2 [(4,false,some (246,(some 2)))] abq:=ad1 func172 rfl (by decide) (by kernel_rfl) (by decide) rfl (by kernel_rfl) (by kernel_rfl) (by decide)
def abp:Mk P0 f173:={ x:=_ }
theorem ah7:b8 173 1 abp:=b7 func173
def ann:Mk P0 f174:={ x:=_ }
theorem aqy:b8 174 4 ann:=b7 func174
def apl:Mk P0 f121:={ x:=_ }
theorem atc:b8 121 2 apl:=b7 func121
def wid (x:Int):AV:=.r (.agg [.v (.int .i64 (IntKind.i64.wrap (x/18446744073709551616))),.v (.int .u64 (x%18446744073709551616))])
theorem azt {x a b:Int} (h1:a=IntKind.i64.wrap (x/18446744073709551616)) (h2:b=x%18446744073709551616):AV.r (.agg [.v (.int .i64 a),.v (.int .u64 b)])=wid x:=by rw [h1,h2]; rfl
theorem a2n (a b:Int):a8 P0 170 [wid a,wid b] [] (wid (a+b)) []:=by
 refine ajw rfl (by decide) ?_
 push_cast [ad3,wid,zaa]
 refine ⟨by omega,azt ?_ ?_⟩
 ·simp only [IntKind.wrap_i64]; omega
 ·omega
theorem a99 (a b:Int):a8 P0 172 [wid a,wid b] [] (wid (a-b)) []:=by
 refine ah8 rfl (by decide) ?_
 push_cast [abq,wid,zaa]
 refine ⟨by omega,azt ?_ ?_⟩
 ·simp only [IntKind.wrap_i64]; omega
 ·omega
theorem azp (a:Int) (h:-170141183460469231731687303715884105728≤a∧a<170141183460469231731687303715884105728):a8 P0 173 [wid a] [] (sm a) []:=by
 refine ah7 rfl (by decide) ?_
 push_cast [abp,wid,zaa]
 rw [IntKind.wrap_i64,IntKind.wrap_i64];have hn:in64 a→(a%18446744073709551616+9223372036854775808)%18446744073709551616-9223372036854775808=a:=by unfold in64; omega
 have hh:(a/18446744073709551616+9223372036854775808)%18446744073709551616-9223372036854775808=a/18446744073709551616:=by omega
 rw [hh];have h0:a/18446744073709551616=0→(a%18446744073709551616+9223372036854775808)%18446744073709551616-9223372036854775808≥0→in64 a:=by unfold in64; omega
 have h1:a/18446744073709551616=-1→(a%18446744073709551616+9223372036854775808)%18446744073709551616-9223372036854775808<0→in64 a:=by unfold in64; omega
 have h2:in64 a→(a/18446744073709551616=0∧(a%18446744073709551616+9223372036854775808)%18446744073709551616-9223372036854775808≥0)∨(a/18446744073709551616=-1∧(a%18446744073709551616+9223372036854775808)%18446744073709551616-9223372036854775808<0):=by unfold in64; omega
 generalize a/18446744073709551616=q at *;generalize (a%18446744073709551616+9223372036854775808)%18446744073709551616-9223372036854775808=n at *;refine ⟨by simp +contextual,by simp +contextual; omega,b6 (fun hc=>?_) (fun hc=>?_)⟩
 ·push_cast
  have hy:in64 a:=by
   by_cases c1:n<0
   ·by_cases c2:q=-1
    ·exact h1 c2 c1
    ·simp [c1,c2] at hc; omega
   ·by_cases c2:q=0
    ·exact h0 c2 (by omega)
    ·simp [c1,c2] at hc
  exact rn (hn hy) hy
 ·push_cast
  refine amc fun hy=>?_;rcases h2 hy with ⟨e1,e2⟩ | ⟨e1,e2⟩
  ·simp [e1,e2] at hc
  ·simp [e1,e2] at hc
theorem ap9 {a:Int} (ha:in64 a):IntKind.u64.wrap a=if a<0 then a+18446744073709551616 else a:=by
 unfold in64 at ha;rw [IntKind.wrap_u64];split<;>omega
theorem al0 (a b:Int) (ha:in64 a) (hb:in64 b):a8 P0 171 [int .i64 a,int .i64 b] [] (wid (a*b)) []:=by
 refine api rfl (by decide) ?_
 push_cast [alg,zaa]
 have ha':=ha;have hb':=hb;unfold in64 at ha' hb'
 have hu:∀x:Int,in64 x→((IntKind.u64.wrap x).toNat:Int)=if x<0 then x+18446744073709551616 else x:=fun x hx=>by
  rw [ap9 hx];unfold in64 at hx;split<;>omega
 have hu0:∀x:Int,in64 x→(IntKind.u64.wrap x).toNat<18446744073709551616:=fun x hx=>by
  rw [ap9 hx];unfold in64 at hx;split<;>omega
 refine b5 (as':=[int .u64 (IntKind.u64.wrap a).toNat,int .u64 (IntKind.u64.wrap b).toNat]) (by rw [hu a ha,hu b hb,ap9 ha,ap9 hb]) ?_;refine a6 (awy _ _ (hu0 a ha) (hu0 b hb)) rfl trivial ?_
 push_cast
 have hp:((IntKind.u64.wrap a).toNat:Int)*((IntKind.u64.wrap b).toNat:Int)=a*b+(if a<0 then b*18446744073709551616 else 0)+(if b<0 then a*18446744073709551616 else 0)+(if a<0 then if b<0 then 340282366920938463463374607431768211456 else 0 else 0):=by
  rw [hu a ha,hu b hb];split<;>split<;>(try simp only [Int.add_mul,zcj])<;>omega
 rw [hp];generalize a*b=m;refine b6 (fun h1=>?_) (fun h1=>?_)<;>push_cast<;>refine b6 (fun h2=>?_) (fun h2=>?_)<;>push_cast
 all_goals
  simp only [decide_eq_true_eq,decide_eq_false_iff_not] at h1 h2;simp only [h1,h2,if_true,if_false];refine azt ?_ ?_
  ·simp only [IntKind.wrap_i64]; omega
  ·omega
theorem av5 (a b:Int):a8 P0 174 [int .i64 a,bl true,int .i64 b,bl true] [] (.tup [Ei.v ⟨a,b⟩,bl true]) []:=by
 refine aqy rfl (by decide) ?_
 push_cast [ann,Ei.v,Ei.rv,zaa]
abbrev M63:Int:=9223372036854775807
theorem Ei.In.ok {z:Ei} (h:z.In M63):in64 z.a∧in64 z.b:=by unfold Ei.In M63 at h; unfold in64; omega
theorem bit {x y:Ei} (hx:x.In 4611686018427387904) (hy:y.In 4611686018427387904):(-21267647932558653966460912964485513216≤x.a*y.a∧x.a*y.a≤21267647932558653966460912964485513216)∧(-21267647932558653966460912964485513216≤x.a*y.b∧x.a*y.b≤21267647932558653966460912964485513216)∧(-21267647932558653966460912964485513216≤x.b*y.a∧x.b*y.a≤21267647932558653966460912964485513216)∧(-21267647932558653966460912964485513216≤x.b*y.b∧x.b*y.b≤21267647932558653966460912964485513216):=
 ⟨bf hx.1 hy.1,bf hx.1 hy.2,bf hx.2 hy.1,bf hx.2 hy.2⟩
theorem ahd (x y:Ei) (hx:x.In 4611686018427387904) (hy:y.In 4611686018427387904) (hz:(x.mul y).In M63):a8 P0 121 [x.v,y.v] [] (.tup [(x.mul y).v,bl true]) []:=by
 refine atc rfl (by decide) ?_;have hz1:=hz.ok.1;have hz2:=hz.ok.2;simp only [Ei.mul] at hz1 hz2
 push_cast [apl,Ei.v,Ei.rv,zaa]
 have hx1:in64 x.a∧in64 x.b:=by unfold Ei.In at hx; unfold in64; omega
 have hy1:in64 y.a∧in64 y.b:=by unfold Ei.In at hy; unfold in64; omega
 refine a6 (al0 x.b y.b hx1.2 hy1.2) rfl trivial ?_
 push_cast [wid]
 refine b9 (al0 x.a y.a hx1.1 hy1.1) rfl trivial ?_
 push_cast [wid]
 refine i7 (as':=[wid (x.a*y.a),wid (x.b*y.b)]) rfl ?_;refine b9 (a99 _ _) rfl trivial ?_
 push_cast [wid]
 refine i7 (as':=[wid (x.a*y.a-x.b*y.b)]) rfl ?_;refine b9 (azp _ ?_) rfl trivial ?_
 ·have:=bit hx hy;omega
 push_cast [sm,hz1,if_pos]
 refine And.intro (by kernel_rfl) ?_;refine b9 (al0 x.a y.b hx1.1 hy1.2) rfl trivial ?_
 push_cast [wid]
 refine b9 (al0 x.b y.a hx1.2 hy1.1) rfl trivial ?_
 push_cast [wid]
 refine And.intro (by kernel_rfl) ?_;refine i7 (as':=[wid (x.a*y.b),wid (x.b*y.a)]) rfl ?_;refine b9 (a2n _ _) rfl trivial ?_
 push_cast [wid]
 refine And.intro (by kernel_rfl) ?_;refine i7 (as':=[wid (x.a*y.b+x.b*y.a),wid (x.b*y.b)]) rfl ?_;refine b9 (a2n _ _) rfl trivial ?_
 push_cast [wid]
 refine i7 (as':=[wid (x.a*y.b+x.b*y.a+x.b*y.b)]) rfl ?_;refine b9 (azp _ ?_) rfl trivial ?_
 ·have:=bit hx hy;omega
 push_cast [sm,hz2,if_pos]
 refine And.intro (by kernel_rfl) ?_;refine a6 (av5 _ _) rfl trivial ?_
 push_cast [Ei.v,Ei.rv,Ei.mul]

def ac1:Mk P0 f175:={ x:=_ }
theorem ad4:b8 175 3 ac1:=b7 func175
def apm:Mk P0 f122:={ x:=_ }
theorem atd:b8 122 2 apm:=b7 func122
def apj:Mk P0 f234:={ x:=_ }
theorem atb:b8 234 2 apj:=b7 func234
def anp:Mk P0 f195:={ x:=_ }
theorem aq0:b8 195 1 anp:=b7 func195
def ano:Mk P0 f123:={ x:=_ }
theorem aqz:b8 123 1 ano:=b7 func123
def anq:Mk P0 f125:={ x:=_ }
theorem aq1:b8 125 1 anq:=b7 func125
def ank:Mk P0 f178:={ x:=_ }
theorem aqv:b8 178 2 ank:=b7 func178
def alh:Mk P0 f197:={ x:=_ }
theorem apk:b8 197 2 alh:=b7 func197
theorem afu {x:Int} (h:in64 x):sm x=.tup [int .i64 x,bl true]:=by simp [sm,h]
theorem a9c (x y:Ei) (hx:x.In M63) (hy:y.In M63) (hz:(x.add y).In M63):a8 P0 122 [x.v,y.v] [] (.tup [(x.add y).v,bl true]) []:=by
 have hs:a8 P0 175 [x.v,y.v,.fn (.func 176) []] [] (.tup [(x.add y).v,bl true]) []:=by
  refine ad4 rfl (by decide) ?_
  push_cast [ac1,Ei.v,Ei.rv,zaa]
  refine ⟨by kernel_rfl,?_⟩;refine a6 (a6d _ _ hx.ok.1 hy.ok.1) rfl trivial ?_;rw [afu (show in64 (x.a+y.a) from hz.ok.1)]
  push_cast
  refine ⟨by kernel_rfl,?_⟩;refine a6 (a6d _ _ hx.ok.2 hy.ok.2) rfl trivial ?_;rw [afu (show in64 (x.b+y.b) from hz.ok.2)]
  push_cast
  refine a6 (av5 _ _) rfl trivial ?_
  push_cast [Ei.v,Ei.rv,Ei.add]
 refine atd rfl (by decide) ?_
 push_cast [apm,Ei.v,Ei.rv,zaa]
 refine b5 (as':=[x.v,y.v,.fn (.func 176) []]) rfl ?_;refine a6 hs rfl trivial ?_
 push_cast [Ei.v,Ei.rv,Ei.add]
theorem bjq (x y:Ei) (hx:x.In M63) (hy:y.In M63) (hz:(x.sub y).In M63):a8 P0 234 [x.v,y.v] [] (.tup [(x.sub y).v,bl true]) []:=by
 have hs:a8 P0 175 [x.v,y.v,.fn (.func 246) []] [] (.tup [(x.sub y).v,bl true]) []:=by
  refine ad4 rfl (by decide) ?_
  push_cast [ac1,Ei.v,Ei.rv,zaa]
  refine ⟨by kernel_rfl,?_⟩;refine a6 (a4u _ _ hx.ok.1 hy.ok.1) rfl trivial ?_;rw [afu (show in64 (x.a-y.a) from hz.ok.1)]
  push_cast
  refine ⟨by kernel_rfl,?_⟩;refine a6 (a4u _ _ hx.ok.2 hy.ok.2) rfl trivial ?_;rw [afu (show in64 (x.b-y.b) from hz.ok.2)]
  push_cast
  refine a6 (av5 _ _) rfl trivial ?_
  push_cast [Ei.v,Ei.rv,Ei.sub]
 refine atb rfl (by decide) ?_
 push_cast [apj,Ei.v,Ei.rv,zaa]
 refine b5 (as':=[x.v,y.v,.fn (.func 246) []]) rfl ?_;refine a6 hs rfl trivial ?_
 push_cast [Ei.v,Ei.rv,Ei.sub]
theorem a37 (x:Ei) (hx:x.In 4611686018427387903):a8 P0 195 [x.v] [] (.tup [x.conj.v,bl true]) []:=by
 refine aq0 rfl (by decide) ?_;have h:=hx;unfold Ei.In at h
 push_cast [anp,Ei.v,Ei.rv,zaa]
 refine a6 (a6d _ _ (by unfold in64; omega) (by unfold in64; omega)) rfl trivial ?_;rw [afu (by unfold in64; omega)]
 push_cast
 refine a6 (blc _ (by unfold in64; omega)) rfl trivial ?_;rw [afu (by unfold in64; omega)]
 push_cast
 refine a6 (av5 _ _) rfl trivial ?_
 push_cast [Ei.v,Ei.rv,Ei.conj]
theorem bc6:uni 0=⟨1,0⟩:=rfl
theorem bc5:uni 1=⟨0,1⟩:=rfl
theorem bc4:uni 2=⟨-1,1⟩:=rfl
theorem bc3:uni 3=⟨-1,0⟩:=rfl
theorem bc2:uni 4=⟨0,-1⟩:=rfl
theorem bc1:uni 5=⟨1,-1⟩:=rfl
theorem a35 (k:Int) (hk:0≤k∧k<6):a8 P0 123 [int .i64 k] [] (uni k.toNat).v []:=by
 refine aqz rfl (by decide) ?_
 have hm:(IntKind.i64.wrap (Int.tmod k 6+6)).tmod 6=k:=by
  rw [zcm hk.1,a5 (by omega),zcm (by omega)]; omega
 simp only [ano,hm,Ei.v,Ei.rv,push_cast,↓reduceIte,reduceCtorEq,zE,zA,zD];refine ⟨by decide,by decide,hk,by omega,?_⟩;rcases (show k=0∨k=1∨k=2∨k=3∨k=4∨k=5 by omega) with rfl | rfl | rfl | rfl | rfl | rfl
 all_goals
  simp only [Int.reduceToNat,Nat.zero_mul,Nat.add_zero,zcu,bc6,bc5,bc4,bc3,bc2,bc1,push_cast,zA,zD,zM]
  first | done | trace_state
theorem aca (a m:Int) (ha:in64 a) (hm:0≤m∧m≤4611686018427387904):a8 P0 178 [int .i64 a,int .i64 m] [] (bl (decide (-m≤a∧a≤m))) []:=by
 refine aqv rfl (by decide) ?_
 push_cast [ank,zaa]
 rw [show IntKind.i64.wrap (0-m)=-m by rw [a5 (by omega)]; omega];refine ei ?_;by_cases h1:-m≤a<;>by_cases h2:a≤m<;>by_cases h3:a=-9223372036854775808<;>simp [h1,h2,h3]
 all_goals omega
theorem axb (k:Int) (hk:0≤k∧k≤12):a8 P0 125 [int .i64 k] [] (.tup [(c7 k.toNat).v,bl true]) []:=by
 refine aq1 rfl (by decide) ?_;have c1:decide (k<0)=false:=by simp; omega
 have c2:decide (k>20)=false:=by simp; omega
 push_cast [anq,zaa,c1,c2]
 refine run_loop [(14,false),(15,false),(2,false),(3,false),(4,false),(5,false)] (fun vs pos los=>∃i:Int,0≤i∧i≤k∧vs=[int .i64 k,int .i64 i,.ptr 2000000 0 0,bl false,.ptr 2000001 0 0,bl true]∧pos=[]∧los=[.box [int .i64 0,int .i64 0],.box [int .i64 (c7 i.toNat).a,int .i64 (c7 i.toNat).b]])
  (fun vs _ _=>match vs with | [_,.r (.v (.int _ j)),_,_,_,_]=>(k-j).toNat | _=>0) rfl ?_ ?_
 ·push_cast
  exact ⟨0,by omega,by omega,rfl,rfl⟩
 ·rintro vs pos los ⟨i,i0,ik,rfl,rfl,rfl⟩
  push_cast
  refine b6 (fun h=>?_) (fun h=>?_)
  ·simp only [decide_eq_true_eq] at h
   push_cast
   have h1:=mj i.toNat (by omega);have h2:=mj (i.toNat+1) (by omega);refine b5 (as':=[(c7 i.toNat).v,y9.v]) rfl ?_;refine a6 (ahd _ _ (h1.mono (by decide)) (by unfold Ei.In; decide) (h2.mono (by decide))) rfl trivial ?_
   push_cast [Ei.v,Ei.rv]
   rw [show IntKind.i64.wrap (i+1)=i+1 from a5 (by omega)];refine ⟨⟨i+1,by omega,by omega,rfl,?_⟩,by omega⟩;rw [show (i+1).toNat=i.toNat+1 by omega]
   rfl
  ·simp only [decide_eq_false_iff_not] at h;have:i=k:=by omega
   subst this
   push_cast [Ei.v,Ei.rv]

def pkN (d a b:Int) (i:Nat):Int×Ei:=(adm.take i).foldl (pk d a b) (0,⟨0,0⟩)
theorem a0k (d a b:Int) (i:Nat) (z:Ei) (h:adm[i]?=some z):pkN d a b (i+1)=pk d a b (pkN d a b i) z:=by
 unfold pkN;rw [List.take_add_one,h];simp
theorem bfs {d a b:Int} (ha:0≤a∧a<d) (hb:0≤b∧b<d):(pkN d a b 3).2=ir d a b:=a2g ha hb
theorem a78 (d a b:Int):∀i,(0≤(pkN d a b i).2.a∧(pkN d a b i).2.a≤1)∧(0≤(pkN d a b i).2.b∧(pkN d a b i).2.b≤1)
 | 0=>by simp [pkN]
 | i+1=>by
  have ih:=a78 d a b i;rcases h:adm[i]? with _ | z
  ·have:pkN d a b (i+1)=pkN d a b i:=by unfold pkN; rw [List.take_add_one,h]; simp
   rw [this]; exact ih
  ·rw [a0k d a b i z h];unfold pk;split
   ·have:z∈adm:=List.mem_of_getElem? h;simp [adm] at this;rcases this with rfl | rfl | rfl<;>simp
   ·exact ih
theorem avm {a d n:Int} (h:-n≤a∧a≤n) (hd:1≤d):-n≤a/d∧a/d≤n:=by
 have h1:=zcv a d;have h5:=zac a (show 0<d by omega);have h6:=zad a (show d≠0 by omega);generalize a/d=q at *;generalize a%d=r at *;constructor
 ·rcases zci q 0 with hq | hq
  ·have:d*(q+1)≤1*(q+1):=Int.mul_le_mul_of_nonpos_right (by omega) (by omega);rw [zcj] at this;omega
  ·omega
 ·rcases zci q 0 with hq | hq
  ·omega
  ·have:1*q≤d*q:=zcw (by omega) hq;omega
theorem a1l (u:Ei) (d:Int) (hu:u.In 1152921504606846976) (hd:1≤d∧d≤1125899906842624):a8 P0 197 [u.v,int .i64 d] [] (.tup [(u.round d).v,bl true]) []:=by
 refine apk rfl (by decide) ?_;have hu':=hu;unfold Ei.In at hu';have c1:decide (d<1)=false:=by simp; omega
 have c2:decide (d>1125899906842624)=false:=by simp; omega
 have ia:in64 u.a:=by unfold in64; omega
 have ib:in64 u.b:=by unfold in64; omega
 have ed:in64 d:=by unfold in64; omega
 push_cast [alh,Ei.v,Ei.rv,zaa,c1,c2]
 refine a6 (aca _ _ ia (by decide)) rfl trivial ?_;rw [show decide (-1152921504606846976≤u.a∧u.a≤1152921504606846976)=true from decide_eq_true hu'.1]
 push_cast
 refine a6 (aca _ _ ib (by decide)) rfl trivial ?_;rw [show decide (-1152921504606846976≤u.b∧u.b≤1152921504606846976)=true from decide_eq_true hu'.2]
 push_cast
 refine a6 (qn _ _ ia ed) rfl trivial ?_;have hd0:0<d:=by omega
 push_cast [hd0,if_true]
 refine a6 (qn _ _ ib ed) rfl trivial ?_
 push_cast [hd0,if_true]
 have ha:0≤u.a%d∧u.a%d<d:=⟨zad _ (by omega),zac _ hd0⟩
 have hb:0≤u.b%d∧u.b%d<d:=⟨zad _ (by omega),zac _ hd0⟩
 have hqa:-1152921504606846976≤u.a/d∧u.a/d≤1152921504606846976:=avm hu'.1 hd.1;have hqb:-1152921504606846976≤u.b/d∧u.b/d≤1152921504606846976:=avm hu'.2 hd.1;generalize hA:u.a%d=a at *;generalize hB:u.b%d=b at *;generalize hQa:u.a/d=qa at *;generalize hQb:u.b/d=qb at *;refine ⟨by simp,?_⟩
 refine run_loop [(57,false),(58,false),(59,false),(1,false),(4,false),(5,false),(6,false),(7,false),(9,false),(10,false),(12,false),(13,false)] (fun vs pos los=>∃i:Nat,i≤3∧vs=[.own 2000000 0 0 3,int .i64 3,int .i64 i,int .i64 d,.ptr 2000001 0 0,bl false,int .i64 qa,int .i64 a,int .i64 qb,int .i64 b,int .i64 (pkN d a b i).1,.ptr 2000002 0 0]∧pos=[] ∧
   los=[.row 2 (Ei.rv ⟨0,0⟩) true true (adm.map Ei.rv),.box [int .i64 0,int .i64 0],.box [int .i64 (pkN d a b i).2.a,int .i64 (pkN d a b i).2.b]])
  (fun vs _ _=>match vs with | _::_ :: .r (.v (.int _ j))::_=>(3-j).toNat | _=>0) rfl ?_ ?_
 ·push_cast
  exact ⟨0,by omega,rfl,rfl⟩
 ·rintro vs pos los ⟨i,i3,rfl,rfl,rfl⟩
  push_cast
  refine b6 (fun h=>?_) (fun h=>?_)
  ·have hi:i=0∨i=1∨i=2:=by simp at h; omega
   obtain ⟨z,hz,hzz⟩:∃z,adm[i]?=some z∧((z=⟨0,1⟩∨z=⟨1,0⟩∨z=⟨1,1⟩)):=by
    rcases hi with rfl | rfl | rfl
    ·exact ⟨_,rfl,by simp⟩
    ·exact ⟨_,rfl,by simp⟩
    ·exact ⟨_,rfl,by simp⟩
   have hg:(List.map Ei.rv adm).getD i (Ei.rv ⟨0,0⟩)=.agg [.v (.int .i64 z.a),.v (.int .i64 z.b)]:=by
    rw [List.getD_eq_getElem?_getD,List.getElem?_map,hz]; rfl
   have hn:(IntKind.i64.wrap (IntKind.i64.wrap (IntKind.i64.wrap (z.a*z.a)+IntKind.i64.wrap (z.a*z.b))+IntKind.i64.wrap (z.b*z.b)))=z.a*z.a+z.a*z.b+z.b*z.b:=by
    rcases hzz with rfl | rfl | rfl<;>decide
   have hf:IntKind.i64.wrap (IntKind.i64.wrap (IntKind.i64.wrap (d*(z.a*z.a+z.a*z.b+z.b*z.b))-IntKind.i64.wrap (z.a*IntKind.i64.wrap (IntKind.i64.wrap (2*a)+b)))-IntKind.i64.wrap (z.b*IntKind.i64.wrap (a+IntKind.i64.wrap (2*b))))=fr d a b z:=by
    rw [show IntKind.i64.wrap (2*a)=2*a from a5 (by omega),show IntKind.i64.wrap (2*b)=2*b from a5 (by omega),show IntKind.i64.wrap (2*a+b)=2*a+b from a5 (by omega),show IntKind.i64.wrap (a+2*b)=a+2*b from a5 (by omega)];rcases hzz with rfl | rfl | rfl<;>simp only [fr,Int.zero_mul,Int.mul_zero,zcl,Int.mul_one,Int.add_zero,Int.zero_add,IntKind.wrap_i64]<;>omega
   have hs:=a0k d a b i z hz
   push_cast [Int.toNat_natCast,zcu,hg,hn,hf]
   refine ⟨by omega,?_⟩;refine b6 (fun h'=>?_) (fun h'=>?_)
   ·simp only [decide_eq_true_eq] at h'
    push_cast
    refine ⟨by kernel_rfl,?_⟩;rw [show IntKind.i64.wrap (i+1)=i+1 from a5 (by omega)];refine ⟨⟨i+1,by omega,?_,?_⟩,by omega⟩
    ·rw [hs,pk,if_pos h']<;>rfl
    ·rw [hs,pk,if_pos h']<;>rfl
   ·simp only [decide_eq_false_iff_not] at h'
    push_cast
    rw [show IntKind.i64.wrap (i+1)=i+1 from a5 (by omega)];refine ⟨⟨i+1,by omega,?_,?_⟩,by omega⟩
    ·rw [hs,pk,if_neg h']<;>rfl
    ·rw [hs,pk,if_neg h']<;>rfl
  ·have:i=3:=by simp at h; omega
   subst this
   push_cast
   have hN:=a78 d a b 3;rw [a5 (by omega),a5 (by omega),bfs ha hb,← hQa,← hQb,← hA,← hB]
   rfl

def ak4:Mk P0 f177:={ x:=_ }
theorem aos:b8 177 1 ak4:=b7 func177
def are:Mk P0 f160:={ x:=_ }
theorem aue:b8 160 2 are:=b7 func160
def ak6:Mk P0 f194:={ x:=_ }
theorem aov:b8 194 2 ak6:=b7 func194
def anj:Mk P0 f161:={ x:=_ }
theorem aqu:b8 161 3 anj:=b7 func161
def ak3:Mk P0 f124:={ x:=_ }
theorem aor:b8 124 3 ak3:=b7 func124
def ani:Mk P0 f179:={ x:=_ }
theorem aqt:b8 179 1 ani:=b7 func179
def wv:Mk P0 f126:={ x:=_ }
theorem aex:b8 126 2 wv:=b7 func126
def aou:Mk P0 f73:={ x:=_ }
theorem asp:b8 73 2 aou:=b7 func73
theorem p2 (n:Nat) (h:n≤36):1≤(2:Int)^n∧(2:Int)^n≤68719476736:=by
 have h1:2^n≤2^36:=zam (by decide) h;have h2:1≤2^n:=Nat.one_le_two_pow;have h3:((2^n:Nat):Int)=(2:Int)^n:=by simp
 omega
theorem p7 (n:Nat) (h:n≤12):1≤(7:Int)^n∧(7:Int)^n≤13841287201:=by
 have h1:7^n≤7^12:=zam (by decide) h;have h2:1≤7^n:=Nat.one_le_pow _ _ (by decide);have h3:((7^n:Nat):Int)=(7:Int)^n:=by simp
 omega
theorem bap (z:Int) (h0:0≤z) (h1:z≤36):IntKind.i64.wrap (1*2^min (IntKind.u64.wrap z).toNat IntKind.i64.bits)=2^z.toNat:=by
 have hp:=p2 z.toNat (by omega);rw [IntKind.wrap_u64,show (z%18446744073709551616).toNat=z.toNat by omega,show min z.toNat IntKind.i64.bits=z.toNat from Nat.min_eq_left (by simp [IntKind.bits]; omega),zcl,a5 (by omega)]
theorem bmc (z:Int) (h0:0≤z) (h1:z≤36):IntKind.i64.wrap (1*2^min z.toNat IntKind.i64.bits)=2^z.toNat:=by
 have hp:=p2 z.toNat (by omega);rw [show min z.toNat IntKind.i64.bits=z.toNat from Nat.min_eq_left (by simp [IntKind.bits]; omega),zcl,a5 (by omega)]
theorem aw1 (r:Int):a8 P0 177 [int .i64 r] [] (bl (decide (0≤r∧r≤12))) []:=by
 refine aos rfl (by decide) ?_
 push_cast [ak4,zaa]
 refine ei ?_;simp
theorem sa {x y:Ei} {n m:Int} (hx:x.In n) (hy:y.In m):(x.mul y).In (3*(n*m)):=by
 have h1:=bf hx.1 hy.1;have h2:=bf hx.1 hy.2;have h3:=bf hx.2 hy.1;have h4:=bf hx.2 hy.2;unfold Ei.In Ei.mul;dsimp only;generalize n*m=q at *;omega
theorem axe {x:Ei} {n:Int} (hx:x.In n):x.conj.In (2*n):=by
 unfold Ei.In Ei.conj at *;dsimp only;omega
def inW (x y:Int):Prop:=(0≤x∧x<1073741824)∧(0≤y∧y<1073741824)
instance (x y:Int):Decidable (inW x y):=inferInstanceAs (Decidable (_∧_))
theorem a59 {x y:Int} (h:inW x y):(ax x y).In 60000000000:=by
 unfold inW at h;unfold ax Ei.In;dsimp only;omega
theorem a9v {x y:Int} (h:inW x y) {k:Nat} (hk:k≤12):((ax x y).mul (c7 k).conj).In 43200000000000000:=
 (sa (a59 h) (axe (mj k hk))).mono (by decide)
theorem bdg (x y:Int):a8 P0 160 [int .i64 x,int .i64 y] [] (bl (decide (inW x y))) []:=by
 refine aue rfl (by decide) ?_
 push_cast [are,zaa]
 repeat refine And.intro (by simp +contextual) ?_
 refine ei ?_;unfold inW;by_cases h1:0≤x<;>by_cases h2:x<1073741824<;>by_cases h3:0≤y<;>by_cases h4:y<1073741824<;>simp [h1,h2,h3,h4]
theorem bg3 (x y:Int) (h:inW x y):a8 P0 194 [int .i64 x,int .i64 y] [] (.tup [(ax x y).v,bl true]) []:=by
 refine aov rfl (by decide) ?_
 push_cast [ak6,zaa]
 refine a6 (bdg x y) rfl trivial ?_;rw [decide_eq_true h]
 push_cast
 unfold inW at h;rw [show IntKind.i64.wrap (45*x)=45*x from a5 (by omega),show IntKind.i64.wrap (26*y)=26*y from a5 (by omega),show IntKind.i64.wrap (52*y)=52*y from a5 (by omega),show IntKind.i64.wrap (45*x-26*y)=45*x-26*y from a5 (by omega)];simp only [ax,Ei.v,Ei.rv]
theorem biz (x y r:Int) (h:inW x y) (hr:0≤r∧r≤12):a8 P0 161 [int .i64 x,int .i64 y,int .i64 r] [] (.tup [(d9 x y r.toNat).v,bl true]) []:=by
 refine aqu rfl (by decide) ?_
 push_cast [anj,zaa]
 refine a6 (bg3 x y h) rfl trivial ?_
 push_cast [Ei.v,Ei.rv]
 refine a6 (aw1 r) rfl trivial ?_;rw [decide_eq_true hr]
 push_cast
 have hk:(12-r).toNat=12-r.toNat:=by omega
 have hk2:(12-r).toNat≤12:=by omega
 rw [show IntKind.i64.wrap (12-r)=12-r from a5 (by omega)];refine a6 (axb (12-r) (by omega)) rfl trivial ?_;have hb:=mj (12-r).toNat hk2
 push_cast [Ei.v,Ei.rv]
 refine b5 (as':=[(c7 (12-r).toNat).v]) rfl ?_;refine a6 (a37 _ (hb.mono (by decide))) rfl trivial ?_
 push_cast [Ei.v,Ei.rv]
 have hp:=p7 (12-r).toNat hk2;rw [show IntKind.i64.wrap (12-r)=12-r from a5 (by omega)];have ht:=bdf 7 (12-r) (by decide) (by unfold in64; omega);rw [if_neg (show ¬12-r<0 by omega),afu (by unfold in64; omega)] at ht;refine a6 ht rfl trivial ?_
 push_cast
 have hm:=a9v h hk2;refine b5 (as':=[(ax x y).v,(c7 (12-r).toNat).conj.v]) rfl ?_;refine a6 (ahd _ _ ((a59 h).mono (by decide)) ((axe hb).mono (by decide)) (hm.mono (by decide))) rfl trivial ?_
 push_cast [Ei.v,Ei.rv]
 rw [show IntKind.i64.wrap (2340*7^(12-r).toNat)=2340*7^(12-r).toNat from a5 (by omega)];refine b5 (as':=[((ax x y).mul (c7 (12-r).toNat).conj).v,int .i64 (2340*7^(12-r).toNat)]) rfl ?_;refine a6 (a1l _ _ (hm.mono (by decide)) (by omega)) rfl trivial ?_
 push_cast [Ei.v,Ei.rv,d9,hk]

def vv (i:Nat):Ei:=match i with | 0=>⟨1,1⟩ | 1=>⟨-1,2⟩ | 2=>⟨-2,1⟩ | 3=>⟨-1,-1⟩ | 4=>⟨1,-2⟩ | _=>⟨2,-1⟩
def hc (z:Ei) (r i:Nat):Ei:=(c7 (12-r)).mul ⟨3*z.a+(vv i).a,3*z.b+(vv i).b⟩
def hx (z:Ei) (r i:Nat):Int:=52*(hc z r i).a+26*(hc z r i).b
def hy (z:Ei) (r i:Nat):Int:=45*(hc z r i).b
def cx (z:Ei) (r:Nat):Int:=52*((c7 (12-r)).mul z).a+26*((c7 (12-r)).mul z).b
def cy (z:Ei) (r:Nat):Int:=45*((c7 (12-r)).mul z).b
def kx (r i:Nat):Int:=52*((c7 (12-r)).mul (vv i)).a+26*((c7 (12-r)).mul (vv i)).b
def ky (r i:Nat):Int:=45*((c7 (12-r)).mul (vv i)).b
theorem cg (z:Ei) (r i:Nat):hx z r i=3*cx z r+kx r i:=by
 simp only [hx,cx,kx,hc,Ei.mul,zcj,Int.mul_left_comm _ (3:Int)];omega
theorem cd (z:Ei) (r i:Nat):hy z r i=3*cy z r+ky r i:=by
 simp only [hy,cy,ky,hc,Ei.mul,zcj,Int.mul_left_comm _ (3:Int)];omega
def crs (z:Ei) (r i j:Nat) (x y:Int):Int:=(kx r j-kx r i)*(y-hy z r i)-(ky r j-ky r i)*(x-hx z r i)
theorem as1 (r i:Nat) (hr:r≤12) (hi:i<6):(-100000000≤kx r i∧kx r i≤100000000)∧(-100000000≤ky r i∧ky r i≤100000000):=by
 have:∀j:Fin 13,∀i:Fin 6,(-100000000≤kx j.val i.val∧kx j.val i.val≤100000000)∧(-100000000≤ky j.val i.val∧ky j.val i.val≤100000000):=by decide +kernel
 exact this ⟨r,by omega⟩ ⟨i,hi⟩
theorem bls (r i:Nat) (hr:r≤12) (hi:i<6):0<(kx r ((i+1)%6)-kx r i)*(ky r ((i+3)%6)-ky r i)-(ky r ((i+1)%6)-ky r i)*(kx r ((i+3)%6)-kx r i):=by
 have:∀j:Fin 13,∀i:Fin 6,0<(kx j.val ((i.val+1)%6)-kx j.val i.val)*(ky j.val ((i.val+3)%6)-ky j.val i.val)-(ky j.val ((i.val+1)%6)-ky j.val i.val)*(kx j.val ((i.val+3)%6)-kx j.val i.val):=by decide +kernel
 exact this ⟨r,by omega⟩ ⟨i,hi⟩
def wh (x y:Int) (z:Ei) (r:Nat):Prop:=
 ((-50000000≤cx z r-x∧cx z r-x≤50000000)∧(-50000000≤cy z r-y∧cy z r-y≤50000000)) ∧
 (∀i,i<6→0≤crs z r i ((i+1)%6) (3*x) (3*y)) ∧
 (∃i,i<6∧hx z r i≤3*x)∧(∃i,i<6∧3*x≤hx z r i)∧(∃i,i<6∧hy z r i≤3*y)∧(∃i,i<6∧3*y≤hy z r i)
theorem lt6 {i:Nat} (h:i<6):i=0∨i=1∨i=2∨i=3∨i=4∨i=5:=by omega
theorem blr (x y:Int):wh x y (d9 x y 0) 0:=by
 have h:=l7 ((ax x y).mul (c7 (12-0)).conj) (d:=2340*7^(12-0)) (by decide);have e:(c7 (12-0)).conj=⟨-128231,102960⟩:=by decide
 have ed:(2340*7^(12-0):Int)=32388612050340:=by decide
 have eb:c7 (12-0)=⟨-25271,-102960⟩:=by decide
 unfold d9;generalize Ei.round _ _=q at *;rw [e,ed] at h;have ex:cx q 0=52*(-25271*q.a - -102960*q.b)+26*(-25271*q.b + -102960*q.a + -102960*q.b):=by simp only [cx,eb,Ei.mul]
 have ey:cy q 0=45*(-25271*q.b + -102960*q.a + -102960*q.b):=by simp only [cy,eb,Ei.mul]
 have x0:kx 0 0=-1971138:=by decide
 have y0:ky 0 0=-10403595:=by decide
 have x1:kx 0 1=8030880:=by decide
 have y1:ky 0 1=-6907590:=by decide
 have x2:kx 0 2=10002018:=by decide
 have y2:ky 0 2=3496005:=by decide
 have x3:kx 0 3=1971138:=by decide
 have y3:ky 0 3=10403595:=by decide
 have x4:kx 0 4=-8030880:=by decide
 have y4:ky 0 4=6907590:=by decide
 have x5:kx 0 5=-10002018:=by decide
 have y5:ky 0 5=-3496005:=by decide
 unfold i5 at h;simp only [Ei.mul,ax] at h;have g:∀i,hx q 0 i=3*cx q 0+kx 0 i:=fun i=>cg q 0 i;have g':∀i,hy q 0 i=3*cy q 0+ky 0 i:=fun i=>cd q 0 i;have h1:=h.1;have h2:=h.2.1;have h3:=h.2.2;refine ⟨by omega,fun i hi=>?_,⟨5,by decide,?_⟩,⟨2,by decide,?_⟩,⟨0,by decide,?_⟩,⟨3,by decide,?_⟩⟩
 ·rcases lt6 hi with rfl | rfl | rfl | rfl | rfl | rfl<;>simp only [crs,g,g',x0,x1,x2,x3,x4,x5,y0,y1,y2,y3,y4,y5]<;>omega
 ·simp only [g,x5]; omega
 ·simp only [g,x2]; omega
 ·simp only [g',y0]; omega
 ·simp only [g',y3]; omega
theorem blq (x y:Int):wh x y (d9 x y 1) 1:=by
 have h:=l7 ((ax x y).mul (c7 (12-1)).conj) (d:=2340*7^(12-1)) (by decide);have e:(c7 (12-1)).conj=⟨-51346,25807⟩:=by decide
 have ed:(2340*7^(12-1):Int)=4626944578620:=by decide
 have eb:c7 (12-1)=⟨-25539,-25807⟩:=by decide
 unfold d9;generalize Ei.round _ _=q at *;rw [e,ed] at h;have ex:cx q 1=52*(-25539*q.a - -25807*q.b)+26*(-25539*q.b + -25807*q.a + -25807*q.b):=by simp only [cx,eb,Ei.mul]
 have ey:cy q 1=45*(-25539*q.b + -25807*q.a + -25807*q.b):=by simp only [cy,eb,Ei.mul]
 have x0:kx 1 0=-1992042:=by decide
 have y0:ky 1 0=-3471885:=by decide
 have x1:kx 1 1=2012946:=by decide
 have y1:ky 1 1=-3459825:=by decide
 have x2:kx 1 2=4004988:=by decide
 have y2:ky 1 2=12060:=by decide
 have x3:kx 1 3=1992042:=by decide
 have y3:ky 1 3=3471885:=by decide
 have x4:kx 1 4=-2012946:=by decide
 have y4:ky 1 4=3459825:=by decide
 have x5:kx 1 5=-4004988:=by decide
 have y5:ky 1 5=-12060:=by decide
 unfold i5 at h;simp only [Ei.mul,ax] at h;have g:∀i,hx q 1 i=3*cx q 1+kx 1 i:=fun i=>cg q 1 i;have g':∀i,hy q 1 i=3*cy q 1+ky 1 i:=fun i=>cd q 1 i;have h1:=h.1;have h2:=h.2.1;have h3:=h.2.2;refine ⟨by omega,fun i hi=>?_,⟨5,by decide,?_⟩,⟨2,by decide,?_⟩,⟨0,by decide,?_⟩,⟨3,by decide,?_⟩⟩
 ·rcases lt6 hi with rfl | rfl | rfl | rfl | rfl | rfl<;>simp only [crs,g,g',x0,x1,x2,x3,x4,x5,y0,y1,y2,y3,y4,y5]<;>omega
 ·simp only [g,x5]; omega
 ·simp only [g,x2]; omega
 ·simp only [g',y0]; omega
 ·simp only [g',y3]; omega
theorem blp (x y:Int):wh x y (d9 x y 2) 2:=by
 have h:=l7 ((ax x y).mul (c7 (12-2)).conj) (d:=2340*7^(12-2)) (by decide);have e:(c7 (12-2)).conj=⟨-18357,3725⟩:=by decide
 have ed:(2340*7^(12-2):Int)=660992082660:=by decide
 have eb:c7 (12-2)=⟨-14632,-3725⟩:=by decide
 unfold d9;generalize Ei.round _ _=q at *;rw [e,ed] at h;have ex:cx q 2=52*(-14632*q.a - -3725*q.b)+26*(-14632*q.b + -3725*q.a + -3725*q.b):=by simp only [cx,eb,Ei.mul]
 have ey:cy q 2=45*(-14632*q.b + -3725*q.a + -3725*q.b):=by simp only [cy,eb,Ei.mul]
 have x0:kx 2 0=-1141296:=by decide
 have y0:ky 2 0=-993690:=by decide
 have x1:kx 2 1=290550:=by decide
 have y1:ky 2 1=-1484505:=by decide
 have x2:kx 2 2=1431846:=by decide
 have y2:ky 2 2=-490815:=by decide
 have x3:kx 2 3=1141296:=by decide
 have y3:ky 2 3=993690:=by decide
 have x4:kx 2 4=-290550:=by decide
 have y4:ky 2 4=1484505:=by decide
 have x5:kx 2 5=-1431846:=by decide
 have y5:ky 2 5=490815:=by decide
 unfold i5 at h;simp only [Ei.mul,ax] at h;have g:∀i,hx q 2 i=3*cx q 2+kx 2 i:=fun i=>cg q 2 i;have g':∀i,hy q 2 i=3*cy q 2+ky 2 i:=fun i=>cd q 2 i;have h1:=h.1;have h2:=h.2.1;have h3:=h.2.2;refine ⟨by omega,fun i hi=>?_,⟨5,by decide,?_⟩,⟨2,by decide,?_⟩,⟨1,by decide,?_⟩,⟨4,by decide,?_⟩⟩
 ·rcases lt6 hi with rfl | rfl | rfl | rfl | rfl | rfl<;>simp only [crs,g,g',x0,x1,x2,x3,x4,x5,y0,y1,y2,y3,y4,y5]<;>omega
 ·simp only [g,x5]; omega
 ·simp only [g,x2]; omega
 ·simp only [g',y1]; omega
 ·simp only [g',y4]; omega
theorem blo (x y:Int):wh x y (d9 x y 3) 3:=by
 have h:=l7 ((ax x y).mul (c7 (12-3)).conj) (d:=2340*7^(12-3)) (by decide);have e:(c7 (12-3)).conj=⟨-5777,-1026⟩:=by decide
 have ed:(2340*7^(12-3):Int)=94427440380:=by decide
 have eb:c7 (12-3)=⟨-6803,1026⟩:=by decide
 unfold d9;generalize Ei.round _ _=q at *;rw [e,ed] at h;have ex:cx q 3=52*(-6803*q.a-1026*q.b)+26*(-6803*q.b+1026*q.a+1026*q.b):=by simp only [cx,eb,Ei.mul]
 have ey:cy q 3=45*(-6803*q.b+1026*q.a+1026*q.b):=by simp only [cy,eb,Ei.mul]
 have x0:kx 3 0=-530634:=by decide
 have y0:ky 3 0=-213795:=by decide
 have x1:kx 3 1=-80028:=by decide
 have y1:ky 3 1=-566100:=by decide
 have x2:kx 3 2=450606:=by decide
 have y2:ky 3 2=-352305:=by decide
 have x3:kx 3 3=530634:=by decide
 have y3:ky 3 3=213795:=by decide
 have x4:kx 3 4=80028:=by decide
 have y4:ky 3 4=566100:=by decide
 have x5:kx 3 5=-450606:=by decide
 have y5:ky 3 5=352305:=by decide
 unfold i5 at h;simp only [Ei.mul,ax] at h;have g:∀i,hx q 3 i=3*cx q 3+kx 3 i:=fun i=>cg q 3 i;have g':∀i,hy q 3 i=3*cy q 3+ky 3 i:=fun i=>cd q 3 i;have h1:=h.1;have h2:=h.2.1;have h3:=h.2.2;refine ⟨by omega,fun i hi=>?_,⟨0,by decide,?_⟩,⟨3,by decide,?_⟩,⟨1,by decide,?_⟩,⟨4,by decide,?_⟩⟩
 ·rcases lt6 hi with rfl | rfl | rfl | rfl | rfl | rfl<;>simp only [crs,g,g',x0,x1,x2,x3,x4,x5,y0,y1,y2,y3,y4,y5]<;>omega
 ·simp only [g,x0]; omega
 ·simp only [g,x3]; omega
 ·simp only [g',y1]; omega
 ·simp only [g',y4]; omega
theorem bln (x y:Int):wh x y (d9 x y 4) 4:=by
 have h:=l7 ((ax x y).mul (c7 (12-4)).conj) (d:=2340*7^(12-4)) (by decide);have e:(c7 (12-4)).conj=⟨-1504,-1265⟩:=by decide
 have ed:(2340*7^(12-4):Int)=13489634340:=by decide
 have eb:c7 (12-4)=⟨-2769,1265⟩:=by decide
 unfold d9;generalize Ei.round _ _=q at *;rw [e,ed] at h;have ex:cx q 4=52*(-2769*q.a-1265*q.b)+26*(-2769*q.b+1265*q.a+1265*q.b):=by simp only [cx,eb,Ei.mul]
 have ey:cy q 4=45*(-2769*q.b+1265*q.a+1265*q.b):=by simp only [cy,eb,Ei.mul]
 have x0:kx 4 0=-215982:=by decide
 have y0:ky 4 0=-10755:=by decide
 have x1:kx 4 1=-98670:=by decide
 have y1:ky 4 1=-192285:=by decide
 have x2:kx 4 2=117312:=by decide
 have y2:ky 4 2=-181530:=by decide
 have x3:kx 4 3=215982:=by decide
 have y3:ky 4 3=10755:=by decide
 have x4:kx 4 4=98670:=by decide
 have y4:ky 4 4=192285:=by decide
 have x5:kx 4 5=-117312:=by decide
 have y5:ky 4 5=181530:=by decide
 unfold i5 at h;simp only [Ei.mul,ax] at h;have g:∀i,hx q 4 i=3*cx q 4+kx 4 i:=fun i=>cg q 4 i;have g':∀i,hy q 4 i=3*cy q 4+ky 4 i:=fun i=>cd q 4 i;have h1:=h.1;have h2:=h.2.1;have h3:=h.2.2;refine ⟨by omega,fun i hi=>?_,⟨0,by decide,?_⟩,⟨3,by decide,?_⟩,⟨1,by decide,?_⟩,⟨4,by decide,?_⟩⟩
 ·rcases lt6 hi with rfl | rfl | rfl | rfl | rfl | rfl<;>simp only [crs,g,g',x0,x1,x2,x3,x4,x5,y0,y1,y2,y3,y4,y5]<;>omega
 ·simp only [g,x0]; omega
 ·simp only [g,x3]; omega
 ·simp only [g',y1]; omega
 ·simp only [g',y4]; omega
theorem blm (x y:Int):wh x y (d9 x y 5) 5:=by
 have h:=l7 ((ax x y).mul (c7 (12-5)).conj) (d:=2340*7^(12-5)) (by decide);have e:(c7 (12-5)).conj=⟨-249,-757⟩:=by decide
 have ed:(2340*7^(12-5):Int)=1927090620:=by decide
 have eb:c7 (12-5)=⟨-1006,757⟩:=by decide
 unfold d9;generalize Ei.round _ _=q at *;rw [e,ed] at h;have ex:cx q 5=52*(-1006*q.a-757*q.b)+26*(-1006*q.b+757*q.a+757*q.b):=by simp only [cx,eb,Ei.mul]
 have ey:cy q 5=45*(-1006*q.b+757*q.a+757*q.b):=by simp only [cy,eb,Ei.mul]
 have x0:kx 5 0=-78468:=by decide
 have y0:ky 5 0=22860:=by decide
 have x1:kx 5 1=-59046:=by decide
 have y1:ky 5 1=-56475:=by decide
 have x2:kx 5 2=19422:=by decide
 have y2:ky 5 2=-79335:=by decide
 have x3:kx 5 3=78468:=by decide
 have y3:ky 5 3=-22860:=by decide
 have x4:kx 5 4=59046:=by decide
 have y4:ky 5 4=56475:=by decide
 have x5:kx 5 5=-19422:=by decide
 have y5:ky 5 5=79335:=by decide
 unfold i5 at h;simp only [Ei.mul,ax] at h;have g:∀i,hx q 5 i=3*cx q 5+kx 5 i:=fun i=>cg q 5 i;have g':∀i,hy q 5 i=3*cy q 5+ky 5 i:=fun i=>cd q 5 i;have h1:=h.1;have h2:=h.2.1;have h3:=h.2.2;refine ⟨by omega,fun i hi=>?_,⟨0,by decide,?_⟩,⟨3,by decide,?_⟩,⟨2,by decide,?_⟩,⟨5,by decide,?_⟩⟩
 ·rcases lt6 hi with rfl | rfl | rfl | rfl | rfl | rfl<;>simp only [crs,g,g',x0,x1,x2,x3,x4,x5,y0,y1,y2,y3,y4,y5]<;>omega
 ·simp only [g,x0]; omega
 ·simp only [g,x3]; omega
 ·simp only [g',y2]; omega
 ·simp only [g',y5]; omega
theorem bll (x y:Int):wh x y (d9 x y 6) 6:=by
 have h:=l7 ((ax x y).mul (c7 (12-6)).conj) (d:=2340*7^(12-6)) (by decide);have e:(c7 (12-6)).conj=⟨37,-360⟩:=by decide
 have ed:(2340*7^(12-6):Int)=275298660:=by decide
 have eb:c7 (12-6)=⟨-323,360⟩:=by decide
 unfold d9;generalize Ei.round _ _=q at *;rw [e,ed] at h;have ex:cx q 6=52*(-323*q.a-360*q.b)+26*(-323*q.b+360*q.a+360*q.b):=by simp only [cx,eb,Ei.mul]
 have ey:cy q 6=45*(-323*q.b+360*q.a+360*q.b):=by simp only [cy,eb,Ei.mul]
 have x0:kx 6 0=-25194:=by decide
 have y0:ky 6 0=17865:=by decide
 have x1:kx 6 1=-28080:=by decide
 have y1:ky 6 1=-12870:=by decide
 have x2:kx 6 2=-2886:=by decide
 have y2:ky 6 2=-30735:=by decide
 have x3:kx 6 3=25194:=by decide
 have y3:ky 6 3=-17865:=by decide
 have x4:kx 6 4=28080:=by decide
 have y4:ky 6 4=12870:=by decide
 have x5:kx 6 5=2886:=by decide
 have y5:ky 6 5=30735:=by decide
 unfold i5 at h;simp only [Ei.mul,ax] at h;have g:∀i,hx q 6 i=3*cx q 6+kx 6 i:=fun i=>cg q 6 i;have g':∀i,hy q 6 i=3*cy q 6+ky 6 i:=fun i=>cd q 6 i;have h1:=h.1;have h2:=h.2.1;have h3:=h.2.2;refine ⟨by omega,fun i hi=>?_,⟨1,by decide,?_⟩,⟨4,by decide,?_⟩,⟨2,by decide,?_⟩,⟨5,by decide,?_⟩⟩
 ·rcases lt6 hi with rfl | rfl | rfl | rfl | rfl | rfl<;>simp only [crs,g,g',x0,x1,x2,x3,x4,x5,y0,y1,y2,y3,y4,y5]<;>omega
 ·simp only [g,x1]; omega
 ·simp only [g,x4]; omega
 ·simp only [g',y2]; omega
 ·simp only [g',y5]; omega
theorem blj (x y:Int):wh x y (d9 x y 7) 7:=by
 have h:=l7 ((ax x y).mul (c7 (12-7)).conj) (d:=2340*7^(12-7)) (by decide);have e:(c7 (12-7)).conj=⟨62,-149⟩:=by decide
 have ed:(2340*7^(12-7):Int)=39328380:=by decide
 have eb:c7 (12-7)=⟨-87,149⟩:=by decide
 unfold d9;generalize Ei.round _ _=q at *;rw [e,ed] at h;have ex:cx q 7=52*(-87*q.a-149*q.b)+26*(-87*q.b+149*q.a+149*q.b):=by simp only [cx,eb,Ei.mul]
 have ey:cy q 7=45*(-87*q.b+149*q.a+149*q.b):=by simp only [cy,eb,Ei.mul]
 have x0:kx 7 0=-6786:=by decide
 have y0:ky 7 0=9495:=by decide
 have x1:kx 7 1=-11622:=by decide
 have y1:ky 7 1=-1125:=by decide
 have x2:kx 7 2=-4836:=by decide
 have y2:ky 7 2=-10620:=by decide
 have x3:kx 7 3=6786:=by decide
 have y3:ky 7 3=-9495:=by decide
 have x4:kx 7 4=11622:=by decide
 have y4:ky 7 4=1125:=by decide
 have x5:kx 7 5=4836:=by decide
 have y5:ky 7 5=10620:=by decide
 unfold i5 at h;simp only [Ei.mul,ax] at h;have g:∀i,hx q 7 i=3*cx q 7+kx 7 i:=fun i=>cg q 7 i;have g':∀i,hy q 7 i=3*cy q 7+ky 7 i:=fun i=>cd q 7 i;have h1:=h.1;have h2:=h.2.1;have h3:=h.2.2;refine ⟨by omega,fun i hi=>?_,⟨1,by decide,?_⟩,⟨4,by decide,?_⟩,⟨2,by decide,?_⟩,⟨5,by decide,?_⟩⟩
 ·rcases lt6 hi with rfl | rfl | rfl | rfl | rfl | rfl<;>simp only [crs,g,g',x0,x1,x2,x3,x4,x5,y0,y1,y2,y3,y4,y5]<;>omega
 ·simp only [g,x1]; omega
 ·simp only [g,x4]; omega
 ·simp only [g',y2]; omega
 ·simp only [g',y5]; omega
theorem bli (x y:Int):wh x y (d9 x y 8) 8:=by
 have h:=l7 ((ax x y).mul (c7 (12-8)).conj) (d:=2340*7^(12-8)) (by decide);have e:(c7 (12-8)).conj=⟨39,-55⟩:=by decide
 have ed:(2340*7^(12-8):Int)=5618340:=by decide
 have eb:c7 (12-8)=⟨-16,55⟩:=by decide
 unfold d9;generalize Ei.round _ _=q at *;rw [e,ed] at h;have ex:cx q 8=52*(-16*q.a-55*q.b)+26*(-16*q.b+55*q.a+55*q.b):=by simp only [cx,eb,Ei.mul]
 have ey:cy q 8=45*(-16*q.b+55*q.a+55*q.b):=by simp only [cy,eb,Ei.mul]
 have x0:kx 8 0=-1248:=by decide
 have y0:ky 8 0=4230:=by decide
 have x1:kx 8 1=-4290:=by decide
 have y1:ky 8 1=1035:=by decide
 have x2:kx 8 2=-3042:=by decide
 have y2:ky 8 2=-3195:=by decide
 have x3:kx 8 3=1248:=by decide
 have y3:ky 8 3=-4230:=by decide
 have x4:kx 8 4=4290:=by decide
 have y4:ky 8 4=-1035:=by decide
 have x5:kx 8 5=3042:=by decide
 have y5:ky 8 5=3195:=by decide
 unfold i5 at h;simp only [Ei.mul,ax] at h;have g:∀i,hx q 8 i=3*cx q 8+kx 8 i:=fun i=>cg q 8 i;have g':∀i,hy q 8 i=3*cy q 8+ky 8 i:=fun i=>cd q 8 i;have h1:=h.1;have h2:=h.2.1;have h3:=h.2.2;refine ⟨by omega,fun i hi=>?_,⟨1,by decide,?_⟩,⟨4,by decide,?_⟩,⟨3,by decide,?_⟩,⟨0,by decide,?_⟩⟩
 ·rcases lt6 hi with rfl | rfl | rfl | rfl | rfl | rfl<;>simp only [crs,g,g',x0,x1,x2,x3,x4,x5,y0,y1,y2,y3,y4,y5]<;>omega
 ·simp only [g,x1]; omega
 ·simp only [g,x4]; omega
 ·simp only [g',y3]; omega
 ·simp only [g',y0]; omega
theorem blh (x y:Int):wh x y (d9 x y 9) 9:=by
 have h:=l7 ((ax x y).mul (c7 (12-9)).conj) (d:=2340*7^(12-9)) (by decide);have e:(c7 (12-9)).conj=⟨19,-18⟩:=by decide
 have ed:(2340*7^(12-9):Int)=802620:=by decide
 have eb:c7 (12-9)=⟨1,18⟩:=by decide
 unfold d9;generalize Ei.round _ _=q at *;rw [e,ed] at h;have ex:cx q 9=52*(1*q.a-18*q.b)+26*(1*q.b+18*q.a+18*q.b):=by simp only [cx,eb,Ei.mul]
 have ey:cy q 9=45*(1*q.b+18*q.a+18*q.b):=by simp only [cy,eb,Ei.mul]
 have x0:kx 9 0=78:=by decide
 have y0:ky 9 0=1665:=by decide
 have x1:kx 9 1=-1404:=by decide
 have y1:ky 9 1=900:=by decide
 have x2:kx 9 2=-1482:=by decide
 have y2:ky 9 2=-765:=by decide
 have x3:kx 9 3=-78:=by decide
 have y3:ky 9 3=-1665:=by decide
 have x4:kx 9 4=1404:=by decide
 have y4:ky 9 4=-900:=by decide
 have x5:kx 9 5=1482:=by decide
 have y5:ky 9 5=765:=by decide
 unfold i5 at h;simp only [Ei.mul,ax] at h;have g:∀i,hx q 9 i=3*cx q 9+kx 9 i:=fun i=>cg q 9 i;have g':∀i,hy q 9 i=3*cy q 9+ky 9 i:=fun i=>cd q 9 i;have h1:=h.1;have h2:=h.2.1;have h3:=h.2.2;refine ⟨by omega,fun i hi=>?_,⟨2,by decide,?_⟩,⟨5,by decide,?_⟩,⟨3,by decide,?_⟩,⟨0,by decide,?_⟩⟩
 ·rcases lt6 hi with rfl | rfl | rfl | rfl | rfl | rfl<;>simp only [crs,g,g',x0,x1,x2,x3,x4,x5,y0,y1,y2,y3,y4,y5]<;>omega
 ·simp only [g,x2]; omega
 ·simp only [g,x5]; omega
 ·simp only [g',y3]; omega
 ·simp only [g',y0]; omega
theorem bi6 (x y:Int):wh x y (d9 x y 10) 10:=by
 have h:=l7 ((ax x y).mul (c7 (12-10)).conj) (d:=2340*7^(12-10)) (by decide);have e:(c7 (12-10)).conj=⟨8,-5⟩:=by decide
 have ed:(2340*7^(12-10):Int)=114660:=by decide
 have eb:c7 (12-10)=⟨3,5⟩:=by decide
 unfold d9;generalize Ei.round _ _=q at *;rw [e,ed] at h;have ex:cx q 10=52*(3*q.a-5*q.b)+26*(3*q.b+5*q.a+5*q.b):=by simp only [cx,eb,Ei.mul]
 have ey:cy q 10=45*(3*q.b+5*q.a+5*q.b):=by simp only [cy,eb,Ei.mul]
 have x0:kx 10 0=234:=by decide
 have y0:ky 10 0=585:=by decide
 have x1:kx 10 1=-390:=by decide
 have y1:ky 10 1=495:=by decide
 have x2:kx 10 2=-624:=by decide
 have y2:ky 10 2=-90:=by decide
 have x3:kx 10 3=-234:=by decide
 have y3:ky 10 3=-585:=by decide
 have x4:kx 10 4=390:=by decide
 have y4:ky 10 4=-495:=by decide
 have x5:kx 10 5=624:=by decide
 have y5:ky 10 5=90:=by decide
 unfold i5 at h;simp only [Ei.mul,ax] at h;have g:∀i,hx q 10 i=3*cx q 10+kx 10 i:=fun i=>cg q 10 i;have g':∀i,hy q 10 i=3*cy q 10+ky 10 i:=fun i=>cd q 10 i;have h1:=h.1;have h2:=h.2.1;have h3:=h.2.2;refine ⟨by omega,fun i hi=>?_,⟨2,by decide,?_⟩,⟨5,by decide,?_⟩,⟨3,by decide,?_⟩,⟨0,by decide,?_⟩⟩
 ·rcases lt6 hi with rfl | rfl | rfl | rfl | rfl | rfl<;>simp only [crs,g,g',x0,x1,x2,x3,x4,x5,y0,y1,y2,y3,y4,y5]<;>omega
 ·simp only [g,x2]; omega
 ·simp only [g,x5]; omega
 ·simp only [g',y3]; omega
 ·simp only [g',y0]; omega
theorem bi5 (x y:Int):wh x y (d9 x y 11) 11:=by
 have h:=l7 ((ax x y).mul (c7 (12-11)).conj) (d:=2340*7^(12-11)) (by decide);have e:(c7 (12-11)).conj=⟨3,-1⟩:=by decide
 have ed:(2340*7^(12-11):Int)=16380:=by decide
 have eb:c7 (12-11)=⟨2,1⟩:=by decide
 unfold d9;generalize Ei.round _ _=q at *;rw [e,ed] at h;have ex:cx q 11=52*(2*q.a-1*q.b)+26*(2*q.b+1*q.a+1*q.b):=by simp only [cx,eb,Ei.mul]
 have ey:cy q 11=45*(2*q.b+1*q.a+1*q.b):=by simp only [cy,eb,Ei.mul]
 have x0:kx 11 0=156:=by decide
 have y0:ky 11 0=180:=by decide
 have x1:kx 11 1=-78:=by decide
 have y1:ky 11 1=225:=by decide
 have x2:kx 11 2=-234:=by decide
 have y2:ky 11 2=45:=by decide
 have x3:kx 11 3=-156:=by decide
 have y3:ky 11 3=-180:=by decide
 have x4:kx 11 4=78:=by decide
 have y4:ky 11 4=-225:=by decide
 have x5:kx 11 5=234:=by decide
 have y5:ky 11 5=-45:=by decide
 unfold i5 at h;simp only [Ei.mul,ax] at h;have g:∀i,hx q 11 i=3*cx q 11+kx 11 i:=fun i=>cg q 11 i;have g':∀i,hy q 11 i=3*cy q 11+ky 11 i:=fun i=>cd q 11 i;have h1:=h.1;have h2:=h.2.1;have h3:=h.2.2;refine ⟨by omega,fun i hi=>?_,⟨2,by decide,?_⟩,⟨5,by decide,?_⟩,⟨4,by decide,?_⟩,⟨1,by decide,?_⟩⟩
 ·rcases lt6 hi with rfl | rfl | rfl | rfl | rfl | rfl<;>simp only [crs,g,g',x0,x1,x2,x3,x4,x5,y0,y1,y2,y3,y4,y5]<;>omega
 ·simp only [g,x2]; omega
 ·simp only [g,x5]; omega
 ·simp only [g',y4]; omega
 ·simp only [g',y1]; omega
theorem bi4 (x y:Int):wh x y (d9 x y 12) 12:=by
 have h:=l7 ((ax x y).mul (c7 (12-12)).conj) (d:=2340*7^(12-12)) (by decide);have e:(c7 (12-12)).conj=⟨1,0⟩:=by decide
 have ed:(2340*7^(12-12):Int)=2340:=by decide
 have eb:c7 (12-12)=⟨1,0⟩:=by decide
 unfold d9;generalize Ei.round _ _=q at *;rw [e,ed] at h;have ex:cx q 12=52*(1*q.a-0*q.b)+26*(1*q.b+0*q.a+0*q.b):=by simp only [cx,eb,Ei.mul]
 have ey:cy q 12=45*(1*q.b+0*q.a+0*q.b):=by simp only [cy,eb,Ei.mul]
 have x0:kx 12 0=78:=by decide
 have y0:ky 12 0=45:=by decide
 have x1:kx 12 1=0:=by decide
 have y1:ky 12 1=90:=by decide
 have x2:kx 12 2=-78:=by decide
 have y2:ky 12 2=45:=by decide
 have x3:kx 12 3=-78:=by decide
 have y3:ky 12 3=-45:=by decide
 have x4:kx 12 4=0:=by decide
 have y4:ky 12 4=-90:=by decide
 have x5:kx 12 5=78:=by decide
 have y5:ky 12 5=-45:=by decide
 unfold i5 at h;simp only [Ei.mul,ax] at h;have g:∀i,hx q 12 i=3*cx q 12+kx 12 i:=fun i=>cg q 12 i;have g':∀i,hy q 12 i=3*cy q 12+ky 12 i:=fun i=>cd q 12 i;have h1:=h.1;have h2:=h.2.1;have h3:=h.2.2;refine ⟨by omega,fun i hi=>?_,⟨2,by decide,?_⟩,⟨0,by decide,?_⟩,⟨4,by decide,?_⟩,⟨1,by decide,?_⟩⟩
 ·rcases lt6 hi with rfl | rfl | rfl | rfl | rfl | rfl<;>simp only [crs,g,g',x0,x1,x2,x3,x4,x5,y0,y1,y2,y3,y4,y5]<;>omega
 ·simp only [g,x2]; omega
 ·simp only [g,x0]; omega
 ·simp only [g',y4]; omega
 ·simp only [g',y1]; omega
theorem asz (x y:Int) (r:Nat) (hr:r≤12):wh x y (d9 x y r) r:=by
 match r,hr with
 | 0,_=>exact blr x y
 | 1,_=>exact blq x y
 | 2,_=>exact blp x y
 | 3,_=>exact blo x y
 | 4,_=>exact bln x y
 | 5,_=>exact blm x y
 | 6,_=>exact bll x y
 | 7,_=>exact blj x y
 | 8,_=>exact bli x y
 | 9,_=>exact blh x y
 | 10,_=>exact bi6 x y
 | 11,_=>exact bi5 x y
 | 12,_=>exact bi4 x y
 | r+13,h=>omega

theorem lb {r:Nat} (hr:r≤12):(c7 (12-r)).In 120000:=mj _ (by omega)
theorem asi {z:Ei} {n:Int} {by_:Int} (h:z.In n) (hb:0≤by_∧by_≤3) (hn:0≤n):(⟨by_*z.a,by_*z.b⟩:Ei).In (3*n):=by
 have h1:=bf (show -3≤by_∧by_≤3 by omega) h.1;have h2:=bf (show -3≤by_∧by_≤3 by omega) h.2;exact ⟨h1,h2⟩
def jn (z:Ei) (r:Nat) (b:Int):Ei:=(c7 (12-r)).mul ⟨b*z.a,b*z.b⟩
theorem ayf {z:Ei} {r:Nat} {b:Int} (h:z.In 1073741824) (hr:r≤12) (hb:0≤b∧b≤3):(jn z r b).In 1159641169920000:=(sa (lb hr) (asi h hb (by decide))).mono (by decide)
theorem bfr (z:Ei) (r b:Int) (h:z.In 1073741824) (hr:0≤r∧r≤12) (hb:0≤b∧b≤3):a8 P0 124 [z.v,int .i64 r,int .i64 b] [] (.tup [(jn z r.toNat b).v,bl true]) []:=by
 refine aor rfl (by decide) ?_;have h':=h;unfold Ei.In at h';have i1:in64 z.a∧in64 z.b:=by unfold in64; omega
 push_cast [ak3,Ei.v,Ei.rv,zaa]
 refine a6 (aw1 r) rfl trivial ?_;rw [decide_eq_true hr]
 push_cast
 refine a6 (aca _ _ i1.1 (by decide)) rfl trivial ?_;rw [show decide (-1073741824≤z.a∧z.a≤1073741824)=true from decide_eq_true h'.1]
 push_cast
 refine a6 (aca _ _ i1.2 (by decide)) rfl trivial ?_;rw [show decide (-1073741824≤z.b∧z.b≤1073741824)=true from decide_eq_true h'.2]
 push_cast
 rw [show IntKind.i64.wrap (12-r)=12-r from a5 (by omega)];refine a6 (axb (12-r) (by omega)) rfl trivial ?_
 push_cast [Ei.v,Ei.rv]
 have hs:=asi h hb (by decide);unfold Ei.In at hs;rw [show IntKind.i64.wrap (b*z.a)=b*z.a from a5 (by have:=hs.1; dsimp only at this; omega),show IntKind.i64.wrap (b*z.b)=b*z.b from a5 (by have:=hs.2; dsimp only at this; omega)];refine b5 (as':=[(c7 (12-r).toNat).v,Ei.v ⟨b*z.a,b*z.b⟩]) rfl ?_;have e:(12-r).toNat=12-r.toNat:=by omega
 refine a6 (ahd _ _ ((mj _ (by omega)).mono (by decide)) ((asi h hb (by decide)).mono (by decide)) ?_) rfl trivial ?_
 ·rw [e]; exact (ayf h (by omega) hb).mono (by decide)
 push_cast [jn,← e,Ei.v,Ei.rv]
def pnt (x y:Int):RV:=.agg [.v (.int .i64 x),.v (.int .i64 y)]
theorem bh2 (w:Ei) (h:w.In 10000000000000000):a8 P0 179 [w.v] [] (.r (pnt (52*w.a+26*w.b) (45*w.b))) []:=by
 refine aqt rfl (by decide) ?_;unfold Ei.In at h
 push_cast [ani,Ei.v,Ei.rv,zaa]
 rw [show IntKind.i64.wrap (52*w.a)=52*w.a from a5 (by omega),show IntKind.i64.wrap (26*w.b)=26*w.b from a5 (by omega),show IntKind.i64.wrap (52*w.a+26*w.b)=52*w.a+26*w.b from a5 (by omega),show IntKind.i64.wrap (45*w.b)=45*w.b from a5 (by omega)]
 rfl
theorem bkh {x y:Ei} {n m:Int} (hx:x.In n) (hy:y.In m):(x.add y).In (n+m):=by
 unfold Ei.In Ei.add at *;dsimp only;omega
theorem xj (i:Nat):(vv i).In 2:=by
 unfold vv;split<;>unfold Ei.In<;>decide
def cen (m b:Ei):AV:=.r (.agg [.v (.int .i64 m.a),.v (.int .i64 m.b),.v (.int .i64 b.a),.v (.int .i64 b.b)])
theorem a1p (m b k:Ei) (hm:m.In 1159641169920000) (hb:b.In 120000) (hk:k.In 2):a8 P0 126 [cen m b,k.v] [] (.r (pnt (52*(m.add (b.mul k)).a+26*(m.add (b.mul k)).b) (45*(m.add (b.mul k)).b))) []:=by
 refine aex rfl (by decide) ?_;have hbk:(b.mul k).In 720000:=(sa hb hk).mono (by decide)
 push_cast [wv,cen,Ei.v,Ei.rv,zaa]
 refine b5 (as':=[b.v,k.v]) rfl ?_;refine a6 (ahd _ _ (hb.mono (by decide)) (hk.mono (by decide)) (hbk.mono (by decide))) rfl trivial ?_
 push_cast [Ei.v,Ei.rv]
 refine b5 (as':=[m.v,(b.mul k).v]) rfl ?_;have hs:=bkh hm hbk;refine a6 (a9c _ _ (hm.mono (by decide)) (hbk.mono (by decide)) (hs.mono (by decide))) rfl trivial ?_
 push_cast [Ei.v,Ei.rv]
 refine b5 (as':=[(m.add (b.mul k)).v]) rfl ?_;refine a6 (bh2 _ (hs.mono (by decide))) rfl trivial ?_
 push_cast [pnt]
def a5r (z:Ei) (r i:Nat):RV:=pnt (hx z r i) (hy z r i)
def ke (z:Ei) (r:Nat) (n:Nat):List RV:=(List.range n).map (a5r z r)
theorem ayv (z:Ei) (r n:Nat):ke z r n++[a5r z r n]=ke z r (n+1):=by simp [ke,List.range_succ]
theorem as7 (z:Ei) (r n:Nat):(ke z r n).length=n:=by simp [ke]
theorem a3w (z:Ei) (r i:Nat):RV.agg [.v (.int .i64 (52*((jn z r 3).add ((c7 (12-r)).mul (vv i))).a+26*((jn z r 3).add ((c7 (12-r)).mul (vv i))).b)),.v (.int .i64 (45*((jn z r 3).add ((c7 (12-r)).mul (vv i))).b))]=a5r z r i:=by
 have h:(jn z r 3).add ((c7 (12-r)).mul (vv i))=hc z r i:=by
  apply Ei.ext'<;>simp only [jn,Ei.add,Ei.mul,hc,zcj]<;>omega
 rw [h]; rfl
def vvL:List RV:=[(vv 0).rv,(vv 1).rv,(vv 2).rv,(vv 3).rv,(vv 4).rv,(vv 5).rv]
theorem a6m (i:Nat) (h:i<6) (d:RV):vvL.getD i d=.agg [.v (.int .i64 (vv i).a),.v (.int .i64 (vv i).b)]:=by
 rcases lt6 h with rfl | rfl | rfl | rfl | rfl | rfl<;>rfl
theorem bds (z:Ei) (r:Int) (h:z.In 1073741824) (hr:0≤r∧r≤12):a8 P0 73 [z.v,int .i64 r] [] (.tup [.own 1000000 0 0 6,bl true]) [.row 2 (pnt 0 0) true true (ke z r.toNat 6)]:=by
  refine asp rfl (by decide) ?_;simp only [aou,Ei.v,Ei.rv,push_cast,↓reduceIte,reduceCtorEq,zE,zA,zD];refine b5 (as':=[z.v,int .i64 r,int .i64 3]) rfl ?_;refine a6 (bfr z r 3 h hr (by decide)) rfl trivial ?_;simp only [Ei.v,Ei.rv,push_cast,↓reduceIte,reduceCtorEq,zE,zA,zL,zD];rw [show IntKind.i64.wrap (12-r)=12-r from a5 (by omega)];refine a6 (axb (12-r) (by omega)) rfl trivial ?_;simp only [Ei.v,Ei.rv,push_cast,↓reduceIte,zE,zA,zL,zD];refine ⟨by simp,?_⟩;have e:(12-r).toNat=12-r.toNat:=by omega
  have hk:r.toNat≤12:=by omega
  have hmax:=d7;generalize hR:r.toNat=R at *;rw [e];have hm:(jn z R 3).In 1159641169920000:=ayf h hk (by decide);have hb:(c7 (12-R)).In 120000:=lb hk
  refine run_loop [(38,false),(39,false),(40,false),(10,false),(11,false)] (fun vs pos los=>∃i:Nat,i≤6∧pos=[] ∧
    ((i=0∧vs=[.own 2000000 0 0 6,int .i64 6,int .i64 i,.fn (.func 126) [.agg [int .i64 (jn z R 3).a,int .i64 (jn z R 3).b,int .i64 (c7 (12-R)).a,int .i64 (c7 (12-R)).b]] 1,.nils 2 (.agg [.v (.int .i64 0),.v (.int .i64 0)])]∧los=[.row 2 (.agg [.v (.int .i64 0),.v (.int .i64 0)]) true true vvL]) ∨
     (0<i∧vs=[.own 2000000 0 0 6,int .i64 6,int .i64 i,.fn (.func 126) [.agg [int .i64 (jn z R 3).a,int .i64 (jn z R 3).b,int .i64 (c7 (12-R)).a,int .i64 (c7 (12-R)).b]] 1,.own 2000001 0 0 i]∧los=[.row 2 (.agg [.v (.int .i64 0),.v (.int .i64 0)]) true true vvL,.row 2 (pnt 0 0) true true (ke z R i)])))
    (fun vs _ _=>match vs with | _::_ :: .r (.v (.int _ j))::_=>(6-j).toNat | _=>0) rfl ?_ ?_
  · simp only [push_cast,↓reduceIte,zE,zA,zL,zD];exact ⟨0,by omega,.inl ⟨rfl,rfl,rfl⟩⟩
  · rintro vs pos los ⟨i,i6,rfl,⟨i0,rfl,rfl⟩ | ⟨i0,rfl,rfl⟩⟩
    · subst i0;simp only [push_cast,↓reduceIte,zE];rw [show decide ((0:Int)<6)=true from rfl];simp only [push_cast,↓reduceIte,zE,zA,zD];refine ⟨by simp,?_⟩;rw [show (0:Int).toNat=0 from rfl,show 0+0=0 from rfl,a6m 0 (by decide)];simp only [push_cast,zA,zD];refine ⟨by kernel_rfl,?_⟩;refine b5 (as':=[cen (jn z R 3) (c7 (12-R)),(vv 0).v]) rfl ?_;refine a6 (a1p _ _ _ hm hb (xj 0)) rfl trivial ?_;simp only [pnt,push_cast,↓reduceIte,zB,zE,zA,zL,zD,zM];refine ⟨by decide,by omega,?_,?_⟩
      · refine ⟨1,by omega,.inr ⟨by omega,?_,?_⟩⟩
        · rw [show IntKind.i64.wrap (0+1)=((1:Nat):Int) by decide]
        · rw [a3w]; rfl
      · decide
    · simp only [push_cast,↓reduceIte,zE,zA];refine b6 (fun h=>?_) (fun h=>?_)
      · have hi:i<6:=by simp at h; omega
        simp only [push_cast,↓reduceIte,zE,zA,zD];refine ⟨by simp; omega,?_⟩;rw [Int.toNat_natCast,zcu,a6m i hi];simp only [push_cast,zA,zD];refine ⟨by kernel_rfl,?_⟩;refine b5 (as':=[cen (jn z R 3) (c7 (12-R)),(vv i).v]) rfl ?_;refine a6 (a1p _ _ _ hm hb (xj i)) rfl trivial ?_;simp only [pnt,push_cast,↓reduceIte,zB,zE,zA,zL,zD];rw [a3w,show IntKind.i64.wrap ((i:Int)+1)=((i+1:Nat):Int) by rw [a5 (by omega)]; omega,zdb (by rw [as7]; exact Nat.le_refl _),ayv];refine ⟨by decide,by omega,?_,?_⟩
        · exact ⟨i+1,by omega,.inr ⟨by omega,rfl,rfl⟩⟩
        · omega
      · have hi:i=6:=by simp at h; omega
        subst hi;simp only [push_cast,↓reduceIte,zE,zA,zL,zD]

def ans:Mk P0 f199:={ x:=_ }
theorem aq3:b8 199 1 ans:=b7 func199
def ant:Mk P0 f198:={ x:=_ }
theorem aq4:b8 198 1 ant:=b7 func198
def anu:Mk P0 f200:={ x:=_ }
theorem aq5:b8 200 1 anu:=b7 func200
def anv:Mk P0 f201:={ x:=_ }
theorem aq6:b8 201 1 anv:=b7 func201
def ary:Mk P0 f162:={ x:=_ }
theorem avw:b8 162 1 ary:=b7 func162
def avx:Mk P0 f166:={ x:=_ }
theorem axi:b8 166 1 avx:=b7 func166
def avy:Mk P0 f114:={ x:=_ }
theorem axj:b8 114 3 avy:=b7 func114
theorem a46 {z:Ei} {n:Int} (h:z.In n) (h1:2≤n):(pr z).In n:=by
 obtain ⟨l,_,g1,e1,f1⟩:=agp z;generalize pr z=q at *;unfold Ei.H at g1;unfold Ei.In at *;omega
theorem av7 {z:Ei} {n:Int} (k:Nat) (h:z.In n) (h1:2≤n):(anc k z).In n:=by
 induction k generalizing z with
 | zero=>exact h
 | succ k ih=>exact ih (a46 h h1)
theorem a8s (z:Ei):(lft z).In 1:=by
 obtain ⟨l,e,g1,_⟩:=agp z;rw [e];exact g1.in
theorem bej (z:Ei) (h:z.In 1073741824):a8 P0 199 [z.v] [] (.tup [(pr z).v,(lft z).v]) []:=by
 refine aq3 rfl (by decide) ?_
 push_cast [ans,Ei.v,Ei.rv,zaa]
 refine b5 (as':=[y9.v]) rfl ?_;refine a6 (a37 y9 (by unfold Ei.In; decide)) rfl trivial ?_
 push_cast [Ei.v,Ei.rv]
 have h1:(z.mul ⟨3,-1⟩).In 9663676416:=(sa h (show (⟨3,-1⟩:Ei).In 3 by unfold Ei.In; decide)).mono (by decide);refine b5 (as':=[z.v,Ei.v ⟨3,-1⟩]) rfl ?_;refine a6 (ahd _ _ (h.mono (by decide)) (show (⟨3,-1⟩:Ei).In _ by unfold Ei.In; decide) (h1.mono (by decide))) rfl trivial ?_
 push_cast [Ei.v,Ei.rv]
 refine b5 (as':=[(z.mul ⟨3,-1⟩).v,int .i64 7]) rfl ?_;refine a6 (a1l _ 7 (h1.mono (by decide)) (by decide)) rfl trivial ?_;rw [show (z.mul ⟨3,-1⟩).round 7=pr z from rfl];have h2:(pr z).In 1073741824:=a46 h (by decide);have h3:((pr z).mul y9).In 6442450944:=(sa h2 (show y9.In 2 by unfold Ei.In; decide)).mono (by decide)
 push_cast [Ei.v,Ei.rv]
 refine b5 (as':=[(pr z).v,y9.v]) rfl ?_;refine a6 (ahd _ _ (h2.mono (by decide)) (show y9.In _ by unfold Ei.In; decide) (h3.mono (by decide))) rfl trivial ?_
 push_cast [Ei.v,Ei.rv]
 refine b5 (as':=[z.v,((pr z).mul y9).v]) rfl ?_;refine a6 (bjq _ _ (h.mono (by decide)) (h3.mono (by decide)) ((a8s z).mono (by decide))) rfl trivial ?_;rw [show z.sub ((pr z).mul y9)=lft z from rfl]
 push_cast [Ei.v,Ei.rv]
 kernel_rfl
def cel (r:Int) (z:Ei):AV:=.r (.agg [.v (.int .i64 r),.v (.int .i64 z.a),.v (.int .i64 z.b)])
instance (z:Ei) (n:Int):Decidable (z.In n):=inferInstanceAs (Decidable (_∧_))
def qd (r:Int) (z:Ei):Bool:=decide ((0≤r∧r≤12)∧z.In 1073741824)
theorem bem (r:Int) (z:Ei) (hz:z.In M63):a8 P0 198 [cel r z] [] (bl (qd r z)) []:=by
 refine aq4 rfl (by decide) ?_
 push_cast [ant,cel,zaa]
 by_cases h1:0≤r
 ·by_cases h2:r≤12
  ·have g1:decide (r≥0)=true:=by simp; omega
   have g2:decide (r≤12)=true:=by simp; omega
   push_cast [g1,g2]
   refine a6 (aca _ _ hz.ok.1 (by decide)) rfl trivial ?_;by_cases h3:-1073741824≤z.a∧z.a≤1073741824
   ·rw [decide_eq_true h3]
    push_cast
    refine a6 (aca _ _ hz.ok.2 (by decide)) rfl trivial ?_
    push_cast
    refine ei ?_;simp [qd,Ei.In,h1,h2,h3.1,h3.2]
   ·rw [decide_eq_false h3]
    push_cast
    have:qd r z=false:=by simp only [qd,Ei.In]; exact decide_eq_false fun c=>h3 c.2.1
    rw [this]
  ·have g1:decide (r≥0)=true:=by simp; omega
   have g2:decide (r≤12)=false:=by simp; omega
   push_cast [g1,g2]
   have:qd r z=false:=by simp only [qd,decide_eq_false_iff_not]; omega
   rw [this]
 ·have g1:decide (r≥0)=false:=by simp; omega
  push_cast [g1]
  have:qd r z=false:=by simp only [qd,decide_eq_false_iff_not]; omega
  rw [this]
theorem a1o (i:Nat) (h:i<6):dgOf (uni i)=i+1:=by
 rcases lt6 h with rfl | rfl | rfl | rfl | rfl | rfl<;>decide
theorem a38 (l:Ei) (h:∀j:Nat,j<6→uni j≠l):dgOf l=0:=by
 have h0:=h 0 (by decide); have h1:=h 1 (by decide); have h2:=h 2 (by decide); have h3:=h 3 (by decide); have h4:=h 4 (by decide); have h5:=h 5 (by decide);unfold dgOf;rw [if_neg (show ¬l=⟨1,0⟩ from Ne.symm h0),if_neg (show ¬l=⟨0,1⟩ from Ne.symm h1),if_neg (show ¬l=⟨-1,1⟩ from Ne.symm h2),if_neg (show ¬l=⟨-1,0⟩ from Ne.symm h3),if_neg (show ¬l=⟨0,-1⟩ from Ne.symm h4),if_neg (show ¬l=⟨1,-1⟩ from Ne.symm h5)]
theorem bgj (l:Ei):a8 P0 200 [l.v] [] (int .i64 (dgOf l)) []:=by
 refine aq5 rfl (by decide) ?_
 push_cast [anu,Ei.v,Ei.rv,zaa]
 refine run_loop [(4,false),(1,false)] (fun vs pos los=>∃i:Int,(0≤i∧i≤6)∧(∀j:Nat,(j:Int)<i→uni j≠l)∧vs=[int .i64 i,.ptr 2000000 0 0]∧pos=[]∧los=[.box [int .i64 l.a,int .i64 l.b]])
  (fun vs _ _=>match vs with | .r (.v (.int _ j))::_=>(6-j).toNat | _=>0) rfl ?_ ?_
 ·push_cast
  exact ⟨0,by omega,fun j hj=>by omega,rfl⟩
 ·rintro vs pos los ⟨i,i6,hj,rfl,rfl,rfl⟩
  push_cast
  refine b6 (fun h=>?_) (fun h=>?_)
  ·simp only [decide_eq_true_eq] at h
   push_cast
   refine b9 (a35 i ⟨i6.1,h⟩) rfl trivial ?_
   push_cast [Ei.v,Ei.rv]
   refine ⟨by kernel_rfl,b6 (fun h'=>?_) (fun h'=>?_)⟩
   ·have e:uni i.toNat=l:=by
     simp only [Bool.and_eq_true,beq_iff_eq] at h';exact Ei.ext' h'.1 h'.2
    push_cast
    rw [← e,a1o _ (by omega),a5 (by omega),show ((i.toNat+1:Nat):Int)=i+1 by omega]
   ·have e:uni i.toNat≠l:=fun e=>by rw [e] at h'; simp at h'
    push_cast
    rw [a5 (by omega)];refine ⟨⟨i+1,by omega,fun j hj'=>?_,rfl⟩,by omega⟩;by_cases hji:(j:Int)=i
    ·rw [show j=i.toNat by omega]; exact e
    ·exact hj j (by omega)
  ·have hi:i=6:=by simp at h; omega
   subst hi
   push_cast
   rw [a38 l fun j h6=>hj j (by omega)]
   rfl
theorem bje (n:Int):a8 P0 201 [int .i64 n] [] (bl (decide (-512≤n∧n≤511))) []:=by
 refine aq6 rfl (by decide) ?_
 push_cast [anv,zaa]
 refine ei ?_;by_cases h1:-512≤n<;>by_cases h2:n<512<;>simp [h1,h2]<;>omega
def dm (r:Nat) (z:Ei) (i:Nat):List AV:=(List.range 13).map fun j=>int .i64 (if i<j∧j≤r then (dg (anc (r-j) z):Int) else 0)
theorem yc (r:Nat) (z:Ei) (i:Nat):(dm r z i).length=13:=by simp [dm]
theorem a9g (r:Nat) (z:Ei):dm r z r=[int .i64 0,int .i64 0,int .i64 0,int .i64 0,int .i64 0,int .i64 0,int .i64 0,int .i64 0,int .i64 0,int .i64 0,int .i64 0,int .i64 0,int .i64 0]:=by
 have:∀j,¬(r<j∧j≤r):=fun j=>by omega
 simp only [dm,this,if_false]
 rfl
theorem a9h (r:Nat) (z:Ei) (i:Nat) (h1:1≤i) (h2:i≤r) (hr:r≤12):c9 (dm r z i) i [int .i64 (dg (anc (r-i) z))]=dm r z (i-1):=by
 have hl:=yc r z i;apply List.ext_getElem
 ·simp [c9,hl,yc]; omega
 ·intro j j1 j2;rw [yc] at j2;have e:∀(k:Nat) (hk:k<(dm r z i).length),(dm r z i)[k]=int .i64 (if i<k∧k≤r then (dg (anc (r-k) z):Int) else 0):=fun k hk=>by simp [dm]
  have e':∀(k:Nat) (hk:k<(dm r z (i-1)).length),(dm r z (i-1))[k]=int .i64 (if i-1<k∧k≤r then (dg (anc (r-k) z):Int) else 0):=fun k hk=>by simp [dm]
  rw [e'];have hm:min i 13=i:=by omega
  simp only [c9,List.getElem_append,zal,List.length_take,List.length_singleton,hl,List.getElem_take,List.getElem_drop,e,hm];by_cases c1:j<i
  ·rw [dif_pos (by omega),dif_pos c1,if_neg (by omega),if_neg (by omega)]
  ·by_cases c2:j=i
   ·subst c2;rw [dif_pos (by omega),dif_neg (by omega),if_pos (by omega)];simp
   ·rw [dif_neg (by omega)];rw [show i+1+(j-(i+1))=j by omega];by_cases c3:j≤r
    ·rw [if_pos (by omega),if_pos (by omega)]
    ·rw [if_neg (by omega),if_neg (by omega)]
theorem a8z (f:Nat→Int) (l:List Nat):n7 (l.map fun j=>int .i64 (f j))=[]:=by
 induction l with
 | nil=>rfl
 | cons a l ih=>show af _++n7 _=[]; rw [ih]; rfl
theorem bbx (F:Ren) (f:Nat→Int) (l:List Nat):imL F (l.map fun j=>int .i64 (f j))=l.map fun j=>int .i64 (f j):=by
 induction l with
 | nil=>rfl
 | cons a l ih=>show imV F _::imL F _ = _; rw [ih]; rfl
theorem ai9 (r:Nat) (z:Ei) (i:Nat):n7 (dm r z i)=[]:=a8z _ _
theorem ams (F:Ren) (r:Nat) (z:Ei) (i:Nat):imL F (dm r z i)=dm r z i:=bbx F _ _
theorem a6w (r:Nat) (z:Ei) (i:Nat):List.take 13 (dm r z i)=dm r z i:=zdb (by rw [yc]; exact Nat.le_refl _)
def af6 (r:Nat) (z:Ei) (i:Nat):List RV:=(List.range 13).map fun j=>.v (.int .i64 (if i<j∧j≤r then (dg (anc (r-j) z):Int) else 0))
theorem baw (ob:Obs) (f:Nat→Int) (l:List Nat):rvs ob (l.map fun j=>int .i64 (f j))=some (l.map fun j=>.v (.int .i64 (f j)),[]):=by
 induction l with
 | nil=>rfl
 | cons a l ih=>show rvs ob (_::_) = _; simp only [rvs,AV.rv,ih]; rfl
theorem bax (ob:Obs) (r:Nat) (z:Ei) (i:Nat):rvs ob (dm r z i)=some (af6 r z i,[]):=baw ob _ _
theorem a8c (r:Nat) (z:Ei) (i:Nat):dm r z i++List.drop 13 (dm r z i)=dm r z i:=by
 rw [List.drop_of_length_le (by rw [yc]; exact Nat.le_refl _),zaf]
attribute [push_cast high] bax a8c
attribute [push_cast high] ai9 ams a6w yc
theorem bcc (r:Nat) (z:Ei) (i:Nat) (h1:1≤i) (h2:i≤r) (hr:r≤12):List.take (0+i*1) (dm r z i)++[int .i64 (dgOf (lft (anc (r-i) z)))]++List.drop (0+i*1+1) (dm r z i)=dm r z (i-1):=by
 rw [← a9h r z i h1 h2 hr,c9,Nat.mul_one,zcu]
 rfl
def av6 (q:Ei):Bool:=decide ((-512≤q.a∧q.a≤511)∧(-512≤q.b∧q.b≤511))
theorem bc0 (r:Int) (z:Ei) (h:qd r z=true):a8 P0 162 [cel r z] [] (.tup [(anc r.toNat z).v,.r (.agg (af6 r.toNat z 0)),bl (av6 (anc r.toNat z))]) []:=by
 refine avw rfl (by decide) ?_;have h':=h;simp only [qd,decide_eq_true_eq] at h';simp only [ary,cel,push_cast,↓reduceIte,zE,zA,zD];refine b5 (as':=[cel r z]) rfl ?_;refine a6 (bem r z (h'.2.mono (by decide))) rfl trivial ?_;rw [h];simp only [push_cast,↓reduceIte,zE,zA,zL,zD];obtain ⟨⟨r0,r12⟩,hz⟩:=h'
 refine run_loop [(6,false),(5,false),(3,false),(2,false)] (fun vs pos los=>∃i:Int,(0≤i∧i≤r)∧vs=[int .i64 i,.ptr 2000000 0 0,.ptr 2000001 0 0,.ptr 2000002 0 0]∧pos=[]∧los=[.box [int .i64 (anc (r-i).toNat z).a,int .i64 (anc (r-i).toNat z).b],.box (dm r.toNat z i.toNat),.box [int .i64 0,int .i64 0]])
  (fun vs _ _=>match vs with | .r (.v (.int _ j))::_=>j.toNat | _=>0) rfl ?_ ?_
 ·simp only [push_cast,↓reduceIte,zB,zE,zA,zL,zD];refine ⟨r,by omega,?_⟩;rw [a9g,Int.sub_self];exact ⟨rfl,rfl⟩
 ·rintro vs pos los ⟨i,i6,rfl,rfl,rfl⟩;simp only [push_cast,↓reduceIte,zA];refine b6 (fun h=>?_) (fun h=>?_)
  ·simp only [decide_eq_true_eq] at h;simp only [push_cast,↓reduceIte,zE,zA,zD];have ha:=av7 (r-i).toNat hz (by decide);refine b5 (as':=[(anc (r-i).toNat z).v]) rfl ?_;refine a6 (bej _ ha) rfl trivial ?_;simp only [Ei.v,Ei.rv,push_cast,↓reduceIte,zE,zA,zL,zD];refine i7 (as':=[(lft (anc (r-i).toNat z)).v]) rfl ?_;refine b9 (bgj _) rfl trivial ?_;have hst:=bcc r.toNat z i.toNat (by omega) (by omega) (by omega);rw [show r.toNat-i.toNat=(r-i).toNat by omega] at hst;have hpr:pr (anc (r-i).toNat z)=anc (r-(i-1)).toNat z:=by rw [← ana,show (r-i).toNat+1=(r-(i-1)).toNat by omega]
   simp only [hst,push_cast,↓reduceIte,zB,zE,zA,zL,zD];rw [show IntKind.i64.wrap (i-1)=i-1 from a5 (by omega),hpr];refine ⟨by omega,by omega,by kernel_rfl,⟨i-1,by omega,rfl,?_⟩,by omega⟩;rw [show (i-1).toNat=i.toNat-1 by omega]
  ·have hi:i=0:=by simp at h; omega
   subst hi;have ha:=av7 r.toNat hz (by decide);simp only [push_cast,↓reduceIte,zE,zA,zL,zD];rw [show (r-0).toNat=r.toNat by omega,show Int.toNat 0=0 from rfl];refine ⟨by kernel_rfl,?_⟩;refine b9 (bje _) rfl trivial ?_;by_cases c:-512≤(anc r.toNat z).a∧(anc r.toNat z).a≤511
   ·rw [decide_eq_true c];simp only [push_cast,↓reduceIte,zE,zA,zL];refine ⟨by kernel_rfl,?_⟩;refine b9 (bje _) rfl trivial ?_;simp only [Ei.v,Ei.rv,push_cast,↓reduceIte,zE,zA,zD];refine ⟨by kernel_rfl,?_⟩;simp [av6,c.1,c.2];kernel_rfl
   ·rw [decide_eq_false c];simp only [Ei.v,Ei.rv,push_cast,↓reduceIte,zE,zA,zL,zD];refine ⟨by kernel_rfl,?_⟩;simp only [av6,c,false_and,decide_false];exact ⟨by kernel_rfl,trivial⟩
theorem a49 {r:Int} {z:Ei} (h0:0≤r) (h:okc r.toNat z):qd r z=true∧av6 (anc r.toNat z)=true:=by
 obtain ⟨h1,h2,h3,h4⟩:=h;simp only [qd,av6,decide_eq_true_eq];exact ⟨⟨⟨h0,by omega⟩,h2⟩,h3,h4⟩
theorem bl2 (r:Int) (z:Ei) (h0:0≤r) (h:okc r.toNat z):a8 P0 166 [cel r z] [] (bl true) []:=by
 refine axi rfl (by decide) ?_
 push_cast [avx,cel,zaa]
 refine b5 (as':=[cel r z]) rfl ?_;refine a6 (bc0 r z (a49 h0 h).1) rfl trivial ?_;rw [(a49 h0 h).2]
 push_cast [Ei.v,Ei.rv]
 refine ⟨by simp [af6],?_⟩;simp only [af6,List.map_map,List.all_map];rw [List.all_eq_true];intro x hx
 rfl
theorem bl3 (x y r:Int) (h:inW x y) (hr:0≤r∧r≤12):a8 P0 114 [int .i64 x,int .i64 y,int .i64 r] [] (.tup [cel r (d9 x y r.toNat),int .i64 0]) []:=by
 refine axj rfl (by decide) ?_
 push_cast [avy,cel,zaa]
 refine a6 (bdg x y) rfl trivial ?_;rw [decide_eq_true h]
 push_cast
 refine a6 (biz x y r h hr) rfl trivial ?_
 push_cast [Ei.v,Ei.rv]

theorem yw {a b k:Nat} (h:a<2^k):a ||| b*2^k=b*2^k+a:=by
 rw [zcp,← Nat.shiftLeft_eq,Nat.shiftLeft_add_eq_or_of_lt h]
theorem p8 (n:Nat):0<8^n:=zcf (by decide)
theorem bgk {a b d k:Nat} (hb:b<2^k) (hd:d<8) (hk:k+3≤64) (ha:(a*8+7)*2^k+b<2^64) :
  (((a*8+7)*2^k+b) &&& (2^64-1-7*2^k)) ||| d*2^k=(a*8+d)*2^k+b:=by
 have h7:∀j,Nat.testBit 7 j=decide (j<3):=fun j=>by
  rcases (show j=0∨j=1∨j=2∨3≤j by omega) with rfl | rfl | rfl | hj
  ·rfl
  ·rfl
  ·rfl
  ·rw [zdc (Nat.lt_of_lt_of_le (by decide:7<2^3) (zam (by decide) hj))]; simp; omega
 have hd3:∀j,3≤j→Nat.testBit d j=false:=fun j hj=>zdc (Nat.lt_of_lt_of_le (by omega:d<2^3) (zam (by decide) hj))
 have hs:7*2^k<2^64:=by
  have:2^(k+3)≤2^64:=zam (by decide) hk;rw [zab] at this;have:=Nat.two_pow_pos k;omega
 apply Nat.eq_of_testBit_eq;intro j;rw [Nat.testBit_or,Nat.testBit_and,show 2^64-1-7*2^k=2^64-(7*2^k+1) by omega,Nat.testBit_two_pow_sub_succ hs];rw [zco _ (2^k),zco 7,zco d,zco (a*8+d)];rw [zcy _ hb,zcy _ hb,Nat.testBit_two_pow_mul,Nat.testBit_two_pow_mul];by_cases hj:j<k
 ·simp [hj,Nat.not_le.2 hj];intro hx;omega
 ·rw [if_neg hj,if_neg hj];have hkj:k≤j:=by omega
  simp only [hkj,decide_true,zai];rw [show a*8+7=2^3*a+7 by omega,show a*8+d=2^3*a+d by omega,zcy a (show 7<2^3 by decide),zcy a (show d<2^3 from hd),h7];by_cases h3:j-k<3
  ·simp [h3]
  ·rw [hd3 _ (by omega)];simp only [h3,if_false,decide_false,zak,zah,zaj];by_cases h64:j<64
   ·simp [h64]
   ·simp only [h64,decide_false,Bool.and_false];apply Eq.symm;apply zdc;have e:(a*8+7)*2^k+b<2^j:=Nat.lt_of_lt_of_le ha (zam (by decide) (by omega));have e2:2^j=2^(j-k-3)*8*2^k:=by rw [show (8:Nat)=2^3 from rfl,← zab,← zab]; congr 1; omega
    rw [e2] at e;have:(a*8+7)*2^k<2^(j-k-3)*8*2^k:=by omega
    have:=Nat.lt_of_mul_lt_mul_right this;omega
def nw (r:Nat) (z:Ei) (i:Nat):Nat:=((8^i-1)*8^(r-i)+val (r-i) z)*8^(12-r)+(8^(12-r)-1)
theorem bd0 (r:Nat) (z:Ei) (hr:r≤12):nw r z r=68719476735:=by
 unfold nw;rw [Nat.sub_self,val,Nat.pow_zero,Nat.mul_one,Nat.add_zero,Nat.sub_mul,← zab,show r+(12-r)=12 by omega,Nat.one_mul];have:8^(12-r)≤8^12:=zam (by decide) (by omega);have:=p8 (12-r);omega
theorem bae (k:Nat) (z:Ei):val (k+1) z=dg (anc k z)*8^k+val k z:=by
 induction k generalizing z with
 | zero=>simp [val,anc]
 | succ k ih=>
  rw [val,ih (pr z),val,anc,zcn];generalize dg (anc k (pr z))=e;generalize 8^k=p;generalize val k (pr z)=q;rw [zce,zae];omega
theorem axp (r:Nat) (z:Ei) (i:Nat) (hi:i≤r) (hr:r≤12):val (r-i) z*8^(12-r)+(8^(12-r)-1)<2^(36-3*i):=by
 have h1:=a6q (r-i) z
 have e:2^(36-3*i)=8^(r-i)*8^(12-r):=by
  rw [← zab,show (8:Nat)=2^3 from rfl,← Nat.pow_mul]; congr 1; omega
 rw [e];have hp:=p8 (12-r);generalize 8^(12-r)=p at *;generalize val (r-i) z=v at *;have h2:(v+1)*p≤8^(r-i)*p:=Nat.mul_le_mul_right _ h1;rw [zce] at h2;omega
theorem ar1 (r:Nat) (z:Ei) (i:Nat) (hi:i≤r) (hr:r≤12):nw r z i=(8^i-1)*2^(36-3*i)+(val (r-i) z*8^(12-r)+(8^(12-r)-1)):=by
 have e:2^(36-3*i)=8^(r-i)*8^(12-r):=by
  rw [← zab,show (8:Nat)=2^3 from rfl,← Nat.pow_mul]; congr 1; omega
 unfold nw;rw [e,zce,zae,Nat.add_assoc]
theorem al2 (r:Nat) (z:Ei) (i:Nat) (hi:i≤r) (hr:r≤12):nw r z i<68719476736:=by
 rw [ar1 r z i hi hr];have h:=axp r z i hi hr
 have e:(8:Nat)^i*2^(36-3*i)=68719476736:=by
  rw [show (8:Nat)=2^3 from rfl,← Nat.pow_mul,← zab,show 3*i+(36-3*i)=36 by omega]
 rw [Nat.sub_mul,e,Nat.one_mul];have:=Nat.two_pow_pos (36-3*i);have:2^(36-3*i)≤2^36:=zam (by decide) (by omega);omega
theorem a4k (r:Nat) (z:Ei) (i:Nat) (h1:1≤i) (hi:i≤r) (hr:r≤12) :
  ((nw r z i &&& (2^64-1-7*2^(36-3*i))) ||| dg (anc (r-i) z)*2^(36-3*i))=nw r z (i-1):=by
 have hl:=al2 r z i hi hr;have hlow:=axp r z i hi hr;have hd:=dg_lt (anc (r-i) z)
 have e8:(8:Nat)^i-1=(8^(i-1)-1)*8+7:=by
  have:(8:Nat)^i=8^(i-1)*8:=by conv=>lhs; rw [show i=i-1+1 by omega,zcn]
  have:=p8 (i-1);omega
 have e0:=ar1 r z i hi hr;rw [e8] at e0;rw [e0] at hl ⊢;rw [bgk hlow (by omega) (by omega) (by omega),ar1 r z (i-1) (by omega) hr,show r-(i-1)=r-i+1 by omega,bae];have e9:2^(36-3*(i-1))=8*2^(36-3*i):=by rw [show (8:Nat)=2^3 from rfl,← zab]; congr 1; omega
 have e10:8^(r-i)*8^(12-r)=2^(36-3*i):=by
  rw [← zab,show (8:Nat)=2^3 from rfl,← Nat.pow_mul]; congr 1; omega
 rw [e9,← e10];generalize 8^(i-1)-1=A;generalize 8^(r-i)=B;generalize 8^(12-r)=C;generalize dg (anc (r-i) z)=D;generalize val (r-i) z=V;simp only [zce,zae];omega
theorem bdz (r:Nat) (z:Ei) (hr:r≤12) (A B:Nat) (hA:A<1024) (hB:B<1024) (hA':(anc r z).a+512=A) (hB':(anc r z).b+512=B) :
  ((((nw r z 0 ||| 1152921504606846976) ||| r*2^56) ||| A*2^46) ||| B*2^36)=s9 r z:=by
 have hl:=al2 r z 0 (by omega) hr
 have e:s9 r z=ow r (anc r z)*2^36+nw r z 0:=by
  unfold s9 nw;rw [zce,zae,← zab,show r+(12-r)=12 by omega];simp;omega
 rw [e];generalize nw r z 0=w at *;rw [zcq,zcq,zcq,zcp,zcq,zcq,zcq]
 rw [zcp (B*2^36),yw (show w<2^36 from hl),zcp (A*2^46),yw (show B*2^36+w<2^46 by omega),zcp (r*2^56),yw (show A*2^46+(B*2^36+w)<2^56 by omega),
  show (1152921504606846976:Nat)=1*2^60 from rfl,zcp (1*2^60),yw (show r*2^56+(A*2^46+(B*2^36+w))<2^60 by omega)]
 unfold ow;omega

def ak5:Mk P0 f164:={ x:=_ }
theorem aot:b8 164 1 ak5:=b7 func164
def ab6:Mk P0 f81:={ x:=_ }
theorem aio:b8 81 1 ab6:=b7 func81
def abu:Mk P0 f80:={ x:=_ }
theorem aib:b8 80 1 abu:=b7 func80
def az:Mk P0 f41:={ x:=_ }
theorem aj8:b8 41 1 az:=b7 func41
def aed:Mk P0 f42:={ x:=_ }
theorem akc:b8 42 1 aed:=b7 func42
def atq:Mk P0 f116:={ x:=_ }
theorem av8:b8 116 1 atq:=b7 func116
def an2:Mk P0 f75:={ x:=_ }
theorem ar2:b8 75 1 an2:=b7 func75
def an5:Mk P0 f117:={ x:=_ }
theorem ar3:b8 117 1 an5:=b7 func117
def atr:Mk P0 f66:={ x:=_ }
theorem av9:b8 66 1 atr:=b7 func66
def akv:Mk P0 f74:={ x:=_ }
theorem an4:b8 74 1 akv:=b7 func74
def ab9:Mk P0 f26:={ x:=_ }
theorem air:b8 26 4 ab9:=b7 func26
structure Til where
 z:Int
 x:Int
 y:Int
 r:Int
def Til.v (t:Til):AV:=.r (.agg [.v (.int .i64 t.z),.v (.int .i64 t.x),.v (.int .i64 t.y),.v (.int .i64 t.r)])
def Til.ok (t:Til):Prop:=in64 t.z∧in64 t.x∧in64 t.y∧in64 t.r
def tis (t:Til):Bool:=decide (0≤t.z∧t.z≤18∧0≤t.r∧t.r≤12∧0≤t.x∧t.x<2^t.z.toNat∧0≤t.y∧t.y<2^t.z.toNat)
theorem a5o (t:Til):a8 P0 116 [t.v] [] (bl (tis t)) []:=by
 refine av8 rfl (by decide) ?_
 push_cast [atq,Til.v,zaa]
 repeat refine And.intro (by simp +contextual) ?_
 refine b6 (fun h=>?_) (fun h=>?_)
 ·push_cast
  refine ei ?_;simp [tis] at h ⊢;omega
 ·have hz:0≤t.z∧t.z≤18∧0≤t.r∧t.r≤12:=by simp at h; omega
  push_cast
  refine And.intro ?_ ?_
  ·rw [IntKind.wrap_u64]; omega
  rw [bap _ hz.1 (by omega)]
  repeat refine And.intro (by simp +contextual) ?_
  refine ei ?_;simp [tis];omega
theorem a6s (t:Til) (h0:0≤t.z) (h1:t.z≤18):a8 P0 75 [t.v] [] (int .i64 (2^(18-t.z).toNat)) []:=by
 refine ar2 rfl (by decide) ?_
 push_cast [an2,Til.v,zaa]
 rw [show IntKind.i64.wrap (18-t.z)=18-t.z from a5 (by omega)];refine And.intro ?_ ?_
 ·rw [IntKind.wrap_u64]; omega
 ·rw [bap _ (by omega) (by omega)]
def rok (r:Int):Bool:=decide (0≤r∧r≤12)
theorem bd1 (r:Int) (hr:in64 r):a8 P0 164 [int .i64 r] [] (.tup [int .i64 (if rok r then 169*7^(12-r).toNat else 0),bl (rok r)]) []:=by
 refine aot rfl (by decide) ?_
 push_cast [ak5,zaa]
 refine a6 (aw1 r) rfl trivial ?_
 push_cast
 refine b6 (fun h=>?_) (fun h=>?_)
 ·push_cast
  have:rok r=false:=by simp [rok] at h ⊢; omega
  simp [this]
 ·have h:rok r=true:=by simpa [rok] using h
  have h':0≤r∧r≤12:=by simpa [rok] using h
  push_cast
  rw [show IntKind.i64.wrap (12-r)=12-r from a5 (by omega)];have hp:=p7 (12-r).toNat (by omega);have ht:=bdf 7 (12-r) (by decide) (by unfold in64; omega);rw [if_neg (show ¬12-r<0 by omega)] at ht;refine a6 ht rfl trivial ?_
  push_cast [sm,if_pos (show in64 (7^(12-r).toNat) by unfold in64; omega)]
  rw [a5 (by omega)];simp [h]
theorem a2x (k:Int) (h0:0≤k) (h1:k≤12):a8 P0 81 [int .i64 k] [] (int .i64 (7^k.toNat)) []:=by
 refine aio rfl (by decide) ?_
 push_cast [ab6,zaa]
 have hp:=p7 k.toNat (by omega);have ht:=big 7 k (by decide) (by unfold in64; omega);rw [if_neg (show ¬k<0 by omega)] at ht;refine a6 ht rfl trivial ?_
 push_cast [sm,if_pos (show in64 (7^k.toNat) by unfold in64; omega)]
theorem ap5 (k:Int) (h0:0≤k) (h1:k≤36):a8 P0 80 [int .i64 k] [] (int .i64 (2^k.toNat)) []:=by
 refine aib rfl (by decide) ?_
 push_cast [abu,zaa]
 refine ⟨by omega,?_⟩;rw [bmc k h0 h1]
def fine (t:Til):Bool:=tis t&&decide (169*7^(12-t.r).toNat<16*2^(18-t.z).toNat*(2:Int)^(18-t.z).toNat)
theorem bjo (t:Til) (ht:t.ok):a8 P0 117 [t.v] [] (bl (fine t)) []:=by
 refine ar3 rfl (by decide) ?_
 push_cast [an5,Til.v,zaa]
 refine a6 (bd1 t.r ht.2.2.2) rfl trivial ?_
 push_cast
 refine i7 (as':=[t.v]) rfl ?_;refine b9 (a5o t) rfl trivial ?_;cases hti:tis t with
 | false=>
  push_cast
  exact ⟨by kernel_rfl,by simp [fine,hti]⟩
 | true=>
  have hr:0≤t.z∧t.z≤18∧0≤t.r∧t.r≤12:=by simp [tis] at hti; omega
  have hrok:rok t.r=true:=by simp [rok]; omega
  have hp:=p2 (18-t.z).toNat (by omega);have hu:=a6s t hr.1 hr.2.1
  push_cast [hrok]
  refine i7 (as':=[t.v]) rfl ?_;refine b9 hu rfl trivial ?_
  push_cast
  refine i7 (as':=[t.v]) rfl ?_;refine b9 hu rfl trivial ?_
  push_cast
  refine ⟨by kernel_rfl,?_⟩;have hq:(18-t.z).toNat≤18:=by omega
  have hq2:(2:Int)^(18-t.z).toNat≤262144:=by
   have h1:2^(18-t.z).toNat≤2^18:=zam (by decide) hq;have h3:((2^(18-t.z).toNat:Nat):Int)=(2:Int)^(18-t.z).toNat:=by simp
   omega
  rw [show IntKind.i64.wrap (16*2^(18-t.z).toNat)=16*2^(18-t.z).toNat from a5 (by omega)];have hm:16*(2:Int)^(18-t.z).toNat*2^(18-t.z).toNat≤4194304*262144:=Int.mul_le_mul (by omega) hq2 (by omega) (by omega);have hm0:0≤16*(2:Int)^(18-t.z).toNat*2^(18-t.z).toNat:=zcs (by omega) (by omega);rw [a5 (by omega)];refine ei ?_;simp [fine,hti]
theorem biv (t:Til) (ht:t.ok):a8 P0 66 [t.v] [] (int .i64 (if tis t then (if fine t then 14 else 0) else 1)) []:=by
 refine av9 rfl (by decide) ?_
 push_cast [atr,Til.v,zaa]
 refine b5 (as':=[t.v]) rfl ?_;refine a6 (a5o t) rfl trivial ?_;cases hti:tis t with
 | false=>
  push_cast
 | true=>
  push_cast
  refine b5 (as':=[t.v]) rfl ?_;refine a6 (bjo t ht) rfl trivial ?_;cases hf:fine t<;>push_cast
theorem a0n (t:Til) (hi:tis t=true):a8 P0 74 [t.v] [] (.tup [int .i64 (t.x*2^(30-t.z).toNat),int .i64 (t.y*2^(30-t.z).toNat),int .i64 (2^(30-t.z).toNat)]) []:=by
 refine an4 rfl (by decide) ?_
 push_cast [akv,Til.v,zaa]
 refine b5 (as':=[t.v]) rfl ?_;refine a6 (a5o t) rfl trivial ?_;rw [hi]
 push_cast
 simp only [tis,decide_eq_true_eq] at hi;obtain ⟨z0,z1,r0,r1,x0,x1,y0,y1⟩:=hi;have hp:=p2 t.z.toNat (by omega);have hq:=p2 (30-t.z).toNat (by omega)
 have hpq:(2:Int)^t.z.toNat*2^(30-t.z).toNat=1073741824:=by
  rw [← Int.pow_add,show t.z.toNat+(30-t.z).toNat=30 by omega]; rfl
 have hx:t.x*2^(30-t.z).toNat≤1073741824:=by rw [← hpq]; exact zcw (by omega) (by omega)
 have hy:t.y*2^(30-t.z).toNat≤1073741824:=by rw [← hpq]; exact zcw (by omega) (by omega)
 have hx0:0≤t.x*2^(30-t.z).toNat:=zcs x0 (by omega);have hy0:0≤t.y*2^(30-t.z).toNat:=zcs y0 (by omega);rw [show IntKind.i64.wrap (30-t.z)=30-t.z from a5 (by omega),bap _ (by omega) (by omega)];refine ⟨by rw [IntKind.wrap_u64]; omega,by kernel_rfl,?_⟩;rw [a5 (by omega),a5 (by omega)]

def ab8:Mk P0 f146:={ x:=_ }
theorem aiq:b8 146 2 ab8:=b7 func146
def afi:Mk P0 f152:={ x:=_ }
theorem als:b8 152 2 afi:=b7 func152
def afl:Mk P0 f96:={ x:=_ }
theorem alv:b8 96 2 afl:=b7 func96
def aer:Mk P0 f139:={ x:=_ }
theorem akp:b8 139 1 aer:=b7 func139
def aek:Mk P0 f97:={ x:=_ }
theorem akk:b8 97 1 aek:=b7 func97
def aej:Mk P0 f193:={ x:=_ }
theorem akj:b8 193 1 aej:=b7 func193
def ab3:Mk P0 f155:={ x:=_ }
theorem ail:b8 155 3 ab3:=b7 func155
def ab7:Mk P0 f98:={ x:=_ }
theorem aip:b8 98 2 ab7:=b7 func98
def ab4:Mk P0 f95:={ x:=_ }
theorem aim:b8 95 2 ab4:=b7 func95
def aep:Mk P0 f53:={ x:=_ }
theorem akn:b8 53 3 aep:=b7 func53
theorem x6 (a b:Int) (ha:in64 a) (hb:in64 b):a8 P0 146 [int .i64 a,int .i64 b] [] (.tup [int .i64 (if 0<b then a/b else 0),int .i64 (if 0<b then a%b else 0),bl (decide (0<b))]) []:=by
 refine aiq rfl (by decide) ?_
 push_cast [ab8,zaa]
 refine b6 (fun h=>?_) (fun h=>?_)
 ·push_cast
  simp at h;have:¬0<b:=by omega
  simp [this]
 ·push_cast
  simp at h;refine ⟨by omega,by omega,by kernel_rfl,?_⟩;obtain ⟨q1,q2,q3⟩:=aro ha h;have hw:IntKind.i64.wrap (a.tdiv b)=a.tdiv b:=wrap_i64_tdiv a b ha.1 ha.2 (by omega);rw [hw];refine b6 (fun h'=>?_) (fun h'=>?_)
  ·push_cast
   simp at h';obtain ⟨e1,e2⟩:=q2 h';refine a4r (adz ?_) (adz ?_) (azm ?_)
   ·rw [if_pos h,← e1,a5];unfold in64 at ha; rw [e1]; omega
   ·rw [if_pos h,← e2,a5];have h5:=zac a h;have h6:=zad a (show b≠0 by omega);rw [e2];unfold in64 at hb; omega
   ·simp [h]
  ·push_cast
   simp at h';obtain ⟨e1,e2⟩:=q3 h';refine a4r (adz ?_) (adz ?_) (azm ?_)
   ·rw [if_pos h,e1]
   ·rw [if_pos h,e2]
   ·simp [h]
theorem bie (a b:Int) (ha:in64 a) (hb:in64 b):a8 P0 152 [n8 a,n8 b] [] (.tup [Ei.v ⟨a,b⟩,bl true]) []:=by
 refine als rfl (by decide) ?_
 push_cast [afi,n8,zaa]
 have ha':=ha;have hb':=hb;unfold in64 at ha' hb';refine b5 (as':=[n8 a]) rfl ?_;refine a6 (awd a (by omega)) rfl trivial ?_;rw [afu ha]
 push_cast
 refine b5 (as':=[n8 b]) rfl ?_;refine a6 (awd b (by omega)) rfl trivial ?_;rw [afu hb]
 push_cast [Ei.v,Ei.rv]
theorem adv (x y:Ei) (hx:x.In M63) (hy:y.In M63) (hz:(x.mul y).In M63):a8 P0 96 [x.v,y.v] [] (.tup [(x.mul y).v,bl true]) []:=by
 refine alv rfl (by decide) ?_
 push_cast [afl,Ei.v,Ei.rv,zaa]
 refine a6 (acg x.b y.b hx.ok.2 hy.ok.2) rfl trivial ?_
 push_cast [n8]
 refine b9 (acg x.a y.a hx.ok.1 hy.ok.1) rfl trivial ?_
 push_cast [n8]
 refine i7 (as':=[n8 (x.b*y.b)]) rfl ?_;refine b9 (al8 _) rfl trivial ?_
 push_cast [n8]
 refine i7 (as':=[n8 (x.a*y.a),n8 (-(x.b*y.b))]) rfl ?_;refine b9 (aop _ _) rfl trivial ?_
 push_cast [n8]
 refine b9 (acg x.a y.b hx.ok.1 hy.ok.2) rfl trivial ?_
 push_cast [n8]
 refine b9 (acg x.b y.a hx.ok.2 hy.ok.1) rfl trivial ?_
 push_cast [n8]
 refine i7 (as':=[n8 (x.a*y.b),n8 (x.b*y.a)]) rfl ?_;refine b9 (aop _ _) rfl trivial ?_
 push_cast [n8]
 refine i7 (as':=[n8 (x.a*y.b+x.b*y.a),n8 (x.b*y.b)]) rfl ?_;refine b9 (aop _ _) rfl trivial ?_
 push_cast [n8]
 refine i7 (as':=[n8 (x.a*y.a + -(x.b*y.b)),n8 (x.a*y.b+x.b*y.a+x.b*y.b)]) rfl ?_;have e:x.a*y.a + -(x.b*y.b)=(x.mul y).a:=by simp only [Ei.mul]; omega
 have e':x.a*y.b+x.b*y.a+x.b*y.b=(x.mul y).b:=rfl;rw [e,e'];refine b9 (bie _ _ hz.ok.1 hz.ok.2) rfl trivial ?_
 push_cast [Ei.v,Ei.rv]
 kernel_rfl
theorem awj (k:Int) (hk:0≤k∧k≤12):a8 P0 139 [int .i64 k] [] (.tup [(c7 k.toNat).v,bl true]) []:=by
 refine akp rfl (by decide) ?_;have c1:decide (k<0)=false:=by simp; omega
 have c2:decide (k>20)=false:=by simp; omega
 push_cast [aer,zaa,c1,c2]
 refine run_loop [(5,false),(0,false),(4,false),(2,false)] (fun vs pos los=>∃i:Int,0≤i∧i≤k∧vs=[int .i64 i,int .i64 k,.ptr 2000000 0 0,.ptr 2000001 0 0]∧pos=[]∧los=[.box [int .i64 (c7 i.toNat).a,int .i64 (c7 i.toNat).b],.box [int .i64 0,int .i64 0]])
  (fun vs _ _=>match vs with | .r (.v (.int _ j))::_=>(k-j).toNat | _=>0) rfl ?_ ?_
 ·push_cast
  exact ⟨0,by omega,by omega,rfl,rfl⟩
 ·rintro vs pos los ⟨i,i0,ik,rfl,rfl,rfl⟩
  push_cast
  refine b6 (fun h=>?_) (fun h=>?_)
  ·simp only [decide_eq_true_eq] at h
   push_cast
   have h1:=mj i.toNat (by omega);have h2:=mj (i.toNat+1) (by omega);refine b5 (as':=[(c7 i.toNat).v,y9.v]) rfl ?_;refine a6 (adv _ _ (h1.mono (by decide)) (by unfold Ei.In; decide) (h2.mono (by decide))) rfl trivial ?_
   push_cast [Ei.v,Ei.rv]
   rw [show IntKind.i64.wrap (i+1)=i+1 from a5 (by omega)];refine ⟨⟨i+1,by omega,by omega,rfl,?_⟩,by omega⟩;rw [show (i+1).toNat=i.toNat+1 by omega]
   rfl
  ·simp only [decide_eq_false_iff_not] at h;have:i=k:=by omega
   subst this
   push_cast [Ei.v,Ei.rv]
theorem bfl (k:Int) (hk:0≤k∧k≤12):a8 P0 97 [int .i64 k] [] ((c7 k.toNat).conj.v) []:=by
 refine akk rfl (by decide) ?_
 push_cast [aek,zaa]
 refine a6 (awj k hk) rfl trivial ?_;have hb:=mj k.toNat (by omega);unfold Ei.In at hb
 push_cast [Ei.v,Ei.rv,Ei.conj]
 rw [a5 (by omega),a5 (by omega),Int.zero_sub]
theorem awf (n:Int) (h:in64 n) (h':n≠-9223372036854775808):a8 P0 193 [int .i64 n] [] (int .i64 n.natAbs) []:=by
 refine akj rfl (by decide) ?_
 push_cast [aej,zaa]
 unfold in64 at h;refine b6 (fun hc=>?_) (fun hc=>?_)
 ·simp at hc
  push_cast
  rw [a5 (by omega)];rw [show 0-n=(n.natAbs:Int) by omega]
 ·simp at hc
  push_cast
  rw [show n=(n.natAbs:Int) by omega];simp
theorem ba1 (s t d:Int) (hs:-9007199254740992≤s∧s≤9007199254740992) (ht:-9007199254740992≤t∧t≤9007199254740992):a8 P0 155 [int .i64 s,int .i64 t,int .i64 d] [] (bl (decide (i5 d s t))) []:=by
 refine ail rfl (by decide) ?_
 push_cast [ab3,zaa]
 rw [show IntKind.i64.wrap (2*s)=2*s from a5 (by omega),show IntKind.i64.wrap (2*s+t)=2*s+t from a5 (by omega)];refine a6 (awf _ (by unfold in64; omega) (by omega)) rfl trivial ?_;by_cases h1:((2*s+t).natAbs:Int)≤d
 ·have g1:decide (((2*s+t).natAbs:Int)≤d)=true:=decide_eq_true h1
  push_cast [g1]
  rw [show IntKind.i64.wrap (2*t)=2*t from a5 (by omega),show IntKind.i64.wrap (s+2*t)=s+2*t from a5 (by omega)];refine a6 (awf _ (by unfold in64; omega) (by omega)) rfl trivial ?_;by_cases h2:((s+2*t).natAbs:Int)≤d
  ·have g2:decide (((s+2*t).natAbs:Int)≤d)=true:=decide_eq_true h2
   push_cast [g2]
   rw [show IntKind.i64.wrap (s-t)=s-t from a5 (by omega)];refine a6 (awf _ (by unfold in64; omega) (by omega)) rfl trivial ?_
   push_cast
   refine ei ?_;simp only [decide_eq_true_eq];unfold i5;omega
  ·have g2:decide (((s+2*t).natAbs:Int)≤d)=false:=decide_eq_false h2
   push_cast [g2]
   rw [decide_eq_false (show ¬i5 d s t by unfold i5; omega)]
 ·have g1:decide (((2*s+t).natAbs:Int)≤d)=false:=decide_eq_false h1
  push_cast [g1]
  rw [decide_eq_false (show ¬i5 d s t by unfold i5; omega)]
theorem a0e (u:Ei) (d:Int) (hu:u.In 1152921504606846976) (hd:1≤d∧d≤1125899906842624):a8 P0 98 [u.v,int .i64 d] [] (.tup [(u.round d).v,bl true]) []:=by
 refine aip rfl (by decide) ?_;have hu':=hu;unfold Ei.In at hu';have c1:decide (d<1)=false:=by simp; omega
 have c2:decide (d>1125899906842624)=false:=by simp; omega
 have c3:decide (u.a < -1152921504606846976)=false:=by simp; omega
 have c4:decide (u.a>1152921504606846976)=false:=by simp; omega
 have c5:decide (u.b < -1152921504606846976)=false:=by simp; omega
 have c6:decide (u.b>1152921504606846976)=false:=by simp; omega
 have ia:in64 u.a:=by unfold in64; omega
 have ib:in64 u.b:=by unfold in64; omega
 have ed:in64 d:=by unfold in64; omega
 push_cast [ab7,Ei.v,Ei.rv,zaa,c1,c2,c3,c4,c5,c6]
 refine a6 (x6 _ _ ia ed) rfl trivial ?_;have hd0:0<d:=by omega
 push_cast [hd0,if_true]
 refine a6 (x6 _ _ ib ed) rfl trivial ?_
 push_cast [hd0,if_true]
 have ha:0≤u.a%d∧u.a%d<d:=⟨zad _ (by omega),zac _ hd0⟩
 have hb:0≤u.b%d∧u.b%d<d:=⟨zad _ (by omega),zac _ hd0⟩
 have hqa:-1152921504606846976≤u.a/d∧u.a/d≤1152921504606846976:=avm hu'.1 hd.1;have hqb:-1152921504606846976≤u.b/d∧u.b/d≤1152921504606846976:=avm hu'.2 hd.1;have hround:u.round d=⟨u.a/d+(ir d (u.a%d) (u.b%d)).a,u.b/d+(ir d (u.a%d) (u.b%d)).b⟩:=rfl;generalize u.a%d=a at *;generalize u.b%d=b at *;generalize u.a/d=qa at *;generalize u.b/d=qb at *
 have hmul:∀i:Int,-1≤i→i≤2→-1125899906842624≤i*d∧i*d≤2251799813685248:=fun i h1 h2=>by
  rcases (show i=-1∨i=0∨i=1∨i=2 by omega) with rfl | rfl | rfl | rfl<;>omega
 refine run_loop [(12,false),(1,false),(6,false),(7,false),(9,false),(10,false),(4,false)] (fun vs pos los=>∃i:Int,(-1≤i∧i≤3)∧(∀i' k':Int,-1≤i'→i'<i→-1≤k'→k'≤2→¬i5 d (a-i'*d) (b-k'*d))∧vs=[int .i64 i,int .i64 d,int .i64 qa,int .i64 a,int .i64 qb,int .i64 b,.ptr 2000000 0 0]∧pos=[]∧los=[.box [int .i64 0,int .i64 0]])
  (fun vs _ _=>match vs with | .r (.v (.int _ j))::_=>(3-j).toNat | _=>0) rfl ?_ ?_
 ·push_cast
  exact ⟨-1,by omega,fun i' k' h1 h2=>by omega,rfl⟩
 ·rintro vs pos los ⟨i,i3,hno,rfl,rfl,rfl⟩
  push_cast
  refine b6 (fun h=>?_) (fun h=>?_)
  ·have hi:i≤2:=by simpa using h
   have mi:=hmul i i3.1 hi
   push_cast
   refine run_loop [(13,false),(12,false),(1,false),(6,false),(7,false),(9,false),(10,false),(4,false)] (fun vs pos los=>∃k:Int,(-1≤k∧k≤3)∧(∀k':Int,-1≤k'→k'<k→¬i5 d (a-i*d) (b-k'*d))∧vs=[int .i64 k,int .i64 i,int .i64 d,int .i64 qa,int .i64 a,int .i64 qb,int .i64 b,.ptr 2000000 0 0]∧pos=[]∧los=[.box [int .i64 0,int .i64 0]])
    (fun vs _ _=>match vs with | .r (.v (.int _ j))::_=>(3-j).toNat | _=>0) rfl ?_ ?_
   ·push_cast
    exact ⟨-1,by omega,fun k' h1 h2=>by omega,rfl⟩
   ·rintro vs pos los ⟨k,k3,hnk,rfl,rfl,rfl⟩
    push_cast
    refine b6 (fun h=>?_) (fun h=>?_)
    ·have hk:k≤2:=by simpa using h
     have mk:=hmul k k3.1 hk
     push_cast
     rw [show IntKind.i64.wrap (i*d)=i*d from a5 (by omega),show IntKind.i64.wrap (k*d)=k*d from a5 (by omega),show IntKind.i64.wrap (a-i*d)=a-i*d from a5 (by omega),show IntKind.i64.wrap (b-k*d)=b-k*d from a5 (by omega)];refine a6 (ba1 _ _ d (by omega) (by omega)) rfl trivial ?_
     push_cast
     refine b6 (fun h=>?_) (fun h=>?_)
     ·have hh:i5 d (a-i*d) (b-k*d):=by simpa using h
      have hn:=near0_first ha hb ⟨i3.1,hi⟩ ⟨k3.1,hk⟩ hh (fun k' h1 h2=>hnk k' h1 h2) (fun i' k' h1 h2 h3 h4=>hno i' k' h1 h2 h3 h4);rw [hn] at hround
      push_cast [hround,Ei.v,Ei.rv]
      rw [a5 (by omega),a5 (by omega)]
     ·have hh:¬i5 d (a-i*d) (b-k*d):=by simpa using h
      push_cast
      rw [a5 (by omega)];refine ⟨⟨k+1,by omega,fun k' h1 h2=>?_,rfl⟩,by omega⟩;by_cases hkk:k'=k
      ·subst hkk; exact hh
      ·exact hnk k' h1 (by omega)
    ·have hk:k=3:=by simp at h; omega
     subst hk
     push_cast
     rw [a5 (by omega)];refine ⟨⟨i+1,by omega,fun i' k' h1 h2 h3 h4=>?_,rfl⟩,by omega⟩;by_cases hii:i'=i
     ·subst hii; exact hnk k' h3 (by omega)
     ·exact hno i' k' h1 (by omega) h3 h4
  ·have hi:i=3:=by simp at h; omega
   subst hi;exact (bbm ha hb hno).elim
theorem bav (x y:Int):a8 P0 95 [int .i64 x,int .i64 y] [] (bl (decide (inW x y))) []:=by
 refine aim rfl (by decide) ?_
 push_cast [ab4,zaa]
 repeat refine And.intro (by simp +contextual) ?_
 refine ei ?_;unfold inW;by_cases h1:0≤x<;>by_cases h2:x<1073741824<;>by_cases h3:0≤y<;>by_cases h4:y<1073741824<;>simp [h1,h2,h3,h4]
theorem bfh (x y r:Int) (h:inW x y) (hr:0≤r∧r≤12):a8 P0 53 [int .i64 x,int .i64 y,int .i64 r] [] (.tup [(d9 x y r.toNat).v,bl true]) []:=by
 refine akn rfl (by decide) ?_;have c1:decide (r<0)=false:=by simp; omega
 have c2:decide (r>12)=false:=by simp; omega
 push_cast [aep,zaa]
 refine a6 (bav x y) rfl trivial ?_;rw [decide_eq_true h]
 push_cast [c1,c2]
 have hk:(12-r).toNat=12-r.toNat:=by omega
 have hk2:(12-r).toNat≤12:=by omega
 have h':=h;unfold inW at h';rw [show IntKind.i64.wrap (45*x)=45*x from a5 (by omega),show IntKind.i64.wrap (26*y)=26*y from a5 (by omega),show IntKind.i64.wrap (52*y)=52*y from a5 (by omega),show IntKind.i64.wrap (45*x-26*y)=45*x-26*y from a5 (by omega),show IntKind.i64.wrap (12-r)=12-r from a5 (by omega)];refine a6 (bfl (12-r) (by omega)) rfl trivial ?_;have hb:=mj (12-r).toNat hk2;have hm:=a9v h hk2
 push_cast [Ei.v,Ei.rv]
 refine b5 (as':=[(ax x y).v,(c7 (12-r).toNat).conj.v]) rfl ?_;refine a6 (adv _ _ ((a59 h).mono (by decide)) ((axe hb).mono (by decide)) (hm.mono (by decide))) rfl trivial ?_
 push_cast [Ei.v,Ei.rv]
 rw [show IntKind.i64.wrap (12-r)=12-r from a5 (by omega)];refine b9 (a2x (12-r) (by omega) (by omega)) rfl trivial ?_
 push_cast
 have hp:=p7 (12-r).toNat hk2;rw [show IntKind.i64.wrap (2340*7^(12-r).toNat)=2340*7^(12-r).toNat from a5 (by omega)];refine i7 (as':=[((ax x y).mul (c7 (12-r).toNat).conj).v,int .i64 (2340*7^(12-r).toNat)]) rfl ?_;refine b9 (a0e _ _ (hm.mono (by decide)) (by omega)) rfl trivial ?_
 push_cast [Ei.v,Ei.rv,d9,hk]
 kernel_rfl

def abh:Mk P0 f138:={ x:=_ }
theorem ah0:b8 138 2 abh:=b7 func138
def afm:Mk P0 f84:={ x:=_ }
theorem alw:b8 84 2 afm:=b7 func84
def aeo:Mk P0 f137:={ x:=_ }
theorem akm:b8 137 1 aeo:=b7 func137
def abg:Mk P0 f100:={ x:=_ }
theorem ahy:b8 100 1 abg:=b7 func100
def ahz:Mk P0 f99:={ x:=_ }
theorem am9:b8 99 1 ahz:=b7 func99
theorem Ei.mul_comm (x y:Ei):x.mul y=y.mul x:=by
 apply Ei.ext'<;>simp only [Ei.mul]
 ·rw [zcd x.a,zcd x.b]
 ·rw [zcd x.a y.b,zcd x.b y.a,zcd x.b y.b]; omega
theorem bl0 {z:Ei} {r:Nat} (h:z.In 1073741824) (hr:r≤12):((c7 (12-r)).mul z).In 386547056640000:=(sa (lb hr) h).mono (by decide)
theorem a7q (z:Ei) (r:Int) (h:z.In 1073741824) (hr:0≤r∧r≤12):a8 P0 138 [z.v,int .i64 r] [] (.tup [int .i64 (cx z r.toNat),int .i64 (cy z r.toNat),bl true]) []:=by
 refine ah0 rfl (by decide) ?_;have h':=h;unfold Ei.In at h';have c1:decide (r<0)=false:=by simp; omega
 have c2:decide (r>12)=false:=by simp; omega
 have c3:decide (z.a < -1073741824)=false:=by simp; omega
 have c4:decide (z.a>1073741824)=false:=by simp; omega
 have c5:decide (z.b < -1073741824)=false:=by simp; omega
 have c6:decide (z.b>1073741824)=false:=by simp; omega
 push_cast [abh,Ei.v,Ei.rv,zaa,c1,c2,c3,c4,c5,c6]
 rw [show IntKind.i64.wrap (12-r)=12-r from a5 (by omega)];refine a6 (awj (12-r) (by omega)) rfl trivial ?_
 push_cast [Ei.v,Ei.rv]
 have e:(12-r).toNat=12-r.toNat:=by omega
 have hk:r.toNat≤12:=by omega
 rw [e];have hm:=bl0 h hk;have hz:=(lb hk)
 refine b5 (as':=[z.v,(c7 (12-r.toNat)).v]) rfl ?_;refine a6 (adv _ _ (h.mono (by decide)) (hz.mono (by decide)) (by rw [Ei.mul_comm]; exact hm.mono (by decide))) rfl trivial ?_;rw [Ei.mul_comm];unfold Ei.In at hm
 push_cast [Ei.v,Ei.rv,cx,cy]
 rw [show IntKind.i64.wrap (52*((c7 (12-r.toNat)).mul z).a)=52*((c7 (12-r.toNat)).mul z).a from a5 (by omega),show IntKind.i64.wrap (26*((c7 (12-r.toNat)).mul z).b)=26*((c7 (12-r.toNat)).mul z).b from a5 (by omega),show IntKind.i64.wrap (52*((c7 (12-r.toNat)).mul z).a+26*((c7 (12-r.toNat)).mul z).b)=52*((c7 (12-r.toNat)).mul z).a+26*((c7 (12-r.toNat)).mul z).b from a5 (by omega),show IntKind.i64.wrap (45*((c7 (12-r.toNat)).mul z).b)=45*((c7 (12-r.toNat)).mul z).b from a5 (by omega)];exact ⟨by kernel_rfl,rfl⟩
theorem azi {z:Ei} {r:Nat} (i:Nat) (h:z.In 1073741824) (hr:r≤12):(hc z r i).In 1159641889920000:=by
 have hv:=xj i;unfold Ei.In at h hv;exact (sa (lb hr) (show (⟨3*z.a+(vv i).a,3*z.b+(vv i).b⟩:Ei).In 3221225474 by unfold Ei.In; dsimp only; omega)).mono (by decide)
def vvB:List AV:=[int .i64 1,int .i64 1,int .i64 (-1),int .i64 2,int .i64 (-2),int .i64 1,int .i64 (-1),int .i64 (-1),int .i64 1,int .i64 (-2),int .i64 2,int .i64 (-1)]
theorem bkp (i:Nat) (h:i<6):vvB.getD (0+(i:Int).toNat*2+0) AV.undef=int .i64 (vv i).a:=by
 rcases lt6 h with rfl | rfl | rfl | rfl | rfl | rfl<;>rfl
theorem bko (i:Nat) (h:i<6):vvB.getD (0+(i:Int).toNat*2+1) AV.undef=int .i64 (vv i).b:=by
 rcases lt6 h with rfl | rfl | rfl | rfl | rfl | rfl<;>rfl
theorem bhp:vvB.getD (0+(0:Int).toNat*2+0) AV.undef=int .i64 (vv 0).a:=rfl
theorem bho:vvB.getD (0+(0:Int).toNat*2+1) AV.undef=int .i64 (vv 0).b:=rfl
theorem a1c:n7 vvB=[]:=rfl
theorem a3u (F:Ren):imL F vvB=vvB:=rfl
theorem a2q:vvB.length=12:=rfl
theorem azh (z:Ei) (r i:Nat):(⟨3*z.a+(vv i).a,3*z.b+(vv i).b⟩:Ei).mul (c7 (12-r))=hc z r i:=Ei.mul_comm _ _
theorem in3 {x v:Int} (h:-1073741824≤x∧x≤1073741824) (h':-2≤v∧v≤2):IntKind.i64.wrap (3*x)=3*x∧IntKind.i64.wrap (3*x+v)=3*x+v:=⟨a5 (by omega),a5 (by omega)⟩
theorem a7m (z:Ei) (r:Int) (hz:z.In 1073741824) (hr:0≤r∧r≤12):a8 P0 84 [z.v,int .i64 r] [] (.own 1000000 0 0 6) [.row 2 (pnt 0 0) true true (ke z r.toNat 6)]:=by
  refine alw rfl (by decide) ?_;simp only [afm,Ei.v,Ei.rv,push_cast,↓reduceIte,reduceCtorEq,zE,zA,zD];refine b5 (as':=[z.v,int .i64 r]) rfl ?_;refine a6 (a7q z r hz hr) rfl trivial ?_;simp only [push_cast,↓reduceIte,reduceCtorEq,zE,zA,zL];rw [show IntKind.i64.wrap (12-r)=12-r from a5 (by omega)];refine a6 (awj (12-r) (by omega)) rfl trivial ?_;have e:(12-r).toNat=12-r.toNat:=by omega
  have hk:r.toNat≤12:=by omega
  rw [e];simp only [Ei.v,Ei.rv,push_cast,↓reduceIte,zE,zA,zL,zD];have hmax:=d7;generalize hR:r.toNat=R at *;have hb:(c7 (12-R)).In 120000:=lb hk;have h':=hz;unfold Ei.In at h'
  have h3:∀i,(⟨3*z.a+(vv i).a,3*z.b+(vv i).b⟩:Ei).In M63:=fun i=>by
    have hv:=xj i;unfold Ei.In at hv ⊢;unfold M63;dsimp only;omega
  refine run_loop [(12,false),(2,false),(8,false),(10,false),(11,false)] (fun vs pos los=>∃i:Nat,i≤6∧pos=[] ∧
    ((i=0∧vs=[int .i64 i,.ptr 2000000 0 0,.ptr 2000001 0 0,.ptr 2000002 0 0,.nils 2 (.agg [.v (.int .i64 0),.v (.int .i64 0)])]∧los=[.box [int .i64 z.a,int .i64 z.b],.box [int .i64 (c7 (12-R)).a,int .i64 (c7 (12-R)).b],.box vvB]) ∨
     (0<i∧vs=[int .i64 i,.ptr 2000000 0 0,.ptr 2000001 0 0,.ptr 2000002 0 0,.own 2000003 0 0 i]∧los=[.box [int .i64 z.a,int .i64 z.b],.box [int .i64 (c7 (12-R)).a,int .i64 (c7 (12-R)).b],.box vvB,.row 2 (pnt 0 0) true true (ke z R i)])))
    (fun vs _ _=>match vs with | .r (.v (.int _ j))::_=>(6-j).toNat | _=>0) rfl ?_ ?_
  · simp only [push_cast,↓reduceIte,zB,zE,zA,zL,zD];exact ⟨0,by omega,.inl ⟨rfl,rfl,rfl⟩⟩
  · rintro vs pos los ⟨i,i6,rfl,⟨i0,rfl,rfl⟩ | ⟨i0,rfl,rfl⟩⟩
    · subst i0;simp only [show decide ((0:Int)<6)=true from rfl,bhp,bho,a2q,push_cast,↓reduceIte,zE,zA,zL,zD]
      repeat refine And.intro (by first | decide | omega) ?_
      rw [(in3 h'.1 (xj 0).1).1,(in3 h'.1 (xj 0).1).2,(in3 h'.2 (xj 0).2).1,(in3 h'.2 (xj 0).2).2];refine i7 (as':=[Ei.v ⟨3*z.a+(vv 0).a,3*z.b+(vv 0).b⟩,(c7 (12-R)).v]) rfl ?_;refine b9 (adv _ _ (h3 0) (hb.mono (by decide)) (by rw [azh]; exact (azi 0 hz hk).mono (by decide))) rfl trivial ?_;rw [azh];have hw:=azi 0 hz hk;unfold Ei.In at hw;simp only [Ei.v,Ei.rv,a1c,a3u,push_cast,↓reduceIte,zB,zE,zA,zL,zD,zM]
      rw [show IntKind.i64.wrap (52*(hc z R 0).a)=52*(hc z R 0).a from a5 (by omega),show IntKind.i64.wrap (26*(hc z R 0).b)=26*(hc z R 0).b from a5 (by omega),show IntKind.i64.wrap (52*(hc z R 0).a+26*(hc z R 0).b)=52*(hc z R 0).a+26*(hc z R 0).b from a5 (by omega),show IntKind.i64.wrap (45*(hc z R 0).b)=45*(hc z R 0).b from a5 (by omega)];refine ⟨by kernel_rfl,by simp,by omega,⟨1,by omega,.inr ⟨by omega,?_,rfl⟩⟩,by decide⟩;rw [show IntKind.i64.wrap (0+1)=((1:Nat):Int) by decide]
    · simp only [push_cast,↓reduceIte,zA];refine b6 (fun h=>?_) (fun h=>?_)
      · have hi:i<6:=by simp at h; omega
        simp only [bkp i hi,bko i hi,a2q,push_cast,↓reduceIte,zE,zA,zL,zD]
        repeat refine And.intro (by first | decide | omega) ?_
        rw [(in3 h'.1 (xj i).1).1,(in3 h'.1 (xj i).1).2,(in3 h'.2 (xj i).2).1,(in3 h'.2 (xj i).2).2];refine i7 (as':=[Ei.v ⟨3*z.a+(vv i).a,3*z.b+(vv i).b⟩,(c7 (12-R)).v]) rfl ?_;refine b9 (adv _ _ (h3 i) (hb.mono (by decide)) (by rw [azh]; exact (azi i hz hk).mono (by decide))) rfl trivial ?_;rw [azh];have hw:=azi i hz hk;unfold Ei.In at hw;simp only [Ei.v,Ei.rv,a1c,a3u,push_cast,↓reduceIte,zB,zE,zA,zL,zD]
        rw [show IntKind.i64.wrap (52*(hc z R i).a)=52*(hc z R i).a from a5 (by omega),show IntKind.i64.wrap (26*(hc z R i).b)=26*(hc z R i).b from a5 (by omega),show IntKind.i64.wrap (52*(hc z R i).a+26*(hc z R i).b)=52*(hc z R i).a+26*(hc z R i).b from a5 (by omega),show IntKind.i64.wrap (45*(hc z R i).b)=45*(hc z R i).b from a5 (by omega)];refine ⟨by kernel_rfl,by simp,by omega,⟨i+1,by omega,.inr ⟨by omega,?_,?_⟩⟩,?_⟩
        · rw [show IntKind.i64.wrap ((i:Int)+1)=((i+1:Nat):Int) by rw [a5 (by omega)]; omega]
        · rw [zdb (by rw [as7]; exact Nat.le_refl _),← ayv]; rfl
        · rw [a5 (by omega)]; omega
      · have hi:i=6:=by simp at h; omega
        subst hi;simp only [push_cast,↓reduceIte,zE,zA,zL,zD]
theorem a22 (k:Int) (hk:0≤k∧k<6):a8 P0 137 [int .i64 k] [] ((uni k.toNat).v) []:=by
 refine akm rfl (by decide) ?_
 have hm:(IntKind.i64.wrap (Int.tmod k 6+6)).tmod 6=k:=by
  rw [zcm hk.1,a5 (by omega),zcm (by omega)]; omega
 simp only [aeo,hm,Ei.v,Ei.rv,push_cast,↓reduceIte,reduceCtorEq,zE,zA,zD];refine ⟨by decide,by decide,hk,by omega,?_⟩;rcases (show k=0∨k=1∨k=2∨k=3∨k=4∨k=5 by omega) with rfl | rfl | rfl | rfl | rfl | rfl
 all_goals
  simp only [Int.reduceToNat,Nat.zero_mul,Nat.add_zero,zcu,bc6,bc5,bc4,bc3,bc2,bc1,push_cast,zA,zD,zM]
theorem ax6 (z:Ei) (h:z.In 1073741824):a8 P0 100 [z.v] [] (.tup [(pr z).v,int .i64 (dg z)]) []:=by
 refine ahy rfl (by decide) ?_
 push_cast [abg,Ei.v,Ei.rv,zaa]
 have h1:(z.mul ⟨3,-1⟩).In 9663676416:=(sa h (show (⟨3,-1⟩:Ei).In 3 by unfold Ei.In; decide)).mono (by decide);have h2:(pr z).In 1073741824:=a46 h (by decide);have h3:((pr z).mul y9).In 6442450944:=(sa h2 (show y9.In 2 by unfold Ei.In; decide)).mono (by decide);have hl:=a8s z;refine b5 (as':=[z.v,Ei.v ⟨3,-1⟩]) rfl ?_;refine a6 (adv _ _ (h.mono (by decide)) (show (⟨3,-1⟩:Ei).In _ by unfold Ei.In; decide) (h1.mono (by decide))) rfl trivial ?_
 push_cast [Ei.v,Ei.rv]
 refine b5 (as':=[(z.mul ⟨3,-1⟩).v,int .i64 7]) rfl ?_;refine a6 (a0e _ 7 (h1.mono (by decide)) (by decide)) rfl trivial ?_;rw [show (z.mul ⟨3,-1⟩).round 7=pr z from rfl]
 push_cast [Ei.v,Ei.rv]
 refine b5 (as':=[(pr z).v,y9.v]) rfl ?_;refine a6 (adv _ _ (h2.mono (by decide)) (show y9.In _ by unfold Ei.In; decide) (h3.mono (by decide))) rfl trivial ?_;have e1:z.a-((pr z).mul y9).a=(lft z).a:=rfl;have e2:z.b-((pr z).mul y9).b=(lft z).b:=rfl;unfold Ei.In at hl;rw [← e1,← e2] at hl
 push_cast [Ei.v,Ei.rv]
 rw [show IntKind.i64.wrap (z.a-((pr z).mul y9).a)=(lft z).a by rw [← e1]; exact a5 (by omega),show IntKind.i64.wrap (z.b-((pr z).mul y9).b)=(lft z).b by rw [← e2]; exact a5 (by omega)];rw [show dg z=dgOf (lft z) from rfl];generalize lft z=l at *;generalize pr z=q at *
 refine run_loop [(11,false),(10,false),(6,false),(2,false)] (fun vs pos los=>∃i:Int,(0≤i∧i≤6)∧(∀j:Nat,(j:Int)<i→uni j≠l)∧vs=[int .i64 i,.ptr 2000000 0 0,.ptr 2000001 0 0,.ptr 2000002 0 0]∧pos=[]∧los=[.box [int .i64 l.a,int .i64 l.b],.box [int .i64 q.a,int .i64 q.b],.box [int .i64 0,int .i64 0]])
  (fun vs _ _=>match vs with | .r (.v (.int _ j))::_=>(6-j).toNat | _=>0) rfl ?_ ?_
 ·push_cast
  exact ⟨0,by omega,fun j hj=>by omega,rfl⟩
 ·rintro vs pos los ⟨i,i6,hj,rfl,rfl,rfl⟩
  push_cast
  refine b6 (fun h=>?_) (fun h=>?_)
  ·simp only [decide_eq_true_eq] at h
   push_cast
   refine b9 (a22 i ⟨i6.1,h⟩) rfl trivial ?_
   push_cast [Ei.v,Ei.rv]
   refine ⟨by kernel_rfl,b6 (fun h'=>?_) (fun h'=>?_)⟩
   ·have e:uni i.toNat=l:=by
     simp only [Bool.and_eq_true,beq_iff_eq] at h';exact Ei.ext' h'.1 h'.2
    push_cast
    rw [← e,a1o _ (by omega),a5 (by omega),show ((i.toNat+1:Nat):Int)=i+1 by omega]
   ·have e:uni i.toNat≠l:=fun e=>by rw [e] at h'; simp at h'
    push_cast
    rw [a5 (by omega)];refine ⟨⟨i+1,by omega,fun j hj'=>?_,rfl⟩,by omega⟩;by_cases hji:(j:Int)=i
    ·rw [show j=i.toNat by omega]; exact e
    ·exact hj j (by omega)
  ·have hi:i=6:=by simp at h; omega
   subst hi
   push_cast
   rw [a38 l fun j h6=>hj j (by omega)]
   rfl
theorem a7k (r:Int) (z:Ei) (h0:0≤r) (h:okc r.toNat z):a8 P0 99 [cel r z] [] (bl true) []:=by
 refine am9 rfl (by decide) ?_;obtain ⟨r12,hz,ha,hb⟩:=h;have hz':=hz;unfold Ei.In at hz';have c1:decide (r<0)=false:=by simp; omega
 have c2:decide (r>12)=false:=by simp; omega
 have c3:decide (z.a < -1073741824)=false:=by simp; omega
 have c4:decide (z.a>1073741824)=false:=by simp; omega
 have c5:decide (z.b < -1073741824)=false:=by simp; omega
 have c6:decide (z.b>1073741824)=false:=by simp; omega
 push_cast [ahz,cel,zaa,c1,c2,c3,c4,c5,c6]
 refine run_loop [(4,false),(1,false),(3,false)] (fun vs pos los=>∃i:Int,(0≤i∧i≤r)∧vs=[int .i64 i,.ptr 2000000 0 0,.ptr 2000001 0 0]∧pos=[]∧los=[.box [int .i64 r,int .i64 z.a,int .i64 z.b],.box [int .i64 (anc i.toNat z).a,int .i64 (anc i.toNat z).b]])
  (fun vs _ _=>match vs with | .r (.v (.int _ j))::_=>(r-j).toNat | _=>0) rfl ?_ ?_
 ·push_cast
  exact ⟨0,by omega,rfl,rfl⟩
 ·rintro vs pos los ⟨i,i6,rfl,rfl,rfl⟩
  push_cast
  refine b6 (fun h=>?_) (fun h=>?_)
  ·simp only [decide_eq_true_eq] at h
   push_cast
   have hp:=av7 i.toNat hz (by decide);refine b5 (as':=[(anc i.toNat z).v]) rfl ?_;refine a6 (ax6 _ hp) rfl trivial ?_
   push_cast [Ei.v,Ei.rv]
   rw [show IntKind.i64.wrap (i+1)=i+1 from a5 (by omega)];refine ⟨⟨i+1,by omega,rfl,?_⟩,by omega⟩;rw [show (i+1).toNat=i.toNat+1 by omega,ana]
  ·have hi:i=r:=by simp at h; omega
   subst hi
   push_cast [ge_iff_le,ha.1,ha.2,hb.1,hb.2,decide_true]

end
end Go.Ev

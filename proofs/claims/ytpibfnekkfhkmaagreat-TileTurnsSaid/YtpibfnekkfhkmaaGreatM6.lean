import Derived.Test.YtpibfnekkfhkmaaGreatChecked
import Derived.KernelRfl
import Derived.Test.YtpibfnekkfhkmaaGreatM5
open Nat renaming reduceBEq → zB, reduceEqDiff → zE, reduceAdd → zA, reduceSub → zS, reduceLT → zL, reduceLeDiff → zD, reduceMul → zM
open Go.Proofs.Tryz renaming prog → P0
open List renaming length_nil → zaa, append_nil → zab, length_append → zac, range_zero → zad, length_cons → zag, length_map → zah, map_cons → zai, map_nil → zaj, getD_cons_zero → zak, getD_cons_succ → zal, take_succ_cons → zam, take_zero → zan, drop_succ_cons → zao, drop_zero → zap, cons_append → zaq, nil_append → zar, all_cons → zas, all_nil → zat, contains_cons → zbe, contains_nil → zbf, filter_cons → zbg, filter_nil → zbh, getElem?_cons_zero → zbk, getElem?_cons_succ → zbl, getElem?_nil → zbm, take_nil → zbn, drop_nil → zbo
open Option renaming getD_some → zae, getD_none → zaf, map_some → zbi, map_none → zbj
open Bool renaming and_true → zau, true_and → zav, false_and → zaw, and_self → zax, or_true → zay, true_or → zaz, false_or → zba, or_false → zbb, not_true → zbc, not_false → zbd, false_eq_true → zbp
open Nat renaming reduceEqDiff → zbq, reduceAdd → zbr, reduceSub → zbs, reduceLT → zbt, reduceLeDiff → zbu, reduceMul → zbv, pow_pos → zby, mul_assoc → zcb, add_mul_div_right → zcc, mul_le_mul → zcd, div_eq_of_lt → zcf, div_div_eq_div_mul → zch
open Int renaming emod_lt_of_pos → zbw, emod_nonneg → zbx, lt_or_le → zbz, mul_add → zca, mul_ediv_add_emod → zce, tmod_eq_emod_of_nonneg → zcg
namespace Go.Ev
set_option maxRecDepth 100000
open Go
set_option linter.unusedSectionVars false
set_option linter.unnecessarySimpa false
set_option linter.unusedSimpArgs false
set_option linter.unusedVariables false
noncomputable def am9:PC:=
  (.seq (.reg [p_s 4 (.mov (o_i 0)),p_s 5 (.mov (.c (.r (.v (.bool false)))))])
 (.seq (.reg [p_m 7 0,p_m 8 1,p_s 9 (.bin .add (.t 7) (.t 8)),p_m 6 9])
 (.seq (.seq (.reg [p_m 10 6,p_m 11 0,p_s 12 (.bin .gtr (.t 10) (.t 11)),p_m 13 1,p_s 14 (.bin .gtr (.t 13) (o_i 0)),p_s 15 (.beq true (.t 12) (.t 14)),p_m 16 15,p_g 17 16 true (.mov (.t 1)),
 p_g 18 16 true (.bin .neq (.t 17) (o_i 0)),p_s 19 (.pick (.t 16) (.t 18) (.c (.r (.v (.bool false)))))])
 (.cond (.t 19)
 (.seq (.reg [p_s 4 (.mov (o_i 0)),p_s 5 (.mov (.c (.r (.v (.bool false)))))])
 .ret)
 .skip))
 (.seq (.reg [p_m 20 6,p_m 4 20,p_s 5 (.mov (.c (.r (.v (.bool true)))))])
 .ret))))
theorem aos:Fun P0 176 2 [(4,false,none),(5,false,none)] am9:=b5 Go.Proofs.Tryz.func176 rfl (by decide) (by kernel_rfl) (by decide) rfl (by kernel_rfl) (by kernel_rfl) (by decide)
noncomputable def am5:PC:=
  (.seq (.reg [p_s 4 (.mov (o_i 0)),p_s 5 (.mov (.c (.r (.v (.bool false)))))])
 (.seq (.reg [p_m 7 0,p_m 8 1,p_s 9 (.bin .sub (.t 7) (.t 8)),p_m 6 9])
 (.seq (.seq (.reg [p_m 10 6,p_m 11 0,p_s 12 (.bin .lss (.t 10) (.t 11)),p_m 13 1,p_s 14 (.bin .gtr (.t 13) (o_i 0)),p_s 15 (.beq true (.t 12) (.t 14)),p_m 16 15,p_g 17 16 true (.mov (.t 1)),
 p_g 18 16 true (.bin .neq (.t 17) (o_i 0)),p_s 19 (.pick (.t 16) (.t 18) (.c (.r (.v (.bool false)))))])
 (.cond (.t 19)
 (.seq (.reg [p_s 4 (.mov (o_i 0)),p_s 5 (.mov (.c (.r (.v (.bool false)))))])
 .ret)
 .skip))
 (.seq (.reg [p_m 20 6,p_m 4 20,p_s 5 (.mov (.c (.r (.v (.bool true)))))])
 .ret))))
theorem aoo:Fun P0 246 2 [(4,false,none),(5,false,none)] am5:=b5 Go.Proofs.Tryz.func246 rfl (by decide) (by kernel_rfl) (by decide) rfl (by kernel_rfl) (by kernel_rfl) (by decide)
noncomputable def am7:PC:=
  (.seq (.reg [p_s 2 (.mov (o_i 0)),p_s 3 (.mov (.c (.r (.v (.bool false)))))])
 (.seq (.reg [p_m 4 0,p_c 5 1 246 [(o_i 0),(.t 4)],p_s 6 (.ext (.t 5) 0),p_s 7 (.ext (.t 5) 1),p_m 2 6,p_m 3 7])
 .ret))
theorem aoq:Fun P0 231 1 [(2,false,none),(3,false,none)] am7:=b5 Go.Proofs.Tryz.func231 rfl (by decide) (by kernel_rfl) (by decide) rfl (by kernel_rfl) (by kernel_rfl) (by decide)
noncomputable def aj1:PC:=
  (.seq (.reg [p_s 2 (.mov (.c (.r (.v (.int .u64 0)))))])
 (.seq (.seq (.reg [p_m 3 0,p_s 4 (.bin .lss (.t 3) (o_i 0))])
 (.cond (.t 4)
 (.seq (.reg [p_m 5 0,p_s 6 (.conv .u64 (.t 5)),p_s 7 (.un .neg (.t 6)),p_m 2 7])
 .ret)
 .skip))
 (.seq (.reg [p_m 8 0,p_s 9 (.conv .u64 (.t 8)),p_m 2 9])
 .ret)))
theorem am4:Fun P0 247 1 [(2,false,none)] aj1:=b5 Go.Proofs.Tryz.func247 rfl (by decide) (by kernel_rfl) (by decide) rfl (by kernel_rfl) (by kernel_rfl) (by decide)
noncomputable def agm:PC:=
  (.seq (.reg [p_s 4 (.mov (.c (.r (.v (.int .u64 0))))),p_s 5 (.mov (.c (.r (.v (.int .u64 0)))))])
 (.seq (.reg [p_m 14 0,p_s 15 (.bin .and (.t 14) (.c (.r (.v (.int .u64 4294967295))))),p_m 6 15])
 (.seq (.reg [p_m 16 0,p_s 17 (.bin .shr (.t 16) (.c (.r (.v (.int .u64 32))))),p_m 7 17])
 (.seq (.reg [p_m 18 1,p_s 19 (.bin .and (.t 18) (.c (.r (.v (.int .u64 4294967295))))),p_m 8 19])
 (.seq (.reg [p_m 20 1,p_s 21 (.bin .shr (.t 20) (.c (.r (.v (.int .u64 32))))),p_m 9 21])
 (.seq (.reg [p_m 22 6,p_m 23 8,p_s 24 (.bin .mul (.t 22) (.t 23)),p_m 10 24])
 (.seq (.reg [p_m 25 7,p_m 26 8,p_s 27 (.bin .mul (.t 25) (.t 26)),p_m 28 10,p_s 29 (.bin .shr (.t 28) (.c (.r (.v (.int .u64 32))))),p_s 30 (.bin .add (.t 27) (.t 29)),
 p_m 11 30])
 (.seq (.reg [p_m 31 11,p_s 32 (.bin .and (.t 31) (.c (.r (.v (.int .u64 4294967295))))),p_m 12 32])
 (.seq (.reg [p_m 33 11,p_s 34 (.bin .shr (.t 33) (.c (.r (.v (.int .u64 32))))),p_m 13 34])
 (.seq (.reg [p_m 35 12,p_m 36 6,p_m 37 9,p_s 38 (.bin .mul (.t 36) (.t 37)),p_s 39 (.bin .add (.t 35) (.t 38)),p_m 12 39])
 (.seq (.reg [p_m 40 7,p_m 41 9,p_s 42 (.bin .mul (.t 40) (.t 41)),p_m 43 13,p_s 44 (.bin .add (.t 42) (.t 43)),p_m 45 12,p_s 46 (.bin .shr (.t 45) (.c (.r (.v (.int .u64 32))))),
 p_s 47 (.bin .add (.t 44) (.t 46)),p_m 4 47])
 (.seq (.reg [p_m 48 0,p_m 49 1,p_s 50 (.bin .mul (.t 48) (.t 49)),p_m 5 50])
 .ret))))))))))))
theorem ajq:Fun P0 191 2 [(4,false,none),(5,false,none)] agm:=b5 Go.Proofs.Tryz.func191 rfl (by decide) (by kernel_rfl) (by decide) rfl (by kernel_rfl) (by kernel_rfl) (by decide)
noncomputable def am8:PC:=
  (.seq (.reg [p_s 4 (.mov (o_i 0)),p_s 5 (.mov (.c (.r (.v (.bool false)))))])
 (.seq (.reg [p_m 10 0,p_c 11 1 247 [.t 10],p_m 12 1,p_c 13 2 247 [.t 12],p_c 14 3 191 [.t 11,.t 13],p_m 9 14,p_s 15 (.ext (.t 9) 0),p_s 16 (.ext (.t 9) 1),p_m 6 15,
 p_m 7 16])
 (.seq (.reg [p_m 17 0,p_s 18 (.bin .lss (.t 17) (o_i 0)),p_m 19 1,p_s 20 (.bin .lss (.t 19) (o_i 0)),p_s 21 (.beq true (.t 18) (.t 20)),p_m 8 21])
 (.seq (.block 0 (.seq (.reg [p_m 23 6,p_s 24 (.bin .neq (.t 23) (.c (.r (.v (.int .u64 0))))),p_m 25 24,p_g 26 25 false (.mov (.t 7)),p_g 27 25 false (.bin .gtr (.t 26) (.c (.r (.v (.int .u64 9223372036854775808))))),
 p_s 28 (.pick (.t 25) (.c (.r (.v (.bool true)))) (.t 27)),p_m 29 28,p_g 30 29 false (.mov (.t 7)),p_g 31 29 false (.bin .eql (.t 30) (.c (.r (.v (.int .u64 9223372036854775808))))),
 p_g 32 29 false (.mov (.t 31)),p_g 33 32 true (.mov (.t 8)),p_g 34 32 true (.un .not (.t 33)),p_g 35 29 false (.pick (.t 32) (.t 34) (.c (.r (.v (.bool false))))),
 p_s 36 (.pick (.t 29) (.c (.r (.v (.bool true)))) (.t 35)),p_m 22 36])
 (.cond (.t 22)
 (.seq (.reg [p_s 4 (.mov (o_i 0)),p_s 5 (.mov (.c (.r (.v (.bool false)))))])
 .ret)
 (.seq (.reg [p_m 38 8,p_m 37 38])
 (.cond (.t 37)
 (.seq (.reg [p_m 39 7,p_s 40 (.conv .i64 (.t 39)),p_s 41 (.un .neg (.t 40)),p_m 4 41,p_s 5 (.mov (.c (.r (.v (.bool true)))))])
 .ret)
 .skip)))))
 (.seq (.reg [p_m 42 7,p_s 43 (.conv .i64 (.t 42)),p_m 4 43,p_s 5 (.mov (.c (.r (.v (.bool true)))))])
 .ret)))))
theorem aor:Fun P0 233 2 [(4,false,none),(5,false,none)] am8:=b5 Go.Proofs.Tryz.func233 rfl (by decide) (by kernel_rfl) (by decide) rfl (by kernel_rfl) (by kernel_rfl) (by decide)
noncomputable def ahq:PC:=
  (.seq (.reg [p_s 4 (.mov (o_i 0)),p_s 5 (.mov (o_i 0)),p_s 6 (.mov (.c (.r (.v (.bool false)))))])
 (.seq (.seq (.reg [p_m 7 1,p_s 8 (.bin .leq (.t 7) (o_i 0))])
 (.cond (.t 8)
 (.seq (.reg [p_s 4 (.mov (o_i 0)),p_s 5 (.mov (o_i 0)),p_s 6 (.mov (.c (.r (.v (.bool false)))))])
 .ret)
 .skip))
 (.seq (.drw [p_m 9 0,p_m 10 1,p_s 11 (.bin .quo (.t 9) (.t 10)),p_m 12 0,p_m 13 1,p_s 14 (.bin .rem (.t 12) (.t 13)),p_m 4 11,p_m 5 14]
 [[],[],[0,1],[],[],[3,4],[0,1,2],[0,1,2,3,4,5,6]])
 (.seq (.seq (.reg [p_m 15 5,p_s 16 (.bin .lss (.t 15) (o_i 0))])
 (.cond (.t 16)
 (.reg [p_m 17 4,p_s 18 (.bin .sub (.t 17) (o_i 1)),p_m 19 5,p_m 20 1,p_s 21 (.bin .add (.t 19) (.t 20)),p_m 4 18,p_m 5 21])
 .skip))
 (.seq (.reg [p_m 22 4,p_m 23 5,p_m 4 22,p_m 5 23,p_s 6 (.mov (.c (.r (.v (.bool true)))))])
 .ret)))))
theorem alb:Fun P0 135 2 [(4,false,none),(5,false,none),(6,false,none)] ahq:=b5 Go.Proofs.Tryz.func135 rfl (by decide) (by kernel_rfl) (by decide) rfl (by kernel_rfl) (by kernel_rfl) (by decide)
def sm (x:Int):AV:=.tup [int .i64 (if in64 x then x else 0),bl (decide (in64 x))]
theorem aee {x y:Int} (h:x=y) (hx:in64 y):AV.tup [int .i64 x,bl true]=sm y:=by simp [sm,hx,h]
theorem amg {y:Int} (hx:¬in64 y):AV.tup [int .i64 0,bl false]=sm y:=by simp [sm,hx]
theorem a9x (n:Nat):(n:Int).fdiv (2^min (Int.toNat 32) IntKind.u64.bits)=((n/4294967296:Nat):Int):=by
 have:(2:Int)^min (Int.toNat 32) IntKind.u64.bits=4294967296:=by decide
 rw [this,Int.fdiv_eq_ediv_of_nonneg _ (by decide)];omega
theorem a9h (n:Nat):IntKind.u64.wrap (n:Int)=((n%18446744073709551616:Nat):Int):=by
 rw [IntKind.wrap_u64]; omega
theorem bax (n:Nat):(BitVec.ofInt IntKind.u64.bits (n:Int) &&& BitVec.ofInt IntKind.u64.bits 4294967295).toNat=n%4294967296:=by
 have h1:BitVec.ofInt IntKind.u64.bits (n:Int)=BitVec.ofNat 64 n:=by simp [IntKind.bits]
 have h2:BitVec.ofInt IntKind.u64.bits 4294967295=BitVec.ofNat 64 (2^32-1):=rfl;rw [h1,h2];show (BitVec.ofNat 64 n &&& BitVec.ofNat 64 (2^32-1)).toNat = _;rw [BitVec.toNat_and,BitVec.toNat_ofNat,BitVec.toNat_ofNat,show (2^32-1)%2^64=2^32-1 by decide,Nat.and_two_pow_sub_one_eq_mod];omega
theorem ayl {x y a b c d:Nat} (hx:x=a*4294967296+b) (hy:y=c*4294967296+d):x*y=(a*c)*18446744073709551616+(a*d+b*c)*4294967296+b*d:=by
 subst hx; subst hy;rw [Nat.add_mul,Nat.mul_add,Nat.mul_add]
 have e1:a*4294967296*(c*4294967296)=(a*c)*18446744073709551616:=by
  rw [Nat.mul_mul_mul_comm]
 have e2:a*4294967296*d=(a*d)*4294967296:=Nat.mul_right_comm _ _ _;have e3:b*(c*4294967296)=(b*c)*4294967296:=(zcb _ _ _).symm;rw [e1,e2,e3];omega
theorem acy {a b:Nat} (ha:a<4294967296) (hb:b<4294967296):a*b≤18446744065119617025:=by
 have:a*b≤4294967295*4294967295:=zcd (by omega) (by omega);omega
theorem awo (a b:Int) (ha:in64 a) (hb:in64 b):a7 P0 176 [int .i64 a,int .i64 b] [] (sm (a+b)) []:=by
 refine aos rfl (by decide) ?_;simp only [am9,push_cast,↓reduceIte,reduceCtorEq,zB,zE,zA,zS,zL,zD,zM];unfold in64 at ha hb;refine b6 (fun h=>?_) (fun h=>?_)
 ·simp only [push_cast,↓reduceIte,reduceCtorEq,zB,zE,zA,zS,zL,zD,zM];refine amg ?_;rw [IntKind.wrap_i64] at h;unfold in64; by_cases h1:(a+b+9223372036854775808)%18446744073709551616-9223372036854775808>a<;>by_cases h2:b>0<;>by_cases h3:b=0<;>simp only [h1,h2,h3,decide_true,decide_false] at h<;>first | omega | (simp at h; done) | (simp at h; omega)
 ·simp only [push_cast,↓reduceIte,reduceCtorEq,zB,zE,zA,zS,zL,zD,zM];rw [IntKind.wrap_i64] at h ⊢
  have:in64 (a+b):=by
   unfold in64; by_cases h1:(a+b+9223372036854775808)%18446744073709551616-9223372036854775808>a<;>by_cases h2:b>0<;>by_cases h3:b=0<;>simp only [h1,h2,h3,decide_true,decide_false] at h<;>first | omega | (simp at h; done) | (simp at h; omega)
  exact aee (by unfold in64 at this; omega) this
theorem ava (a b:Int) (ha:in64 a) (hb:in64 b):a7 P0 246 [int .i64 a,int .i64 b] [] (sm (a-b)) []:=by
 refine aoo rfl (by decide) ?_;simp only [am5,push_cast,↓reduceIte,reduceCtorEq,zB,zE,zA,zS,zL,zD,zM];unfold in64 at ha hb;refine b6 (fun h=>?_) (fun h=>?_)
 ·simp only [push_cast,↓reduceIte,reduceCtorEq,zB,zE,zA,zS,zL,zD,zM];refine amg ?_;rw [IntKind.wrap_i64] at h;unfold in64; by_cases h1:(a-b+9223372036854775808)%18446744073709551616-9223372036854775808<a<;>by_cases h2:b>0<;>by_cases h3:b=0<;>simp only [h1,h2,h3,decide_true,decide_false] at h<;>first | omega | (simp at h; done) | (simp at h; omega)
 ·simp only [push_cast,↓reduceIte,reduceCtorEq,zB,zE,zA,zS,zL,zD,zM];rw [IntKind.wrap_i64] at h ⊢
  have:in64 (a-b):=by
   unfold in64; by_cases h1:(a-b+9223372036854775808)%18446744073709551616-9223372036854775808<a<;>by_cases h2:b>0<;>by_cases h3:b=0<;>simp only [h1,h2,h3,decide_true,decide_false] at h<;>first | omega | (simp at h; done) | (simp at h; omega)
  exact aee (by unfold in64 at this; omega) this
theorem a96 (a:Int) (ha:in64 a):a7 P0 231 [int .i64 a] [] (sm (-a)) []:=by
 refine aoq rfl (by decide) ?_;simp only [am7,push_cast,↓reduceIte,reduceCtorEq,zB,zE,zA,zS,zL,zD,zM];refine a5 (ava 0 a (by decide) ha) rfl trivial ?_;simp only [sm,push_cast,↓reduceIte,reduceCtorEq,zB,zE,zA,zS,zL,zD,zM];simp
theorem axa (a:Int) (ha:in64 a):a7 P0 247 [int .i64 a] [] (int .u64 a.natAbs) []:=by
 refine am4 rfl (by decide) ?_;simp only [aj1,push_cast,↓reduceIte,reduceCtorEq,zB,zE,zA,zS,zL,zD,zM];unfold in64 at ha;refine b6 (fun h=>?_) (fun h=>?_)
 ·simp only [push_cast,↓reduceIte,reduceCtorEq,zB,zE,zA,zS,zL,zD,zM];simp at h;rw [IntKind.wrap_u64,IntKind.wrap_u64];congr 3;omega
 ·simp only [push_cast,↓reduceIte,reduceCtorEq,zB,zE,zA,zS,zL,zD,zM];simp at h;rw [IntKind.wrap_u64];congr 3;omega
theorem auc (x y:Nat) (hx:x<18446744073709551616) (hy:y<18446744073709551616):a7 P0 191 [int .u64 x,int .u64 y] [] (.tup [int .u64 (x*y/18446744073709551616:Nat),int .u64 (x*y%18446744073709551616:Nat)]) []:=by
 refine ajq rfl (by decide) ?_;simp only [agm,push_cast,↓reduceIte,reduceCtorEq,zB,zE,zA,zS,zL,zD,zM];refine ⟨by decide,by decide,by decide,by decide,by decide,?_⟩;simp only [a9x,bax,a9h,← Int.natCast_mul,← Int.natCast_add];have hm:∀n:Nat,n%4294967296%18446744073709551616=n%4294967296:=fun n=>by omega
 simp only [hm];have key:=ayl (x:=x) (y:=y) (a:=x/4294967296) (b:=x%4294967296) (c:=y/4294967296) (d:=y%4294967296) (by omega) (by omega);have b1:=acy (a:=x/4294967296) (b:=y/4294967296) (by omega) (by omega);have b2:=acy (a:=x/4294967296) (b:=y%4294967296) (by omega) (by omega);have b3:=acy (a:=x%4294967296) (b:=y/4294967296) (by omega) (by omega);have b4:=acy (a:=x%4294967296) (b:=y%4294967296) (by omega) (by omega);generalize x/4294967296*(y/4294967296)=p at *;generalize x/4294967296*(y%4294967296)=q at *;generalize x%4294967296*(y/4294967296)=r at *;generalize x%4294967296*(y%4294967296)=t at *;rw [key];congr 5;omega

theorem a98 (a b:Int) (ha:in64 a) (hb:in64 b):a7 P0 233 [int .i64 a,int .i64 b] [] (sm (a*b)) []:=by
 refine aor rfl (by decide) ?_;have ha':=ha;have hb':=hb;unfold in64 at ha' hb'
 simp only [am8,zaa,oe,nh,nr,ci,cu,bh,nq,jt,fk,et,ki,z7,oc,ji,ny,oa,jm,fb,nn,nw,nt,cj,jh,ay,pe,cz,gc,kj,cw,vp,jl,kg,fv,ez,jk,nz,oh,uc,ng,ni,cg,aak,tq,pf,ko,oo,om,jr,uj,od,jn,ff,jw,ov,jy,kb,bg,ah,ft,jx,bf,ow,fu,ct,vc,u9,ka,vd,jz,pd,ao,zad,ud,to,fh,fj,aa5,aa6,aaw,aav,gi,fm,um,adi,nu,ou,cr,cq,ap,n7,af,pp,uq,mc,wt,rn,pz,rm,adl,qd,qu,ma,mb,zk,ra,xf,xk,toV,wo,wq,iw,ju,gr,yes,abg,bad,n6,jc,mmL,jv,zq,eq2,eql,AV.isA,PO.see,PO.act,Vs.q,Rs.and,AV.bare,AV.may,xn,ab8,ab7,xp,ol,un1,oz,rk,ia2,iab,leb,xg,ldb,ldr,ld1,uo,vb,fa1,xh,bnd,wv,pj,xi,src,em,be,g9,v6,PO.see.mayO,PO.see.bareO,d7,l9,dz,nv,AV.rv,rvs,AV.elt,frz,freeze,k9,s5,stb,str,st2,qc,par,rr,xl,qz,zj,s8,dj,abr,RV.cells,AV.cells,AV.one,RV.one,AV.boxable,RV.good,b7,o5,lm,pt,zn,abp,abo,lw,lq,mt,AV.isNil,oi,km,v7,j8,du,o9,i7,adj,k8,fwd,abw,ua,o3,f7,db,ef,back,ab,imV,imL,imO,idx,u0,obs,keep,x6,ut,jb,re,oq,mu,yc,Ob.own,Value.oneCell',kk,gf,↓reduceIte,true_and,and_true,and_self,true_implies,imp_self,implies_true,zae,zaf,zag,zaa,zah,zai,zaj,zak,zal,zam,zan,zao,zap,zaq,zar,zab,zas,zat,zau,zav,zaw,zax,zay,zaz,zba,zbb,zbc,zbd,reduceCtorEq,zbe,zbf,zbg,zbh,decide_true,decide_false,if_true,if_false,false_and,and_false,not_true,not_false_eq_true,zbi,zbj,zbk,zbl,zbm,zac,beq_self_eq_true,zB,zbn,zbo,false_implies,zbp,ne_eq,zbq,zbr,zbs,zbt,zbu,zbv,uf,ue,ui,uh,ug,uk]
 refine a5 (axa a ha) rfl trivial ?_
 simp only [oe,nh,nr,ci,cu,bh,nq,jt,fk,et,ki,z7,oc,ji,ny,oa,jm,fb,nn,nw,nt,cj,jh,ay,pe,cz,gc,kj,cw,vp,jl,kg,fv,ez,jk,nz,oh,uc,ng,ni,cg,aak,tq,pf,ko,oo,om,jr,uj,od,jn,ff,jw,ov,jy,kb,bg,ah,ft,jx,bf,ow,fu,ct,vc,u9,ka,vd,jz,pd,ao,zad,ud,to,fh,fj,aa5,aa6,aaw,aav,gi,fm,um,adi,nu,ou,cr,cq,ap,n7,af,pp,uq,mc,wt,rn,pz,rm,adl,qd,qu,ma,mb,zk,ra,xf,xk,toV,wo,wq,iw,ju,gr,yes,abg,bad,n6,jc,mmL,jv,zq,eq2,eql,AV.isA,PO.see,PO.act,Vs.q,Rs.and,AV.bare,AV.may,xn,ab8,ab7,xp,ol,un1,oz,rk,ia2,iab,leb,xg,ldb,ldr,ld1,uo,vb,fa1,xh,bnd,wv,pj,xi,src,em,be,g9,v6,PO.see.mayO,PO.see.bareO,d7,l9,dz,nv,AV.rv,rvs,AV.elt,frz,freeze,k9,s5,stb,str,st2,qc,par,rr,xl,qz,zj,s8,dj,abr,RV.cells,AV.cells,AV.one,RV.one,AV.boxable,RV.good,b7,o5,lm,pt,zn,abp,abo,lw,lq,mt,AV.isNil,oi,km,v7,j8,du,o9,i7,adj,k8,fwd,abw,ua,o3,f7,db,ef,back,ab,imV,imL,imO,idx,u0,obs,keep,x6,ut,jb,re,oq,mu,yc,Ob.own,Value.oneCell',kk,gf,↓reduceIte,true_and,and_true,and_self,true_implies,imp_self,implies_true,zae,zaf,zag,zaa,zah,zai,zaj,zak,zal,zam,zan,zao,zap,zaq,zar,zab,zas,zat,zau,zav,zaw,zax,zay,zaz,zba,zbb,zbc,zbd,reduceCtorEq,zbe,zbf,zbg,zbh,decide_true,decide_false,if_true,if_false,false_and,and_false,not_true,not_false_eq_true,zbi,zbj,zbk,zbl,zbm,zac,beq_self_eq_true,zB,zbn,zbo,false_implies,zbp,ne_eq,zbq,zbr,zbs,zbt,zbu,zbv,uf,ue,ui,uh,ug,uk]
 refine a5 (axa b hb) rfl trivial ?_
 simp only [oe,nh,nr,ci,cu,bh,nq,jt,fk,et,ki,z7,oc,ji,ny,oa,jm,fb,nn,nw,nt,cj,jh,ay,pe,cz,gc,kj,cw,vp,jl,kg,fv,ez,jk,nz,oh,uc,ng,ni,cg,aak,tq,pf,ko,oo,om,jr,uj,od,jn,ff,jw,ov,jy,kb,bg,ah,ft,jx,bf,ow,fu,ct,vc,u9,ka,vd,jz,pd,ao,zad,ud,to,fh,fj,aa5,aa6,aaw,aav,gi,fm,um,adi,nu,ou,cr,cq,ap,n7,af,pp,uq,mc,wt,rn,pz,rm,adl,qd,qu,ma,mb,zk,ra,xf,xk,toV,wo,wq,iw,ju,gr,yes,abg,bad,n6,jc,mmL,jv,zq,eq2,eql,AV.isA,PO.see,PO.act,Vs.q,Rs.and,AV.bare,AV.may,xn,ab8,ab7,xp,ol,un1,oz,rk,ia2,iab,leb,xg,ldb,ldr,ld1,uo,vb,fa1,xh,bnd,wv,pj,xi,src,em,be,g9,v6,PO.see.mayO,PO.see.bareO,d7,l9,dz,nv,AV.rv,rvs,AV.elt,frz,freeze,k9,s5,stb,str,st2,qc,par,rr,xl,qz,zj,s8,dj,abr,RV.cells,AV.cells,AV.one,RV.one,AV.boxable,RV.good,b7,o5,lm,pt,zn,abp,abo,lw,lq,mt,AV.isNil,oi,km,v7,j8,du,o9,i7,adj,k8,fwd,abw,ua,o3,f7,db,ef,back,ab,imV,imL,imO,idx,u0,obs,keep,x6,ut,jb,re,oq,mu,yc,Ob.own,Value.oneCell',kk,gf,↓reduceIte,true_and,and_true,and_self,true_implies,imp_self,implies_true,zae,zaf,zag,zaa,zah,zai,zaj,zak,zal,zam,zan,zao,zap,zaq,zar,zab,zas,zat,zau,zav,zaw,zax,zay,zaz,zba,zbb,zbc,zbd,reduceCtorEq,zbe,zbf,zbg,zbh,decide_true,decide_false,if_true,if_false,false_and,and_false,not_true,not_false_eq_true,zbi,zbj,zbk,zbl,zbm,zac,beq_self_eq_true,zB,zbn,zbo,false_implies,zbp,ne_eq,zbq,zbr,zbs,zbt,zbu,zbv,uf,ue,ui,uh,ug,uk]
 refine a5 (auc a.natAbs b.natAbs (by omega) (by omega)) rfl trivial ?_
 simp only [oe,nh,nr,ci,cu,bh,nq,jt,fk,et,ki,z7,oc,ji,ny,oa,jm,fb,nn,nw,nt,cj,jh,ay,pe,cz,gc,kj,cw,vp,jl,kg,fv,ez,jk,nz,oh,uc,ng,ni,cg,aak,tq,pf,ko,oo,om,jr,uj,od,jn,ff,jw,ov,jy,kb,bg,ah,ft,jx,bf,ow,fu,ct,vc,u9,ka,vd,jz,pd,ao,zad,ud,to,fh,fj,aa5,aa6,aaw,aav,gi,fm,um,adi,nu,ou,cr,cq,ap,n7,af,pp,uq,mc,wt,rn,pz,rm,adl,qd,qu,ma,mb,zk,ra,xf,xk,toV,wo,wq,iw,ju,gr,yes,abg,bad,n6,jc,mmL,jv,zq,eq2,eql,AV.isA,PO.see,PO.act,Vs.q,Rs.and,AV.bare,AV.may,xn,ab8,ab7,xp,ol,un1,oz,rk,ia2,iab,leb,xg,ldb,ldr,ld1,uo,vb,fa1,xh,bnd,wv,pj,xi,src,em,be,g9,v6,PO.see.mayO,PO.see.bareO,d7,l9,dz,nv,AV.rv,rvs,AV.elt,frz,freeze,k9,s5,stb,str,st2,qc,par,rr,xl,qz,zj,s8,dj,abr,RV.cells,AV.cells,AV.one,RV.one,AV.boxable,RV.good,b7,o5,lm,pt,zn,abp,abo,lw,lq,mt,AV.isNil,oi,km,v7,j8,du,o9,i7,adj,k8,fwd,abw,ua,o3,f7,db,ef,back,ab,imV,imL,imO,idx,u0,obs,keep,x6,ut,jb,re,oq,mu,yc,Ob.own,Value.oneCell',kk,gf,↓reduceIte,true_and,and_true,and_self,true_implies,imp_self,implies_true,zae,zaf,zag,zaa,zah,zai,zaj,zak,zal,zam,zan,zao,zap,zaq,zar,zab,zas,zat,zau,zav,zaw,zax,zay,zaz,zba,zbb,zbc,zbd,reduceCtorEq,zbe,zbf,zbg,zbh,decide_true,decide_false,if_true,if_false,false_and,and_false,not_true,not_false_eq_true,zbi,zbj,zbk,zbl,zbm,zac,beq_self_eq_true,zB,zbn,zbo,false_implies,zbp,ne_eq,zbq,zbr,zbs,zbt,zbu,zbv,uf,ue,ui,uh,ug,uk]
 have hab:a.natAbs*b.natAbs=(a*b).natAbs:=(Int.natAbs_mul a b).symm;rw [hab];have hle:(a*b).natAbs≤9223372036854775808*9223372036854775808:=by rw [← hab]; exact zcd (by omega) (by omega)
 have hs:(a<0∧b<0→0<a*b)∧(a<0∧0≤b→a*b≤0)∧(0≤a∧b<0→a*b≤0)∧(0≤a∧0≤b→0≤a*b):=
  ⟨fun h=>Int.mul_pos_of_neg_of_neg h.1 h.2,fun h=>Int.mul_nonpos_of_nonpos_of_nonneg (by omega) h.2,fun h=>Int.mul_nonpos_of_nonneg_of_nonpos h.1 (by omega),fun h=>Int.mul_nonneg h.1 h.2⟩
 clear hab;generalize a*b=m at *
 repeat refine And.intro (by simp +contextual) ?_
 refine b6 (fun h=>?_) (fun h=>?_)
 ·simp only [oe,nh,nr,ci,cu,bh,nq,jt,fk,et,ki,z7,oc,ji,ny,oa,jm,fb,nn,nw,nt,cj,jh,ay,pe,cz,gc,kj,cw,vp,jl,kg,fv,ez,jk,nz,oh,uc,ng,ni,cg,aak,tq,pf,ko,oo,om,jr,uj,od,jn,ff,jw,ov,jy,kb,bg,ah,ft,jx,bf,ow,fu,ct,vc,u9,ka,vd,jz,pd,ao,zad,ud,to,fh,fj,aa5,aa6,aaw,aav,gi,fm,um,adi,nu,ou,cr,cq,ap,n7,af,pp,uq,mc,wt,rn,pz,rm,adl,qd,qu,ma,mb,zk,ra,xf,xk,toV,wo,wq,iw,ju,gr,yes,abg,bad,n6,jc,mmL,jv,zq,eq2,eql,AV.isA,PO.see,PO.act,Vs.q,Rs.and,AV.bare,AV.may,xn,ab8,ab7,xp,ol,un1,oz,rk,ia2,iab,leb,xg,ldb,ldr,ld1,uo,vb,fa1,xh,bnd,wv,pj,xi,src,em,be,g9,v6,PO.see.mayO,PO.see.bareO,d7,l9,dz,nv,AV.rv,rvs,AV.elt,frz,freeze,k9,s5,stb,str,st2,qc,par,rr,xl,qz,zj,s8,dj,abr,RV.cells,AV.cells,AV.one,RV.one,AV.boxable,RV.good,b7,o5,lm,pt,zn,abp,abo,lw,lq,mt,AV.isNil,oi,km,v7,j8,du,o9,i7,adj,k8,fwd,abw,ua,o3,f7,db,ef,back,ab,imV,imL,imO,idx,u0,obs,keep,x6,ut,jb,re,oq,mu,yc,Ob.own,Value.oneCell',kk,gf,↓reduceIte,true_and,and_true,and_self,true_implies,imp_self,implies_true,zae,zaf,zag,zaa,zah,zai,zaj,zak,zal,zam,zan,zao,zap,zaq,zar,zab,zas,zat,zau,zav,zaw,zax,zay,zaz,zba,zbb,zbc,zbd,reduceCtorEq,zbe,zbf,zbg,zbh,decide_true,decide_false,if_true,if_false,false_and,and_false,not_true,not_false_eq_true,zbi,zbj,zbk,zbl,zbm,zac,beq_self_eq_true,zB,zbn,zbo,false_implies,zbp,ne_eq,zbq,zbr,zbs,zbt,zbu,zbv,uf,ue,ui,uh,ug,uk]
  refine amg ?_;unfold in64;by_cases h1:m.natAbs/18446744073709551616=0<;>by_cases h2:m.natAbs%18446744073709551616=9223372036854775808<;>by_cases h3:a<0<;>by_cases h4:b<0<;>simp [h1,h2,h3,h4] at h<;>omega
 ·have hm:m.natAbs≤9223372036854775808∧(m.natAbs=9223372036854775808→(a<0∧0≤b)∨(0≤a∧b<0)):=by
   by_cases h1:m.natAbs/18446744073709551616=0<;>by_cases h2:m.natAbs%18446744073709551616=9223372036854775808<;>by_cases h3:a<0<;>by_cases h4:b<0<;>simp [h1,h2,h3,h4] at h<;>omega
  clear h
  simp only [oe,nh,nr,ci,cu,bh,nq,jt,fk,et,ki,z7,oc,ji,ny,oa,jm,fb,nn,nw,nt,cj,jh,ay,pe,cz,gc,kj,cw,vp,jl,kg,fv,ez,jk,nz,oh,uc,ng,ni,cg,aak,tq,pf,ko,oo,om,jr,uj,od,jn,ff,jw,ov,jy,kb,bg,ah,ft,jx,bf,ow,fu,ct,vc,u9,ka,vd,jz,pd,ao,zad,ud,to,fh,fj,aa5,aa6,aaw,aav,gi,fm,um,adi,nu,ou,cr,cq,ap,n7,af,pp,uq,mc,wt,rn,pz,rm,adl,qd,qu,ma,mb,zk,ra,xf,xk,toV,wo,wq,iw,ju,gr,yes,abg,bad,n6,jc,mmL,jv,zq,eq2,eql,AV.isA,PO.see,PO.act,Vs.q,Rs.and,AV.bare,AV.may,xn,ab8,ab7,xp,ol,un1,oz,rk,ia2,iab,leb,xg,ldb,ldr,ld1,uo,vb,fa1,xh,bnd,wv,pj,xi,src,em,be,g9,v6,PO.see.mayO,PO.see.bareO,d7,l9,dz,nv,AV.rv,rvs,AV.elt,frz,freeze,k9,s5,stb,str,st2,qc,par,rr,xl,qz,zj,s8,dj,abr,RV.cells,AV.cells,AV.one,RV.one,AV.boxable,RV.good,b7,o5,lm,pt,zn,abp,abo,lw,lq,mt,AV.isNil,oi,km,v7,j8,du,o9,i7,adj,k8,fwd,abw,ua,o3,f7,db,ef,back,ab,imV,imL,imO,idx,u0,obs,keep,x6,ut,jb,re,oq,mu,yc,Ob.own,Value.oneCell',kk,gf,↓reduceIte,true_and,and_true,and_self,true_implies,imp_self,implies_true,zae,zaf,zag,zaa,zah,zai,zaj,zak,zal,zam,zan,zao,zap,zaq,zar,zab,zas,zat,zau,zav,zaw,zax,zay,zaz,zba,zbb,zbc,zbd,reduceCtorEq,zbe,zbf,zbg,zbh,decide_true,decide_false,if_true,if_false,false_and,and_false,not_true,not_false_eq_true,zbi,zbj,zbk,zbl,zbm,zac,beq_self_eq_true,zB,zbn,zbo,false_implies,zbp,ne_eq,zbq,zbr,zbs,zbt,zbu,zbv,uf,ue,ui,uh,ug,uk]
  refine b6 (fun h'=>?_) (fun h'=>?_)
  ·simp only [oe,nh,nr,ci,cu,bh,nq,jt,fk,et,ki,z7,oc,ji,ny,oa,jm,fb,nn,nw,nt,cj,jh,ay,pe,cz,gc,kj,cw,vp,jl,kg,fv,ez,jk,nz,oh,uc,ng,ni,cg,aak,tq,pf,ko,oo,om,jr,uj,od,jn,ff,jw,ov,jy,kb,bg,ah,ft,jx,bf,ow,fu,ct,vc,u9,ka,vd,jz,pd,ao,zad,ud,to,fh,fj,aa5,aa6,aaw,aav,gi,fm,um,adi,nu,ou,cr,cq,ap,n7,af,pp,uq,mc,wt,rn,pz,rm,adl,qd,qu,ma,mb,zk,ra,xf,xk,toV,wo,wq,iw,ju,gr,yes,abg,bad,n6,jc,mmL,jv,zq,eq2,eql,AV.isA,PO.see,PO.act,Vs.q,Rs.and,AV.bare,AV.may,xn,ab8,ab7,xp,ol,un1,oz,rk,ia2,iab,leb,xg,ldb,ldr,ld1,uo,vb,fa1,xh,bnd,wv,pj,xi,src,em,be,g9,v6,PO.see.mayO,PO.see.bareO,d7,l9,dz,nv,AV.rv,rvs,AV.elt,frz,freeze,k9,s5,stb,str,st2,qc,par,rr,xl,qz,zj,s8,dj,abr,RV.cells,AV.cells,AV.one,RV.one,AV.boxable,RV.good,b7,o5,lm,pt,zn,abp,abo,lw,lq,mt,AV.isNil,oi,km,v7,j8,du,o9,i7,adj,k8,fwd,abw,ua,o3,f7,db,ef,back,ab,imV,imL,imO,idx,u0,obs,keep,x6,ut,jb,re,oq,mu,yc,Ob.own,Value.oneCell',kk,gf,↓reduceIte,true_and,and_true,and_self,true_implies,imp_self,implies_true,zae,zaf,zag,zaa,zah,zai,zaj,zak,zal,zam,zan,zao,zap,zaq,zar,zab,zas,zat,zau,zav,zaw,zax,zay,zaz,zba,zbb,zbc,zbd,reduceCtorEq,zbe,zbf,zbg,zbh,decide_true,decide_false,if_true,if_false,false_and,and_false,not_true,not_false_eq_true,zbi,zbj,zbk,zbl,zbm,zac,beq_self_eq_true,zB,zbn,zbo,false_implies,zbp,ne_eq,zbq,zbr,zbs,zbt,zbu,zbv,uf,ue,ui,uh,ug,uk]
   have hn:m≤0:=by by_cases h3:a<0<;>by_cases h4:b<0<;>simp [h3,h4] at h'<;>omega
   refine aee ?_ ?_
   ·rw [IntKind.wrap_i64,IntKind.wrap_i64];omega
   ·unfold in64; omega
  ·simp only [oe,nh,nr,ci,cu,bh,nq,jt,fk,et,ki,z7,oc,ji,ny,oa,jm,fb,nn,nw,nt,cj,jh,ay,pe,cz,gc,kj,cw,vp,jl,kg,fv,ez,jk,nz,oh,uc,ng,ni,cg,aak,tq,pf,ko,oo,om,jr,uj,od,jn,ff,jw,ov,jy,kb,bg,ah,ft,jx,bf,ow,fu,ct,vc,u9,ka,vd,jz,pd,ao,zad,ud,to,fh,fj,aa5,aa6,aaw,aav,gi,fm,um,adi,nu,ou,cr,cq,ap,n7,af,pp,uq,mc,wt,rn,pz,rm,adl,qd,qu,ma,mb,zk,ra,xf,xk,toV,wo,wq,iw,ju,gr,yes,abg,bad,n6,jc,mmL,jv,zq,eq2,eql,AV.isA,PO.see,PO.act,Vs.q,Rs.and,AV.bare,AV.may,xn,ab8,ab7,xp,ol,un1,oz,rk,ia2,iab,leb,xg,ldb,ldr,ld1,uo,vb,fa1,xh,bnd,wv,pj,xi,src,em,be,g9,v6,PO.see.mayO,PO.see.bareO,d7,l9,dz,nv,AV.rv,rvs,AV.elt,frz,freeze,k9,s5,stb,str,st2,qc,par,rr,xl,qz,zj,s8,dj,abr,RV.cells,AV.cells,AV.one,RV.one,AV.boxable,RV.good,b7,o5,lm,pt,zn,abp,abo,lw,lq,mt,AV.isNil,oi,km,v7,j8,du,o9,i7,adj,k8,fwd,abw,ua,o3,f7,db,ef,back,ab,imV,imL,imO,idx,u0,obs,keep,x6,ut,jb,re,oq,mu,yc,Ob.own,Value.oneCell',kk,gf,↓reduceIte,true_and,and_true,and_self,true_implies,imp_self,implies_true,zae,zaf,zag,zaa,zah,zai,zaj,zak,zal,zam,zan,zao,zap,zaq,zar,zab,zas,zat,zau,zav,zaw,zax,zay,zaz,zba,zbb,zbc,zbd,reduceCtorEq,zbe,zbf,zbg,zbh,decide_true,decide_false,if_true,if_false,false_and,and_false,not_true,not_false_eq_true,zbi,zbj,zbk,zbl,zbm,zac,beq_self_eq_true,zB,zbn,zbo,false_implies,zbp,ne_eq,zbq,zbr,zbs,zbt,zbu,zbv,uf,ue,ui,uh,ug,uk]
   have hn:0≤m∧m.natAbs≠9223372036854775808:=by by_cases h3:a<0<;>by_cases h4:b<0<;>simp [h3,h4] at h'<;>omega
   refine aee ?_ ?_
   ·rw [IntKind.wrap_i64];omega
   ·unfold in64; omega
theorem a6r {a b c a' b' c':AV} (h1:a=a') (h2:b=b') (h3:c=c'):AV.tup [a,b,c]=AV.tup [a',b',c']:=by rw [h1,h2,h3]
theorem ank {k:IntKind} {a b:Int} (h:a=b):int k a=int k b:=by rw [h]
theorem a3b {a b:Bool} (h:a=b):bl a=bl b:=by rw [h]
theorem ati {a b:Int} (ha:in64 a) (hb:0<b):(-9223372036854775808≤a/b∧a/b≤9223372036854775807)∧(a.tmod b<0→a.tdiv b-1=a/b∧a.tmod b+b=a%b)∧(0≤a.tmod b→a.tdiv b=a/b∧a.tmod b=a%b):=by
 unfold in64 at ha;have h1:=Int.mul_tdiv_add_tmod a b;have h2:a.tmod b<b:=Int.tmod_lt_of_pos a hb
 have h3:-b<a.tmod b:=by
  have:=Int.lt_tmod_of_pos a hb;omega
 refine ⟨?_,fun h=>?_,fun h=>?_⟩
 ·have h4:=zce a b;have h5:=zbw a hb;have h6:=zbx a (show b≠0 by omega);generalize a/b=q at *;generalize a%b=r at *;constructor
  ·rcases zbz q 0 with hq | hq
   ·have:b*(q+1)≤1*(q+1):=Int.mul_le_mul_of_nonpos_right (by omega) (by omega);rw [zca] at this;omega
   ·omega
  ·rcases zbz q 0 with hq | hq
   ·omega
   ·have:1*q≤b*q:=Int.mul_le_mul_of_nonneg_right (by omega) hq;omega
 ·have:=(Int.ediv_emod_unique (a:=a) (b:=b) (r:=a.tmod b+b) (q:=a.tdiv b-1) hb).2 ⟨by rw [Int.mul_sub]; omega,by omega,by omega⟩;exact ⟨this.1.symm,this.2.symm⟩
 ·have:=(Int.ediv_emod_unique (a:=a) (b:=b) (r:=a.tmod b) (q:=a.tdiv b) hb).2 ⟨by omega,by omega,by omega⟩;exact ⟨this.1.symm,this.2.symm⟩
theorem li (a b:Int) (ha:in64 a) (hb:in64 b):a7 P0 135 [int .i64 a,int .i64 b] [] (.tup [int .i64 (if 0<b then a/b else 0),int .i64 (if 0<b then a%b else 0),bl (decide (0<b))]) []:=by
 refine alb rfl (by decide) ?_;simp only [ahq,push_cast,↓reduceIte,reduceCtorEq,zB,zE,zA,zS,zL,zD,zM];refine b6 (fun h=>?_) (fun h=>?_)
 ·simp only [push_cast,↓reduceIte,reduceCtorEq,zB,zE,zA,zS,zL,zD,zM];simp at h;have:¬0<b:=by omega
  simp [this]
 ·simp only [push_cast,↓reduceIte,reduceCtorEq,zB,zE,zA,zS,zL,zD,zM];simp at h;refine ⟨by omega,by omega,by kernel_rfl,?_⟩;obtain ⟨q1,q2,q3⟩:=ati ha h;have hw:IntKind.i64.wrap (a.tdiv b)=a.tdiv b:=wrap_i64_tdiv a b ha.1 ha.2 (by omega);rw [hw];refine b6 (fun h'=>?_) (fun h'=>?_)
  ·simp only [push_cast,↓reduceIte,reduceCtorEq,zB,zE,zA,zS,zL,zD,zM];simp at h';obtain ⟨e1,e2⟩:=q2 h';refine a6r (ank ?_) (ank ?_) (a3b ?_)
   ·rw [if_pos h,← e1,a6];unfold in64 at ha; rw [e1]; omega
   ·rw [if_pos h,← e2,a6];have h5:=zbw a h;have h6:=zbx a (show b≠0 by omega);rw [e2];unfold in64 at hb; omega
   ·simp [h]
  ·simp only [push_cast,↓reduceIte,reduceCtorEq,zB,zE,zA,zS,zL,zD,zM];simp at h';obtain ⟨e1,e2⟩:=q3 h';refine a6r (ank ?_) (ank ?_) (a3b ?_)
   ·rw [if_pos h,e1]
   ·rw [if_pos h,e2]
   ·simp [h]

def bbf (x:Int):AV:=.r (.agg [.v (.int .u64 (x/18446744073709551616%18446744073709551616)),.v (.int .u64 (x%18446744073709551616))])

noncomputable def ahp:PC:=
  (.reg [p_s 4 (.ld none (.t 0)),p_s 5 (.ld none (.t 1)),p_c 6 1 233 [.t 4,.t 5],p_m 3 6,p_s 7 (.ext (.t 3) 0),p_s 8 (.ext (.t 3) 1),⟨none,none,0,.act (.st 1 (.t 0) (.t 7))⟩,
 ⟨none,none,0,.act (.st 1 (.t 2) (.t 8))⟩])
theorem ala:Fun P0 232 3 [] ahp:=b5 Go.Proofs.Tryz.func232 rfl (by decide) (by kernel_rfl) (by decide) rfl (by kernel_rfl) (by kernel_rfl) (by decide)
noncomputable def am6:PC:=
  (.seq (.reg [p_a 2 (.box (.t 0)),p_s 4 (.mov (o_i 0)),p_s 5 (.mov (.c (.r (.v (.bool false)))))])
 (.seq (.seq (.reg [p_m 9 1,p_s 10 (.bin .lss (.t 9) (o_i 0))])
 (.cond (.t 10)
 (.seq (.reg [p_s 4 (.mov (o_i 0)),p_s 5 (.mov (.c (.r (.v (.bool false)))))])
 .ret)
 .skip))
 (.seq (.seq (.reg [p_s 11 (.ld none (.t 2)),p_s 12 (.bin .geq (.t 11) (o_i (-1))),p_m 13 12,p_g 14 13 true (.ld none (.t 2)),p_g 15 13 true (.bin .leq (.t 14) (o_i 1)),p_s 16 (.pick (.t 13) (.t 15) (.c (.r (.v (.bool false)))))])
 (.cond (.t 16)
 (.reg [p_m 17 1,p_m 18 1,p_s 19 (.bin .rem (.t 18) (o_i 2)),p_s 20 (.bin .sub (o_i 2) (.t 19)),p_s 21 (.mm false (.t 17) [(.t 20)]),p_m 1 21])
 .skip))
 (.seq (.reg [p_a 6 (.new [(.r (.v (.int .i64 0)))]),p_a 7 (.new [(.r (.v (.bool false)))]),⟨none,none,0,.act (.st 1 (.t 6) (o_i 1))⟩,⟨none,none,0,.act (.st 1 (.t 7) (.c (.r (.v (.bool true)))))⟩])
 (.seq (.reg [p_s 22 (.mkf (.func 232) [(.t 6),(.t 2),(.t 7)]),p_m 8 22])
 (.seq (.block 0 (.loop (.seq (.seq (.reg [p_m 23 1,p_s 24 (.bin .gtr (.t 23) (o_i 0)),p_m 25 24,p_g 26 25 true (.ld none (.t 7)),p_s 27 (.pick (.t 25) (.t 26) (.c (.r (.v (.bool false)))))])
 (.cond (.t 27)
 .skip
 (.exit 0)))
 (.seq (.block 1 (.reg [p_m 30 8,⟨(some 31),none,1,.callv (.t 30) []⟩]))
 (.reg [p_m 28 1,p_s 29 (.bin .sub (.t 28) (o_i 1)),p_m 1 29])))))
 (.seq (.drw [p_s 32 (.ld none (.t 6)),p_s 33 (.ld none (.t 7)),p_m 4 32,p_m 5 33]
 [[],[],[0],[0,1,2]])
 .ret)))))))
theorem aop:Fun P0 196 2 [(4,false,none),(5,false,none)] am6:=b5 Go.Proofs.Tryz.func196 rfl (by decide) (by kernel_rfl) (by decide) rfl (by kernel_rfl) (by kernel_rfl) (by decide)
theorem a0d (x a:Int) (y:Bool) (hx:in64 x) (ha:in64 a):a7 P0 232 [.ptr 1000000 0 0,.ptr 1000001 0 0,.ptr 1000002 0 0] [.box [int .i64 x],.box [int .i64 a],.box [bl y]] (.tup [])
  [.box [int .i64 (if in64 (x*a) then x*a else 0)],.box [int .i64 a],.box [bl (decide (in64 (x*a)))]]:=by
 refine ala rfl (by simp) ?_;simp only [ahp,push_cast,↓reduceIte,reduceCtorEq,zB,zE,zA,zS,zL,zD,zM];refine a5 (a98 x a hx ha) rfl trivial ?_;simp only [sm,push_cast,↓reduceIte,reduceCtorEq,zB,zE,zA,zS,zL,zD,zM]
theorem ax4 {a:Int} (h1:-1≤a) (h2:a≤1) (n:Nat):a^(min n (2-n%2))=a^n:=by
 have key:∀m:Nat,1≤m→a^(m+2)=a^m:=fun m hm=>by
  have:a=-1∨a=0∨a=1:=by omega
  rcases this with rfl | rfl | rfl
  ·rw [Int.pow_succ,Int.pow_succ]; omega
  ·rw [Int.zero_pow (by omega),Int.zero_pow (by omega)]
  ·rw [Int.one_pow,Int.one_pow]
 induction n using Nat.strongRecOn with
 | ind n ih=>
  rcases (show n=0∨n=1∨n=2∨3≤n by omega) with h | h | h | h
  ·subst h; rfl
  ·subst h; rfl
  ·subst h; rfl
  ·have:=ih (n-2) (by omega);have e:=key (n-2) (by omega);rw [show n-2+2=n by omega] at e;rw [e,← this];congr 1;omega
theorem a4z {x a T:Int} {n:Nat} (hx1:-1≤a∧a≤1→-1≤x∧x≤1) (hx:in64 x) (ha:in64 a) (h:¬in64 (x*a)) (hT:x*a*a^n=T):¬in64 T:=by
 have h4:¬(-1≤a∧a≤1):=fun hs=>by
  have:=hx1 hs;have h4:a=-1∨a=0∨a=1:=by omega
  apply h;unfold in64;rcases h4 with rfl | rfl | rfl<;>omega
 have h5:2≤a.natAbs:=by omega
 have h6:9223372036854775808≤(x*a).natAbs:=by unfold in64 at h; omega
 have h7:T.natAbs=(x*a).natAbs*a.natAbs^n:=by rw [← hT,Int.natAbs_mul,Int.natAbs_pow]
 cases n with
 | zero=>
  simp at hT;rw [← hT]; exact h
 | succ n=>
  have h8:2≤a.natAbs^(n+1):=Nat.le_trans h5 (Nat.le_self_pow (by omega) _);have h9:9223372036854775808*2≤(x*a).natAbs*a.natAbs^(n+1):=zcd h6 h8;rw [← h7] at h9;unfold in64;omega
theorem a2w (a k:Int) (ha:in64 a) (hk:in64 k):a7 P0 196 [int .i64 a,int .i64 k] [] (if k<0 then .tup [int .i64 0,bl false] else sm (a^k.toNat)) []:=by
 refine aop rfl (by decide) ?_;simp only [am6,push_cast,↓reduceIte,reduceCtorEq,zB,zE,zA,zS,zL,zD,zM];refine b6 (fun h1=>?_) (fun h1=>?_)
 ·simp only [decide_eq_true_eq] at h1;simp only [if_pos h1,push_cast,↓reduceIte,reduceCtorEq,zB,zE,zA,zS,zL,zD,zM]
 ·simp only [decide_eq_false_iff_not] at h1;simp only [if_neg h1,push_cast,↓reduceIte,reduceCtorEq,zB,zE,zA,zS,zL,zD,zM];generalize hT:a^k.toNat=T;refine ast (fun e ob=>∃k',e 1=int .i64 k'∧e 2=.ptr 2 0 0∧0≤k'∧in64 k'∧a^k'.toNat=T∧(a=-1∨a=0∨a=1→k'≤2)∧ob=upd 2 (0,.box [int .i64 a]) (fun _=>none)) ?_ (fun h2=>?_) (fun h2=>?_)
  ·rintro e ob ⟨k',he1,he2,hk0,hk1,hkT,hk3,rfl⟩;simp only [he1,he2,push_cast,↓reduceIte,reduceCtorEq,zB,zE,zA,zS,zL,zD,zM]
   refine run_loop [(1,false),(6,false),(2,false),(7,false),(8,false)] (fun vs pos los=>∃(j x:Int) (y:Bool),0≤j∧in64 j∧in64 x∧(y=true→x*a^j.toNat=T)∧(y=false→x=0∧¬in64 T)∧(-1≤a∧a≤1→-1≤x∧x≤1) ∧
    vs=[int .i64 j,.ptr 2000000 0 0,.ptr 2000001 0 0,.ptr 2000002 0 0,.fn (.func 232) [.ptr 2000000 0 0,.ptr 2000001 0 0,.ptr 2000002 0 0]]∧pos=[]∧los=[.box [int .i64 x],.box [int .i64 a],.box [bl y]])
    (fun vs _ _=>match vs with | .r (.v (.int _ j))::_=>j.toNat | _=>0) rfl ?_ ?_
   ·simp only [he1,he2,push_cast,↓reduceIte,reduceCtorEq,zB,zE,zA,zS,zL,zD,zM];exact ⟨k',1,true,hk0,hk1,by decide,fun _=>by rw [Int.one_mul,hkT],by simp,fun _=>by decide,rfl,rfl⟩
   ·rintro vs pos los ⟨j,x,y,j0,j1,x0,hy1,hy2,hx1,rfl,rfl,rfl⟩;simp only [push_cast,↓reduceIte,reduceCtorEq,zB,zE,zA,zS,zL,zD,zM];refine b6 (fun h=>?_) (fun h=>?_)
    ·have hj:0<j:=by
      rcases zbz 0 j with h' | h'
      ·exact h'
      ·simp [show ¬j>0 by omega] at h
     have hy:y=true:=by simpa [hj] using h
     simp only [push_cast,↓reduceIte,reduceCtorEq,zB,zE,zA,zS,zL,zD,zM];refine ⟨by kernel_rfl,?_⟩;refine a5 (a0d x a y x0 ha) rfl ⟨rfl,rfl,rfl,trivial⟩ ?_;simp only [push_cast,↓reduceIte,reduceCtorEq,zB,zE,zA,zS,zL,zD,zM];have hw:IntKind.i64.wrap (j-1)=j-1:=a6 (by unfold in64 at j1; omega);rw [hw];have hjn:j.toNat=(j-1).toNat+1:=by omega
     have hT':x*a*a^(j-1).toNat=T:=by
      rw [← hy1 hy,hjn,Int.pow_succ,Int.mul_assoc,Int.mul_comm a]
     refine ⟨⟨j-1,_,_,by omega,by unfold in64 at j1 ⊢; omega,?_,?_,?_,?_,rfl,rfl⟩,by omega⟩
     ·split
      ·assumption
      ·decide
     ·intro hd;rw [if_pos (of_decide_eq_true hd)];exact hT'
     ·intro hd;have hd:=of_decide_eq_false hd;rw [if_neg hd];refine ⟨rfl,?_⟩;exact a4z hx1 x0 ha hd hT'
     ·intro hs;have:=hx1 hs;have h4:a=-1∨a=0∨a=1:=by omega
      split
      ·rcases h4 with rfl | rfl | rfl<;>omega
      ·omega
    ·simp only [push_cast,↓reduceIte,reduceCtorEq,zB,zE,zA,zS,zL,zD,zM];refine ⟨by kernel_rfl,?_⟩;cases y with
     | true=>
      have hj:j=0:=by
       rcases zbz 0 j with h' | h'
       ·simp [h'] at h
       ·omega
      subst hj;have:=hy1 rfl;simp at this;subst this;exact aee rfl x0
     | false=>
      obtain ⟨rfl,hn⟩:=hy2 rfl;exact amg hn
  ·simp only [push_cast,↓reduceIte,reduceCtorEq,zB,zE,zA,zS,zL,zD,zM]
   have h4:a=-1∨a=0∨a=1:=by
    by_cases p:a≥-1<;>by_cases q:a≤1<;>simp [p,q] at h2<;>omega
   have e0:k.tmod 2=k%2:=by
    rw [zcg (by omega)]
   have ew:IntKind.i64.wrap (2-k.tmod 2)=2-k%2:=by rw [e0]; exact a6 (by omega)
   rw [ew];refine ⟨by decide,min k (2-k%2),rfl,by omega,by unfold in64 at *; omega,?_,by omega⟩;rw [show (min k (2-k%2)).toNat=min k.toNat (2-k.toNat%2) by omega,ax4 (by omega) (by omega),hT]
  ·simp only [push_cast,↓reduceIte,reduceCtorEq,zB,zE,zA,zS,zL,zD,zM];refine ⟨k,rfl,by omega,hk,hT,fun h=>?_⟩;rcases h with rfl | rfl | rfl<;>simp at h2


noncomputable def adv:PC:=
  (.seq (.reg [p_s 2 (.mov (o_i 0))])
 (.seq (.cond (.c (.r (.v (.bool false))))
 (.seq (.reg [p_m 3 0,p_s 4 (.conv .u32 (.t 3)),p_c 5 1 213 [.t 4],p_m 2 5])
 .ret)
 .skip)
 (.seq (.reg [p_m 6 0,p_c 7 2 214 [.t 6],p_m 2 7])
 .ret)))
theorem ac9:Fun P0 169 1 [(2,false,none)] adv:=b5 Go.Proofs.Tryz.func169 rfl (by decide) (by kernel_rfl) (by decide) rfl (by kernel_rfl) (by kernel_rfl) (by decide)
noncomputable def zx:PC:=
  (.seq (.reg [p_s 2 (.mov (o_i 0))])
 (.seq (.seq (.reg [p_m 3 0,p_s 4 (.bin .geq (.t 3) (.c (.r (.v (.int .u64 4294967296)))))])
 (.cond (.t 4)
 (.seq (.reg [p_m 5 0,p_s 6 (.bin .shr (.t 5) (.c (.r (.v (.int .u64 32))))),p_m 0 6])
 (.reg [p_s 2 (.mov (o_i 32))]))
 .skip))
 (.seq (.seq (.reg [p_m 7 0,p_s 8 (.bin .geq (.t 7) (.c (.r (.v (.int .u64 65536)))))])
 (.cond (.t 8)
 (.seq (.reg [p_m 9 0,p_s 10 (.bin .shr (.t 9) (.c (.r (.v (.int .u64 16))))),p_m 0 10])
 (.reg [p_m 11 2,p_s 12 (.bin .add (.t 11) (o_i 16)),p_m 2 12]))
 .skip))
 (.seq (.seq (.reg [p_m 13 0,p_s 14 (.bin .geq (.t 13) (.c (.r (.v (.int .u64 256)))))])
 (.cond (.t 14)
 (.seq (.reg [p_m 15 0,p_s 16 (.bin .shr (.t 15) (.c (.r (.v (.int .u64 8))))),p_m 0 16])
 (.reg [p_m 17 2,p_s 18 (.bin .add (.t 17) (o_i 8)),p_m 2 18]))
 .skip))
 (.seq (.reg [p_m 19 2,p_m 20 0,p_s 21 (.conv .u8 (.t 20)),p_s 22 (.ixs (.c (.r (.v (.string ⟨#[0,1,2,2,3,3,3,3,4,4,4,4,4,4,4,4,5,5,5,5,5,5,5,5,5,5,5,5,5,5,5,5,6,6,6,6,6,6,6,6,6,6,6,6,6,6,6,6,6,6,6,6,6,6,6,6,6,6,6,6,6,6,6,6,7,7,7,7,7,7,7,7,7,7,7,7,7,7,7,7,7,7,7,7,7,7,7,7,7,7,7,7,7,7,7,7,7,7,7,7,7,7,7,7,7,7,7,7,7,7,7,7,7,7,7,7,7,7,7,7,7,7,7,7,7,7,7,7,8,8,8,8,8,8,8,8,8,8,8,8,8,8,8,8,8,8,8,8,8,8,8,8,8,8,8,8,8,8,8,8,8,8,8,8,8,8,8,8,8,8,8,8,8,8,8,8,8,8,8,8,8,8,8,8,8,8,8,8,8,8,8,8,8,8,8,8,8,8,8,8,8,8,8,8,8,8,8,8,8,8,8,8,8,8,8,8,8,8,8,8,8,8,8,8,8,8,8,8,8,8,8,8,8,8,8,8,8,8,8,8,8,8,8,8,8,8,8,8,8,8,8,8,8,8,8,8]⟩)))) (.t 21)),
 p_s 23 (.conv .i64 (.t 22)),p_s 24 (.bin .add (.t 19) (.t 23)),p_m 2 24])
 .ret)))))
theorem aai:Fun P0 214 1 [(2,false,none)] zx:=b5 Go.Proofs.Tryz.func214 rfl (by decide) (by kernel_rfl) (by decide) rfl (by kernel_rfl) (by kernel_rfl) (by decide)

structure Ei where
 a:Int
 b:Int
deriving DecidableEq
def Ei.rv (z:Ei):RV:=.agg [.v (.int .i64 z.a),.v (.int .i64 z.b)]
def Ei.v (z:Ei):AV:=.r z.rv
def Ei.mul (x y:Ei):Ei:=⟨x.a*y.a-x.b*y.b,x.a*y.b+x.b*y.a+x.b*y.b⟩
def Ei.add (x y:Ei):Ei:=⟨x.a+y.a,x.b+y.b⟩
def Ei.sub (x y:Ei):Ei:=⟨x.a-y.a,x.b-y.b⟩
def Ei.conj (x:Ei):Ei:=⟨x.a+x.b,-x.b⟩
def Ei.In (z:Ei) (n:Int):Prop:=(-n≤z.a∧z.a≤n)∧(-n≤z.b∧z.b≤n)
def Ei.H (z:Ei) (n:Int):Prop:=(-n≤z.a∧z.a≤n)∧(-n≤z.b∧z.b≤n)∧(-n≤z.a+z.b∧z.a+z.b≤n)
theorem Ei.ext' {x y:Ei} (h1:x.a=y.a) (h2:x.b=y.b):x=y:=by cases x; cases y; simp_all
theorem Ei.In.mono {z:Ei} {n m:Int} (h:z.In n) (hm:n≤m):z.In m:=by unfold Ei.In at *; omega
theorem Ei.H.mono {z:Ei} {n m:Int} (h:z.H n) (hm:n≤m):z.H m:=by unfold Ei.H at *; omega
theorem Ei.H.in {z:Ei} {n:Int} (h:z.H n):z.In n:=by unfold Ei.H Ei.In at *; omega
def ca:Ei:=⟨2,1⟩
theorem cb {x y n m:Int} (h1:-n≤x∧x≤n) (h2:-m≤y∧y≤m):-(n*m)≤x*y∧x*y≤n*m:=by
 have h:(x*y).natAbs≤n.toNat*m.toNat:=by rw [Int.natAbs_mul]; exact zcd (by omega) (by omega)
 have h3:((n.toNat*m.toNat:Nat):Int)=n*m:=by
  rw [Int.natCast_mul,Int.toNat_of_nonneg (by omega),Int.toNat_of_nonneg (by omega)]
 omega
def g8 (d s t:Int):Prop:=(-d≤2*s+t∧2*s+t≤d)∧(-d≤s+2*t∧s+2*t≤d)∧(-d≤s-t∧s-t≤d)
instance (d s t:Int):Decidable (g8 d s t):=inferInstanceAs (Decidable (_∧_∧_))
def lz (d s t:Int):Ei:=if g8 d s t then ⟨0,0⟩ else if g8 d s (t-d) then ⟨0,1⟩ else if g8 d (s-d) t then ⟨1,0⟩ else ⟨1,1⟩
def Ei.round (u:Ei) (d:Int):Ei:=⟨u.a/d+(lz d (u.a%d) (u.b%d)).a,u.b/d+(lz d (u.a%d) (u.b%d)).b⟩
theorem avx {d s t:Int} (hs:0≤s∧s<d) (ht:0≤t∧t<d) :
  g8 d (s-(lz d s t).a*d) (t-(lz d s t).b*d)∧(0≤(lz d s t).a∧(lz d s t).a≤1)∧(0≤(lz d s t).b∧(lz d s t).b≤1):=by
 unfold lz;split
 ·next h=>unfold g8 at *; dsimp only; omega
 ·split
  ·next h=>unfold g8 at *; dsimp only; omega
  ·split
   ·next h=>unfold g8 at *; dsimp only; omega
   ·next h=>unfold g8 at *; dsimp only; omega
def fr (d a b:Int) (z:Ei):Int:=d*(z.a*z.a+z.a*z.b+z.b*z.b)-z.a*(2*a+b)-z.b*(a+2*b)
def pk (d a b:Int) (p:Int×Ei) (z:Ei):Int×Ei:=if fr d a b z<p.1 then (fr d a b z,z) else p
def yg:List Ei:=[⟨0,1⟩,⟨1,0⟩,⟨1,1⟩]
theorem ath {d a b:Int} (ha:0≤a∧a<d) (hb:0≤b∧b<d):(yg.foldl (pk d a b) (0,⟨0,0⟩)).2=lz d a b:=by
 simp only [yg,List.foldl_cons,List.foldl_nil];have e1:fr d a b ⟨0,1⟩=d-(a+2*b):=by simp [fr]
 have e2:fr d a b ⟨1,0⟩=d-(2*a+b):=by simp [fr]
 have e3:fr d a b ⟨1,1⟩=d*3-(2*a+b)-(a+2*b):=by simp [fr]
 unfold lz;by_cases c1:d-(a+2*b)<0
 ·by_cases c2:d-(2*a+b)<d-(a+2*b)
  ·by_cases c3:d*3-(2*a+b)-(a+2*b)<d-(2*a+b)
   ·simp only [pk,e1,e2,e3,c1,c2,c3,if_true];rw [if_neg (by unfold g8; omega),if_neg (by unfold g8; omega),if_neg (by unfold g8; omega)]
   ·simp only [pk,e1,e2,e3,c1,c2,c3,if_true,if_false];rw [if_neg (by unfold g8; omega),if_neg (by unfold g8; omega),if_pos (by unfold g8; omega)]
  ·by_cases c3:d*3-(2*a+b)-(a+2*b)<d-(a+2*b)
   ·simp only [pk,e1,e2,e3,c1,c2,c3,if_true,if_false];rw [if_neg (by unfold g8; omega),if_neg (by unfold g8; omega),if_neg (by unfold g8; omega)]
   ·simp only [pk,e1,e2,e3,c1,c2,c3,if_true,if_false];rw [if_neg (by unfold g8; omega),if_pos (by unfold g8; omega)]
 ·by_cases c2:d-(2*a+b)<0
  ·by_cases c3:d*3-(2*a+b)-(a+2*b)<d-(2*a+b)
   ·simp only [pk,e1,e2,e3,c1,c2,c3,if_true,if_false];rw [if_neg (by unfold g8; omega),if_neg (by unfold g8; omega),if_neg (by unfold g8; omega)]
   ·simp only [pk,e1,e2,e3,c1,c2,c3,if_true,if_false];rw [if_neg (by unfold g8; omega),if_neg (by unfold g8; omega),if_pos (by unfold g8; omega)]
  ·by_cases c3:d*3-(2*a+b)-(a+2*b)<0
   ·exfalso; omega
   ·simp only [pk,e1,e2,e3,c1,c2,c3,if_true,if_false];rw [if_pos (by unfold g8; omega)]
theorem f8 (u:Ei) {d:Int} (hd:0<d):g8 d (u.a-(u.round d).a*d) (u.b-(u.round d).b*d):=by
 have h1:=zce u.a d;have h2:=zce u.b d;have h3:=zbw u.a hd;have h4:=zbx u.a (show d≠0 by omega);have h5:=zbw u.b hd;have h6:=zbx u.b (show d≠0 by omega);obtain ⟨h,_⟩:=avx (d:=d) (s:=u.a%d) (t:=u.b%d) ⟨h4,h3⟩ ⟨h6,h5⟩
 have e1:u.a-(u.round d).a*d=u.a%d-(lz d (u.a%d) (u.b%d)).a*d:=by
  simp only [Ei.round,Int.add_mul];rw [Int.mul_comm (u.a/d) d];omega
 have e2:u.b-(u.round d).b*d=u.b%d-(lz d (u.a%d) (u.b%d)).b*d:=by
  simp only [Ei.round,Int.add_mul];rw [Int.mul_comm (u.b/d) d];omega
 rw [e1,e2]; exact h
def pr (z:Ei):Ei:=(z.mul ⟨3,-1⟩).round 7
def lft (z:Ei):Ei:=z.sub ((pr z).mul ca)
def dgOf (l:Ei):Nat:=if l=⟨1,0⟩ then 1 else if l=⟨0,1⟩ then 2 else if l=⟨-1,1⟩ then 3 else if l=⟨-1,0⟩ then 4 else if l=⟨0,-1⟩ then 5 else if l=⟨1,-1⟩ then 6 else 0
def dg (z:Ei):Nat:=dgOf (lft z)
def uni (d:Nat):Ei:=match d with | 0=>⟨1,0⟩ | 1=>⟨0,1⟩ | 2=>⟨-1,1⟩ | 3=>⟨-1,0⟩ | 4=>⟨0,-1⟩ | _=>⟨1,-1⟩
def aa0 (z:Ei) (d:Nat):Ei:=if d=0 then z.mul ca else (z.mul ca).add (uni (d-1))
theorem dg_lt (z : Ei) : dg z < 7 := by unfold dg dgOf; repeat' split
                                        all_goals omega
theorem aba (z:Ei):∃l:Ei,lft z=l∧l.H 1∧z.a=2*(pr z).a-(pr z).b+l.a∧z.b=(pr z).a+3*(pr z).b+l.b:=by
 have h:=f8 (z.mul ⟨3,-1⟩) (d:=7) (by decide);refine ⟨lft z,rfl,?_,?_,?_⟩
 ·unfold g8 at h;unfold Ei.H lft Ei.sub pr;simp only [Ei.mul,ca] at *;generalize Ei.round _ 7=q at *;simp only [Int.mul_one,Int.mul_neg] at *;omega
 ·simp only [lft,Ei.sub,Ei.mul,ca]; omega
 ·simp only [lft,Ei.sub,Ei.mul,ca]; omega
theorem awc (z:Ei):aa0 (pr z) (dg z)=z:=by
 obtain ⟨l,hl,h1,h2,h3⟩:=aba z;have h0:=f8 (z.mul ⟨3,-1⟩) (d:=7) (by decide)
 have hl7:l=⟨0,0⟩∨l=⟨1,0⟩∨l=⟨0,1⟩∨l=⟨-1,1⟩∨l=⟨-1,0⟩∨l=⟨0,-1⟩∨l=⟨1,-1⟩:=by
  obtain ⟨a,b⟩:=l;unfold Ei.H at h1;dsimp only at h1;simp only [Ei.mk.injEq];omega
 unfold aa0 dg;rw [hl];rcases hl7 with rfl | rfl | rfl | rfl | rfl | rfl | rfl<;>apply Ei.ext'<;>simp [dgOf,uni,Ei.add,Ei.mul,ca] at h2 h3 ⊢ <;> omega
def anc:Nat→Ei→Ei
 | 0,z=>z
 | k+1,z=>anc k (pr z)
theorem as2 (k:Nat) (z:Ei):anc (k+1) z=pr (anc k z):=by
 induction k generalizing z with
 | zero=>rfl
 | succ k ih=>rw [anc,ih]; rfl
def val:Nat→Ei→Nat
 | 0,_=>0
 | r+1,z=>val r (pr z)*8+dg z
theorem a6o (r:Nat) (z:Ei):val r z<8^r:=by
 induction r generalizing z with
 | zero=>simp [val]
 | succ r ih=>
  have:=ih (pr z);have:=dg_lt z;rw [val,Nat.pow_succ];omega
theorem a3l (r i:Nat) (z:Ei) (h:i≤r):val r z/8^i=val (r-i) (anc i z):=by
 induction i generalizing r z with
 | zero=>simp [anc]
 | succ i ih=>
  obtain ⟨r,rfl⟩:∃m,r=m+1:=⟨r-1,by omega⟩
  rw [show r+1-(i+1)=r-i by omega,anc,← ih r (pr z) (by omega),Nat.pow_succ,Nat.mul_comm,← zch,val];have:=dg_lt z;congr 1;omega
def okc (r:Nat) (z:Ei):Prop:=r≤12∧z.In 1073741824∧(-512≤(anc r z).a∧(anc r z).a≤511)∧(-512≤(anc r z).b∧(anc r z).b≤511)
instance (r:Nat) (z:Ei):Decidable (okc r z):=by unfold okc Ei.In; infer_instance
def mr (r:Nat) (q:Ei):Nat:=((16+r)*1024+(q.a+512).toNat)*1024+(q.b+512).toNat
def s9 (r:Nat) (z:Ei):Nat:=(mr r (anc r z)*8^r+val r z)*8^(12-r)+(8^(12-r)-1)
def dgt (w i:Nat):Nat:=w/8^(12-i)%8
def bi (w:Nat):Nat:=w/72057594037927936%16
def awl (w:Nat):Ei:=⟨((w/70368744177664%1024:Nat):Int)-512,((w/68719476736%1024:Nat):Int)-512⟩
def r9 (w:Nat):Nat→Ei
 | 0=>awl w
 | i+1=>aa0 (r9 w i) (dgt w (i+1))
def isW (w:Nat):Prop:=w/1152921504606846976=1∧bi w≤12∧∀i,1≤i→i≤12→(dgt w i=7↔bi w<i)
theorem ae2 (r:Nat) (z:Ei) (hr:r≤12):s9 r z/68719476736=mr r (anc r z):=by
 have hv:=a6o r z;have e:(68719476736:Nat)=8^r*8^(12-r):=by rw [← Nat.pow_add,show r+(12-r)=12 by omega]
 have hp:0<8^(12-r):=zby (by decide);have hq:0<8^r:=zby (by decide);rw [e,Nat.mul_comm (8^r),← zch,s9]
 have h1:((mr r (anc r z)*8^r+val r z)*8^(12-r)+(8^(12-r)-1))/8^(12-r)=mr r (anc r z)*8^r+val r z:=by
  rw [Nat.add_comm,zcc _ _ hp,zcf (by omega)]; omega
 rw [h1,Nat.add_comm,zcc _ _ hq,zcf hv]; omega
theorem akh (r i:Nat) (z:Ei) (hr:r≤12) (h1:1≤i) (h2:i≤r):dgt (s9 r z) i=dg (anc (r-i) z):=by
 have hp:0<8^(12-r):=zby (by decide);have e:8^(12-i)=8^(12-r)*8^(r-i):=by rw [← Nat.pow_add,show 12-r+(r-i)=12-i by omega]
 unfold dgt s9;rw [e,← zch]
 have h3:((mr r (anc r z)*8^r+val r z)*8^(12-r)+(8^(12-r)-1))/8^(12-r)=mr r (anc r z)*8^r+val r z:=by
  rw [Nat.add_comm,zcc _ _ hp,zcf (by omega)]; omega
 rw [h3]
 have e2:mr r (anc r z)*8^r=mr r (anc r z)*8^(i-1)*8*8^(r-i):=by
  rw [zcb (mr r (anc r z)),← Nat.pow_succ,zcb,← Nat.pow_add,show i-1+1+(r-i)=r by omega]
 rw [e2,Nat.add_comm,zcc _ _ (zby (by decide)),a3l r (r-i) z (by omega),show r-(r-i)=(i-1)+1 by omega,val];have:=dg_lt (anc (r-i) z);generalize mr r (anc r z)*8^(i-1)=m;omega
theorem al0 (r i:Nat) (z:Ei) (h1:r<i) (h2:i≤12):dgt (s9 r z) i=7:=by
 unfold dgt s9;have e:8^(12-r)=8^(i-r-1)*8*8^(12-i):=by rw [← Nat.pow_succ,← Nat.pow_add,show i-r-1+1+(12-i)=12-r by omega]
 have hq:0<8^(12-i):=zby (by decide);have hq2:0<8^(i-r-1):=zby (by decide);rw [e];generalize mr r (anc r z)*8^r+val r z=m;generalize hx:8^(i-r-1)=x at *;generalize hy:8^(12-i)=y at *
 have h3:m*(x*8*y)+(x*8*y-1)=(y-1)+(m*(x*8)+(x*8-1))*y:=by
  have:(x*8-1)*y=x*8*y-y:=by rw [Nat.sub_mul,Nat.one_mul]
  have h5:y≤x*8*y:=Nat.le_mul_of_pos_left _ (by omega);rw [Nat.add_mul,this,← zcb];omega
 rw [h3,zcc _ _ hq,zcf (by omega)];have h4:m*(x*8)=m*x*8:=(zcb _ _ _).symm;omega
theorem afo (r:Nat) (q:Ei) (hr:r≤12) (ha:-512≤q.a∧q.a≤511) (hb:-512≤q.b∧q.b≤511) :
  mr r q/16777216=1∧mr r q/1048576%16=r∧((mr r q/1024%1024:Nat):Int)-512=q.a∧((mr r q%1024:Nat):Int)-512=q.b:=by
 unfold mr;omega
theorem aoa (r:Nat) (z:Ei) (h:okc r z):s9 r z<18446744073709551616:=by
 have h1:=ae2 r z h.1;have h2:=afo r (anc r z) h.1 h.2.2.1 h.2.2.2;omega
theorem akg (r:Nat) (z:Ei) (h:okc r z):isW (s9 r z)∧bi (s9 r z)=r:=by
 have h1:=ae2 r z h.1;have h2:=afo r (anc r z) h.1 h.2.2.1 h.2.2.2;have h3:bi (s9 r z)=r:=by unfold bi; omega
 refine ⟨⟨by omega,by rw [h3]; exact h.1,fun i i1 i2=>?_⟩,h3⟩;rw [h3];by_cases hi:r<i
 ·simp [hi,al0 r i z hi i2]
 ·simp only [hi,iff_false];rw [akh r i z h.1 i1 (by omega)];have:=dg_lt (anc (r-i) z);omega
theorem awu (r i:Nat) (z:Ei) (h:okc r z) (hi:i≤r):r9 (s9 r z) i=anc (r-i) z:=by
 induction i with
 | zero=>
  have h1:=ae2 r z h.1;have h2:=afo r (anc r z) h.1 h.2.2.1 h.2.2.2;apply Ei.ext'<;>simp only [r9,awl]<;>rw [Nat.sub_zero]<;>omega
 | succ i ih=>
  rw [r9,ih (by omega),akh r (i+1) z h.1 (by omega) hi];rw [show r-i=r-(i+1)+1 by omega,as2,awc]

def b9:Nat→Ei
 | 0=>⟨1,0⟩
 | k+1=>(b9 k).mul ca
theorem xo (k:Nat) (h:k≤12):(b9 k).In 120000:=by
 have:∀j:Fin 13,(b9 j.val).In 120000:=by unfold Ei.In; decide
 exact this ⟨k,by omega⟩
def ax (x y:Int):Ei:=⟨45*x-26*y,52*y⟩
def c9 (x y:Int) (r:Nat):Ei:=((ax x y).mul (b9 (12-r)).conj).round (2340*7^(12-r))
theorem zl {z:Ei} {n m:Int} (h:z.H n) (hm:3*n+4<7*(m+1)):(pr z).H m:=by
 have h7:=f8 (z.mul ⟨3,-1⟩) (d:=7) (by decide);unfold g8 at h7;unfold Ei.H pr at *;simp only [Ei.mul] at *;generalize Ei.round _ 7=q at *;simp only [Int.mul_one,Int.mul_neg] at *;omega
theorem an {z:Ei} {n m:Int} (h:z.H n) (hm:19*n+330<343*(m+1)):(anc 3 z).H m:=by
 obtain ⟨l1,_,g1,e1,f1⟩:=aba z;obtain ⟨l2,_,g2,e2,f2⟩:=aba (pr z);obtain ⟨l3,_,g3,e3,f3⟩:=aba (pr (pr z));show (pr (pr (pr z))).H m;generalize pr (pr (pr z))=q at *;generalize pr (pr z)=q2 at *;generalize pr z=q1 at *;unfold Ei.H at *;omega
theorem aub (x y:Int) (hx:0≤x∧x<1073741824) (hy:0≤y∧y<1073741824):(c9 x y 0).H 260:=by
 have h:=f8 ((ax x y).mul (b9 (12-0)).conj) (d:=2340*7^(12-0)) (by decide);have e:(b9 (12-0)).conj=⟨-128231,102960⟩:=by decide
 have ed:(2340*7^(12-0):Int)=32388612050340:=by decide
 unfold c9;generalize Ei.round _ _=q at *;rw [e,ed] at h;unfold g8 Ei.H at *;simp only [Ei.mul,ax] at *;omega
theorem aua (x y:Int) (hx:0≤x∧x<1073741824) (hy:0≤y∧y<1073741824):(c9 x y 1).H 734:=by
 have h:=f8 ((ax x y).mul (b9 (12-1)).conj) (d:=2340*7^(12-1)) (by decide);have e:(b9 (12-1)).conj=⟨-51346,25807⟩:=by decide
 have ed:(2340*7^(12-1):Int)=4626944578620:=by decide
 unfold c9;generalize Ei.round _ _=q at *;rw [e,ed] at h;unfold g8 Ei.H at *;simp only [Ei.mul,ax] at *;omega
theorem at9 (x y:Int) (hx:0≤x∧x<1073741824) (hy:0≤y∧y<1073741824):(c9 x y 2).H 2004:=by
 have h:=f8 ((ax x y).mul (b9 (12-2)).conj) (d:=2340*7^(12-2)) (by decide);have e:(b9 (12-2)).conj=⟨-18357,3725⟩:=by decide
 have ed:(2340*7^(12-2):Int)=660992082660:=by decide
 unfold c9;generalize Ei.round _ _=q at *;rw [e,ed] at h;unfold g8 Ei.H at *;simp only [Ei.mul,ax] at *;omega
theorem at8 (x y:Int) (hx:0≤x∧x<1073741824) (hy:0≤y∧y<1073741824):(c9 x y 3).H 4887:=by
 have h:=f8 ((ax x y).mul (b9 (12-3)).conj) (d:=2340*7^(12-3)) (by decide);have e:(b9 (12-3)).conj=⟨-5777,-1026⟩:=by decide
 have ed:(2340*7^(12-3):Int)=94427440380:=by decide
 unfold c9;generalize Ei.round _ _=q at *;rw [e,ed] at h;unfold g8 Ei.H at *;simp only [Ei.mul,ax] at *;omega
theorem at7 (x y:Int) (hx:0≤x∧x<1073741824) (hy:0≤y∧y<1073741824):(c9 x y 4).H 13376:=by
 have h:=f8 ((ax x y).mul (b9 (12-4)).conj) (d:=2340*7^(12-4)) (by decide);have e:(b9 (12-4)).conj=⟨-1504,-1265⟩:=by decide
 have ed:(2340*7^(12-4):Int)=13489634340:=by decide
 unfold c9;generalize Ei.round _ _=q at *;rw [e,ed] at h;unfold g8 Ei.H at *;simp only [Ei.mul,ax] at *;omega
theorem at6 (x y:Int) (hx:0≤x∧x<1073741824) (hy:0≤y∧y<1073741824):(c9 x y 5).H 37163:=by
 have h:=f8 ((ax x y).mul (b9 (12-5)).conj) (d:=2340*7^(12-5)) (by decide);have e:(b9 (12-5)).conj=⟨-249,-757⟩:=by decide
 have ed:(2340*7^(12-5):Int)=1927090620:=by decide
 unfold c9;generalize Ei.round _ _=q at *;rw [e,ed] at h;unfold g8 Ei.H at *;simp only [Ei.mul,ax] at *;omega
theorem at5 (x y:Int) (hx:0≤x∧x<1073741824) (hy:0≤y∧y<1073741824):(c9 x y 6).H 92189:=by
 have h:=f8 ((ax x y).mul (b9 (12-6)).conj) (d:=2340*7^(12-6)) (by decide);have e:(b9 (12-6)).conj=⟨37,-360⟩:=by decide
 have ed:(2340*7^(12-6):Int)=275298660:=by decide
 unfold c9;generalize Ei.round _ _=q at *;rw [e,ed] at h;unfold g8 Ei.H at *;simp only [Ei.mul,ax] at *;omega
theorem at4 (x y:Int) (hx:0≤x∧x<1073741824) (hy:0≤y∧y<1073741824):(c9 x y 7).H 243699:=by
 have h:=f8 ((ax x y).mul (b9 (12-7)).conj) (d:=2340*7^(12-7)) (by decide);have e:(b9 (12-7)).conj=⟨62,-149⟩:=by decide
 have ed:(2340*7^(12-7):Int)=39328380:=by decide
 unfold c9;generalize Ei.round _ _=q at *;rw [e,ed] at h;unfold g8 Ei.H at *;simp only [Ei.mul,ax] at *;omega
theorem at3 (x y:Int) (hx:0≤x∧x<1073741824) (hy:0≤y∧y<1073741824):(c9 x y 8).H 688202:=by
 have h:=f8 ((ax x y).mul (b9 (12-8)).conj) (d:=2340*7^(12-8)) (by decide);have e:(b9 (12-8)).conj=⟨39,-55⟩:=by decide
 have ed:(2340*7^(12-8):Int)=5618340:=by decide
 unfold c9;generalize Ei.round _ _=q at *;rw [e,ed] at h;unfold g8 Ei.H at *;simp only [Ei.mul,ax] at *;omega
theorem at2 (x y:Int) (hx:0≤x∧x<1073741824) (hy:0≤y∧y<1073741824):(c9 x y 9).H 1735123:=by
 have h:=f8 ((ax x y).mul (b9 (12-9)).conj) (d:=2340*7^(12-9)) (by decide);have e:(b9 (12-9)).conj=⟨19,-18⟩:=by decide
 have ed:(2340*7^(12-9):Int)=802620:=by decide
 unfold c9;generalize Ei.round _ _=q at *;rw [e,ed] at h;unfold g8 Ei.H at *;simp only [Ei.mul,ax] at *;omega
theorem arx (x y:Int) (hx:0≤x∧x<1073741824) (hy:0≤y∧y<1073741824):(c9 x y 10).H 4429444:=by
 have h:=f8 ((ax x y).mul (b9 (12-10)).conj) (d:=2340*7^(12-10)) (by decide);have e:(b9 (12-10)).conj=⟨8,-5⟩:=by decide
 have ed:(2340*7^(12-10):Int)=114660:=by decide
 unfold c9;generalize Ei.round _ _=q at *;rw [e,ed] at h;unfold g8 Ei.H at *;simp only [Ei.mul,ax] at *;omega
theorem arw (x y:Int) (hx:0≤x∧x<1073741824) (hy:0≤y∧y<1073741824):(c9 x y 11).H 12717090:=by
 have h:=f8 ((ax x y).mul (b9 (12-11)).conj) (d:=2340*7^(12-11)) (by decide);have e:(b9 (12-11)).conj=⟨3,-1⟩:=by decide
 have ed:(2340*7^(12-11):Int)=16380:=by decide
 unfold c9;generalize Ei.round _ _=q at *;rw [e,ed] at h;unfold g8 Ei.H at *;simp only [Ei.mul,ax] at *;omega
theorem arv (x y:Int) (hx:0≤x∧x<1073741824) (hy:0≤y∧y<1073741824):(c9 x y 12).H 32579347:=by
 have h:=f8 ((ax x y).mul (b9 (12-12)).conj) (d:=2340*7^(12-12)) (by decide);have e:(b9 (12-12)).conj=⟨1,0⟩:=by decide
 have ed:(2340*7^(12-12):Int)=2340:=by decide
 unfold c9;generalize Ei.round _ _=q at *;rw [e,ed] at h;unfold g8 Ei.H at *;simp only [Ei.mul,ax] at *;omega
theorem a84 {z:Ei} (h0:z.H 260):(anc 0 z).H 511:=by
 exact h0.mono (by decide)
theorem avw (x y:Int) (hx:0≤x∧x<1073741824) (hy:0≤y∧y<1073741824):(anc 0 (c9 x y 0)).H 511:=a84 (aub x y hx hy)
theorem a83 {z:Ei} (h0:z.H 734):(anc 1 z).H 511:=by
 have h1:=zl (m:=315) h0 (by decide);exact h1.mono (by decide)
theorem avv (x y:Int) (hx:0≤x∧x<1073741824) (hy:0≤y∧y<1073741824):(anc 1 (c9 x y 1)).H 511:=a83 (aua x y hx hy)
theorem a82 {z:Ei} (h0:z.H 2004):(anc 2 z).H 511:=by
 have h1:=zl (m:=859) h0 (by decide);have h2:=zl (m:=368) h1 (by decide);exact h2.mono (by decide)
theorem avu (x y:Int) (hx:0≤x∧x<1073741824) (hy:0≤y∧y<1073741824):(anc 2 (c9 x y 2)).H 511:=a82 (at9 x y hx hy)
theorem a81 {z:Ei} (h0:z.H 4887):(anc 3 z).H 511:=by
 have h1:=an (m:=271) h0 (by decide);exact h1.mono (by decide)
theorem avt (x y:Int) (hx:0≤x∧x<1073741824) (hy:0≤y∧y<1073741824):(anc 3 (c9 x y 3)).H 511:=a81 (at8 x y hx hy)
theorem a80 {z:Ei} (h0:z.H 13376):(anc 4 z).H 511:=by
 have h1:=zl (m:=5733) h0 (by decide);have h2:=an (m:=318) h1 (by decide);exact h2.mono (by decide)
theorem avs (x y:Int) (hx:0≤x∧x<1073741824) (hy:0≤y∧y<1073741824):(anc 4 (c9 x y 4)).H 511:=a80 (at7 x y hx hy)
theorem a8z {z:Ei} (h0:z.H 37163):(anc 5 z).H 511:=by
 have h1:=zl (m:=15927) h0 (by decide);have h2:=zl (m:=6826) h1 (by decide);have h3:=an (m:=379) h2 (by decide);exact h3.mono (by decide)
theorem avr (x y:Int) (hx:0≤x∧x<1073741824) (hy:0≤y∧y<1073741824):(anc 5 (c9 x y 5)).H 511:=a8z (at6 x y hx hy)
theorem a8y {z:Ei} (h0:z.H 92189):(anc 6 z).H 511:=by
 have h1:=an (m:=5107) h0 (by decide);have h2:=an (m:=283) h1 (by decide);exact h2.mono (by decide)
theorem avq (x y:Int) (hx:0≤x∧x<1073741824) (hy:0≤y∧y<1073741824):(anc 6 (c9 x y 6)).H 511:=a8y (at5 x y hx hy)
theorem a8x {z:Ei} (h0:z.H 243699):(anc 7 z).H 511:=by
 have h1:=zl (m:=104443) h0 (by decide);have h2:=an (m:=5786) h1 (by decide);have h3:=an (m:=321) h2 (by decide);exact h3.mono (by decide)
theorem avp (x y:Int) (hx:0≤x∧x<1073741824) (hy:0≤y∧y<1073741824):(anc 7 (c9 x y 7)).H 511:=a8x (at4 x y hx hy)
theorem a8w {z:Ei} (h0:z.H 688202):(anc 8 z).H 511:=by
 have h1:=zl (m:=294944) h0 (by decide);have h2:=zl (m:=126405) h1 (by decide);have h3:=an (m:=7002) h2 (by decide);have h4:=an (m:=388) h3 (by decide);exact h4.mono (by decide)
theorem avo (x y:Int) (hx:0≤x∧x<1073741824) (hy:0≤y∧y<1073741824):(anc 8 (c9 x y 8)).H 511:=a8w (at3 x y hx hy)
theorem a8v {z:Ei} (h0:z.H 1735123):(anc 9 z).H 511:=by
 have h1:=an (m:=96115) h0 (by decide);have h2:=an (m:=5325) h1 (by decide);have h3:=an (m:=295) h2 (by decide);exact h3.mono (by decide)
theorem avn (x y:Int) (hx:0≤x∧x<1073741824) (hy:0≤y∧y<1073741824):(anc 9 (c9 x y 9)).H 511:=a8v (at2 x y hx hy)
theorem a5v {z:Ei} (h0:z.H 4429444):(anc 10 z).H 511:=by
 have h1:=zl (m:=1898333) h0 (by decide);have h2:=an (m:=105156) h1 (by decide);have h3:=an (m:=5825) h2 (by decide);have h4:=an (m:=323) h3 (by decide);exact h4.mono (by decide)
theorem atg (x y:Int) (hx:0≤x∧x<1073741824) (hy:0≤y∧y<1073741824):(anc 10 (c9 x y 10)).H 511:=a5v (arx x y hx hy)
theorem a5u {z:Ei} (h0:z.H 12717090):(anc 11 z).H 511:=by
 have h1:=zl (m:=5450182) h0 (by decide);have h2:=zl (m:=2335792) h1 (by decide);have h3:=an (m:=129388) h2 (by decide);have h4:=an (m:=7168) h3 (by decide);have h5:=an (m:=398) h4 (by decide);exact h5.mono (by decide)
theorem atf (x y:Int) (hx:0≤x∧x<1073741824) (hy:0≤y∧y<1073741824):(anc 11 (c9 x y 11)).H 511:=a5u (arw x y hx hy)
theorem a5t {z:Ei} (h0:z.H 32579347):(anc 12 z).H 511:=by
 have h1:=an (m:=1804687) h0 (by decide);have h2:=an (m:=99969) h1 (by decide);have h3:=an (m:=5538) h2 (by decide);have h4:=an (m:=307) h3 (by decide);exact h4.mono (by decide)
theorem ate (x y:Int) (hx:0≤x∧x<1073741824) (hy:0≤y∧y<1073741824):(anc 12 (c9 x y 12)).H 511:=a5t (arv x y hx hy)
theorem a7u (x y:Int) (r:Nat) (hx:0≤x∧x<1073741824) (hy:0≤y∧y<1073741824) (hr:r≤12):(c9 x y r).H 32579347:=by
 rcases (show r=0∨r=1∨r=2∨r=3∨r=4∨r=5∨r=6∨r=7∨r=8∨r=9∨r=10∨r=11∨r=12 by omega) with rfl | rfl | rfl | rfl | rfl | rfl | rfl | rfl | rfl | rfl | rfl | rfl | rfl
 ·exact (aub x y hx hy).mono (by decide)
 ·exact (aua x y hx hy).mono (by decide)
 ·exact (at9 x y hx hy).mono (by decide)
 ·exact (at8 x y hx hy).mono (by decide)
 ·exact (at7 x y hx hy).mono (by decide)
 ·exact (at6 x y hx hy).mono (by decide)
 ·exact (at5 x y hx hy).mono (by decide)
 ·exact (at4 x y hx hy).mono (by decide)
 ·exact (at3 x y hx hy).mono (by decide)
 ·exact (at2 x y hx hy).mono (by decide)
 ·exact (arx x y hx hy).mono (by decide)
 ·exact (arw x y hx hy).mono (by decide)
 ·exact (arv x y hx hy).mono (by decide)
theorem ayk (x y:Int) (r:Nat) (hx:0≤x∧x<1073741824) (hy:0≤y∧y<1073741824) (hr:r≤12):(anc r (c9 x y r)).H 511:=by
 rcases (show r=0∨r=1∨r=2∨r=3∨r=4∨r=5∨r=6∨r=7∨r=8∨r=9∨r=10∨r=11∨r=12 by omega) with rfl | rfl | rfl | rfl | rfl | rfl | rfl | rfl | rfl | rfl | rfl | rfl | rfl
 ·exact avw x y hx hy
 ·exact avv x y hx hy
 ·exact avu x y hx hy
 ·exact avt x y hx hy
 ·exact avs x y hx hy
 ·exact avr x y hx hy
 ·exact avq x y hx hy
 ·exact avp x y hx hy
 ·exact avo x y hx hy
 ·exact avn x y hx hy
 ·exact atg x y hx hy
 ·exact atf x y hx hy
 ·exact ate x y hx hy
theorem xe (x y:Int) (r:Nat) (hx:0≤x∧x<1073741824) (hy:0≤y∧y<1073741824) (hr:r≤12):okc r (c9 x y r):=by
 have h1:=a7u x y r hx hy hr;have h2:=ayk x y r hx hy hr;unfold okc;unfold Ei.In;unfold Ei.H at h1 h2;omega

noncomputable def aes:PC:=
  (.seq (.reg [p_a 4 (.new [(.r (.v (.int .i64 0))),(.r (.v (.int .u64 0)))])])
 (.seq (.reg [p_m 9 0,p_s 10 (.conv .u64 (.t 9)),p_m 11 1,p_s 12 (.conv .u64 (.t 11)),p_c 13 1 191 [.t 10,.t 12],p_m 8 13,p_s 14 (.ext (.t 8) 0),p_s 15 (.ext (.t 8) 1),
 p_m 5 14,p_m 6 15])
 (.seq (.reg [p_m 16 5,p_s 17 (.conv .i64 (.t 16)),p_m 7 17])
 (.seq (.seq (.reg [p_m 18 0,p_s 19 (.bin .lss (.t 18) (o_i 0))])
 (.cond (.t 19)
 (.reg [p_m 20 7,p_m 21 1,p_s 22 (.bin .sub (.t 20) (.t 21)),p_m 7 22])
 .skip))
 (.seq (.seq (.reg [p_m 23 1,p_s 24 (.bin .lss (.t 23) (o_i 0))])
 (.cond (.t 24)
 (.reg [p_m 25 7,p_m 26 0,p_s 27 (.bin .sub (.t 25) (.t 26)),p_m 7 27])
 .skip))
 (.seq (.reg [p_m 28 7,p_m 29 6,p_s 30 (.build [(.r (.v (.int .i64 0))),(.r (.v (.int .u64 0)))] [(0,1,(.t 28)),(1,1,(.t 29))]),⟨none,none,0,.act (.st 2 (.t 4) (.t 30))⟩])
 .ret))))))
theorem ah9:Fun P0 171 2 [(4,false,some (246,(some 2)))] aes:=b5 Go.Proofs.Tryz.func171 rfl (by decide) (by kernel_rfl) (by decide) rfl (by kernel_rfl) (by kernel_rfl) (by decide)
noncomputable def yr:PC:=
  (.seq (.reg [p_a 2 (.box (.t 0)),p_a 3 (.box (.t 1)),p_a 4 (.new [(.r (.v (.int .i64 0))),(.r (.v (.int .u64 0)))])])
 (.seq (.reg [p_s 8 (.fa 1 (.t 2)),p_s 9 (.ld none (.t 8)),p_s 10 (.fa 1 (.t 3)),p_s 11 (.ld none (.t 10)),p_s 12 (.carry false (.t 9) (.t 11) (.c (.r (.v (.int .u64 0))))),
 p_m 7 12,p_s 13 (.ext (.t 7) 0),p_s 14 (.ext (.t 7) 1),p_m 5 13,p_m 6 14])
 (.seq (.reg [p_s 15 (.fa 0 (.t 2)),p_s 16 (.ld none (.t 15)),p_s 17 (.fa 0 (.t 3)),p_s 18 (.ld none (.t 17)),p_s 19 (.bin .add (.t 16) (.t 18)),p_m 20 6,p_s 21 (.conv .i64 (.t 20)),
 p_s 22 (.bin .add (.t 19) (.t 21)),p_m 23 5,p_s 24 (.build [(.r (.v (.int .i64 0))),(.r (.v (.int .u64 0)))] [(0,1,(.t 22)),(1,1,(.t 23))]),⟨none,none,0,.act (.st 2 (.t 4) (.t 24))⟩])
 .ret)))
theorem adm:Fun P0 170 2 [(4,false,some (246,(some 2)))] yr:=b5 Go.Proofs.Tryz.func170 rfl (by decide) (by kernel_rfl) (by decide) rfl (by kernel_rfl) (by kernel_rfl) (by decide)
noncomputable def wc:PC:=
  (.seq (.reg [p_a 2 (.box (.t 0)),p_a 3 (.box (.t 1)),p_a 4 (.new [(.r (.v (.int .i64 0))),(.r (.v (.int .u64 0)))])])
 (.seq (.reg [p_s 8 (.fa 1 (.t 2)),p_s 9 (.ld none (.t 8)),p_s 10 (.fa 1 (.t 3)),p_s 11 (.ld none (.t 10)),p_s 12 (.carry true (.t 9) (.t 11) (.c (.r (.v (.int .u64 0))))),
 p_m 7 12,p_s 13 (.ext (.t 7) 0),p_s 14 (.ext (.t 7) 1),p_m 5 13,p_m 6 14])
 (.seq (.reg [p_s 15 (.fa 0 (.t 2)),p_s 16 (.ld none (.t 15)),p_s 17 (.fa 0 (.t 3)),p_s 18 (.ld none (.t 17)),p_s 19 (.bin .sub (.t 16) (.t 18)),p_m 20 6,p_s 21 (.conv .i64 (.t 20)),
 p_s 22 (.bin .sub (.t 19) (.t 21)),p_m 23 5,p_s 24 (.build [(.r (.v (.int .i64 0))),(.r (.v (.int .u64 0)))] [(0,1,(.t 22)),(1,1,(.t 23))]),⟨none,none,0,.act (.st 2 (.t 4) (.t 24))⟩])
 .ret)))
theorem ach:Fun P0 172 2 [(4,false,some (246,(some 2)))] wc:=b5 Go.Proofs.Tryz.func172 rfl (by decide) (by kernel_rfl) (by decide) rfl (by kernel_rfl) (by kernel_rfl) (by decide)
noncomputable def vz:PC:=
  (.seq (.reg [p_a 1 (.box (.t 0)),p_s 2 (.mov (o_i 0)),p_s 3 (.mov (.c (.r (.v (.bool false)))))])
 (.seq (.reg [p_s 5 (.fa 1 (.t 1)),p_s 6 (.ld none (.t 5)),p_s 7 (.conv .i64 (.t 6)),p_m 4 7])
 (.seq (.seq (.reg [p_m 8 4,p_s 9 (.bin .lss (.t 8) (o_i 0)),p_m 10 9,p_g 11 10 true (.fa 0 (.t 1)),p_g 12 10 true (.ld none (.t 11)),p_g 13 10 true (.bin .eql (.t 12) (o_i (-1))),
 p_s 14 (.pick (.t 10) (.t 13) (.c (.r (.v (.bool false))))),p_m 15 14,p_g 16 15 false (.mov (.t 4)),p_g 17 15 false (.bin .geq (.t 16) (o_i 0)),p_g 18 15 false (.mov (.t 17)),
 p_g 19 18 true (.fa 0 (.t 1)),p_g 20 18 true (.ld none (.t 19)),p_g 21 18 true (.bin .eql (.t 20) (o_i 0)),p_g 22 15 false (.pick (.t 18) (.t 21) (.c (.r (.v (.bool false))))),
 p_s 23 (.pick (.t 15) (.c (.r (.v (.bool true)))) (.t 22))])
 (.cond (.t 23)
 (.seq (.reg [p_m 24 4,p_m 2 24,p_s 3 (.mov (.c (.r (.v (.bool true)))))])
 .ret)
 .skip))
 (.seq (.reg [p_s 2 (.mov (o_i 0)),p_s 3 (.mov (.c (.r (.v (.bool false)))))])
 .ret))))
theorem acg:Fun P0 173 1 [(2,false,none),(3,false,none)] vz:=b5 Go.Proofs.Tryz.func173 rfl (by decide) (by kernel_rfl) (by decide) rfl (by kernel_rfl) (by kernel_rfl) (by decide)
noncomputable def agc:PC:=
  (.seq (.reg [p_a 8 (.new [(.r (.v (.int .i64 0))),(.r (.v (.int .i64 0)))]),p_s 9 (.mov (.c (.r (.v (.bool false)))))])
 (.seq (.seq (.reg [p_m 10 1,p_s 11 (.un .not (.t 10)),p_m 12 11,p_g 13 12 false (.mov (.t 3)),p_g 14 12 false (.un .not (.t 13)),p_s 15 (.pick (.t 12) (.c (.r (.v (.bool true)))) (.t 14))])
 (.cond (.t 15)
 (.seq (.reg [p_s 16 (.build [(.r (.v (.int .i64 0))),(.r (.v (.int .i64 0)))] []),⟨none,none,0,.act (.st 2 (.t 8) (.t 16))⟩,p_s 9 (.mov (.c (.r (.v (.bool false)))))])
 .ret)
 .skip))
 (.seq (.reg [p_m 17 0,p_m 18 2,p_s 19 (.build [(.r (.v (.int .i64 0))),(.r (.v (.int .i64 0)))] [(0,1,(.t 17)),(1,1,(.t 18))]),⟨none,none,0,.act (.st 2 (.t 8) (.t 19))⟩,
 p_s 9 (.mov (.c (.r (.v (.bool true)))))])
 .ret)))
theorem ajh:Fun P0 174 4 [(8,false,some (101,(some 2))),(9,false,none)] agc:=b5 Go.Proofs.Tryz.func174 rfl (by decide) (by kernel_rfl) (by decide) rfl (by kernel_rfl) (by kernel_rfl) (by decide)
noncomputable def aic:PC:=
  (.seq (.reg [p_a 2 (.box (.t 0)),p_a 3 (.box (.t 1)),p_a 4 (.new [(.r (.v (.int .i64 0))),(.r (.v (.int .i64 0)))]),p_s 5 (.mov (.c (.r (.v (.bool false)))))])
 (.seq (.reg [p_s 6 (.mov (.c (.fn (.func 170) [])))])
 (.seq (.reg [p_s 12 (.fa 1 (.t 2)),p_s 13 (.ld none (.t 12)),p_s 14 (.fa 1 (.t 3)),p_s 15 (.ld none (.t 14)),p_c 16 1 171 [.t 13,.t 15],p_a 7 (.new [(.r (.v (.int .i64 0))),(.r (.v (.int .u64 0)))]),
 ⟨none,none,0,.act (.st 2 (.t 7) (.t 16))⟩])
 (.seq (.drw [p_s 18 (.fa 0 (.t 2)),p_s 19 (.ld none (.t 18)),p_s 20 (.fa 0 (.t 3)),p_s 21 (.ld none (.t 20)),p_c 22 2 171 [.t 19,.t 21],p_s 23 (.ld (some 2) (.t 7)),p_c 24 3 172 [.t 22,.t 23],
 p_c 25 4 173 [.t 24],p_m 17 25,p_s 26 (.ext (.t 17) 0),p_s 27 (.ext (.t 17) 1),p_m 8 26,p_m 9 27]
 [[],[0],[],[2],[0,1,2,3],[],[0,1,2,3,4,5],[0,1,2,3,4,5,6],[0,1,2,3,4,5,6,7],[0,1,2,3,4,5,6,7,8],[0,1,2,3,4,5,6,7,8],[0,1,2,3,4,5,6,7,8,9],[0,1,2,3,4,5,6,7,8,9,10,11]])
 (.seq (.drw [p_m 29 6,p_m 30 6,p_s 31 (.fa 0 (.t 2)),p_s 32 (.ld none (.t 31)),p_s 33 (.fa 1 (.t 3)),p_s 34 (.ld none (.t 33)),p_c 35 5 171 [.t 32,.t 34],p_s 36 (.fa 1 (.t 2)),
 p_s 37 (.ld none (.t 36)),p_s 38 (.fa 0 (.t 3)),p_s 39 (.ld none (.t 38)),p_c 40 6 171 [.t 37,.t 39],⟨(some 41),none,7,.callv (.t 30) [(.t 35),(.t 40)]⟩,
 p_s 42 (.ld (some 2) (.t 7)),⟨(some 43),none,8,.callv (.t 29) [(.t 41),(.t 42)]⟩,p_c 44 9 173 [.t 43],p_m 28 44,p_s 45 (.ext (.t 28) 0),p_s 46 (.ext (.t 28) 1),
 p_m 10 45,p_m 11 46]
 [[],[],[],[2],[],[4],[2,3,4,5],[],[7],[],[9],[2,3,4,5,6,7,8,9,10],[1,2,3,4,5,6,7,8,9,10,11],[],[0,1,2,3,4,5,6,7,8,9,10,11,12,13],[0,1,2,3,4,5,6,7,8,9,10,11,12,13,14],[0,1,2,3,4,5,6,7,8,9,10,11,12,13,14,15],[0,1,2,3,4,5,6,7,8,9,10,11,12,13,14,15,16],[0,1,2,3,4,5,6,7,8,9,10,11,12,13,14,15,16],[0,1,2,3,4,5,6,7,8,9,10,11,12,13,14,15,16,17],[0,1,2,3,4,5,6,7,8,9,10,11,12,13,14,15,16,17,18,19]])
 (.seq (.reg [p_m 47 8,p_m 48 9,p_m 49 10,p_m 50 11,p_c 51 10 174 [.t 47,.t 48,.t 49,.t 50],p_s 52 (.ext (.t 51) 0),p_s 53 (.ext (.t 51) 1),⟨none,none,0,.act (.st 2 (.t 4) (.t 52))⟩,
 p_m 5 53])
 .ret))))))
theorem aln:Fun P0 121 2 [(4,false,some (101,(some 2))),(5,false,none)] aic:=b5 Go.Proofs.Tryz.func121 rfl (by decide) (by kernel_rfl) (by decide) rfl (by kernel_rfl) (by kernel_rfl) (by decide)
def wid (x:Int):AV:=.r (.agg [.v (.int .i64 (IntKind.i64.wrap (x/18446744073709551616))),.v (.int .u64 (x%18446744073709551616))])
theorem aq2 {x a b:Int} (h1:a=IntKind.i64.wrap (x/18446744073709551616)) (h2:b=x%18446744073709551616):AV.r (.agg [.v (.int .i64 a),.v (.int .u64 b)])=wid x:=by rw [h1,h2]; rfl
theorem ato (a b:Int):a7 P0 170 [wid a,wid b] [] (wid (a+b)) []:=by
 refine adm rfl (by decide) ?_;simp only [yr,wid,push_cast,↓reduceIte,reduceCtorEq,zB,zE,zA,zS,zL,zD,zM];refine ⟨by omega,aq2 ?_ ?_⟩
 ·simp only [IntKind.wrap_i64]; omega
 ·omega
theorem az6 (a b:Int):a7 P0 172 [wid a,wid b] [] (wid (a-b)) []:=by
 refine ach rfl (by decide) ?_;simp only [wc,wid,push_cast,↓reduceIte,reduceCtorEq,zB,zE,zA,zS,zL,zD,zM];refine ⟨by omega,aq2 ?_ ?_⟩
 ·simp only [IntKind.wrap_i64]; omega
 ·omega
theorem aqz (a:Int) (h:-170141183460469231731687303715884105728≤a∧a<170141183460469231731687303715884105728):a7 P0 173 [wid a] [] (sm a) []:=by
 refine acg rfl (by decide) ?_;simp only [vz,wid,push_cast,↓reduceIte,reduceCtorEq,zB,zE,zA,zS,zL,zD,zM];rw [IntKind.wrap_i64,IntKind.wrap_i64];have hn:in64 a→(a%18446744073709551616+9223372036854775808)%18446744073709551616-9223372036854775808=a:=by unfold in64; omega
 have hh:(a/18446744073709551616+9223372036854775808)%18446744073709551616-9223372036854775808=a/18446744073709551616:=by omega
 rw [hh];have h0:a/18446744073709551616=0→(a%18446744073709551616+9223372036854775808)%18446744073709551616-9223372036854775808≥0→in64 a:=by unfold in64; omega
 have h1:a/18446744073709551616=-1→(a%18446744073709551616+9223372036854775808)%18446744073709551616-9223372036854775808<0→in64 a:=by unfold in64; omega
 have h2:in64 a→(a/18446744073709551616=0∧(a%18446744073709551616+9223372036854775808)%18446744073709551616-9223372036854775808≥0)∨(a/18446744073709551616=-1∧(a%18446744073709551616+9223372036854775808)%18446744073709551616-9223372036854775808<0):=by unfold in64; omega
 generalize a/18446744073709551616=q at *;generalize (a%18446744073709551616+9223372036854775808)%18446744073709551616-9223372036854775808=n at *;refine ⟨by simp +contextual,by simp +contextual; omega,b6 (fun hc=>?_) (fun hc=>?_)⟩
 ·simp only [push_cast,↓reduceIte,reduceCtorEq,zB,zE,zA,zS,zL,zD,zM]
  have hy:in64 a:=by
   by_cases c1:n<0
   ·by_cases c2:q=-1
    ·exact h1 c2 c1
    ·simp [c1,c2] at hc; omega
   ·by_cases c2:q=0
    ·exact h0 c2 (by omega)
    ·simp [c1,c2] at hc
  exact aee (hn hy) hy
 ·simp only [push_cast,↓reduceIte,reduceCtorEq,zB,zE,zA,zS,zL,zD,zM];refine amg fun hy=>?_;rcases h2 hy with ⟨e1,e2⟩ | ⟨e1,e2⟩
  ·simp [e1,e2] at hc
  ·simp [e1,e2] at hc
theorem aix {a:Int} (ha:in64 a):IntKind.u64.wrap a=if a<0 then a+18446744073709551616 else a:=by
 unfold in64 at ha;rw [IntKind.wrap_u64];split<;>omega
theorem ae1 (a b:Int) (ha:in64 a) (hb:in64 b):a7 P0 171 [int .i64 a,int .i64 b] [] (wid (a*b)) []:=by
 refine ah9 rfl (by decide) ?_;simp only [aes,push_cast,↓reduceIte,reduceCtorEq,zB,zE,zA,zS,zL,zD,zM];have ha':=ha;have hb':=hb;unfold in64 at ha' hb'
 have hu:∀x:Int,in64 x→((IntKind.u64.wrap x).toNat:Int)=if x<0 then x+18446744073709551616 else x:=fun x hx=>by
  rw [aix hx];unfold in64 at hx;split<;>omega
 have hu0:∀x:Int,in64 x→(IntKind.u64.wrap x).toNat<18446744073709551616:=fun x hx=>by
  rw [aix hx];unfold in64 at hx;split<;>omega
 refine a9 (as':=[int .u64 (IntKind.u64.wrap a).toNat,int .u64 (IntKind.u64.wrap b).toNat]) (by rw [hu a ha,hu b hb,aix ha,aix hb]) ?_;refine a5 (auc _ _ (hu0 a ha) (hu0 b hb)) rfl trivial ?_;simp only [push_cast,↓reduceIte,reduceCtorEq,zB,zE,zA,zS,zL,zD,zM]
 have hp:((IntKind.u64.wrap a).toNat:Int)*((IntKind.u64.wrap b).toNat:Int)=a*b+(if a<0 then b*18446744073709551616 else 0)+(if b<0 then a*18446744073709551616 else 0)+(if a<0 then if b<0 then 340282366920938463463374607431768211456 else 0 else 0):=by
  rw [hu a ha,hu b hb];split<;>split<;>(try simp only [Int.add_mul,zca])<;>omega
 rw [hp];generalize a*b=m;refine b6 (fun h1=>?_) (fun h1=>?_)<;>simp only [push_cast,↓reduceIte,reduceCtorEq,zB,zE,zA,zS,zL,zD,zM]<;>refine b6 (fun h2=>?_) (fun h2=>?_)<;>simp only [push_cast,↓reduceIte,reduceCtorEq,zB,zE,zA,zS,zL,zD,zM]
 all_goals
  simp only [decide_eq_true_eq,decide_eq_false_iff_not] at h1 h2;simp only [h1,h2,if_true,if_false];refine aq2 ?_ ?_
  ·simp only [IntKind.wrap_i64]; omega
  ·omega
theorem an9 (a b:Int):a7 P0 174 [int .i64 a,bl true,int .i64 b,bl true] [] (.tup [Ei.v ⟨a,b⟩,bl true]) []:=by
 refine ajh rfl (by decide) ?_;simp only [agc,Ei.v,Ei.rv,push_cast,↓reduceIte,reduceCtorEq,zB,zE,zA,zS,zL,zD,zM]
abbrev M62:Int:=4611686018427387904
abbrev M63:Int:=9223372036854775807
theorem Ei.In.ok {z:Ei} (h:z.In M63):in64 z.a∧in64 z.b:=by unfold Ei.In M63 at h; unfold in64; omega
theorem a7n {x y:Ei} (hx:x.In 4611686018427387904) (hy:y.In 4611686018427387904):(-21267647932558653966460912964485513216≤x.a*y.a∧x.a*y.a≤21267647932558653966460912964485513216)∧(-21267647932558653966460912964485513216≤x.a*y.b∧x.a*y.b≤21267647932558653966460912964485513216)∧(-21267647932558653966460912964485513216≤x.b*y.a∧x.b*y.a≤21267647932558653966460912964485513216)∧(-21267647932558653966460912964485513216≤x.b*y.b∧x.b*y.b≤21267647932558653966460912964485513216):=
 ⟨cb hx.1 hy.1,cb hx.1 hy.2,cb hx.2 hy.1,cb hx.2 hy.2⟩
theorem abx (x y:Ei) (hx:x.In 4611686018427387904) (hy:y.In 4611686018427387904) (hz:(x.mul y).In M63):a7 P0 121 [x.v,y.v] [] (.tup [(x.mul y).v,bl true]) []:=by
 refine aln rfl (by decide) ?_;have hz1:=hz.ok.1;have hz2:=hz.ok.2;simp only [Ei.mul] at hz1 hz2;simp only [aic,Ei.v,Ei.rv,push_cast,↓reduceIte,reduceCtorEq,zB,zE,zA,zS,zL,zD,zM];have hx1:in64 x.a∧in64 x.b:=by unfold Ei.In at hx; unfold in64; omega
 have hy1:in64 y.a∧in64 y.b:=by unfold Ei.In at hy; unfold in64; omega
 refine a5 (ae1 x.b y.b hx1.2 hy1.2) rfl trivial ?_;simp only [wid,push_cast,↓reduceIte,reduceCtorEq,zB,zE,zA,zS,zL,zD,zM];refine c8 (ae1 x.a y.a hx1.1 hy1.1) rfl trivial ?_;simp only [wid,push_cast,↓reduceIte,reduceCtorEq,zB,zE,zA,zS,zL,zD,zM];refine o6 (as':=[wid (x.a*y.a),wid (x.b*y.b)]) rfl ?_;refine c8 (az6 _ _) rfl trivial ?_;simp only [wid,push_cast,↓reduceIte,reduceCtorEq,zB,zE,zA,zS,zL,zD,zM];refine o6 (as':=[wid (x.a*y.a-x.b*y.b)]) rfl ?_;refine c8 (aqz _ ?_) rfl trivial ?_
 ·have:=a7n hx hy;omega
 simp only [sm,hz1,if_pos,push_cast,↓reduceIte,reduceCtorEq,zB,zE,zA,zS,zL,zD,zM];refine And.intro (by kernel_rfl) ?_;refine c8 (ae1 x.a y.b hx1.1 hy1.2) rfl trivial ?_;simp only [wid,push_cast,↓reduceIte,reduceCtorEq,zB,zE,zA,zS,zL,zD,zM];refine c8 (ae1 x.b y.a hx1.2 hy1.1) rfl trivial ?_;simp only [wid,push_cast,↓reduceIte,reduceCtorEq,zB,zE,zA,zS,zL,zD,zM];refine And.intro (by kernel_rfl) ?_;refine o6 (as':=[wid (x.a*y.b),wid (x.b*y.a)]) rfl ?_;refine c8 (ato _ _) rfl trivial ?_;simp only [wid,push_cast,↓reduceIte,reduceCtorEq,zB,zE,zA,zS,zL,zD,zM];refine And.intro (by kernel_rfl) ?_;refine o6 (as':=[wid (x.a*y.b+x.b*y.a),wid (x.b*y.b)]) rfl ?_;refine c8 (ato _ _) rfl trivial ?_
 simp only [wid,push_cast,↓reduceIte,reduceCtorEq,zB,zE,zA,zS,zL,zD,zM];refine o6 (as':=[wid (x.a*y.b+x.b*y.a+x.b*y.b)]) rfl ?_;refine c8 (aqz _ ?_) rfl trivial ?_
 ·have:=a7n hx hy;omega
 simp only [sm,hz2,if_pos,push_cast,↓reduceIte,reduceCtorEq,zB,zE,zA,zS,zL,zD,zM];refine And.intro (by kernel_rfl) ?_;refine a5 (an9 _ _) rfl trivial ?_;simp only [Ei.v,Ei.rv,Ei.mul,push_cast,↓reduceIte,reduceCtorEq,zB,zE,zA,zS,zL,zD,zM]

noncomputable def xj:PC:=
  (.seq (.reg [p_a 3 (.box (.t 0)),p_a 4 (.box (.t 1)),p_a 6 (.new [(.r (.v (.int .i64 0))),(.r (.v (.int .i64 0)))]),p_s 7 (.mov (.c (.r (.v (.bool false)))))])
 (.seq (.reg [p_m 13 2,p_s 14 (.fa 0 (.t 3)),p_s 15 (.ld none (.t 14)),p_s 16 (.fa 0 (.t 4)),p_s 17 (.ld none (.t 16)),⟨(some 18),none,1,.callv (.t 13) [(.t 15),(.t 17)]⟩,
 p_m 12 18,p_s 19 (.ext (.t 12) 0),p_s 20 (.ext (.t 12) 1),p_m 8 19,p_m 9 20])
 (.seq (.reg [p_m 22 2,p_s 23 (.fa 1 (.t 3)),p_s 24 (.ld none (.t 23)),p_s 25 (.fa 1 (.t 4)),p_s 26 (.ld none (.t 25)),⟨(some 27),none,2,.callv (.t 22) [(.t 24),(.t 26)]⟩,
 p_m 21 27,p_s 28 (.ext (.t 21) 0),p_s 29 (.ext (.t 21) 1),p_m 10 28,p_m 11 29])
 (.seq (.reg [p_m 30 8,p_m 31 9,p_m 32 10,p_m 33 11,p_c 34 3 174 [.t 30,.t 31,.t 32,.t 33],p_s 35 (.ext (.t 34) 0),p_s 36 (.ext (.t 34) 1),⟨none,none,0,.act (.st 2 (.t 6) (.t 35))⟩,
 p_m 7 36])
 .ret))))
theorem yt:Fun P0 175 3 [(6,false,some (101,(some 2))),(7,false,none)] xj:=b5 Go.Proofs.Tryz.func175 rfl (by decide) (by kernel_rfl) (by decide) rfl (by kernel_rfl) (by kernel_rfl) (by decide)
noncomputable def aid:PC:=
  (.seq (.reg [p_a 2 (.box (.t 0)),p_a 3 (.box (.t 1)),p_a 4 (.new [(.r (.v (.int .i64 0))),(.r (.v (.int .i64 0)))]),p_s 5 (.mov (.c (.r (.v (.bool false)))))])
 (.seq (.reg [p_s 6 (.ld (some 2) (.t 2)),p_s 7 (.ld (some 2) (.t 3)),p_c 8 1 175 [(.t 6),(.t 7),(.c (.fn (.func 176) []))],p_s 9 (.ext (.t 8) 0),p_s 10 (.ext (.t 8) 1),
 ⟨none,none,0,.act (.st 2 (.t 4) (.t 9))⟩,p_m 5 10])
 .ret))
theorem alo:Fun P0 122 2 [(4,false,some (101,(some 2))),(5,false,none)] aid:=b5 Go.Proofs.Tryz.func122 rfl (by decide) (by kernel_rfl) (by decide) rfl (by kernel_rfl) (by kernel_rfl) (by decide)
noncomputable def aia:PC:=
  (.seq (.reg [p_a 2 (.box (.t 0)),p_a 3 (.box (.t 1)),p_a 4 (.new [(.r (.v (.int .i64 0))),(.r (.v (.int .i64 0)))]),p_s 5 (.mov (.c (.r (.v (.bool false)))))])
 (.seq (.reg [p_s 6 (.ld (some 2) (.t 2)),p_s 7 (.ld (some 2) (.t 3)),p_c 8 1 175 [(.t 6),(.t 7),(.c (.fn (.func 246) []))],p_s 9 (.ext (.t 8) 0),p_s 10 (.ext (.t 8) 1),
 ⟨none,none,0,.act (.st 2 (.t 4) (.t 9))⟩,p_m 5 10])
 .ret))
theorem alm:Fun P0 234 2 [(4,false,some (101,(some 2))),(5,false,none)] aia:=b5 Go.Proofs.Tryz.func234 rfl (by decide) (by kernel_rfl) (by decide) rfl (by kernel_rfl) (by kernel_rfl) (by decide)
noncomputable def age:PC:=
  (.seq (.reg [p_a 1 (.box (.t 0)),p_a 2 (.new [(.r (.v (.int .i64 0))),(.r (.v (.int .i64 0)))]),p_s 3 (.mov (.c (.r (.v (.bool false)))))])
 (.seq (.reg [p_s 9 (.fa 0 (.t 1)),p_s 10 (.ld none (.t 9)),p_s 11 (.fa 1 (.t 1)),p_s 12 (.ld none (.t 11)),p_c 13 1 176 [.t 10,.t 12],p_m 8 13,p_s 14 (.ext (.t 8) 0),
 p_s 15 (.ext (.t 8) 1),p_m 4 14,p_m 5 15])
 (.seq (.reg [p_s 17 (.fa 1 (.t 1)),p_s 18 (.ld none (.t 17)),p_c 19 2 231 [.t 18],p_m 16 19,p_s 20 (.ext (.t 16) 0),p_s 21 (.ext (.t 16) 1),p_m 6 20,p_m 7 21])
 (.seq (.reg [p_m 22 4,p_m 23 5,p_m 24 6,p_m 25 7,p_c 26 3 174 [.t 22,.t 23,.t 24,.t 25],p_s 27 (.ext (.t 26) 0),p_s 28 (.ext (.t 26) 1),⟨none,none,0,.act (.st 2 (.t 2) (.t 27))⟩,
 p_m 3 28])
 .ret))))
theorem ajj:Fun P0 195 1 [(2,false,some (101,(some 2))),(3,false,none)] age:=b5 Go.Proofs.Tryz.func195 rfl (by decide) (by kernel_rfl) (by decide) rfl (by kernel_rfl) (by kernel_rfl) (by decide)
noncomputable def agd:PC:=
  (.seq (.reg [p_a 2 (.new [(.r (.v (.int .i64 0))),(.r (.v (.int .i64 0)))])])
 (.seq (.reg [p_s 4 (.build [(.r (.v (.int .i64 0))),(.r (.v (.int .i64 0)))] [(0,1,(o_i 1))]),p_s 5 (.build [(.r (.v (.int .i64 0))),(.r (.v (.int .i64 0)))] [(1,1,(o_i 1))]),
 p_s 6 (.build [(.r (.v (.int .i64 0))),(.r (.v (.int .i64 0)))] [(0,1,(o_i (-1))),(1,1,(o_i 1))]),p_s 7 (.build [(.r (.v (.int .i64 0))),(.r (.v (.int .i64 0)))] [(0,1,(o_i (-1)))]),
 p_s 8 (.build [(.r (.v (.int .i64 0))),(.r (.v (.int .i64 0)))] [(1,1,(o_i (-1)))]),p_s 9 (.build [(.r (.v (.int .i64 0))),(.r (.v (.int .i64 0)))] [(0,1,(o_i 1)),(1,1,(o_i (-1)))]),
 p_s 10 (.build [(.r (.v (.int .i64 0))),(.r (.v (.int .i64 0))),(.r (.v (.int .i64 0))),(.r (.v (.int .i64 0))),(.r (.v (.int .i64 0))),(.r (.v (.int .i64 0))),(.r (.v (.int .i64 0))),(.r (.v (.int .i64 0))),(.r (.v (.int .i64 0))),(.r (.v (.int .i64 0))),(.r (.v (.int .i64 0))),(.r (.v (.int .i64 0)))] [(0,2,(.t 4)),(2,2,(.t 5)),(4,2,(.t 6)),(6,2,(.t 7)),(8,2,(.t 8)),(10,2,(.t 9))]),
 p_a 3 (.new [(.r (.v (.int .i64 0))),(.r (.v (.int .i64 0))),(.r (.v (.int .i64 0))),(.r (.v (.int .i64 0))),(.r (.v (.int .i64 0))),(.r (.v (.int .i64 0))),(.r (.v (.int .i64 0))),(.r (.v (.int .i64 0))),(.r (.v (.int .i64 0))),(.r (.v (.int .i64 0))),(.r (.v (.int .i64 0))),(.r (.v (.int .i64 0)))]),
 ⟨none,none,0,.act (.st 12 (.t 3) (.t 10))⟩])
 (.seq (.reg [p_m 11 0,p_s 12 (.bin .rem (.t 11) (o_i 6)),p_s 13 (.bin .add (.t 12) (o_i 6)),p_s 14 (.bin .rem (.t 13) (o_i 6)),p_s 15 (.iaa 6 2 (.t 3) (.t 14)),p_s 16 (.ld (some 2) (.t 15)),
 ⟨none,none,0,.act (.st 2 (.t 2) (.t 16))⟩])
 .ret)))
theorem aji:Fun P0 123 1 [(2,false,some (101,(some 2)))] agd:=b5 Go.Proofs.Tryz.func123 rfl (by decide) (by kernel_rfl) (by decide) rfl (by kernel_rfl) (by kernel_rfl) (by decide)
noncomputable def agf:PC:=
  (.seq (.reg [p_a 2 (.new [(.r (.v (.int .i64 0))),(.r (.v (.int .i64 0)))]),p_s 3 (.mov (.c (.r (.v (.bool false)))))])
 (.seq (.seq (.reg [p_m 6 0,p_s 7 (.bin .lss (.t 6) (o_i 0)),p_m 8 7,p_g 9 8 false (.mov (.t 0)),p_g 10 8 false (.bin .gtr (.t 9) (o_i 20)),p_s 11 (.pick (.t 8) (.c (.r (.v (.bool true)))) (.t 10))])
 (.cond (.t 11)
 (.seq (.reg [p_s 12 (.build [(.r (.v (.int .i64 0))),(.r (.v (.int .i64 0)))] []),⟨none,none,0,.act (.st 2 (.t 2) (.t 12))⟩,p_s 3 (.mov (.c (.r (.v (.bool false)))))])
 .ret)
 .skip))
 (.seq (.reg [p_s 13 (.build [(.r (.v (.int .i64 0))),(.r (.v (.int .i64 0)))] [(0,1,(o_i 1))]),p_a 4 (.new [(.r (.v (.int .i64 0))),(.r (.v (.int .i64 0)))]),⟨none,none,0,.act (.st 2 (.t 4) (.t 13))⟩,
 p_s 5 (.mov (.c (.r (.v (.bool true)))))])
 (.seq (.seq (.reg [p_m 14 0,p_s 15 (.mov (o_i 0))])
 (.block 0 (.loop (.seq (.reg [p_s 16 (.bin .lss (.t 15) (.t 14))])
 (.seq (.cond (.t 16)
 .skip
 (.exit 0))
 (.seq (.block 1 (.seq (.reg [p_s 18 (.ld (some 2) (.t 4)),p_s 19 (.build [(.r (.v (.int .i64 0))),(.r (.v (.int .i64 0)))] [(0,1,(o_i 2)),(1,1,(o_i 1))]),p_c 20 1 121 [.t 18,.t 19],
 p_m 17 20,p_s 21 (.ext (.t 17) 0),p_s 22 (.ext (.t 17) 1),⟨none,none,0,.act (.st 2 (.t 4) (.t 21))⟩,p_m 5 22])
 (.seq (.reg [p_m 23 5,p_s 24 (.un .not (.t 23))])
 (.cond (.t 24)
 (.seq (.reg [p_s 25 (.build [(.r (.v (.int .i64 0))),(.r (.v (.int .i64 0)))] []),⟨none,none,0,.act (.st 2 (.t 2) (.t 25))⟩,p_s 3 (.mov (.c (.r (.v (.bool false)))))])
 .ret)
 .skip))))
 (.reg [p_s 26 (.bin .add (.t 15) (o_i 1)),p_m 15 26])))))))
 (.seq (.reg [p_s 27 (.ld (some 2) (.t 4)),⟨none,none,0,.act (.st 2 (.t 2) (.t 27))⟩,p_s 3 (.mov (.c (.r (.v (.bool true)))))])
 .ret)))))
theorem ajk:Fun P0 125 1 [(2,false,some (101,(some 2))),(3,false,none)] agf:=b5 Go.Proofs.Tryz.func125 rfl (by decide) (by kernel_rfl) (by decide) rfl (by kernel_rfl) (by kernel_rfl) (by decide)
noncomputable def af9:PC:=
  (.seq (.reg [p_s 4 (.mov (.c (.r (.v (.bool false)))))])
 (.seq (.reg [p_m 5 0,p_m 6 1,p_s 7 (.un .neg (.t 6)),p_s 8 (.bin .geq (.t 5) (.t 7)),p_m 9 8,p_g 10 9 true (.mov (.t 0)),p_g 11 9 true (.mov (.t 1)),p_g 12 9 true (.bin .leq (.t 10) (.t 11)),
 p_s 13 (.pick (.t 9) (.t 12) (.c (.r (.v (.bool false))))),p_m 14 13,p_g 15 14 true (.mov (.t 0)),p_g 16 14 true (.bin .neq (.t 15) (o_i (-9223372036854775808))),
 p_s 17 (.pick (.t 14) (.t 16) (.c (.r (.v (.bool false))))),p_m 4 17])
 .ret))
theorem aje:Fun P0 178 2 [(4,false,none)] af9:=b5 Go.Proofs.Tryz.func178 rfl (by decide) (by kernel_rfl) (by decide) rfl (by kernel_rfl) (by kernel_rfl) (by decide)
noncomputable def aet:PC:=
  (.seq (.reg [p_a 2 (.box (.t 0)),p_a 4 (.new [(.r (.v (.int .i64 0))),(.r (.v (.int .i64 0)))]),p_s 5 (.mov (.c (.r (.v (.bool false)))))])
 (.seq (.seq (.reg [p_m 18 1,p_s 19 (.bin .lss (.t 18) (o_i 1)),p_m 20 19,p_g 21 20 false (.mov (.t 1)),p_g 22 20 false (.bin .gtr (.t 21) (o_i 1125899906842624)),p_s 23 (.pick (.t 20) (.c (.r (.v (.bool true)))) (.t 22)),
 p_m 24 23,p_g 25 24 false (.fa 0 (.t 2)),p_g 26 24 false (.ld none (.t 25)),⟨(some 27),(some (24,false)),1,.call 178 [(.t 26),(o_i 1152921504606846976)]⟩,
 p_g 28 24 false (.un .not (.t 27)),p_s 29 (.pick (.t 24) (.c (.r (.v (.bool true)))) (.t 28)),p_m 30 29,p_g 31 30 false (.fa 1 (.t 2)),p_g 32 30 false (.ld none (.t 31)),
 ⟨(some 33),(some (30,false)),2,.call 178 [(.t 32),(o_i 1152921504606846976)]⟩,p_g 34 30 false (.un .not (.t 33)),p_s 35 (.pick (.t 30) (.c (.r (.v (.bool true)))) (.t 34))])
 (.cond (.t 35)
 (.seq (.reg [p_s 36 (.build [(.r (.v (.int .i64 0))),(.r (.v (.int .i64 0)))] []),⟨none,none,0,.act (.st 2 (.t 4) (.t 36))⟩,p_s 5 (.mov (.c (.r (.v (.bool false)))))])
 .ret)
 .skip))
 (.seq (.reg [p_s 38 (.fa 0 (.t 2)),p_s 39 (.ld none (.t 38)),p_m 40 1,p_c 41 3 135 [.t 39,.t 40],p_m 37 41,p_s 42 (.ext (.t 37) 0),p_s 43 (.ext (.t 37) 1),p_s 44 (.ext (.t 37) 2),
 p_m 6 42,p_m 7 43,p_m 8 44])
 (.seq (.reg [p_s 46 (.fa 1 (.t 2)),p_s 47 (.ld none (.t 46)),p_m 48 1,p_c 49 4 135 [.t 47,.t 48],p_m 45 49,p_s 50 (.ext (.t 45) 0),p_s 51 (.ext (.t 45) 1),p_s 52 (.ext (.t 45) 2),
 p_m 9 50,p_m 10 51,p_m 11 52])
 (.seq (.reg [p_s 53 (.build [(.r (.v (.int .i64 0))),(.r (.v (.int .i64 0)))] []),p_a 13 (.new [(.r (.v (.int .i64 0))),(.r (.v (.int .i64 0)))]),p_s 12 (.mov (o_i 0)),⟨none,none,0,.act (.st 2 (.t 13) (.t 53))⟩])
 (.seq (.seq (.reg [p_s 54 (.build [(.r (.v (.int .i64 0))),(.r (.v (.int .i64 0)))] [(1,1,(o_i 1))]),p_s 55 (.build [(.r (.v (.int .i64 0))),(.r (.v (.int .i64 0)))] [(0,1,(o_i 1))]),
 p_s 56 (.build [(.r (.v (.int .i64 0))),(.r (.v (.int .i64 0)))] [(0,1,(o_i 1)),(1,1,(o_i 1))]),p_a 57 (.bsl 2 (.agg [(.v (.int .i64 0)),(.v (.int .i64 0))]) [(.t 54),(.t 55),(.t 56)]),
 p_s 58 (.len false (.t 57)),p_s 59 (.mov (o_i 0))])
 (.block 0 (.loop (.seq (.reg [p_s 60 (.bin .lss (.t 59) (.t 58))])
 (.seq (.cond (.t 60)
 .skip
 (.exit 0))
 (.seq (.block 1 (.seq (.reg [p_s 61 (.ia 2 (.agg [(.v (.int .i64 0)),(.v (.int .i64 0))]) (.t 57) (.t 59)),p_s 62 (.ld (some 2) (.t 61)),p_a 15 (.new [(.r (.v (.int .i64 0))),(.r (.v (.int .i64 0)))]),
 ⟨none,none,0,.act (.st 2 (.t 15) (.t 62))⟩])
 (.seq (.reg [p_s 63 (.fa 0 (.t 15)),p_s 64 (.ld none (.t 63)),p_s 65 (.fa 0 (.t 15)),p_s 66 (.ld none (.t 65)),p_s 67 (.bin .mul (.t 64) (.t 66)),p_s 68 (.fa 0 (.t 15)),
 p_s 69 (.ld none (.t 68)),p_s 70 (.fa 1 (.t 15)),p_s 71 (.ld none (.t 70)),p_s 72 (.bin .mul (.t 69) (.t 71)),p_s 73 (.bin .add (.t 67) (.t 72)),p_s 74 (.fa 1 (.t 15)),
 p_s 75 (.ld none (.t 74)),p_s 76 (.fa 1 (.t 15)),p_s 77 (.ld none (.t 76)),p_s 78 (.bin .mul (.t 75) (.t 77)),p_s 79 (.bin .add (.t 73) (.t 78)),p_m 16 79])
 (.seq (.reg [p_m 80 1,p_m 81 16,p_s 82 (.bin .mul (.t 80) (.t 81)),p_s 83 (.fa 0 (.t 15)),p_s 84 (.ld none (.t 83)),p_m 85 7,p_s 86 (.bin .mul (o_i 2) (.t 85)),p_m 87 10,
 p_s 88 (.bin .add (.t 86) (.t 87)),p_s 89 (.bin .mul (.t 84) (.t 88)),p_s 90 (.bin .sub (.t 82) (.t 89)),p_s 91 (.fa 1 (.t 15)),p_s 92 (.ld none (.t 91)),p_m 93 7,
 p_m 94 10,p_s 95 (.bin .mul (o_i 2) (.t 94)),p_s 96 (.bin .add (.t 93) (.t 95)),p_s 97 (.bin .mul (.t 92) (.t 96)),p_s 98 (.bin .sub (.t 90) (.t 97)),p_m 17 98])
 (.seq (.reg [p_m 99 17,p_m 100 12,p_s 101 (.bin .lss (.t 99) (.t 100))])
 (.cond (.t 101)
 (.drw [p_m 102 17,p_s 103 (.ld (some 2) (.t 15)),p_m 12 102,⟨none,none,0,.act (.st 2 (.t 13) (.t 103))⟩]
 [[],[],[0],[0,1,2]])
 .skip))))))
 (.reg [p_s 104 (.bin .add (.t 59) (o_i 1)),p_m 59 104])))))))
 (.seq (.reg [p_m 105 6,p_s 106 (.fa 0 (.t 13)),p_s 107 (.ld none (.t 106)),p_s 108 (.bin .add (.t 105) (.t 107)),p_m 109 9,p_s 110 (.fa 1 (.t 13)),p_s 111 (.ld none (.t 110)),
 p_s 112 (.bin .add (.t 109) (.t 111)),p_s 113 (.build [(.r (.v (.int .i64 0))),(.r (.v (.int .i64 0)))] [(0,1,(.t 108)),(1,1,(.t 112))]),⟨none,none,0,.act (.st 2 (.t 4) (.t 113))⟩,
 p_s 5 (.mov (.c (.r (.v (.bool true)))))])
 .ret)))))))
theorem aib:Fun P0 197 2 [(4,false,some (101,(some 2))),(5,false,none)] aet:=b5 Go.Proofs.Tryz.func197 rfl (by decide) (by kernel_rfl) (by decide) rfl (by kernel_rfl) (by kernel_rfl) (by decide)
theorem ae8 {x:Int} (h:in64 x):sm x=.tup [int .i64 x,bl true]:=by simp [sm,h]
theorem ay8 (x y:Ei) (hx:x.In M63) (hy:y.In M63) (hz:(x.add y).In M63):a7 P0 122 [x.v,y.v] [] (.tup [(x.add y).v,bl true]) []:=by
 have hs:a7 P0 175 [x.v,y.v,.fn (.func 176) []] [] (.tup [(x.add y).v,bl true]) []:=by
  refine yt rfl (by decide) ?_;simp only [xj,Ei.v,Ei.rv,push_cast,↓reduceIte,reduceCtorEq,zB,zE,zA,zS,zL,zD,zM];refine ⟨by kernel_rfl,?_⟩;refine a5 (awo _ _ hx.ok.1 hy.ok.1) rfl trivial ?_;rw [ae8 (show in64 (x.a+y.a) from hz.ok.1)];simp only [push_cast,↓reduceIte,reduceCtorEq,zB,zE,zA,zS,zL,zD,zM];refine ⟨by kernel_rfl,?_⟩;refine a5 (awo _ _ hx.ok.2 hy.ok.2) rfl trivial ?_;rw [ae8 (show in64 (x.b+y.b) from hz.ok.2)];simp only [push_cast,↓reduceIte,reduceCtorEq,zB,zE,zA,zS,zL,zD,zM];refine a5 (an9 _ _) rfl trivial ?_;simp only [Ei.v,Ei.rv,Ei.add,push_cast,↓reduceIte,reduceCtorEq,zB,zE,zA,zS,zL,zD,zM]
 refine alo rfl (by decide) ?_;simp only [aid,Ei.v,Ei.rv,push_cast,↓reduceIte,reduceCtorEq,zB,zE,zA,zS,zL,zD,zM];refine a9 (as':=[x.v,y.v,.fn (.func 176) []]) rfl ?_;refine a5 hs rfl trivial ?_;simp only [Ei.v,Ei.rv,Ei.add,push_cast,↓reduceIte,reduceCtorEq,zB,zE,zA,zS,zL,zD,zM]
theorem a8j (x y:Ei) (hx:x.In M63) (hy:y.In M63) (hz:(x.sub y).In M63):a7 P0 234 [x.v,y.v] [] (.tup [(x.sub y).v,bl true]) []:=by
 have hs:a7 P0 175 [x.v,y.v,.fn (.func 246) []] [] (.tup [(x.sub y).v,bl true]) []:=by
  refine yt rfl (by decide) ?_;simp only [xj,Ei.v,Ei.rv,push_cast,↓reduceIte,reduceCtorEq,zB,zE,zA,zS,zL,zD,zM];refine ⟨by kernel_rfl,?_⟩;refine a5 (ava _ _ hx.ok.1 hy.ok.1) rfl trivial ?_;rw [ae8 (show in64 (x.a-y.a) from hz.ok.1)];simp only [push_cast,↓reduceIte,reduceCtorEq,zB,zE,zA,zS,zL,zD,zM];refine ⟨by kernel_rfl,?_⟩;refine a5 (ava _ _ hx.ok.2 hy.ok.2) rfl trivial ?_;rw [ae8 (show in64 (x.b-y.b) from hz.ok.2)];simp only [push_cast,↓reduceIte,reduceCtorEq,zB,zE,zA,zS,zL,zD,zM];refine a5 (an9 _ _) rfl trivial ?_;simp only [Ei.v,Ei.rv,Ei.sub,push_cast,↓reduceIte,reduceCtorEq,zB,zE,zA,zS,zL,zD,zM]
 refine alm rfl (by decide) ?_;simp only [aia,Ei.v,Ei.rv,push_cast,↓reduceIte,reduceCtorEq,zB,zE,zA,zS,zL,zD,zM];refine a9 (as':=[x.v,y.v,.fn (.func 246) []]) rfl ?_;refine a5 hs rfl trivial ?_;simp only [Ei.v,Ei.rv,Ei.sub,push_cast,↓reduceIte,reduceCtorEq,zB,zE,zA,zS,zL,zD,zM]
theorem aup (x:Ei) (hx:x.In 4611686018427387903):a7 P0 195 [x.v] [] (.tup [x.conj.v,bl true]) []:=by
 refine ajj rfl (by decide) ?_;have h:=hx;unfold Ei.In at h;simp only [age,Ei.v,Ei.rv,push_cast,↓reduceIte,reduceCtorEq,zB,zE,zA,zS,zL,zD,zM];refine a5 (awo _ _ (by unfold in64; omega) (by unfold in64; omega)) rfl trivial ?_;rw [ae8 (by unfold in64; omega)];simp only [push_cast,↓reduceIte,reduceCtorEq,zB,zE,zA,zS,zL,zD,zM];refine a5 (a96 _ (by unfold in64; omega)) rfl trivial ?_;rw [ae8 (by unfold in64; omega)];simp only [push_cast,↓reduceIte,reduceCtorEq,zB,zE,zA,zS,zL,zD,zM];refine a5 (an9 _ _) rfl trivial ?_;simp only [Ei.v,Ei.rv,Ei.conj,push_cast,↓reduceIte,reduceCtorEq,zB,zE,zA,zS,zL,zD,zM]
theorem a9o:uni 0=⟨1,0⟩:=rfl
theorem a9n:uni 1=⟨0,1⟩:=rfl
theorem a9m:uni 2=⟨-1,1⟩:=rfl
theorem a9l:uni 3=⟨-1,0⟩:=rfl
theorem a9k:uni 4=⟨0,-1⟩:=rfl
theorem a9j:uni 5=⟨1,-1⟩:=rfl
theorem auo (k:Int) (hk:0≤k∧k<6):a7 P0 123 [int .i64 k] [] (uni k.toNat).v []:=by
 refine aji rfl (by decide) ?_
 have hm:(IntKind.i64.wrap (Int.tmod k 6+6)).tmod 6=k:=by
  rw [zcg hk.1,a6 (by omega),zcg (by omega)]; omega
 simp only [agd,hm,Ei.v,Ei.rv,push_cast,↓reduceIte,reduceCtorEq,zB,zE,zA,zS,zL,zD,zM];refine ⟨by decide,by decide,hk,by omega,?_⟩;rcases (show k=0∨k=1∨k=2∨k=3∨k=4∨k=5 by omega) with rfl | rfl | rfl | rfl | rfl | rfl
 all_goals
  simp only [Int.reduceToNat,Nat.zero_mul,Nat.add_zero,Nat.zero_add,a9o,a9n,a9m,a9l,a9k,a9j,push_cast,↓reduceIte,reduceCtorEq,zB,zE,zA,zS,zL,zD,zM]
  first | done | trace_state
theorem wm (a m:Int) (ha:in64 a) (hm:0≤m∧m≤4611686018427387904):a7 P0 178 [int .i64 a,int .i64 m] [] (bl (decide (-m≤a∧a≤m))) []:=by
 refine aje rfl (by decide) ?_;simp only [af9,push_cast,↓reduceIte,reduceCtorEq,zB,zE,zA,zS,zL,zD,zM];rw [show IntKind.i64.wrap (0-m)=-m by rw [a6 (by omega)]; omega];refine jd ?_;by_cases h1:-m≤a<;>by_cases h2:a≤m<;>by_cases h3:a=-9223372036854775808<;>simp [h1,h2,h3]
 all_goals omega
theorem ao4 (k:Int) (hk:0≤k∧k≤12):a7 P0 125 [int .i64 k] [] (.tup [(b9 k.toNat).v,bl true]) []:=by
 refine ajk rfl (by decide) ?_;have c1:decide (k<0)=false:=by simp; omega
 have c2:decide (k>20)=false:=by simp; omega
 simp only [agf,c1,c2,push_cast,↓reduceIte,reduceCtorEq,zB,zE,zA,zS,zL,zD,zM]
 refine run_loop [(14,false),(15,false),(2,false),(3,false),(4,false),(5,false)] (fun vs pos los=>∃i:Int,0≤i∧i≤k∧vs=[int .i64 k,int .i64 i,.ptr 2000000 0 0,bl false,.ptr 2000001 0 0,bl true]∧pos=[]∧los=[.box [int .i64 0,int .i64 0],.box [int .i64 (b9 i.toNat).a,int .i64 (b9 i.toNat).b]])
  (fun vs _ _=>match vs with | [_,.r (.v (.int _ j)),_,_,_,_]=>(k-j).toNat | _=>0) rfl ?_ ?_
 ·simp only [push_cast,↓reduceIte,reduceCtorEq,zB,zE,zA,zS,zL,zD,zM];exact ⟨0,by omega,by omega,rfl,rfl⟩
 ·rintro vs pos los ⟨i,i0,ik,rfl,rfl,rfl⟩;simp only [push_cast,↓reduceIte,reduceCtorEq,zB,zE,zA,zS,zL,zD,zM];refine b6 (fun h=>?_) (fun h=>?_)
  ·simp only [decide_eq_true_eq] at h;simp only [push_cast,↓reduceIte,reduceCtorEq,zB,zE,zA,zS,zL,zD,zM];have h1:=xo i.toNat (by omega);have h2:=xo (i.toNat+1) (by omega);refine a9 (as':=[(b9 i.toNat).v,ca.v]) rfl ?_;refine a5 (abx _ _ (h1.mono (by decide)) (by unfold Ei.In; decide) (h2.mono (by decide))) rfl trivial ?_;simp only [Ei.v,Ei.rv,push_cast,↓reduceIte,reduceCtorEq,zB,zE,zA,zS,zL,zD,zM];rw [show IntKind.i64.wrap (i+1)=i+1 from a6 (by omega)];refine ⟨⟨i+1,by omega,by omega,rfl,?_⟩,by omega⟩;rw [show (i+1).toNat=i.toNat+1 by omega]
   rfl
  ·simp only [decide_eq_false_iff_not] at h;have:i=k:=by omega
   subst this;simp only [Ei.v,Ei.rv,push_cast,↓reduceIte,reduceCtorEq,zB,zE,zA,zS,zL,zD,zM]

def pkN (d a b:Int) (i:Nat):Int×Ei:=(yg.take i).foldl (pk d a b) (0,⟨0,0⟩)
theorem arn (d a b:Int) (i:Nat) (z:Ei) (h:yg[i]?=some z):pkN d a b (i+1)=pk d a b (pkN d a b i) z:=by
 unfold pkN;rw [List.take_add_one,h];simp
theorem a41 {d a b:Int} (ha:0≤a∧a<d) (hb:0≤b∧b<d):(pkN d a b 3).2=lz d a b:=ath ha hb
theorem ax6 (d a b:Int):∀i,(0≤(pkN d a b i).2.a∧(pkN d a b i).2.a≤1)∧(0≤(pkN d a b i).2.b∧(pkN d a b i).2.b≤1)
 | 0=>by simp [pkN]
 | i+1=>by
  have ih:=ax6 d a b i;rcases h:yg[i]? with _ | z
  ·have:pkN d a b (i+1)=pkN d a b i:=by unfold pkN; rw [List.take_add_one,h]; simp
   rw [this]; exact ih
  ·rw [arn d a b i z h];unfold pk;split
   ·have:z∈yg:=List.mem_of_getElem? h;simp [yg] at this;rcases this with rfl | rfl | rfl<;>simp
   ·exact ih
theorem azb {a d n:Int} (h:-n≤a∧a≤n) (hd:1≤d):-n≤a/d∧a/d≤n:=by
 have h1:=zce a d;have h5:=zbw a (show 0<d by omega);have h6:=zbx a (show d≠0 by omega);generalize a/d=q at *;generalize a%d=r at *;constructor
 ·rcases zbz q 0 with hq | hq
  ·have:d*(q+1)≤1*(q+1):=Int.mul_le_mul_of_nonpos_right (by omega) (by omega);rw [zca] at this;omega
  ·omega
 ·rcases zbz q 0 with hq | hq
  ·omega
  ·have:1*q≤d*q:=Int.mul_le_mul_of_nonneg_right (by omega) hq;omega
theorem asp (u:Ei) (d:Int) (hu:u.In 1152921504606846976) (hd:1≤d∧d≤1125899906842624):a7 P0 197 [u.v,int .i64 d] [] (.tup [(u.round d).v,bl true]) []:=by
 refine aib rfl (by decide) ?_;have hu':=hu;unfold Ei.In at hu';have c1:decide (d<1)=false:=by simp; omega
 have c2:decide (d>1125899906842624)=false:=by simp; omega
 have ia:in64 u.a:=by unfold in64; omega
 have ib:in64 u.b:=by unfold in64; omega
 have ed:in64 d:=by unfold in64; omega
 simp only [aet,Ei.v,Ei.rv,c1,c2,push_cast,↓reduceIte,reduceCtorEq,zB,zE,zA,zS,zL,zD,zM];refine a5 (wm _ _ ia (by decide)) rfl trivial ?_;rw [show decide (-1152921504606846976≤u.a∧u.a≤1152921504606846976)=true from decide_eq_true hu'.1];simp only [push_cast,↓reduceIte,reduceCtorEq,zB,zE,zA,zS,zL,zD,zM];refine a5 (wm _ _ ib (by decide)) rfl trivial ?_;rw [show decide (-1152921504606846976≤u.b∧u.b≤1152921504606846976)=true from decide_eq_true hu'.2];simp only [push_cast,↓reduceIte,reduceCtorEq,zB,zE,zA,zS,zL,zD,zM];refine a5 (li _ _ ia ed) rfl trivial ?_;have hd0:0<d:=by omega
 simp only [hd0,push_cast,↓reduceIte,reduceCtorEq,zB,zE,zA,zS,zL,zD,zM];refine a5 (li _ _ ib ed) rfl trivial ?_;simp only [hd0,push_cast,↓reduceIte,reduceCtorEq,zB,zE,zA,zS,zL,zD,zM];have ha:0≤u.a%d∧u.a%d<d:=⟨zbx _ (by omega),zbw _ hd0⟩
 have hb:0≤u.b%d∧u.b%d<d:=⟨zbx _ (by omega),zbw _ hd0⟩
 have hqa:-1152921504606846976≤u.a/d∧u.a/d≤1152921504606846976:=azb hu'.1 hd.1;have hqb:-1152921504606846976≤u.b/d∧u.b/d≤1152921504606846976:=azb hu'.2 hd.1;generalize hA:u.a%d=a at *;generalize hB:u.b%d=b at *;generalize hQa:u.a/d=qa at *;generalize hQb:u.b/d=qb at *;refine ⟨by simp,?_⟩
 refine run_loop [(57,false),(58,false),(59,false),(1,false),(4,false),(5,false),(6,false),(7,false),(9,false),(10,false),(12,false),(13,false)] (fun vs pos los=>∃i:Nat,i≤3∧vs=[.own 2000000 0 0 3,int .i64 3,int .i64 i,int .i64 d,.ptr 2000001 0 0,bl false,int .i64 qa,int .i64 a,int .i64 qb,int .i64 b,int .i64 (pkN d a b i).1,.ptr 2000002 0 0]∧pos=[] ∧
   los=[.row 2 (Ei.rv ⟨0,0⟩) true true (yg.map Ei.rv),.box [int .i64 0,int .i64 0],.box [int .i64 (pkN d a b i).2.a,int .i64 (pkN d a b i).2.b]])
  (fun vs _ _=>match vs with | _::_ :: .r (.v (.int _ j))::_=>(3-j).toNat | _=>0) rfl ?_ ?_
 ·simp only [push_cast,↓reduceIte,reduceCtorEq,zB,zE,zA,zS,zL,zD,zM];exact ⟨0,by omega,rfl,rfl⟩
 ·rintro vs pos los ⟨i,i3,rfl,rfl,rfl⟩;simp only [push_cast,↓reduceIte,reduceCtorEq,zB,zE,zA,zS,zL,zD,zM];refine b6 (fun h=>?_) (fun h=>?_)
  ·have hi:i=0∨i=1∨i=2:=by simp at h; omega
   obtain ⟨z,hz,hzz⟩:∃z,yg[i]?=some z∧((z=⟨0,1⟩∨z=⟨1,0⟩∨z=⟨1,1⟩)):=by
    rcases hi with rfl | rfl | rfl
    ·exact ⟨_,rfl,by simp⟩
    ·exact ⟨_,rfl,by simp⟩
    ·exact ⟨_,rfl,by simp⟩
   have hg:(List.map Ei.rv yg).getD i (Ei.rv ⟨0,0⟩)=.agg [.v (.int .i64 z.a),.v (.int .i64 z.b)]:=by
    rw [List.getD_eq_getElem?_getD,List.getElem?_map,hz]; rfl
   have hn:(IntKind.i64.wrap (IntKind.i64.wrap (IntKind.i64.wrap (z.a*z.a)+IntKind.i64.wrap (z.a*z.b))+IntKind.i64.wrap (z.b*z.b)))=z.a*z.a+z.a*z.b+z.b*z.b:=by
    rcases hzz with rfl | rfl | rfl<;>decide
   have hf:IntKind.i64.wrap (IntKind.i64.wrap (IntKind.i64.wrap (d*(z.a*z.a+z.a*z.b+z.b*z.b))-IntKind.i64.wrap (z.a*IntKind.i64.wrap (IntKind.i64.wrap (2*a)+b)))-IntKind.i64.wrap (z.b*IntKind.i64.wrap (a+IntKind.i64.wrap (2*b))))=fr d a b z:=by
    rw [show IntKind.i64.wrap (2*a)=2*a from a6 (by omega),show IntKind.i64.wrap (2*b)=2*b from a6 (by omega),show IntKind.i64.wrap (2*a+b)=2*a+b from a6 (by omega),show IntKind.i64.wrap (a+2*b)=a+2*b from a6 (by omega)];rcases hzz with rfl | rfl | rfl<;>simp only [fr,Int.zero_mul,Int.mul_zero,Int.one_mul,Int.mul_one,Int.add_zero,Int.zero_add,IntKind.wrap_i64]<;>omega
   have hs:=arn d a b i z hz;simp only [Int.toNat_natCast,Nat.zero_add,hg,hn,hf,push_cast,↓reduceIte,reduceCtorEq,zB,zE,zA,zS,zL,zD,zM];refine ⟨by omega,?_⟩;refine b6 (fun h'=>?_) (fun h'=>?_)
   ·simp only [decide_eq_true_eq] at h';simp only [push_cast,↓reduceIte,reduceCtorEq,zB,zE,zA,zS,zL,zD,zM];refine ⟨by kernel_rfl,?_⟩;rw [show IntKind.i64.wrap (i+1)=i+1 from a6 (by omega)];refine ⟨⟨i+1,by omega,?_,?_⟩,by omega⟩
    ·rw [hs,pk,if_pos h']<;>rfl
    ·rw [hs,pk,if_pos h']<;>rfl
   ·simp only [decide_eq_false_iff_not] at h';simp only [push_cast,↓reduceIte,reduceCtorEq,zB,zE,zA,zS,zL,zD,zM];rw [show IntKind.i64.wrap (i+1)=i+1 from a6 (by omega)];refine ⟨⟨i+1,by omega,?_,?_⟩,by omega⟩
    ·rw [hs,pk,if_neg h']<;>rfl
    ·rw [hs,pk,if_neg h']<;>rfl
  ·have:i=3:=by simp at h; omega
   subst this;simp only [push_cast,↓reduceIte,reduceCtorEq,zB,zE,zA,zS,zL,zD,zM];have hN:=ax6 d a b 3;rw [a6 (by omega),a6 (by omega),a41 ha hb,← hQa,← hQb,← hA,← hB]
   rfl

noncomputable def aei:PC:=
  (.seq (.reg [p_s 2 (.mov (.c (.r (.v (.bool false)))))])
 (.seq (.reg [p_m 3 0,p_s 4 (.bin .geq (.t 3) (o_i 0)),p_m 5 4,p_g 6 5 true (.mov (.t 0)),p_g 7 5 true (.bin .leq (.t 6) (o_i 12)),p_s 8 (.pick (.t 5) (.t 7) (.c (.r (.v (.bool false))))),
 p_m 2 8])
 .ret))
theorem ahi:Fun P0 177 1 [(2,false,none)] aei:=b5 Go.Proofs.Tryz.func177 rfl (by decide) (by kernel_rfl) (by decide) rfl (by kernel_rfl) (by kernel_rfl) (by decide)
noncomputable def ajw:PC:=
  (.seq (.reg [p_s 4 (.mov (.c (.r (.v (.bool false)))))])
 (.seq (.reg [p_m 5 0,p_s 6 (.bin .geq (.t 5) (o_i 0)),p_m 7 6,p_g 8 7 true (.mov (.t 0)),p_g 9 7 true (.bin .lss (.t 8) (o_i 1073741824)),p_s 10 (.pick (.t 7) (.t 9) (.c (.r (.v (.bool false))))),
 p_m 11 10,p_g 12 11 true (.mov (.t 1)),p_g 13 11 true (.bin .geq (.t 12) (o_i 0)),p_s 14 (.pick (.t 11) (.t 13) (.c (.r (.v (.bool false))))),p_m 15 14,p_g 16 15 true (.mov (.t 1)),
 p_g 17 15 true (.bin .lss (.t 16) (o_i 1073741824)),p_s 18 (.pick (.t 15) (.t 17) (.c (.r (.v (.bool false))))),p_m 4 18])
 .ret))
theorem amr:Fun P0 160 2 [(4,false,none)] ajw:=b5 Go.Proofs.Tryz.func160 rfl (by decide) (by kernel_rfl) (by decide) rfl (by kernel_rfl) (by kernel_rfl) (by decide)
noncomputable def aek:PC:=
  (.seq (.reg [p_a 4 (.new [(.r (.v (.int .i64 0))),(.r (.v (.int .i64 0)))]),p_s 5 (.mov (.c (.r (.v (.bool false)))))])
 (.seq (.seq (.reg [p_m 6 0,p_m 7 1,p_c 8 1 160 [.t 6,.t 7],p_s 9 (.un .not (.t 8))])
 (.cond (.t 9)
 (.seq (.reg [p_s 10 (.build [(.r (.v (.int .i64 0))),(.r (.v (.int .i64 0)))] []),⟨none,none,0,.act (.st 2 (.t 4) (.t 10))⟩,p_s 5 (.mov (.c (.r (.v (.bool false)))))])
 .ret)
 .skip))
 (.seq (.reg [p_m 11 0,p_s 12 (.bin .mul (o_i 45) (.t 11)),p_m 13 1,p_s 14 (.bin .mul (o_i 26) (.t 13)),p_s 15 (.bin .sub (.t 12) (.t 14)),p_m 16 1,p_s 17 (.bin .mul (o_i 52) (.t 16)),
 p_s 18 (.build [(.r (.v (.int .i64 0))),(.r (.v (.int .i64 0)))] [(0,1,(.t 15)),(1,1,(.t 17))]),⟨none,none,0,.act (.st 2 (.t 4) (.t 18))⟩,p_s 5 (.mov (.c (.r (.v (.bool true)))))])
 .ret)))
theorem ahl:Fun P0 194 2 [(4,false,some (101,(some 2))),(5,false,none)] aek:=b5 Go.Proofs.Tryz.func194 rfl (by decide) (by kernel_rfl) (by decide) rfl (by kernel_rfl) (by kernel_rfl) (by decide)
noncomputable def af8:PC:=
  (.seq (.reg [p_a 6 (.new [(.r (.v (.int .i64 0))),(.r (.v (.int .i64 0)))]),p_s 7 (.mov (.c (.r (.v (.bool false)))))])
 (.seq (.reg [p_m 19 0,p_m 20 1,p_c 21 1 194 [.t 19,.t 20],p_m 18 21,p_s 22 (.ext (.t 18) 0),p_s 23 (.ext (.t 18) 1),p_a 8 (.new [(.r (.v (.int .i64 0))),(.r (.v (.int .i64 0)))]),
 ⟨none,none,0,.act (.st 2 (.t 8) (.t 22))⟩,p_m 9 23])
 (.seq (.seq (.reg [p_m 24 9,p_s 25 (.un .not (.t 24)),p_m 26 25,p_g 27 26 false (.mov (.t 2)),⟨(some 28),(some (26,false)),2,.call 177 [(.t 27)]⟩,p_g 29 26 false (.un .not (.t 28)),
 p_s 30 (.pick (.t 26) (.c (.r (.v (.bool true)))) (.t 29))])
 (.cond (.t 30)
 (.seq (.reg [p_s 31 (.build [(.r (.v (.int .i64 0))),(.r (.v (.int .i64 0)))] []),⟨none,none,0,.act (.st 2 (.t 6) (.t 31))⟩,p_s 7 (.mov (.c (.r (.v (.bool false)))))])
 .ret)
 .skip))
 (.seq (.reg [p_m 33 2,p_s 34 (.bin .sub (o_i 12) (.t 33)),p_c 35 3 125 [.t 34],p_m 32 35,p_s 36 (.ext (.t 32) 0),p_s 37 (.ext (.t 32) 1),p_a 10 (.new [(.r (.v (.int .i64 0))),(.r (.v (.int .i64 0)))]),
 ⟨none,none,0,.act (.st 2 (.t 10) (.t 36))⟩,p_m 11 37])
 (.seq (.reg [p_s 39 (.ld (some 2) (.t 10)),p_c 40 4 195 [.t 39],p_m 38 40,p_s 41 (.ext (.t 38) 0),p_s 42 (.ext (.t 38) 1),p_a 12 (.new [(.r (.v (.int .i64 0))),(.r (.v (.int .i64 0)))]),
 ⟨none,none,0,.act (.st 2 (.t 12) (.t 41))⟩,p_m 13 42])
 (.seq (.reg [p_m 44 2,p_s 45 (.bin .sub (o_i 12) (.t 44)),p_c 46 5 196 [(o_i 7),(.t 45)],p_m 43 46,p_s 47 (.ext (.t 43) 0),p_s 48 (.ext (.t 43) 1),p_m 14 47,p_m 15 48])
 (.seq (.reg [p_s 50 (.ld (some 2) (.t 8)),p_s 51 (.ld (some 2) (.t 12)),p_c 52 6 121 [.t 50,.t 51],p_m 49 52,p_s 53 (.ext (.t 49) 0),p_s 54 (.ext (.t 49) 1),p_a 16 (.new [(.r (.v (.int .i64 0))),(.r (.v (.int .i64 0)))]),
 ⟨none,none,0,.act (.st 2 (.t 16) (.t 53))⟩,p_m 17 54])
 (.seq (.reg [p_s 55 (.ld (some 2) (.t 16)),p_m 56 14,p_s 57 (.bin .mul (o_i 2340) (.t 56)),p_c 58 7 197 [.t 55,.t 57],p_s 59 (.ext (.t 58) 0),p_s 60 (.ext (.t 58) 1),⟨none,none,0,.act (.st 2 (.t 6) (.t 59))⟩,
 p_m 7 60])
 .ret))))))))
theorem ajd:Fun P0 161 3 [(6,false,some (101,(some 2))),(7,false,none)] af8:=b5 Go.Proofs.Tryz.func161 rfl (by decide) (by kernel_rfl) (by decide) rfl (by kernel_rfl) (by kernel_rfl) (by decide)
noncomputable def aeh:PC:=
  (.seq (.reg [p_a 3 (.box (.t 0)),p_a 6 (.new [(.r (.v (.int .i64 0))),(.r (.v (.int .i64 0)))]),p_s 7 (.mov (.c (.r (.v (.bool false)))))])
 (.seq (.seq (.reg [p_m 10 1,p_c 11 1 177 [.t 10],p_s 12 (.un .not (.t 11)),p_m 13 12,p_g 14 13 false (.fa 0 (.t 3)),p_g 15 13 false (.ld none (.t 14)),⟨(some 16),(some (13,false)),2,.call 178 [(.t 15),(o_i 1073741824)]⟩,
 p_g 17 13 false (.un .not (.t 16)),p_s 18 (.pick (.t 13) (.c (.r (.v (.bool true)))) (.t 17)),p_m 19 18,p_g 20 19 false (.fa 1 (.t 3)),p_g 21 19 false (.ld none (.t 20)),
 ⟨(some 22),(some (19,false)),3,.call 178 [(.t 21),(o_i 1073741824)]⟩,p_g 23 19 false (.un .not (.t 22)),p_s 24 (.pick (.t 19) (.c (.r (.v (.bool true)))) (.t 23))])
 (.cond (.t 24)
 (.seq (.reg [p_s 25 (.build [(.r (.v (.int .i64 0))),(.r (.v (.int .i64 0)))] []),⟨none,none,0,.act (.st 2 (.t 6) (.t 25))⟩,p_s 7 (.mov (.c (.r (.v (.bool false)))))])
 .ret)
 .skip))
 (.seq (.reg [p_m 27 1,p_s 28 (.bin .sub (o_i 12) (.t 27)),p_c 29 4 125 [.t 28],p_m 26 29,p_s 30 (.ext (.t 26) 0),p_s 31 (.ext (.t 26) 1),p_a 8 (.new [(.r (.v (.int .i64 0))),(.r (.v (.int .i64 0)))]),
 ⟨none,none,0,.act (.st 2 (.t 8) (.t 30))⟩,p_m 9 31])
 (.seq (.reg [p_s 32 (.ld (some 2) (.t 8)),p_m 33 2,p_s 34 (.fa 0 (.t 3)),p_s 35 (.ld none (.t 34)),p_s 36 (.bin .mul (.t 33) (.t 35)),p_m 37 2,p_s 38 (.fa 1 (.t 3)),p_s 39 (.ld none (.t 38)),
 p_s 40 (.bin .mul (.t 37) (.t 39)),p_s 41 (.build [(.r (.v (.int .i64 0))),(.r (.v (.int .i64 0)))] [(0,1,(.t 36)),(1,1,(.t 40))]),p_c 42 5 121 [.t 32,.t 41],
 p_s 43 (.ext (.t 42) 0),p_s 44 (.ext (.t 42) 1),⟨none,none,0,.act (.st 2 (.t 6) (.t 43))⟩,p_m 7 44])
 .ret))))
theorem ahh:Fun P0 124 3 [(6,false,some (101,(some 2))),(7,false,none)] aeh:=b5 Go.Proofs.Tryz.func124 rfl (by decide) (by kernel_rfl) (by decide) rfl (by kernel_rfl) (by kernel_rfl) (by decide)
noncomputable def af7:PC:=
  (.seq (.reg [p_a 1 (.box (.t 0)),p_a 2 (.new [(.r (.v (.int .i64 0))),(.r (.v (.int .i64 0)))])])
 (.seq (.reg [p_s 3 (.fa 0 (.t 1)),p_s 4 (.ld none (.t 3)),p_s 5 (.bin .mul (o_i 52) (.t 4)),p_s 6 (.fa 1 (.t 1)),p_s 7 (.ld none (.t 6)),p_s 8 (.bin .mul (o_i 26) (.t 7)),
 p_s 9 (.bin .add (.t 5) (.t 8)),p_s 10 (.fa 1 (.t 1)),p_s 11 (.ld none (.t 10)),p_s 12 (.bin .mul (o_i 45) (.t 11)),p_s 13 (.build [(.r (.v (.int .i64 0))),(.r (.v (.int .i64 0)))] [(0,1,(.t 9)),(1,1,(.t 12))]),
 ⟨none,none,0,.act (.st 2 (.t 2) (.t 13))⟩])
 .ret))
theorem ajc:Fun P0 179 1 [(2,false,some (26,(some 2)))] af7:=b5 Go.Proofs.Tryz.func179 rfl (by decide) (by kernel_rfl) (by decide) rfl (by kernel_rfl) (by kernel_rfl) (by decide)
noncomputable def qh:PC:=
  (.seq (.reg [p_a 2 (.box (.t 0)),p_a 3 (.box (.t 1)),p_a 4 (.new [(.r (.v (.int .i64 0))),(.r (.v (.int .i64 0)))])])
 (.seq (.reg [p_s 10 (.fa 2 (.t 2)),p_s 11 (.ld (some 2) (.t 10)),p_s 12 (.ld (some 2) (.t 3)),p_c 13 1 121 [.t 11,.t 12],p_m 9 13,p_s 14 (.ext (.t 9) 0),p_s 15 (.ext (.t 9) 1),
 p_a 5 (.new [(.r (.v (.int .i64 0))),(.r (.v (.int .i64 0)))]),⟨none,none,0,.act (.st 2 (.t 5) (.t 14))⟩,p_m 6 15])
 (.seq (.reg [p_s 17 (.fa 0 (.t 2)),p_s 18 (.ld (some 2) (.t 17)),p_s 19 (.ld (some 2) (.t 5)),p_c 20 2 122 [.t 18,.t 19],p_m 16 20,p_s 21 (.ext (.t 16) 0),p_s 22 (.ext (.t 16) 1),
 p_a 7 (.new [(.r (.v (.int .i64 0))),(.r (.v (.int .i64 0)))]),⟨none,none,0,.act (.st 2 (.t 7) (.t 21))⟩,p_m 8 22])
 (.seq (.reg [p_s 23 (.ld (some 2) (.t 7)),p_c 24 3 179 [.t 23],⟨none,none,0,.act (.st 2 (.t 4) (.t 24))⟩])
 .ret))))
theorem zm:Fun P0 126 2 [(4,false,some (26,(some 2)))] qh:=b5 Go.Proofs.Tryz.func126 rfl (by decide) (by kernel_rfl) (by decide) rfl (by kernel_rfl) (by kernel_rfl) (by decide)
noncomputable def ahk:PC:=
  (.seq (.reg [p_a 2 (.box (.t 0)),p_s 4 (.mov (.c (.nils 2 (.agg [(.v (.int .i64 0)),(.v (.int .i64 0))])))),p_s 5 (.mov (.c (.r (.v (.bool false)))))])
 (.seq (.reg [p_s 15 (.ld (some 2) (.t 2)),p_m 16 1,p_c 17 1 124 [(.t 15),(.t 16),(o_i 3)],p_m 14 17,p_s 18 (.ext (.t 14) 0),p_s 19 (.ext (.t 14) 1),p_a 6 (.new [(.r (.v (.int .i64 0))),(.r (.v (.int .i64 0)))]),
 ⟨none,none,0,.act (.st 2 (.t 6) (.t 18))⟩,p_m 7 19])
 (.seq (.seq (.reg [p_m 20 7,p_s 21 (.un .not (.t 20))])
 (.cond (.t 21)
 (.seq (.reg [p_s 4 (.mov (.c (.nils 2 (.agg [(.v (.int .i64 0)),(.v (.int .i64 0))])))),p_s 5 (.mov (.c (.r (.v (.bool false)))))])
 .ret)
 .skip))
 (.seq (.reg [p_m 23 1,p_s 24 (.bin .sub (o_i 12) (.t 23)),p_c 25 2 125 [.t 24],p_m 22 25,p_s 26 (.ext (.t 22) 0),p_s 27 (.ext (.t 22) 1),p_a 8 (.new [(.r (.v (.int .i64 0))),(.r (.v (.int .i64 0)))]),
 ⟨none,none,0,.act (.st 2 (.t 8) (.t 26))⟩,p_m 9 27])
 (.seq (.reg [p_s 28 (.ld (some 2) (.t 6)),p_s 29 (.ld (some 2) (.t 8)),p_s 30 (.build [(.r (.v (.int .i64 0))),(.r (.v (.int .i64 0))),(.r (.v (.int .i64 0))),(.r (.v (.int .i64 0)))] [(0,2,(.t 28)),(2,2,(.t 29))]),
 p_s 31 (.mkf (.func 126) [(.t 30)] 1),p_m 10 31])
 (.seq (.reg [p_s 11 (.mov (.c (.nils 2 (.agg [(.v (.int .i64 0)),(.v (.int .i64 0))]))))])
 (.seq (.seq (.reg [p_s 32 (.build [(.r (.v (.int .i64 0))),(.r (.v (.int .i64 0)))] [(0,1,(o_i 1)),(1,1,(o_i 1))]),p_s 33 (.build [(.r (.v (.int .i64 0))),(.r (.v (.int .i64 0)))] [(0,1,(o_i (-1))),(1,1,(o_i 2))]),
 p_s 34 (.build [(.r (.v (.int .i64 0))),(.r (.v (.int .i64 0)))] [(0,1,(o_i (-2))),(1,1,(o_i 1))]),p_s 35 (.build [(.r (.v (.int .i64 0))),(.r (.v (.int .i64 0)))] [(0,1,(o_i (-1))),(1,1,(o_i (-1)))]),
 p_s 36 (.build [(.r (.v (.int .i64 0))),(.r (.v (.int .i64 0)))] [(0,1,(o_i 1)),(1,1,(o_i (-2)))]),p_s 37 (.build [(.r (.v (.int .i64 0))),(.r (.v (.int .i64 0)))] [(0,1,(o_i 2)),(1,1,(o_i (-1)))]),
 p_a 38 (.bsl 2 (.agg [(.v (.int .i64 0)),(.v (.int .i64 0))]) [(.t 32),(.t 33),(.t 34),(.t 35),(.t 36),(.t 37)]),p_s 39 (.len false (.t 38)),p_s 40 (.mov (o_i 0))])
 (.block 0 (.loop (.seq (.reg [p_s 41 (.bin .lss (.t 40) (.t 39))])
 (.seq (.cond (.t 41)
 .skip
 (.exit 0))
 (.seq (.block 1 (.seq (.reg [p_s 42 (.ia 2 (.agg [(.v (.int .i64 0)),(.v (.int .i64 0))]) (.t 38) (.t 40)),p_s 43 (.ld (some 2) (.t 42)),p_a 13 (.new [(.r (.v (.int .i64 0))),(.r (.v (.int .i64 0)))]),
 ⟨none,none,0,.act (.st 2 (.t 13) (.t 43))⟩])
 (.reg [p_m 44 11,p_m 45 10,p_s 46 (.ld (some 2) (.t 13)),⟨(some 47),none,3,.callv (.t 45) [(.t 46)]⟩,p_a 48 (.bsl 2 (.agg [(.v (.int .i64 0)),(.v (.int .i64 0))]) [(.t 47)]),
 p_a 49 (.app 2 (.agg [(.v (.int .i64 0)),(.v (.int .i64 0))]) 16 (.t 44) (.t 48)),p_m 11 49])))
 (.reg [p_s 50 (.bin .add (.t 40) (o_i 1)),p_m 40 50])))))))
 (.seq (.reg [p_m 51 11,p_m 4 51,p_s 5 (.mov (.c (.r (.v (.bool true)))))])
 .ret))))))))
theorem ak4:Fun P0 73 2 [(4,false,none),(5,false,none)] ahk:=b5 Go.Proofs.Tryz.func73 rfl (by decide) (by kernel_rfl) (by decide) rfl (by kernel_rfl) (by kernel_rfl) (by decide)
theorem p2 (n:Nat) (h:n≤36):1≤(2:Int)^n∧(2:Int)^n≤68719476736:=by
 have h1:2^n≤2^36:=Nat.pow_le_pow_right (by decide) h;have h2:1≤2^n:=Nat.one_le_two_pow;have h3:((2^n:Nat):Int)=(2:Int)^n:=by simp
 omega
theorem p7 (n:Nat) (h:n≤12):1≤(7:Int)^n∧(7:Int)^n≤13841287201:=by
 have h1:7^n≤7^12:=Nat.pow_le_pow_right (by decide) h;have h2:1≤7^n:=Nat.one_le_pow _ _ (by decide);have h3:((7^n:Nat):Int)=(7:Int)^n:=by simp
 omega
theorem a0j (z:Int) (h0:0≤z) (h1:z≤36):IntKind.i64.wrap (1*2^min (IntKind.u64.wrap z).toNat IntKind.i64.bits)=2^z.toNat:=by
 have hp:=p2 z.toNat (by omega);rw [IntKind.wrap_u64,show (z%18446744073709551616).toNat=z.toNat by omega,show min z.toNat IntKind.i64.bits=z.toNat from Nat.min_eq_left (by simp [IntKind.bits]; omega),Int.one_mul,a6 (by omega)]
theorem aov (r:Int):a7 P0 177 [int .i64 r] [] (bl (decide (0≤r∧r≤12))) []:=by
 refine ahi rfl (by decide) ?_;simp only [aei,push_cast,↓reduceIte,reduceCtorEq,zB,zE,zA,zS,zL,zD,zM];refine jd ?_;simp
theorem aem {x y:Ei} {n m:Int} (hx:x.In n) (hy:y.In m):(x.mul y).In (3*(n*m)):=by
 have h1:=cb hx.1 hy.1;have h2:=cb hx.1 hy.2;have h3:=cb hx.2 hy.1;have h4:=cb hx.2 hy.2;unfold Ei.In Ei.mul;dsimp only;generalize n*m=q at *;omega
theorem auu {x:Ei} {n:Int} (hx:x.In n):x.conj.In (2*n):=by
 unfold Ei.In Ei.conj at *;dsimp only;omega
def inW (x y:Int):Prop:=(0≤x∧x<1073741824)∧(0≤y∧y<1073741824)
instance (x y:Int):Decidable (inW x y):=inferInstanceAs (Decidable (_∧_))
theorem a3c {x y:Int} (h:inW x y):(ax x y).In 60000000000:=by
 unfold inW at h;unfold ax Ei.In;dsimp only;omega
theorem a89 {x y:Int} (h:inW x y) {k:Nat} (hk:k≤12):((ax x y).mul (b9 k).conj).In 43200000000000000:=
 (aem (a3c h) (auu (xo k hk))).mono (by decide)
theorem a2x (x y:Int):a7 P0 160 [int .i64 x,int .i64 y] [] (bl (decide (inW x y))) []:=by
 refine amr rfl (by decide) ?_;simp only [ajw,push_cast,↓reduceIte,reduceCtorEq,zB,zE,zA,zS,zL,zD,zM]
 repeat refine And.intro (by simp +contextual) ?_
 refine jd ?_;unfold inW;by_cases h1:0≤x<;>by_cases h2:x<1073741824<;>by_cases h3:0≤y<;>by_cases h4:y<1073741824<;>simp [h1,h2,h3,h4]
theorem a51 (x y:Int) (h:inW x y):a7 P0 194 [int .i64 x,int .i64 y] [] (.tup [(ax x y).v,bl true]) []:=by
 refine ahl rfl (by decide) ?_;simp only [aek,push_cast,↓reduceIte,reduceCtorEq,zB,zE,zA,zS,zL,zD,zM];refine a5 (a2x x y) rfl trivial ?_;rw [decide_eq_true h];simp only [push_cast,↓reduceIte,reduceCtorEq,zB,zE,zA,zS,zL,zD,zM];unfold inW at h;rw [show IntKind.i64.wrap (45*x)=45*x from a6 (by omega),show IntKind.i64.wrap (26*y)=26*y from a6 (by omega),show IntKind.i64.wrap (52*y)=52*y from a6 (by omega),show IntKind.i64.wrap (45*x-26*y)=45*x-26*y from a6 (by omega)];simp only [ax,Ei.v,Ei.rv]
theorem a7t (x y r:Int) (h:inW x y) (hr:0≤r∧r≤12):a7 P0 161 [int .i64 x,int .i64 y,int .i64 r] [] (.tup [(c9 x y r.toNat).v,bl true]) []:=by
 refine ajd rfl (by decide) ?_;simp only [af8,push_cast,↓reduceIte,reduceCtorEq,zB,zE,zA,zS,zL,zD,zM];refine a5 (a51 x y h) rfl trivial ?_;simp only [Ei.v,Ei.rv,push_cast,↓reduceIte,reduceCtorEq,zB,zE,zA,zS,zL,zD,zM];refine a5 (aov r) rfl trivial ?_;rw [decide_eq_true hr];simp only [push_cast,↓reduceIte,reduceCtorEq,zB,zE,zA,zS,zL,zD,zM];have hk:(12-r).toNat=12-r.toNat:=by omega
 have hk2:(12-r).toNat≤12:=by omega
 rw [show IntKind.i64.wrap (12-r)=12-r from a6 (by omega)];refine a5 (ao4 (12-r) (by omega)) rfl trivial ?_;have hb:=xo (12-r).toNat hk2;simp only [Ei.v,Ei.rv,push_cast,↓reduceIte,reduceCtorEq,zB,zE,zA,zS,zL,zD,zM];refine a9 (as':=[(b9 (12-r).toNat).v]) rfl ?_;refine a5 (aup _ (hb.mono (by decide))) rfl trivial ?_;simp only [Ei.v,Ei.rv,push_cast,↓reduceIte,reduceCtorEq,zB,zE,zA,zS,zL,zD,zM];have hp:=p7 (12-r).toNat hk2;rw [show IntKind.i64.wrap (12-r)=12-r from a6 (by omega)];have ht:=a2w 7 (12-r) (by decide) (by unfold in64; omega);rw [if_neg (show ¬12-r<0 by omega),ae8 (by unfold in64; omega)] at ht;refine a5 ht rfl trivial ?_
 simp only [push_cast,↓reduceIte,reduceCtorEq,zB,zE,zA,zS,zL,zD,zM];have hm:=a89 h hk2;refine a9 (as':=[(ax x y).v,(b9 (12-r).toNat).conj.v]) rfl ?_;refine a5 (abx _ _ ((a3c h).mono (by decide)) ((auu hb).mono (by decide)) (hm.mono (by decide))) rfl trivial ?_;simp only [Ei.v,Ei.rv,push_cast,↓reduceIte,reduceCtorEq,zB,zE,zA,zS,zL,zD,zM];rw [show IntKind.i64.wrap (2340*7^(12-r).toNat)=2340*7^(12-r).toNat from a6 (by omega)];refine a9 (as':=[((ax x y).mul (b9 (12-r).toNat).conj).v,int .i64 (2340*7^(12-r).toNat)]) rfl ?_;refine a5 (asp _ _ (hm.mono (by decide)) (by omega)) rfl trivial ?_;simp only [Ei.v,Ei.rv,c9,hk,push_cast,↓reduceIte,reduceCtorEq,zB,zE,zA,zS,zL,zD,zM]

def vv (i:Nat):Ei:=match i with | 0=>⟨1,1⟩ | 1=>⟨-1,2⟩ | 2=>⟨-2,1⟩ | 3=>⟨-1,-1⟩ | 4=>⟨1,-2⟩ | _=>⟨2,-1⟩
def hc (z:Ei) (r i:Nat):Ei:=(b9 (12-r)).mul ⟨3*z.a+(vv i).a,3*z.b+(vv i).b⟩
def hx (z:Ei) (r i:Nat):Int:=52*(hc z r i).a+26*(hc z r i).b
def hy (z:Ei) (r i:Nat):Int:=45*(hc z r i).b
def cx (z:Ei) (r:Nat):Int:=52*((b9 (12-r)).mul z).a+26*((b9 (12-r)).mul z).b
def cy (z:Ei) (r:Nat):Int:=45*((b9 (12-r)).mul z).b
def kx (r i:Nat):Int:=52*((b9 (12-r)).mul (vv i)).a+26*((b9 (12-r)).mul (vv i)).b
def ky (r i:Nat):Int:=45*((b9 (12-r)).mul (vv i)).b
theorem bd (z:Ei) (r i:Nat):hx z r i=3*cx z r+kx r i:=by
 simp only [hx,cx,kx,hc,Ei.mul,zca,Int.mul_left_comm _ (3:Int)];omega
theorem ba (z:Ei) (r i:Nat):hy z r i=3*cy z r+ky r i:=by
 simp only [hy,cy,ky,hc,Ei.mul,zca,Int.mul_left_comm _ (3:Int)];omega
def crs (z:Ei) (r i j:Nat) (x y:Int):Int:=(kx r j-kx r i)*(y-hy z r i)-(ky r j-ky r i)*(x-hx z r i)
theorem ar9 (r i:Nat) (hr:r≤12) (hi:i<6):(-100000000≤kx r i∧kx r i≤100000000)∧(-100000000≤ky r i∧ky r i≤100000000):=by
 have:∀j:Fin 13,∀i:Fin 6,(-100000000≤kx j.val i.val∧kx j.val i.val≤100000000)∧(-100000000≤ky j.val i.val∧ky j.val i.val≤100000000):=by decide +kernel
 exact this ⟨r,by omega⟩ ⟨i,hi⟩
def qe (x y:Int) (z:Ei) (r:Nat):Prop:=
 ((-50000000≤cx z r-x∧cx z r-x≤50000000)∧(-50000000≤cy z r-y∧cy z r-y≤50000000)) ∧
 (∀i,i<6→0≤crs z r i ((i+1)%6) (3*x) (3*y)) ∧
 (∃i,i<6∧hx z r i≤3*x)∧(∃i,i<6∧3*x≤hx z r i)∧(∃i,i<6∧hy z r i≤3*y)∧(∃i,i<6∧3*y≤hy z r i)
theorem lt6 {i:Nat} (h:i<6):i=0∨i=1∨i=2∨i=3∨i=4∨i=5:=by omega
theorem baj (x y:Int):qe x y (c9 x y 0) 0:=by
 have h:=f8 ((ax x y).mul (b9 (12-0)).conj) (d:=2340*7^(12-0)) (by decide);have e:(b9 (12-0)).conj=⟨-128231,102960⟩:=by decide
 have ed:(2340*7^(12-0):Int)=32388612050340:=by decide
 have eb:b9 (12-0)=⟨-25271,-102960⟩:=by decide
 unfold c9;generalize Ei.round _ _=q at *;rw [e,ed] at h;have ex:cx q 0=52*(-25271*q.a - -102960*q.b)+26*(-25271*q.b + -102960*q.a + -102960*q.b):=by simp only [cx,eb,Ei.mul]
 have ey:cy q 0=45*(-25271*q.b + -102960*q.a + -102960*q.b):=by simp only [cy,eb,Ei.mul]
 have x0:kx 0 0=-1971138:=by decide
 have y0:ky 0 0=-10403595:=by decide
 have x1:kx 0 1=8030880:=by decide
 have y1:ky 0 1=-6907590:=by decide
 have x2:kx 0 2=10002018:=by decide
 have y2:ky 0 2=3496005:=by decide
 have x3:kx 0 3=1971138:=by decide
 have y3:ky 0 3=10403595:=by decide
 have x4:kx 0 4=-8030880:=by decide
 have y4:ky 0 4=6907590:=by decide
 have x5:kx 0 5=-10002018:=by decide
 have y5:ky 0 5=-3496005:=by decide
 unfold g8 at h;simp only [Ei.mul,ax] at h;have g:∀i,hx q 0 i=3*cx q 0+kx 0 i:=fun i=>bd q 0 i;have g':∀i,hy q 0 i=3*cy q 0+ky 0 i:=fun i=>ba q 0 i;have h1:=h.1;have h2:=h.2.1;have h3:=h.2.2;refine ⟨by omega,fun i hi=>?_,⟨5,by decide,?_⟩,⟨2,by decide,?_⟩,⟨0,by decide,?_⟩,⟨3,by decide,?_⟩⟩
 ·rcases lt6 hi with rfl | rfl | rfl | rfl | rfl | rfl<;>simp only [crs,g,g',x0,x1,x2,x3,x4,x5,y0,y1,y2,y3,y4,y5]<;>omega
 ·simp only [g,x0,x1,x2,x3,x4,x5]; omega
 ·simp only [g,x0,x1,x2,x3,x4,x5]; omega
 ·simp only [g',y0,y1,y2,y3,y4,y5]; omega
 ·simp only [g',y0,y1,y2,y3,y4,y5]; omega
theorem bai (x y:Int):qe x y (c9 x y 1) 1:=by
 have h:=f8 ((ax x y).mul (b9 (12-1)).conj) (d:=2340*7^(12-1)) (by decide);have e:(b9 (12-1)).conj=⟨-51346,25807⟩:=by decide
 have ed:(2340*7^(12-1):Int)=4626944578620:=by decide
 have eb:b9 (12-1)=⟨-25539,-25807⟩:=by decide
 unfold c9;generalize Ei.round _ _=q at *;rw [e,ed] at h;have ex:cx q 1=52*(-25539*q.a - -25807*q.b)+26*(-25539*q.b + -25807*q.a + -25807*q.b):=by simp only [cx,eb,Ei.mul]
 have ey:cy q 1=45*(-25539*q.b + -25807*q.a + -25807*q.b):=by simp only [cy,eb,Ei.mul]
 have x0:kx 1 0=-1992042:=by decide
 have y0:ky 1 0=-3471885:=by decide
 have x1:kx 1 1=2012946:=by decide
 have y1:ky 1 1=-3459825:=by decide
 have x2:kx 1 2=4004988:=by decide
 have y2:ky 1 2=12060:=by decide
 have x3:kx 1 3=1992042:=by decide
 have y3:ky 1 3=3471885:=by decide
 have x4:kx 1 4=-2012946:=by decide
 have y4:ky 1 4=3459825:=by decide
 have x5:kx 1 5=-4004988:=by decide
 have y5:ky 1 5=-12060:=by decide
 unfold g8 at h;simp only [Ei.mul,ax] at h;have g:∀i,hx q 1 i=3*cx q 1+kx 1 i:=fun i=>bd q 1 i;have g':∀i,hy q 1 i=3*cy q 1+ky 1 i:=fun i=>ba q 1 i;have h1:=h.1;have h2:=h.2.1;have h3:=h.2.2;refine ⟨by omega,fun i hi=>?_,⟨5,by decide,?_⟩,⟨2,by decide,?_⟩,⟨0,by decide,?_⟩,⟨3,by decide,?_⟩⟩
 ·rcases lt6 hi with rfl | rfl | rfl | rfl | rfl | rfl<;>simp only [crs,g,g',x0,x1,x2,x3,x4,x5,y0,y1,y2,y3,y4,y5]<;>omega
 ·simp only [g,x0,x1,x2,x3,x4,x5]; omega
 ·simp only [g,x0,x1,x2,x3,x4,x5]; omega
 ·simp only [g',y0,y1,y2,y3,y4,y5]; omega
 ·simp only [g',y0,y1,y2,y3,y4,y5]; omega
theorem bah (x y:Int):qe x y (c9 x y 2) 2:=by
 have h:=f8 ((ax x y).mul (b9 (12-2)).conj) (d:=2340*7^(12-2)) (by decide);have e:(b9 (12-2)).conj=⟨-18357,3725⟩:=by decide
 have ed:(2340*7^(12-2):Int)=660992082660:=by decide
 have eb:b9 (12-2)=⟨-14632,-3725⟩:=by decide
 unfold c9;generalize Ei.round _ _=q at *;rw [e,ed] at h;have ex:cx q 2=52*(-14632*q.a - -3725*q.b)+26*(-14632*q.b + -3725*q.a + -3725*q.b):=by simp only [cx,eb,Ei.mul]
 have ey:cy q 2=45*(-14632*q.b + -3725*q.a + -3725*q.b):=by simp only [cy,eb,Ei.mul]
 have x0:kx 2 0=-1141296:=by decide
 have y0:ky 2 0=-993690:=by decide
 have x1:kx 2 1=290550:=by decide
 have y1:ky 2 1=-1484505:=by decide
 have x2:kx 2 2=1431846:=by decide
 have y2:ky 2 2=-490815:=by decide
 have x3:kx 2 3=1141296:=by decide
 have y3:ky 2 3=993690:=by decide
 have x4:kx 2 4=-290550:=by decide
 have y4:ky 2 4=1484505:=by decide
 have x5:kx 2 5=-1431846:=by decide
 have y5:ky 2 5=490815:=by decide
 unfold g8 at h;simp only [Ei.mul,ax] at h;have g:∀i,hx q 2 i=3*cx q 2+kx 2 i:=fun i=>bd q 2 i;have g':∀i,hy q 2 i=3*cy q 2+ky 2 i:=fun i=>ba q 2 i;have h1:=h.1;have h2:=h.2.1;have h3:=h.2.2;refine ⟨by omega,fun i hi=>?_,⟨5,by decide,?_⟩,⟨2,by decide,?_⟩,⟨1,by decide,?_⟩,⟨4,by decide,?_⟩⟩
 ·rcases lt6 hi with rfl | rfl | rfl | rfl | rfl | rfl<;>simp only [crs,g,g',x0,x1,x2,x3,x4,x5,y0,y1,y2,y3,y4,y5]<;>omega
 ·simp only [g,x0,x1,x2,x3,x4,x5]; omega
 ·simp only [g,x0,x1,x2,x3,x4,x5]; omega
 ·simp only [g',y0,y1,y2,y3,y4,y5]; omega
 ·simp only [g',y0,y1,y2,y3,y4,y5]; omega
theorem bag (x y:Int):qe x y (c9 x y 3) 3:=by
 have h:=f8 ((ax x y).mul (b9 (12-3)).conj) (d:=2340*7^(12-3)) (by decide);have e:(b9 (12-3)).conj=⟨-5777,-1026⟩:=by decide
 have ed:(2340*7^(12-3):Int)=94427440380:=by decide
 have eb:b9 (12-3)=⟨-6803,1026⟩:=by decide
 unfold c9;generalize Ei.round _ _=q at *;rw [e,ed] at h;have ex:cx q 3=52*(-6803*q.a-1026*q.b)+26*(-6803*q.b+1026*q.a+1026*q.b):=by simp only [cx,eb,Ei.mul]
 have ey:cy q 3=45*(-6803*q.b+1026*q.a+1026*q.b):=by simp only [cy,eb,Ei.mul]
 have x0:kx 3 0=-530634:=by decide
 have y0:ky 3 0=-213795:=by decide
 have x1:kx 3 1=-80028:=by decide
 have y1:ky 3 1=-566100:=by decide
 have x2:kx 3 2=450606:=by decide
 have y2:ky 3 2=-352305:=by decide
 have x3:kx 3 3=530634:=by decide
 have y3:ky 3 3=213795:=by decide
 have x4:kx 3 4=80028:=by decide
 have y4:ky 3 4=566100:=by decide
 have x5:kx 3 5=-450606:=by decide
 have y5:ky 3 5=352305:=by decide
 unfold g8 at h;simp only [Ei.mul,ax] at h;have g:∀i,hx q 3 i=3*cx q 3+kx 3 i:=fun i=>bd q 3 i;have g':∀i,hy q 3 i=3*cy q 3+ky 3 i:=fun i=>ba q 3 i;have h1:=h.1;have h2:=h.2.1;have h3:=h.2.2;refine ⟨by omega,fun i hi=>?_,⟨0,by decide,?_⟩,⟨3,by decide,?_⟩,⟨1,by decide,?_⟩,⟨4,by decide,?_⟩⟩
 ·rcases lt6 hi with rfl | rfl | rfl | rfl | rfl | rfl<;>simp only [crs,g,g',x0,x1,x2,x3,x4,x5,y0,y1,y2,y3,y4,y5]<;>omega
 ·simp only [g,x0,x1,x2,x3,x4,x5]; omega
 ·simp only [g,x0,x1,x2,x3,x4,x5]; omega
 ·simp only [g',y0,y1,y2,y3,y4,y5]; omega
 ·simp only [g',y0,y1,y2,y3,y4,y5]; omega
theorem baf (x y:Int):qe x y (c9 x y 4) 4:=by
 have h:=f8 ((ax x y).mul (b9 (12-4)).conj) (d:=2340*7^(12-4)) (by decide);have e:(b9 (12-4)).conj=⟨-1504,-1265⟩:=by decide
 have ed:(2340*7^(12-4):Int)=13489634340:=by decide
 have eb:b9 (12-4)=⟨-2769,1265⟩:=by decide
 unfold c9;generalize Ei.round _ _=q at *;rw [e,ed] at h;have ex:cx q 4=52*(-2769*q.a-1265*q.b)+26*(-2769*q.b+1265*q.a+1265*q.b):=by simp only [cx,eb,Ei.mul]
 have ey:cy q 4=45*(-2769*q.b+1265*q.a+1265*q.b):=by simp only [cy,eb,Ei.mul]
 have x0:kx 4 0=-215982:=by decide
 have y0:ky 4 0=-10755:=by decide
 have x1:kx 4 1=-98670:=by decide
 have y1:ky 4 1=-192285:=by decide
 have x2:kx 4 2=117312:=by decide
 have y2:ky 4 2=-181530:=by decide
 have x3:kx 4 3=215982:=by decide
 have y3:ky 4 3=10755:=by decide
 have x4:kx 4 4=98670:=by decide
 have y4:ky 4 4=192285:=by decide
 have x5:kx 4 5=-117312:=by decide
 have y5:ky 4 5=181530:=by decide
 unfold g8 at h;simp only [Ei.mul,ax] at h;have g:∀i,hx q 4 i=3*cx q 4+kx 4 i:=fun i=>bd q 4 i;have g':∀i,hy q 4 i=3*cy q 4+ky 4 i:=fun i=>ba q 4 i;have h1:=h.1;have h2:=h.2.1;have h3:=h.2.2;refine ⟨by omega,fun i hi=>?_,⟨0,by decide,?_⟩,⟨3,by decide,?_⟩,⟨1,by decide,?_⟩,⟨4,by decide,?_⟩⟩
 ·rcases lt6 hi with rfl | rfl | rfl | rfl | rfl | rfl<;>simp only [crs,g,g',x0,x1,x2,x3,x4,x5,y0,y1,y2,y3,y4,y5]<;>omega
 ·simp only [g,x0,x1,x2,x3,x4,x5]; omega
 ·simp only [g,x0,x1,x2,x3,x4,x5]; omega
 ·simp only [g',y0,y1,y2,y3,y4,y5]; omega
 ·simp only [g',y0,y1,y2,y3,y4,y5]; omega
theorem bae (x y:Int):qe x y (c9 x y 5) 5:=by
 have h:=f8 ((ax x y).mul (b9 (12-5)).conj) (d:=2340*7^(12-5)) (by decide);have e:(b9 (12-5)).conj=⟨-249,-757⟩:=by decide
 have ed:(2340*7^(12-5):Int)=1927090620:=by decide
 have eb:b9 (12-5)=⟨-1006,757⟩:=by decide
 unfold c9;generalize Ei.round _ _=q at *;rw [e,ed] at h;have ex:cx q 5=52*(-1006*q.a-757*q.b)+26*(-1006*q.b+757*q.a+757*q.b):=by simp only [cx,eb,Ei.mul]
 have ey:cy q 5=45*(-1006*q.b+757*q.a+757*q.b):=by simp only [cy,eb,Ei.mul]
 have x0:kx 5 0=-78468:=by decide
 have y0:ky 5 0=22860:=by decide
 have x1:kx 5 1=-59046:=by decide
 have y1:ky 5 1=-56475:=by decide
 have x2:kx 5 2=19422:=by decide
 have y2:ky 5 2=-79335:=by decide
 have x3:kx 5 3=78468:=by decide
 have y3:ky 5 3=-22860:=by decide
 have x4:kx 5 4=59046:=by decide
 have y4:ky 5 4=56475:=by decide
 have x5:kx 5 5=-19422:=by decide
 have y5:ky 5 5=79335:=by decide
 unfold g8 at h;simp only [Ei.mul,ax] at h;have g:∀i,hx q 5 i=3*cx q 5+kx 5 i:=fun i=>bd q 5 i;have g':∀i,hy q 5 i=3*cy q 5+ky 5 i:=fun i=>ba q 5 i;have h1:=h.1;have h2:=h.2.1;have h3:=h.2.2;refine ⟨by omega,fun i hi=>?_,⟨0,by decide,?_⟩,⟨3,by decide,?_⟩,⟨2,by decide,?_⟩,⟨5,by decide,?_⟩⟩
 ·rcases lt6 hi with rfl | rfl | rfl | rfl | rfl | rfl<;>simp only [crs,g,g',x0,x1,x2,x3,x4,x5,y0,y1,y2,y3,y4,y5]<;>omega
 ·simp only [g,x0,x1,x2,x3,x4,x5]; omega
 ·simp only [g,x0,x1,x2,x3,x4,x5]; omega
 ·simp only [g',y0,y1,y2,y3,y4,y5]; omega
 ·simp only [g',y0,y1,y2,y3,y4,y5]; omega
theorem bac (x y:Int):qe x y (c9 x y 6) 6:=by
 have h:=f8 ((ax x y).mul (b9 (12-6)).conj) (d:=2340*7^(12-6)) (by decide);have e:(b9 (12-6)).conj=⟨37,-360⟩:=by decide
 have ed:(2340*7^(12-6):Int)=275298660:=by decide
 have eb:b9 (12-6)=⟨-323,360⟩:=by decide
 unfold c9;generalize Ei.round _ _=q at *;rw [e,ed] at h;have ex:cx q 6=52*(-323*q.a-360*q.b)+26*(-323*q.b+360*q.a+360*q.b):=by simp only [cx,eb,Ei.mul]
 have ey:cy q 6=45*(-323*q.b+360*q.a+360*q.b):=by simp only [cy,eb,Ei.mul]
 have x0:kx 6 0=-25194:=by decide
 have y0:ky 6 0=17865:=by decide
 have x1:kx 6 1=-28080:=by decide
 have y1:ky 6 1=-12870:=by decide
 have x2:kx 6 2=-2886:=by decide
 have y2:ky 6 2=-30735:=by decide
 have x3:kx 6 3=25194:=by decide
 have y3:ky 6 3=-17865:=by decide
 have x4:kx 6 4=28080:=by decide
 have y4:ky 6 4=12870:=by decide
 have x5:kx 6 5=2886:=by decide
 have y5:ky 6 5=30735:=by decide
 unfold g8 at h;simp only [Ei.mul,ax] at h;have g:∀i,hx q 6 i=3*cx q 6+kx 6 i:=fun i=>bd q 6 i;have g':∀i,hy q 6 i=3*cy q 6+ky 6 i:=fun i=>ba q 6 i;have h1:=h.1;have h2:=h.2.1;have h3:=h.2.2;refine ⟨by omega,fun i hi=>?_,⟨1,by decide,?_⟩,⟨4,by decide,?_⟩,⟨2,by decide,?_⟩,⟨5,by decide,?_⟩⟩
 ·rcases lt6 hi with rfl | rfl | rfl | rfl | rfl | rfl<;>simp only [crs,g,g',x0,x1,x2,x3,x4,x5,y0,y1,y2,y3,y4,y5]<;>omega
 ·simp only [g,x0,x1,x2,x3,x4,x5]; omega
 ·simp only [g,x0,x1,x2,x3,x4,x5]; omega
 ·simp only [g',y0,y1,y2,y3,y4,y5]; omega
 ·simp only [g',y0,y1,y2,y3,y4,y5]; omega
theorem bab (x y:Int):qe x y (c9 x y 7) 7:=by
 have h:=f8 ((ax x y).mul (b9 (12-7)).conj) (d:=2340*7^(12-7)) (by decide);have e:(b9 (12-7)).conj=⟨62,-149⟩:=by decide
 have ed:(2340*7^(12-7):Int)=39328380:=by decide
 have eb:b9 (12-7)=⟨-87,149⟩:=by decide
 unfold c9;generalize Ei.round _ _=q at *;rw [e,ed] at h;have ex:cx q 7=52*(-87*q.a-149*q.b)+26*(-87*q.b+149*q.a+149*q.b):=by simp only [cx,eb,Ei.mul]
 have ey:cy q 7=45*(-87*q.b+149*q.a+149*q.b):=by simp only [cy,eb,Ei.mul]
 have x0:kx 7 0=-6786:=by decide
 have y0:ky 7 0=9495:=by decide
 have x1:kx 7 1=-11622:=by decide
 have y1:ky 7 1=-1125:=by decide
 have x2:kx 7 2=-4836:=by decide
 have y2:ky 7 2=-10620:=by decide
 have x3:kx 7 3=6786:=by decide
 have y3:ky 7 3=-9495:=by decide
 have x4:kx 7 4=11622:=by decide
 have y4:ky 7 4=1125:=by decide
 have x5:kx 7 5=4836:=by decide
 have y5:ky 7 5=10620:=by decide
 unfold g8 at h;simp only [Ei.mul,ax] at h;have g:∀i,hx q 7 i=3*cx q 7+kx 7 i:=fun i=>bd q 7 i;have g':∀i,hy q 7 i=3*cy q 7+ky 7 i:=fun i=>ba q 7 i;have h1:=h.1;have h2:=h.2.1;have h3:=h.2.2;refine ⟨by omega,fun i hi=>?_,⟨1,by decide,?_⟩,⟨4,by decide,?_⟩,⟨2,by decide,?_⟩,⟨5,by decide,?_⟩⟩
 ·rcases lt6 hi with rfl | rfl | rfl | rfl | rfl | rfl<;>simp only [crs,g,g',x0,x1,x2,x3,x4,x5,y0,y1,y2,y3,y4,y5]<;>omega
 ·simp only [g,x0,x1,x2,x3,x4,x5]; omega
 ·simp only [g,x0,x1,x2,x3,x4,x5]; omega
 ·simp only [g',y0,y1,y2,y3,y4,y5]; omega
 ·simp only [g',y0,y1,y2,y3,y4,y5]; omega
theorem baa (x y:Int):qe x y (c9 x y 8) 8:=by
 have h:=f8 ((ax x y).mul (b9 (12-8)).conj) (d:=2340*7^(12-8)) (by decide);have e:(b9 (12-8)).conj=⟨39,-55⟩:=by decide
 have ed:(2340*7^(12-8):Int)=5618340:=by decide
 have eb:b9 (12-8)=⟨-16,55⟩:=by decide
 unfold c9;generalize Ei.round _ _=q at *;rw [e,ed] at h;have ex:cx q 8=52*(-16*q.a-55*q.b)+26*(-16*q.b+55*q.a+55*q.b):=by simp only [cx,eb,Ei.mul]
 have ey:cy q 8=45*(-16*q.b+55*q.a+55*q.b):=by simp only [cy,eb,Ei.mul]
 have x0:kx 8 0=-1248:=by decide
 have y0:ky 8 0=4230:=by decide
 have x1:kx 8 1=-4290:=by decide
 have y1:ky 8 1=1035:=by decide
 have x2:kx 8 2=-3042:=by decide
 have y2:ky 8 2=-3195:=by decide
 have x3:kx 8 3=1248:=by decide
 have y3:ky 8 3=-4230:=by decide
 have x4:kx 8 4=4290:=by decide
 have y4:ky 8 4=-1035:=by decide
 have x5:kx 8 5=3042:=by decide
 have y5:ky 8 5=3195:=by decide
 unfold g8 at h;simp only [Ei.mul,ax] at h;have g:∀i,hx q 8 i=3*cx q 8+kx 8 i:=fun i=>bd q 8 i;have g':∀i,hy q 8 i=3*cy q 8+ky 8 i:=fun i=>ba q 8 i;have h1:=h.1;have h2:=h.2.1;have h3:=h.2.2;refine ⟨by omega,fun i hi=>?_,⟨1,by decide,?_⟩,⟨4,by decide,?_⟩,⟨3,by decide,?_⟩,⟨0,by decide,?_⟩⟩
 ·rcases lt6 hi with rfl | rfl | rfl | rfl | rfl | rfl<;>simp only [crs,g,g',x0,x1,x2,x3,x4,x5,y0,y1,y2,y3,y4,y5]<;>omega
 ·simp only [g,x0,x1,x2,x3,x4,x5]; omega
 ·simp only [g,x0,x1,x2,x3,x4,x5]; omega
 ·simp only [g',y0,y1,y2,y3,y4,y5]; omega
 ·simp only [g',y0,y1,y2,y3,y4,y5]; omega
theorem a99 (x y:Int):qe x y (c9 x y 9) 9:=by
 have h:=f8 ((ax x y).mul (b9 (12-9)).conj) (d:=2340*7^(12-9)) (by decide);have e:(b9 (12-9)).conj=⟨19,-18⟩:=by decide
 have ed:(2340*7^(12-9):Int)=802620:=by decide
 have eb:b9 (12-9)=⟨1,18⟩:=by decide
 unfold c9;generalize Ei.round _ _=q at *;rw [e,ed] at h;have ex:cx q 9=52*(1*q.a-18*q.b)+26*(1*q.b+18*q.a+18*q.b):=by simp only [cx,eb,Ei.mul]
 have ey:cy q 9=45*(1*q.b+18*q.a+18*q.b):=by simp only [cy,eb,Ei.mul]
 have x0:kx 9 0=78:=by decide
 have y0:ky 9 0=1665:=by decide
 have x1:kx 9 1=-1404:=by decide
 have y1:ky 9 1=900:=by decide
 have x2:kx 9 2=-1482:=by decide
 have y2:ky 9 2=-765:=by decide
 have x3:kx 9 3=-78:=by decide
 have y3:ky 9 3=-1665:=by decide
 have x4:kx 9 4=1404:=by decide
 have y4:ky 9 4=-900:=by decide
 have x5:kx 9 5=1482:=by decide
 have y5:ky 9 5=765:=by decide
 unfold g8 at h;simp only [Ei.mul,ax] at h;have g:∀i,hx q 9 i=3*cx q 9+kx 9 i:=fun i=>bd q 9 i;have g':∀i,hy q 9 i=3*cy q 9+ky 9 i:=fun i=>ba q 9 i;have h1:=h.1;have h2:=h.2.1;have h3:=h.2.2;refine ⟨by omega,fun i hi=>?_,⟨2,by decide,?_⟩,⟨5,by decide,?_⟩,⟨3,by decide,?_⟩,⟨0,by decide,?_⟩⟩
 ·rcases lt6 hi with rfl | rfl | rfl | rfl | rfl | rfl<;>simp only [crs,g,g',x0,x1,x2,x3,x4,x5,y0,y1,y2,y3,y4,y5]<;>omega
 ·simp only [g,x0,x1,x2,x3,x4,x5]; omega
 ·simp only [g,x0,x1,x2,x3,x4,x5]; omega
 ·simp only [g',y0,y1,y2,y3,y4,y5]; omega
 ·simp only [g',y0,y1,y2,y3,y4,y5]; omega
theorem a7y (x y:Int):qe x y (c9 x y 10) 10:=by
 have h:=f8 ((ax x y).mul (b9 (12-10)).conj) (d:=2340*7^(12-10)) (by decide);have e:(b9 (12-10)).conj=⟨8,-5⟩:=by decide
 have ed:(2340*7^(12-10):Int)=114660:=by decide
 have eb:b9 (12-10)=⟨3,5⟩:=by decide
 unfold c9;generalize Ei.round _ _=q at *;rw [e,ed] at h;have ex:cx q 10=52*(3*q.a-5*q.b)+26*(3*q.b+5*q.a+5*q.b):=by simp only [cx,eb,Ei.mul]
 have ey:cy q 10=45*(3*q.b+5*q.a+5*q.b):=by simp only [cy,eb,Ei.mul]
 have x0:kx 10 0=234:=by decide
 have y0:ky 10 0=585:=by decide
 have x1:kx 10 1=-390:=by decide
 have y1:ky 10 1=495:=by decide
 have x2:kx 10 2=-624:=by decide
 have y2:ky 10 2=-90:=by decide
 have x3:kx 10 3=-234:=by decide
 have y3:ky 10 3=-585:=by decide
 have x4:kx 10 4=390:=by decide
 have y4:ky 10 4=-495:=by decide
 have x5:kx 10 5=624:=by decide
 have y5:ky 10 5=90:=by decide
 unfold g8 at h;simp only [Ei.mul,ax] at h;have g:∀i,hx q 10 i=3*cx q 10+kx 10 i:=fun i=>bd q 10 i;have g':∀i,hy q 10 i=3*cy q 10+ky 10 i:=fun i=>ba q 10 i;have h1:=h.1;have h2:=h.2.1;have h3:=h.2.2;refine ⟨by omega,fun i hi=>?_,⟨2,by decide,?_⟩,⟨5,by decide,?_⟩,⟨3,by decide,?_⟩,⟨0,by decide,?_⟩⟩
 ·rcases lt6 hi with rfl | rfl | rfl | rfl | rfl | rfl<;>simp only [crs,g,g',x0,x1,x2,x3,x4,x5,y0,y1,y2,y3,y4,y5]<;>omega
 ·simp only [g,x0,x1,x2,x3,x4,x5]; omega
 ·simp only [g,x0,x1,x2,x3,x4,x5]; omega
 ·simp only [g',y0,y1,y2,y3,y4,y5]; omega
 ·simp only [g',y0,y1,y2,y3,y4,y5]; omega
theorem a7x (x y:Int):qe x y (c9 x y 11) 11:=by
 have h:=f8 ((ax x y).mul (b9 (12-11)).conj) (d:=2340*7^(12-11)) (by decide);have e:(b9 (12-11)).conj=⟨3,-1⟩:=by decide
 have ed:(2340*7^(12-11):Int)=16380:=by decide
 have eb:b9 (12-11)=⟨2,1⟩:=by decide
 unfold c9;generalize Ei.round _ _=q at *;rw [e,ed] at h;have ex:cx q 11=52*(2*q.a-1*q.b)+26*(2*q.b+1*q.a+1*q.b):=by simp only [cx,eb,Ei.mul]
 have ey:cy q 11=45*(2*q.b+1*q.a+1*q.b):=by simp only [cy,eb,Ei.mul]
 have x0:kx 11 0=156:=by decide
 have y0:ky 11 0=180:=by decide
 have x1:kx 11 1=-78:=by decide
 have y1:ky 11 1=225:=by decide
 have x2:kx 11 2=-234:=by decide
 have y2:ky 11 2=45:=by decide
 have x3:kx 11 3=-156:=by decide
 have y3:ky 11 3=-180:=by decide
 have x4:kx 11 4=78:=by decide
 have y4:ky 11 4=-225:=by decide
 have x5:kx 11 5=234:=by decide
 have y5:ky 11 5=-45:=by decide
 unfold g8 at h;simp only [Ei.mul,ax] at h;have g:∀i,hx q 11 i=3*cx q 11+kx 11 i:=fun i=>bd q 11 i;have g':∀i,hy q 11 i=3*cy q 11+ky 11 i:=fun i=>ba q 11 i;have h1:=h.1;have h2:=h.2.1;have h3:=h.2.2;refine ⟨by omega,fun i hi=>?_,⟨2,by decide,?_⟩,⟨5,by decide,?_⟩,⟨4,by decide,?_⟩,⟨1,by decide,?_⟩⟩
 ·rcases lt6 hi with rfl | rfl | rfl | rfl | rfl | rfl<;>simp only [crs,g,g',x0,x1,x2,x3,x4,x5,y0,y1,y2,y3,y4,y5]<;>omega
 ·simp only [g,x0,x1,x2,x3,x4,x5]; omega
 ·simp only [g,x0,x1,x2,x3,x4,x5]; omega
 ·simp only [g',y0,y1,y2,y3,y4,y5]; omega
 ·simp only [g',y0,y1,y2,y3,y4,y5]; omega
theorem a7w (x y:Int):qe x y (c9 x y 12) 12:=by
 have h:=f8 ((ax x y).mul (b9 (12-12)).conj) (d:=2340*7^(12-12)) (by decide);have e:(b9 (12-12)).conj=⟨1,0⟩:=by decide
 have ed:(2340*7^(12-12):Int)=2340:=by decide
 have eb:b9 (12-12)=⟨1,0⟩:=by decide
 unfold c9;generalize Ei.round _ _=q at *;rw [e,ed] at h;have ex:cx q 12=52*(1*q.a-0*q.b)+26*(1*q.b+0*q.a+0*q.b):=by simp only [cx,eb,Ei.mul]
 have ey:cy q 12=45*(1*q.b+0*q.a+0*q.b):=by simp only [cy,eb,Ei.mul]
 have x0:kx 12 0=78:=by decide
 have y0:ky 12 0=45:=by decide
 have x1:kx 12 1=0:=by decide
 have y1:ky 12 1=90:=by decide
 have x2:kx 12 2=-78:=by decide
 have y2:ky 12 2=45:=by decide
 have x3:kx 12 3=-78:=by decide
 have y3:ky 12 3=-45:=by decide
 have x4:kx 12 4=0:=by decide
 have y4:ky 12 4=-90:=by decide
 have x5:kx 12 5=78:=by decide
 have y5:ky 12 5=-45:=by decide
 unfold g8 at h;simp only [Ei.mul,ax] at h;have g:∀i,hx q 12 i=3*cx q 12+kx 12 i:=fun i=>bd q 12 i;have g':∀i,hy q 12 i=3*cy q 12+ky 12 i:=fun i=>ba q 12 i;have h1:=h.1;have h2:=h.2.1;have h3:=h.2.2;refine ⟨by omega,fun i hi=>?_,⟨2,by decide,?_⟩,⟨0,by decide,?_⟩,⟨4,by decide,?_⟩,⟨1,by decide,?_⟩⟩
 ·rcases lt6 hi with rfl | rfl | rfl | rfl | rfl | rfl<;>simp only [crs,g,g',x0,x1,x2,x3,x4,x5,y0,y1,y2,y3,y4,y5]<;>omega
 ·simp only [g,x0,x1,x2,x3,x4,x5]; omega
 ·simp only [g,x0,x1,x2,x3,x4,x5]; omega
 ·simp only [g',y0,y1,y2,y3,y4,y5]; omega
 ·simp only [g',y0,y1,y2,y3,y4,y5]; omega
theorem avy (x y:Int) (r:Nat) (hr:r≤12):qe x y (c9 x y r) r:=by
 match r,hr with
 | 0,_=>exact baj x y
 | 1,_=>exact bai x y
 | 2,_=>exact bah x y
 | 3,_=>exact bag x y
 | 4,_=>exact baf x y
 | 5,_=>exact bae x y
 | 6,_=>exact bac x y
 | 7,_=>exact bab x y
 | 8,_=>exact baa x y
 | 9,_=>exact a99 x y
 | 10,_=>exact a7y x y
 | 11,_=>exact a7x x y
 | 12,_=>exact a7w x y
 | r+13,h=>omega

theorem lb {r:Nat} (hr:r≤12):(b9 (12-r)).In 120000:=xo _ (by omega)
theorem akx {z:Ei} {n:Int} {by_:Int} (h:z.In n) (hb:0≤by_∧by_≤3) (hn:0≤n):(⟨by_*z.a,by_*z.b⟩:Ei).In (3*n):=by
 have h1:=cb (show -3≤by_∧by_≤3 by omega) h.1;have h2:=cb (show -3≤by_∧by_≤3 by omega) h.2;exact ⟨h1,h2⟩
def dp (z:Ei) (r:Nat) (b:Int):Ei:=(b9 (12-r)).mul ⟨b*z.a,b*z.b⟩
theorem apx {z:Ei} {r:Nat} {b:Int} (h:z.In 1073741824) (hr:r≤12) (hb:0≤b∧b≤3):(dp z r b).In 1159641169920000:=(aem (lb hr) (akx h hb (by decide))).mono (by decide)
theorem a40 (z:Ei) (r b:Int) (h:z.In 1073741824) (hr:0≤r∧r≤12) (hb:0≤b∧b≤3):a7 P0 124 [z.v,int .i64 r,int .i64 b] [] (.tup [(dp z r.toNat b).v,bl true]) []:=by
 refine ahh rfl (by decide) ?_;have h':=h;unfold Ei.In at h';have i1:in64 z.a∧in64 z.b:=by unfold in64; omega
 simp only [aeh,Ei.v,Ei.rv,push_cast,↓reduceIte,reduceCtorEq,zB,zE,zA,zS,zL,zD,zM];refine a5 (aov r) rfl trivial ?_;rw [decide_eq_true hr];simp only [push_cast,↓reduceIte,reduceCtorEq,zB,zE,zA,zS,zL,zD,zM];refine a5 (wm _ _ i1.1 (by decide)) rfl trivial ?_;rw [show decide (-1073741824≤z.a∧z.a≤1073741824)=true from decide_eq_true h'.1];simp only [push_cast,↓reduceIte,reduceCtorEq,zB,zE,zA,zS,zL,zD,zM];refine a5 (wm _ _ i1.2 (by decide)) rfl trivial ?_;rw [show decide (-1073741824≤z.b∧z.b≤1073741824)=true from decide_eq_true h'.2];simp only [push_cast,↓reduceIte,reduceCtorEq,zB,zE,zA,zS,zL,zD,zM];rw [show IntKind.i64.wrap (12-r)=12-r from a6 (by omega)]
 refine a5 (ao4 (12-r) (by omega)) rfl trivial ?_;simp only [Ei.v,Ei.rv,push_cast,↓reduceIte,reduceCtorEq,zB,zE,zA,zS,zL,zD,zM];have hs:=akx h hb (by decide);unfold Ei.In at hs;rw [show IntKind.i64.wrap (b*z.a)=b*z.a from a6 (by have:=hs.1; dsimp only at this; omega),show IntKind.i64.wrap (b*z.b)=b*z.b from a6 (by have:=hs.2; dsimp only at this; omega)];refine a9 (as':=[(b9 (12-r).toNat).v,Ei.v ⟨b*z.a,b*z.b⟩]) rfl ?_;have e:(12-r).toNat=12-r.toNat:=by omega
 refine a5 (abx _ _ ((xo _ (by omega)).mono (by decide)) ((akx h hb (by decide)).mono (by decide)) ?_) rfl trivial ?_
 ·rw [e]; exact (apx h (by omega) hb).mono (by decide)
 simp only [dp,← e,Ei.v,Ei.rv,push_cast,↓reduceIte,reduceCtorEq,zB,zE,zA,zS,zL,zD,zM]
def pnt (x y:Int):RV:=.agg [.v (.int .i64 x),.v (.int .i64 y)]
theorem a60 (w:Ei) (h:w.In 10000000000000000):a7 P0 179 [w.v] [] (.r (pnt (52*w.a+26*w.b) (45*w.b))) []:=by
 refine ajc rfl (by decide) ?_;unfold Ei.In at h;simp only [af7,Ei.v,Ei.rv,push_cast,↓reduceIte,reduceCtorEq,zB,zE,zA,zS,zL,zD,zM];rw [show IntKind.i64.wrap (52*w.a)=52*w.a from a6 (by omega),show IntKind.i64.wrap (26*w.b)=26*w.b from a6 (by omega),show IntKind.i64.wrap (52*w.a+26*w.b)=52*w.a+26*w.b from a6 (by omega),show IntKind.i64.wrap (45*w.b)=45*w.b from a6 (by omega)]
 rfl
theorem a9b {x y:Ei} {n m:Int} (hx:x.In n) (hy:y.In m):(x.add y).In (n+m):=by
 unfold Ei.In Ei.add at *;dsimp only;omega
theorem a2m (i:Nat):(vv i).In 2:=by
 unfold vv;split<;>unfold Ei.In<;>decide
def cen (m b:Ei):AV:=.r (.agg [.v (.int .i64 m.a),.v (.int .i64 m.b),.v (.int .i64 b.a),.v (.int .i64 b.b)])
theorem ass (m b k:Ei) (hm:m.In 1159641169920000) (hb:b.In 120000) (hk:k.In 2):a7 P0 126 [cen m b,k.v] [] (.r (pnt (52*(m.add (b.mul k)).a+26*(m.add (b.mul k)).b) (45*(m.add (b.mul k)).b))) []:=by
 refine zm rfl (by decide) ?_;have hbk:(b.mul k).In 720000:=(aem hb hk).mono (by decide);simp only [qh,cen,Ei.v,Ei.rv,push_cast,↓reduceIte,reduceCtorEq,zB,zE,zA,zS,zL,zD,zM];refine a9 (as':=[b.v,k.v]) rfl ?_;refine a5 (abx _ _ (hb.mono (by decide)) (hk.mono (by decide)) (hbk.mono (by decide))) rfl trivial ?_;simp only [Ei.v,Ei.rv,push_cast,↓reduceIte,reduceCtorEq,zB,zE,zA,zS,zL,zD,zM];refine a9 (as':=[m.v,(b.mul k).v]) rfl ?_;have hs:=a9b hm hbk;refine a5 (ay8 _ _ (hm.mono (by decide)) (hbk.mono (by decide)) (hs.mono (by decide))) rfl trivial ?_;simp only [Ei.v,Ei.rv,push_cast,↓reduceIte,reduceCtorEq,zB,zE,zA,zS,zL,zD,zM];refine a9 (as':=[(m.add (b.mul k)).v]) rfl ?_
 refine a5 (a60 _ (hs.mono (by decide))) rfl trivial ?_;simp only [pnt,push_cast,↓reduceIte,reduceCtorEq,zB,zE,zA,zS,zL,zD,zM]
def av4 (z:Ei) (r i:Nat):RV:=pnt (hx z r i) (hy z r i)
def rl (z:Ei) (r:Nat) (n:Nat):List RV:=(List.range n).map (av4 z r)
theorem ayw (z:Ei) (r n:Nat):rl z r n++[av4 z r n]=rl z r (n+1):=by simp [rl,List.range_succ]
theorem asi (z:Ei) (r n:Nat):(rl z r n).length=n:=by simp [rl]
theorem auj (z:Ei) (r i:Nat):RV.agg [.v (.int .i64 (52*((dp z r 3).add ((b9 (12-r)).mul (vv i))).a+26*((dp z r 3).add ((b9 (12-r)).mul (vv i))).b)),.v (.int .i64 (45*((dp z r 3).add ((b9 (12-r)).mul (vv i))).b))]=av4 z r i:=by
 have h:(dp z r 3).add ((b9 (12-r)).mul (vv i))=hc z r i:=by
  apply Ei.ext'<;>simp only [dp,Ei.add,Ei.mul,hc,zca]<;>omega
 rw [h]; rfl
def vvL:List RV:=[(vv 0).rv,(vv 1).rv,(vv 2).rv,(vv 3).rv,(vv 4).rv,(vv 5).rv]
theorem awy (i:Nat) (h:i<6) (d:RV):vvL.getD i d=.agg [.v (.int .i64 (vv i).a),.v (.int .i64 (vv i).b)]:=by
 rcases lt6 h with rfl | rfl | rfl | rfl | rfl | rfl<;>rfl
theorem a27 (z:Ei) (r:Int) (h:z.In 1073741824) (hr:0≤r∧r≤12):a7 P0 73 [z.v,int .i64 r] [] (.tup [.own 1000000 0 0 6,bl true]) [.row 2 (pnt 0 0) true true (rl z r.toNat 6)]:=by
  refine ak4 rfl (by decide) ?_;simp only [ahk,Ei.v,Ei.rv,push_cast,↓reduceIte,reduceCtorEq,zB,zE,zA,zS,zL,zD,zM];refine a9 (as':=[z.v,int .i64 r,int .i64 3]) rfl ?_;refine a5 (a40 z r 3 h hr (by decide)) rfl trivial ?_;simp only [Ei.v,Ei.rv,push_cast,↓reduceIte,reduceCtorEq,zB,zE,zA,zS,zL,zD,zM];rw [show IntKind.i64.wrap (12-r)=12-r from a6 (by omega)];refine a5 (ao4 (12-r) (by omega)) rfl trivial ?_;simp only [Ei.v,Ei.rv,push_cast,↓reduceIte,reduceCtorEq,zB,zE,zA,zS,zL,zD,zM];refine ⟨by simp,?_⟩;have e:(12-r).toNat=12-r.toNat:=by omega
  have hk:r.toNat≤12:=by omega
  have hmax:=d5;generalize hR:r.toNat=R at *;rw [e];have hm:(dp z R 3).In 1159641169920000:=apx h hk (by decide);have hb:(b9 (12-R)).In 120000:=lb hk
  refine run_loop [(38,false),(39,false),(40,false),(10,false),(11,false)] (fun vs pos los=>∃i:Nat,i≤6∧pos=[] ∧
    ((i=0∧vs=[.own 2000000 0 0 6,int .i64 6,int .i64 i,.fn (.func 126) [.agg [int .i64 (dp z R 3).a,int .i64 (dp z R 3).b,int .i64 (b9 (12-R)).a,int .i64 (b9 (12-R)).b]] 1,.nils 2 (.agg [.v (.int .i64 0),.v (.int .i64 0)])]∧los=[.row 2 (.agg [.v (.int .i64 0),.v (.int .i64 0)]) true true vvL]) ∨
     (0<i∧vs=[.own 2000000 0 0 6,int .i64 6,int .i64 i,.fn (.func 126) [.agg [int .i64 (dp z R 3).a,int .i64 (dp z R 3).b,int .i64 (b9 (12-R)).a,int .i64 (b9 (12-R)).b]] 1,.own 2000001 0 0 i]∧los=[.row 2 (.agg [.v (.int .i64 0),.v (.int .i64 0)]) true true vvL,.row 2 (pnt 0 0) true true (rl z R i)])))
    (fun vs _ _=>match vs with | _::_ :: .r (.v (.int _ j))::_=>(6-j).toNat | _=>0) rfl ?_ ?_
  · simp only [push_cast,↓reduceIte,reduceCtorEq,zB,zE,zA,zS,zL,zD,zM];exact ⟨0,by omega,.inl ⟨rfl,rfl,rfl⟩⟩
  · rintro vs pos los ⟨i,i6,rfl,⟨i0,rfl,rfl⟩ | ⟨i0,rfl,rfl⟩⟩
    · subst i0;simp only [push_cast,↓reduceIte,reduceCtorEq,zB,zE,zA,zS,zL,zD,zM];rw [show decide ((0:Int)<6)=true from rfl];simp only [push_cast,↓reduceIte,reduceCtorEq,zB,zE,zA,zS,zL,zD,zM];refine ⟨by simp,?_⟩;rw [show (0:Int).toNat=0 from rfl,show 0+0=0 from rfl,awy 0 (by decide)];simp only [push_cast,↓reduceIte,reduceCtorEq,zB,zE,zA,zS,zL,zD,zM];refine ⟨by kernel_rfl,?_⟩;refine a9 (as':=[cen (dp z R 3) (b9 (12-R)),(vv 0).v]) rfl ?_;refine a5 (ass _ _ _ hm hb (a2m 0)) rfl trivial ?_;simp only [pnt,push_cast,↓reduceIte,reduceCtorEq,zB,zE,zA,zS,zL,zD,zM];refine ⟨by decide,by omega,?_,?_⟩
      · refine ⟨1,by omega,.inr ⟨by omega,?_,?_⟩⟩
        · rw [show IntKind.i64.wrap (0+1)=((1:Nat):Int) by decide]
        · rw [auj]; rfl
      · decide
    · simp only [push_cast,↓reduceIte,reduceCtorEq,zB,zE,zA,zS,zL,zD,zM];refine b6 (fun h=>?_) (fun h=>?_)
      · have hi:i<6:=by simp at h; omega
        simp only [push_cast,↓reduceIte,reduceCtorEq,zB,zE,zA,zS,zL,zD,zM];refine ⟨by simp; omega,?_⟩;rw [Int.toNat_natCast,Nat.zero_add,awy i hi];simp only [push_cast,↓reduceIte,reduceCtorEq,zB,zE,zA,zS,zL,zD,zM];refine ⟨by kernel_rfl,?_⟩;refine a9 (as':=[cen (dp z R 3) (b9 (12-R)),(vv i).v]) rfl ?_;refine a5 (ass _ _ _ hm hb (a2m i)) rfl trivial ?_;simp only [pnt,push_cast,↓reduceIte,reduceCtorEq,zB,zE,zA,zS,zL,zD,zM];rw [auj,show IntKind.i64.wrap ((i:Int)+1)=((i+1:Nat):Int) by rw [a6 (by omega)]; omega,List.take_of_length_le (by rw [asi]; exact Nat.le_refl _),ayw];refine ⟨by decide,by omega,?_,?_⟩
        · exact ⟨i+1,by omega,.inr ⟨by omega,rfl,rfl⟩⟩
        · omega
      · have hi:i=6:=by simp at h; omega
        subst hi;simp only [push_cast,↓reduceIte,reduceCtorEq,zB,zE,zA,zS,zL,zD,zM]

noncomputable def agi:PC:=
  (.seq (.reg [p_a 1 (.box (.t 0)),p_a 2 (.new [(.r (.v (.int .i64 0))),(.r (.v (.int .i64 0)))]),p_a 3 (.new [(.r (.v (.int .i64 0))),(.r (.v (.int .i64 0)))])])
 (.seq (.reg [p_s 11 (.build [(.r (.v (.int .i64 0))),(.r (.v (.int .i64 0)))] [(0,1,(o_i 2)),(1,1,(o_i 1))]),p_c 12 1 195 [.t 11],p_m 10 12,p_s 13 (.ext (.t 10) 0),
 p_s 14 (.ext (.t 10) 1),p_a 4 (.new [(.r (.v (.int .i64 0))),(.r (.v (.int .i64 0)))]),⟨none,none,0,.act (.st 2 (.t 4) (.t 13))⟩,p_m 5 14])
 (.seq (.reg [p_s 16 (.ld (some 2) (.t 1)),p_s 17 (.ld (some 2) (.t 4)),p_c 18 2 121 [.t 16,.t 17],p_m 15 18,p_s 19 (.ext (.t 15) 0),p_s 20 (.ext (.t 15) 1),p_a 6 (.new [(.r (.v (.int .i64 0))),(.r (.v (.int .i64 0)))]),
 ⟨none,none,0,.act (.st 2 (.t 6) (.t 19))⟩,p_m 7 20])
 (.seq (.reg [p_s 22 (.ld (some 2) (.t 6)),p_c 23 3 197 [(.t 22),(o_i 7)],p_m 21 23,p_s 24 (.ext (.t 21) 0),p_s 25 (.ext (.t 21) 1),⟨none,none,0,.act (.st 2 (.t 2) (.t 24))⟩])
 (.seq (.reg [p_s 27 (.ld (some 2) (.t 2)),p_s 28 (.build [(.r (.v (.int .i64 0))),(.r (.v (.int .i64 0)))] [(0,1,(o_i 2)),(1,1,(o_i 1))]),p_c 29 4 121 [.t 27,.t 28],
 p_m 26 29,p_s 30 (.ext (.t 26) 0),p_s 31 (.ext (.t 26) 1),p_a 8 (.new [(.r (.v (.int .i64 0))),(.r (.v (.int .i64 0)))]),⟨none,none,0,.act (.st 2 (.t 8) (.t 30))⟩,
 p_m 9 31])
 (.seq (.reg [p_s 33 (.ld (some 2) (.t 1)),p_s 34 (.ld (some 2) (.t 8)),p_c 35 5 234 [.t 33,.t 34],p_m 32 35,p_s 36 (.ext (.t 32) 0),p_s 37 (.ext (.t 32) 1),⟨none,none,0,.act (.st 2 (.t 3) (.t 36))⟩])
 (.seq (.drw [p_s 38 (.ld (some 2) (.t 2)),p_s 39 (.ld (some 2) (.t 3)),⟨none,none,0,.act (.st 2 (.t 2) (.t 38))⟩,⟨none,none,0,.act (.st 2 (.t 3) (.t 39))⟩]
 [[],[],[0],[0,1,2]])
 .ret)))))))
theorem ajm:Fun P0 199 1 [(2,false,some (101,(some 2))),(3,false,some (101,(some 2)))] agi:=b5 Go.Proofs.Tryz.func199 rfl (by decide) (by kernel_rfl) (by decide) rfl (by kernel_rfl) (by kernel_rfl) (by decide)
noncomputable def agj:PC:=
  (.seq (.reg [p_a 1 (.box (.t 0)),p_s 2 (.mov (.c (.r (.v (.bool false)))))])
 (.seq (.reg [p_s 3 (.fa 0 (.t 1)),p_s 4 (.ld none (.t 3)),p_s 5 (.bin .geq (.t 4) (o_i 0)),p_m 6 5,p_g 7 6 true (.fa 0 (.t 1)),p_g 8 6 true (.ld none (.t 7)),p_g 9 6 true (.bin .leq (.t 8) (o_i 12)),
 p_s 10 (.pick (.t 6) (.t 9) (.c (.r (.v (.bool false))))),p_m 11 10,p_g 12 11 true (.fa 1 (.t 1)),p_g 13 11 true (.fa 0 (.t 12)),p_g 14 11 true (.ld none (.t 13)),
 ⟨(some 15),(some (11,true)),1,.call 178 [(.t 14),(o_i 1073741824)]⟩,p_s 16 (.pick (.t 11) (.t 15) (.c (.r (.v (.bool false))))),p_m 17 16,p_g 18 17 true (.fa 1 (.t 1)),
 p_g 19 17 true (.fa 1 (.t 18)),p_g 20 17 true (.ld none (.t 19)),⟨(some 21),(some (17,true)),2,.call 178 [(.t 20),(o_i 1073741824)]⟩,p_s 22 (.pick (.t 17) (.t 21) (.c (.r (.v (.bool false))))),
 p_m 2 22])
 .ret))
theorem ajn:Fun P0 198 1 [(2,false,none)] agj:=b5 Go.Proofs.Tryz.func198 rfl (by decide) (by kernel_rfl) (by decide) rfl (by kernel_rfl) (by kernel_rfl) (by decide)
noncomputable def agk:PC:=
  (.seq (.reg [p_a 1 (.box (.t 0)),p_s 2 (.mov (o_i 0))])
 (.seq (.seq (.reg [p_s 4 (.mov (o_i 0))])
 (.block 0 (.loop (.seq (.reg [p_s 5 (.bin .lss (.t 4) (o_i 6))])
 (.seq (.cond (.t 5)
 .skip
 (.exit 0))
 (.seq (.block 1 (.seq (.reg [p_m 6 4,p_m 3 6])
 (.seq (.drw [p_m 7 3,p_c 8 1 123 [.t 7],p_s 9 (.ld (some 2) (.t 1)),p_s 10 (.eqa false [0,0] (.t 8) (.t 9))]
 [[],[0],[],[0,1,2]])
 (.cond (.t 10)
 (.seq (.reg [p_m 11 3,p_s 12 (.bin .add (.t 11) (o_i 1)),p_m 2 12])
 .ret)
 .skip))))
 (.reg [p_s 13 (.bin .add (.t 4) (o_i 1)),p_m 4 13])))))))
 (.seq (.reg [p_s 2 (.mov (o_i 0))])
 .ret)))
theorem ajo:Fun P0 200 1 [(2,false,none)] agk:=b5 Go.Proofs.Tryz.func200 rfl (by decide) (by kernel_rfl) (by decide) rfl (by kernel_rfl) (by kernel_rfl) (by decide)
noncomputable def agl:PC:=
  (.seq (.reg [p_s 2 (.mov (.c (.r (.v (.bool false)))))])
 (.seq (.reg [p_m 3 0,p_s 4 (.bin .geq (.t 3) (o_i (-512))),p_m 5 4,p_g 6 5 true (.mov (.t 0)),p_g 7 5 true (.bin .lss (.t 6) (o_i 512)),p_s 8 (.pick (.t 5) (.t 7) (.c (.r (.v (.bool false))))),
 p_m 2 8])
 .ret))
theorem ajp:Fun P0 201 1 [(2,false,none)] agl:=b5 Go.Proofs.Tryz.func201 rfl (by decide) (by kernel_rfl) (by decide) rfl (by kernel_rfl) (by kernel_rfl) (by decide)
noncomputable def akf:PC:=
  (.seq (.reg [p_a 1 (.box (.t 0)),p_a 2 (.new [(.r (.v (.int .i64 0))),(.r (.v (.int .i64 0)))]),p_a 3 (.new [(.r (.v (.int .i64 0))),(.r (.v (.int .i64 0))),(.r (.v (.int .i64 0))),(.r (.v (.int .i64 0))),(.r (.v (.int .i64 0))),(.r (.v (.int .i64 0))),(.r (.v (.int .i64 0))),(.r (.v (.int .i64 0))),(.r (.v (.int .i64 0))),(.r (.v (.int .i64 0))),(.r (.v (.int .i64 0))),(.r (.v (.int .i64 0))),(.r (.v (.int .i64 0)))]),
 p_s 4 (.mov (.c (.r (.v (.bool false)))))])
 (.seq (.seq (.reg [p_s 10 (.ld (some 3) (.t 1)),p_c 11 1 198 [.t 10],p_s 12 (.un .not (.t 11))])
 (.cond (.t 12)
 (.seq (.drw [p_s 13 (.ld (some 2) (.t 2)),p_s 14 (.ld (some 13) (.t 3)),⟨none,none,0,.act (.st 2 (.t 2) (.t 13))⟩,⟨none,none,0,.act (.st 13 (.t 3) (.t 14))⟩,p_s 4 (.mov (.c (.r (.v (.bool false)))))]
 [[],[],[0],[0,1,2],[0,1,2,3]])
 .ret)
 .skip))
 (.seq (.reg [p_s 15 (.fa 1 (.t 1)),p_s 16 (.ld (some 2) (.t 15)),p_a 5 (.new [(.r (.v (.int .i64 0))),(.r (.v (.int .i64 0)))]),⟨none,none,0,.act (.st 2 (.t 5) (.t 16))⟩])
 (.seq (.seq (.reg [p_s 17 (.fa 0 (.t 1)),p_s 18 (.ld none (.t 17)),p_m 6 18])
 (.block 0 (.loop (.seq (.seq (.reg [p_m 19 6,p_s 20 (.bin .gtr (.t 19) (o_i 0))])
 (.cond (.t 20)
 .skip
 (.exit 0)))
 (.seq (.block 1 (.seq (.reg [p_s 24 (.ld (some 2) (.t 5)),p_c 25 2 199 [.t 24],p_m 23 25,p_s 26 (.ext (.t 23) 0),p_s 27 (.ext (.t 23) 1),p_a 7 (.new [(.r (.v (.int .i64 0))),(.r (.v (.int .i64 0)))]),
 p_a 8 (.new [(.r (.v (.int .i64 0))),(.r (.v (.int .i64 0)))]),⟨none,none,0,.act (.st 2 (.t 7) (.t 26))⟩,⟨none,none,0,.act (.st 2 (.t 8) (.t 27))⟩])
 (.drw [p_m 28 6,p_s 29 (.ld (some 2) (.t 8)),p_c 30 3 200 [.t 29],p_s 31 (.ld (some 2) (.t 7)),p_s 32 (.iaa 13 1 (.t 3) (.t 28)),⟨none,none,0,.act (.st 1 (.t 32) (.t 30))⟩,
 ⟨none,none,0,.act (.st 2 (.t 5) (.t 31))⟩]
 [[],[],[1],[],[0,1,2],[0,1,2,4],[0,1,2,3,4,5]])))
 (.reg [p_m 21 6,p_s 22 (.bin .sub (.t 21) (o_i 1)),p_m 6 22]))))))
 (.seq (.reg [p_s 9 (.mov (.c (.fn (.func 201) [])))])
 (.seq (.drw [p_s 33 (.ld (some 2) (.t 5)),p_s 34 (.ld (some 13) (.t 3)),p_m 35 9,p_s 36 (.fa 0 (.t 5)),p_s 37 (.ld none (.t 36)),⟨(some 38),none,4,.callv (.t 35) [(.t 37)]⟩,
 p_m 39 38,p_g 40 39 true (.mov (.t 9)),p_g 41 39 true (.fa 1 (.t 5)),p_g 42 39 true (.ld none (.t 41)),⟨(some 43),(some (39,true)),5,.callv (.t 40) [(.t 42)]⟩,
 p_s 44 (.pick (.t 39) (.t 43) (.c (.r (.v (.bool false))))),⟨none,none,0,.act (.st 2 (.t 2) (.t 33))⟩,⟨none,none,0,.act (.st 13 (.t 3) (.t 34))⟩,p_m 4 44]
 [[],[],[],[],[3],[2,3,4],[2,3,4,5],[2,3,4,5,6],[2,3,4,5,6],[2,3,4,5,6,8],[2,3,4,5,6,7,8,9],[2,3,4,5,6,7,8,9,10],[0,2,3,4,5,6,7,8,9,10],[0,1,2,3,4,5,6,7,8,9,10,12],[0,1,2,3,4,5,6,7,8,9,10,11,12,13]])
 .ret))))))
theorem an0:Fun P0 162 1 [(2,false,some (101,(some 2))),(3,false,some (229,(some 13))),(4,false,none)] akf:=b5 Go.Proofs.Tryz.func162 rfl (by decide) (by kernel_rfl) (by decide) rfl (by kernel_rfl) (by kernel_rfl) (by decide)
noncomputable def an1:PC:=
  (.seq (.reg [p_a 1 (.box (.t 0)),p_s 2 (.mov (.c (.r (.v (.bool false)))))])
 (.seq (.reg [p_s 7 (.ld (some 3) (.t 1)),p_c 8 1 162 [.t 7],p_m 6 8,p_s 9 (.ext (.t 6) 0),p_s 10 (.ext (.t 6) 1),p_s 11 (.ext (.t 6) 2),p_a 3 (.new [(.r (.v (.int .i64 0))),(.r (.v (.int .i64 0)))]),
 p_a 4 (.new [(.r (.v (.int .i64 0))),(.r (.v (.int .i64 0))),(.r (.v (.int .i64 0))),(.r (.v (.int .i64 0))),(.r (.v (.int .i64 0))),(.r (.v (.int .i64 0))),(.r (.v (.int .i64 0))),(.r (.v (.int .i64 0))),(.r (.v (.int .i64 0))),(.r (.v (.int .i64 0))),(.r (.v (.int .i64 0))),(.r (.v (.int .i64 0))),(.r (.v (.int .i64 0)))]),
 ⟨none,none,0,.act (.st 2 (.t 3) (.t 9))⟩,⟨none,none,0,.act (.st 13 (.t 4) (.t 10))⟩,p_m 5 11])
 (.seq (.reg [p_m 12 5,p_m 2 12])
 .ret)))
theorem ao9:Fun P0 166 1 [(2,false,none)] an1:=b5 Go.Proofs.Tryz.func166 rfl (by decide) (by kernel_rfl) (by decide) rfl (by kernel_rfl) (by kernel_rfl) (by decide)
noncomputable def an2:PC:=
  (.seq (.reg [p_a 6 (.new [(.r (.v (.int .i64 0))),(.r (.v (.int .i64 0))),(.r (.v (.int .i64 0)))]),p_s 7 (.mov (o_i 0))])
 (.seq (.seq (.reg [p_m 10 0,p_m 11 1,p_c 12 1 160 [.t 10,.t 11],p_s 13 (.un .not (.t 12))])
 (.cond (.t 13)
 (.seq (.reg [p_s 14 (.build [(.r (.v (.int .i64 0))),(.r (.v (.int .i64 0))),(.r (.v (.int .i64 0)))] []),⟨none,none,0,.act (.st 3 (.t 6) (.t 14))⟩,p_s 7 (.mov (o_i 4))])
 .ret)
 .skip))
 (.seq (.reg [p_m 16 0,p_m 17 1,p_m 18 2,p_c 19 2 161 [.t 16,.t 17,.t 18],p_m 15 19,p_s 20 (.ext (.t 15) 0),p_s 21 (.ext (.t 15) 1),p_a 8 (.new [(.r (.v (.int .i64 0))),(.r (.v (.int .i64 0)))]),
 ⟨none,none,0,.act (.st 2 (.t 8) (.t 20))⟩,p_m 9 21])
 (.seq (.seq (.reg [p_m 22 9,p_s 23 (.un .not (.t 22))])
 (.cond (.t 23)
 (.seq (.reg [p_s 24 (.build [(.r (.v (.int .i64 0))),(.r (.v (.int .i64 0))),(.r (.v (.int .i64 0)))] []),⟨none,none,0,.act (.st 3 (.t 6) (.t 24))⟩,p_s 7 (.mov (o_i 1))])
 .ret)
 .skip))
 (.seq (.reg [p_m 25 2,p_s 26 (.ld (some 2) (.t 8)),p_s 27 (.build [(.r (.v (.int .i64 0))),(.r (.v (.int .i64 0))),(.r (.v (.int .i64 0)))] [(0,1,(.t 25)),(1,2,(.t 26))]),
 ⟨none,none,0,.act (.st 3 (.t 6) (.t 27))⟩,p_s 7 (.mov (o_i 0))])
 .ret)))))
theorem apa:Fun P0 114 3 [(6,false,some (107,(some 3))),(7,false,none)] an2:=b5 Go.Proofs.Tryz.func114 rfl (by decide) (by kernel_rfl) (by decide) rfl (by kernel_rfl) (by kernel_rfl) (by decide)
theorem a2v {z:Ei} {n:Int} (h:z.In n) (h1:2≤n):(pr z).In n:=by
 obtain ⟨l,_,g1,e1,f1⟩:=aba z;generalize pr z=q at *;unfold Ei.H at g1;unfold Ei.In at *;omega
theorem azz {z:Ei} {n:Int} (k:Nat) (h:z.In n) (h1:2≤n):(anc k z).In n:=by
 induction k generalizing z with
 | zero=>exact h
 | succ k ih=>exact ih (a2v h h1)
theorem a7z (z:Ei):(lft z).In 1:=by
 obtain ⟨l,e,g1,_⟩:=aba z;rw [e];exact g1.in
theorem a3y (z:Ei) (h:z.In 1073741824):a7 P0 199 [z.v] [] (.tup [(pr z).v,(lft z).v]) []:=by
 refine ajm rfl (by decide) ?_;simp only [agi,Ei.v,Ei.rv,push_cast,↓reduceIte,reduceCtorEq,zB,zE,zA,zS,zL,zD,zM];refine a9 (as':=[ca.v]) rfl ?_;refine a5 (aup ca (by unfold Ei.In; decide)) rfl trivial ?_;simp only [Ei.v,Ei.rv,push_cast,↓reduceIte,reduceCtorEq,zB,zE,zA,zS,zL,zD,zM];have h1:(z.mul ⟨3,-1⟩).In 9663676416:=(aem h (show (⟨3,-1⟩:Ei).In 3 by unfold Ei.In; decide)).mono (by decide);refine a9 (as':=[z.v,Ei.v ⟨3,-1⟩]) rfl ?_;refine a5 (abx _ _ (h.mono (by decide)) (show (⟨3,-1⟩:Ei).In _ by unfold Ei.In; decide) (h1.mono (by decide))) rfl trivial ?_;simp only [Ei.v,Ei.rv,push_cast,↓reduceIte,reduceCtorEq,zB,zE,zA,zS,zL,zD,zM];refine a9 (as':=[(z.mul ⟨3,-1⟩).v,int .i64 7]) rfl ?_
 refine a5 (asp _ 7 (h1.mono (by decide)) (by decide)) rfl trivial ?_;rw [show (z.mul ⟨3,-1⟩).round 7=pr z from rfl];have h2:(pr z).In 1073741824:=a2v h (by decide);have h3:((pr z).mul ca).In 6442450944:=(aem h2 (show ca.In 2 by unfold Ei.In; decide)).mono (by decide);simp only [Ei.v,Ei.rv,push_cast,↓reduceIte,reduceCtorEq,zB,zE,zA,zS,zL,zD,zM];refine a9 (as':=[(pr z).v,ca.v]) rfl ?_;refine a5 (abx _ _ (h2.mono (by decide)) (show ca.In _ by unfold Ei.In; decide) (h3.mono (by decide))) rfl trivial ?_;simp only [Ei.v,Ei.rv,push_cast,↓reduceIte,reduceCtorEq,zB,zE,zA,zS,zL,zD,zM];refine a9 (as':=[z.v,((pr z).mul ca).v]) rfl ?_
 refine a5 (a8j _ _ (h.mono (by decide)) (h3.mono (by decide)) ((a7z z).mono (by decide))) rfl trivial ?_;rw [show z.sub ((pr z).mul ca)=lft z from rfl];simp only [Ei.v,Ei.rv,push_cast,↓reduceIte,reduceCtorEq,zB,zE,zA,zS,zL,zD,zM];kernel_rfl
def cel (r:Int) (z:Ei):AV:=.r (.agg [.v (.int .i64 r),.v (.int .i64 z.a),.v (.int .i64 z.b)])
instance (z:Ei) (n:Int):Decidable (z.In n):=inferInstanceAs (Decidable (_∧_))
def iy (r:Int) (z:Ei):Bool:=decide ((0≤r∧r≤12)∧z.In 1073741824)
theorem a31 (r:Int) (z:Ei) (hz:z.In M63):a7 P0 198 [cel r z] [] (bl (iy r z)) []:=by
 refine ajn rfl (by decide) ?_;simp only [agj,cel,push_cast,↓reduceIte,reduceCtorEq,zB,zE,zA,zS,zL,zD,zM];by_cases h1:0≤r
 ·by_cases h2:r≤12
  ·have g1:decide (r≥0)=true:=by simp; omega
   have g2:decide (r≤12)=true:=by simp; omega
   simp only [g1,g2,push_cast,↓reduceIte,reduceCtorEq,zB,zE,zA,zS,zL,zD,zM];refine a5 (wm _ _ hz.ok.1 (by decide)) rfl trivial ?_;by_cases h3:-1073741824≤z.a∧z.a≤1073741824
   ·rw [decide_eq_true h3];simp only [push_cast,↓reduceIte,reduceCtorEq,zB,zE,zA,zS,zL,zD,zM];refine a5 (wm _ _ hz.ok.2 (by decide)) rfl trivial ?_;simp only [push_cast,↓reduceIte,reduceCtorEq,zB,zE,zA,zS,zL,zD,zM];refine jd ?_;simp [iy,Ei.In,h1,h2,h3.1,h3.2]
   ·rw [decide_eq_false h3];simp only [push_cast,↓reduceIte,reduceCtorEq,zB,zE,zA,zS,zL,zD,zM];have:iy r z=false:=by simp only [iy,Ei.In]; exact decide_eq_false fun c=>h3 c.2.1
    rw [this]
  ·have g1:decide (r≥0)=true:=by simp; omega
   have g2:decide (r≤12)=false:=by simp; omega
   simp only [g1,g2,push_cast,↓reduceIte,reduceCtorEq,zB,zE,zA,zS,zL,zD,zM];have:iy r z=false:=by simp only [iy,decide_eq_false_iff_not]; omega
   rw [this]
 ·have g1:decide (r≥0)=false:=by simp; omega
  simp only [g1,push_cast,↓reduceIte,reduceCtorEq,zB,zE,zA,zS,zL,zD,zM];have:iy r z=false:=by simp only [iy,decide_eq_false_iff_not]; omega
  rw [this]
theorem a1y (i:Nat) (h:i<6):dgOf (uni i)=i+1:=by
 rcases lt6 h with rfl | rfl | rfl | rfl | rfl | rfl<;>decide
theorem a5o (l:Ei) (h:∀j:Nat,j<6→uni j≠l):dgOf l=0:=by
 have h0:=h 0 (by decide); have h1:=h 1 (by decide); have h2:=h 2 (by decide); have h3:=h 3 (by decide); have h4:=h 4 (by decide); have h5:=h 5 (by decide);unfold dgOf;rw [if_neg (show ¬l=⟨1,0⟩ from Ne.symm h0),if_neg (show ¬l=⟨0,1⟩ from Ne.symm h1),if_neg (show ¬l=⟨-1,1⟩ from Ne.symm h2),if_neg (show ¬l=⟨-1,0⟩ from Ne.symm h3),if_neg (show ¬l=⟨0,-1⟩ from Ne.symm h4),if_neg (show ¬l=⟨1,-1⟩ from Ne.symm h5)]
theorem a5n (l:Ei):a7 P0 200 [l.v] [] (int .i64 (dgOf l)) []:=by
 refine ajo rfl (by decide) ?_;simp only [agk,Ei.v,Ei.rv,push_cast,↓reduceIte,reduceCtorEq,zB,zE,zA,zS,zL,zD,zM]
 refine run_loop [(4,false),(1,false)] (fun vs pos los=>∃i:Int,(0≤i∧i≤6)∧(∀j:Nat,(j:Int)<i→uni j≠l)∧vs=[int .i64 i,.ptr 2000000 0 0]∧pos=[]∧los=[.box [int .i64 l.a,int .i64 l.b]])
  (fun vs _ _=>match vs with | .r (.v (.int _ j))::_=>(6-j).toNat | _=>0) rfl ?_ ?_
 ·simp only [push_cast,↓reduceIte,reduceCtorEq,zB,zE,zA,zS,zL,zD,zM];exact ⟨0,by omega,fun j hj=>by omega,rfl⟩
 ·rintro vs pos los ⟨i,i6,hj,rfl,rfl,rfl⟩;simp only [push_cast,↓reduceIte,reduceCtorEq,zB,zE,zA,zS,zL,zD,zM];refine b6 (fun h=>?_) (fun h=>?_)
  ·simp only [decide_eq_true_eq] at h;simp only [push_cast,↓reduceIte,reduceCtorEq,zB,zE,zA,zS,zL,zD,zM];refine c8 (auo i ⟨i6.1,h⟩) rfl trivial ?_;simp only [Ei.v,Ei.rv,push_cast,↓reduceIte,reduceCtorEq,zB,zE,zA,zS,zL,zD,zM];refine ⟨by kernel_rfl,b6 (fun h'=>?_) (fun h'=>?_)⟩
   ·have e:uni i.toNat=l:=by
     simp only [Bool.and_eq_true,beq_iff_eq] at h';exact Ei.ext' h'.1 h'.2
    simp only [push_cast,↓reduceIte,reduceCtorEq,zB,zE,zA,zS,zL,zD,zM];rw [← e,a1y _ (by omega),a6 (by omega),show ((i.toNat+1:Nat):Int)=i+1 by omega]
   ·have e:uni i.toNat≠l:=fun e=>by rw [e] at h'; simp at h'
    simp only [push_cast,↓reduceIte,reduceCtorEq,zB,zE,zA,zS,zL,zD,zM];rw [a6 (by omega)];refine ⟨⟨i+1,by omega,fun j hj'=>?_,rfl⟩,by omega⟩;by_cases hji:(j:Int)=i
    ·rw [show j=i.toNat by omega]; exact e
    ·exact hj j (by omega)
  ·have hi:i=6:=by simp at h; omega
   subst hi;simp only [push_cast,↓reduceIte,reduceCtorEq,zB,zE,zA,zS,zL,zD,zM];rw [a5o l fun j h6=>hj j (by omega)]
   rfl
theorem a77 (n:Int):a7 P0 201 [int .i64 n] [] (bl (decide (-512≤n∧n≤511))) []:=by
 refine ajp rfl (by decide) ?_;simp only [agl,push_cast,↓reduceIte,reduceCtorEq,zB,zE,zA,zS,zL,zD,zM];refine jd ?_;by_cases h1:-512≤n<;>by_cases h2:n<512<;>simp [h1,h2]<;>omega
def y9 (r:Nat) (z:Ei) (i:Nat):List AV:=(List.range 13).map fun j=>int .i64 (if i<j∧j≤r then (dg (anc (r-j) z):Int) else 0)
theorem rq (r:Nat) (z:Ei) (i:Nat):(y9 r z i).length=13:=by simp [y9]
theorem azc (r:Nat) (z:Ei):y9 r z r=[int .i64 0,int .i64 0,int .i64 0,int .i64 0,int .i64 0,int .i64 0,int .i64 0,int .i64 0,int .i64 0,int .i64 0,int .i64 0,int .i64 0,int .i64 0]:=by
 have:∀j,¬(r<j∧j≤r):=fun j=>by omega
 simp only [y9,this,if_false]
 rfl
theorem azd (r:Nat) (z:Ei) (i:Nat) (h1:1≤i) (h2:i≤r) (hr:r≤12):b7 (y9 r z i) i [int .i64 (dg (anc (r-i) z))]=y9 r z (i-1):=by
 have hl:=rq r z i;apply List.ext_getElem
 ·simp [b7,hl,rq]; omega
 ·intro j j1 j2;rw [rq] at j2;have e:∀(k:Nat) (hk:k<(y9 r z i).length),(y9 r z i)[k]=int .i64 (if i<k∧k≤r then (dg (anc (r-k) z):Int) else 0):=fun k hk=>by simp [y9]
  have e':∀(k:Nat) (hk:k<(y9 r z (i-1)).length),(y9 r z (i-1))[k]=int .i64 (if i-1<k∧k≤r then (dg (anc (r-k) z):Int) else 0):=fun k hk=>by simp [y9]
  rw [e'];have hm:min i 13=i:=by omega
  simp only [b7,List.getElem_append,zac,List.length_take,List.length_singleton,hl,List.getElem_take,List.getElem_drop,e,hm];by_cases c1:j<i
  ·rw [dif_pos (by omega),dif_pos c1,if_neg (by omega),if_neg (by omega)]
  ·by_cases c2:j=i
   ·subst c2;rw [dif_pos (by omega),dif_neg (by omega),if_pos (by omega)];simp
   ·rw [dif_neg (by omega)];rw [show i+1+(j-(i+1))=j by omega];by_cases c3:j≤r
    ·rw [if_pos (by omega),if_pos (by omega)]
    ·rw [if_neg (by omega),if_neg (by omega)]
theorem ayu (f:Nat→Int) (l:List Nat):i7 (l.map fun j=>int .i64 (f j))=[]:=by
 induction l with
 | nil=>rfl
 | cons a l ih=>show o9 _++i7 _=[]; rw [ih]; rfl
theorem a1i (F:Ren) (f:Nat→Int) (l:List Nat):imL F (l.map fun j=>int .i64 (f j))=l.map fun j=>int .i64 (f j):=by
 induction l with
 | nil=>rfl
 | cons a l ih=>show imV F _::imL F _ = _; rw [ih]; rfl
theorem ac2 (r:Nat) (z:Ei) (i:Nat):i7 (y9 r z i)=[]:=ayu _ _
theorem afi (F:Ren) (r:Nat) (z:Ei) (i:Nat):imL F (y9 r z i)=y9 r z i:=a1i F _ _
theorem aw6 (r:Nat) (z:Ei) (i:Nat):List.take 13 (y9 r z i)=y9 r z i:=List.take_of_length_le (by rw [rq]; exact Nat.le_refl _)
def aax (r:Nat) (z:Ei) (i:Nat):List RV:=(List.range 13).map fun j=>.v (.int .i64 (if i<j∧j≤r then (dg (anc (r-j) z):Int) else 0))
theorem a0o (ob:Obs) (f:Nat→Int) (l:List Nat):rvs ob (l.map fun j=>int .i64 (f j))=some (l.map fun j=>.v (.int .i64 (f j)),[]):=by
 induction l with
 | nil=>rfl
 | cons a l ih=>show rvs ob (_::_) = _; simp only [rvs,AV.rv,ih]; rfl
theorem a0p (ob:Obs) (r:Nat) (z:Ei) (i:Nat):rvs ob (y9 r z i)=some (aax r z i,[]):=a0o ob _ _
theorem aya (r:Nat) (z:Ei) (i:Nat):y9 r z i++List.drop 13 (y9 r z i)=y9 r z i:=by
 rw [List.drop_of_length_le (by rw [rq]; exact Nat.le_refl _),zab]
attribute [push_cast high] a0p aya
attribute [push_cast high] ac2 afi aw6 rq
theorem a1v (r:Nat) (z:Ei) (i:Nat) (h1:1≤i) (h2:i≤r) (hr:r≤12):List.take (0+i*1) (y9 r z i)++[int .i64 (dgOf (lft (anc (r-i) z)))]++List.drop (0+i*1+1) (y9 r z i)=y9 r z (i-1):=by
 rw [← azd r z i h1 h2 hr,b7,Nat.mul_one,Nat.zero_add]
 rfl
def ai3 (q:Ei):Bool:=decide ((-512≤q.a∧q.a≤511)∧(-512≤q.b∧q.b≤511))
theorem a2l (r:Int) (z:Ei) (h:iy r z=true):a7 P0 162 [cel r z] [] (.tup [(anc r.toNat z).v,.r (.agg (aax r.toNat z 0)),bl (ai3 (anc r.toNat z))]) []:=by
 refine an0 rfl (by decide) ?_;have h':=h;simp only [iy,decide_eq_true_eq] at h';simp only [akf,cel,push_cast,↓reduceIte,reduceCtorEq,zB,zE,zA,zS,zL,zD,zM];refine a9 (as':=[cel r z]) rfl ?_;refine a5 (a31 r z (h'.2.mono (by decide))) rfl trivial ?_;rw [h];simp only [push_cast,↓reduceIte,reduceCtorEq,zB,zE,zA,zS,zL,zD,zM];obtain ⟨⟨r0,r12⟩,hz⟩:=h'
 refine run_loop [(6,false),(5,false),(3,false),(2,false)] (fun vs pos los=>∃i:Int,(0≤i∧i≤r)∧vs=[int .i64 i,.ptr 2000000 0 0,.ptr 2000001 0 0,.ptr 2000002 0 0]∧pos=[]∧los=[.box [int .i64 (anc (r-i).toNat z).a,int .i64 (anc (r-i).toNat z).b],.box (y9 r.toNat z i.toNat),.box [int .i64 0,int .i64 0]])
  (fun vs _ _=>match vs with | .r (.v (.int _ j))::_=>j.toNat | _=>0) rfl ?_ ?_
 ·simp only [push_cast,↓reduceIte,reduceCtorEq,zB,zE,zA,zS,zL,zD,zM];refine ⟨r,by omega,?_⟩;rw [azc,Int.sub_self];exact ⟨rfl,rfl⟩
 ·rintro vs pos los ⟨i,i6,rfl,rfl,rfl⟩;simp only [push_cast,↓reduceIte,reduceCtorEq,zB,zE,zA,zS,zL,zD,zM];refine b6 (fun h=>?_) (fun h=>?_)
  ·simp only [decide_eq_true_eq] at h;simp only [push_cast,↓reduceIte,reduceCtorEq,zB,zE,zA,zS,zL,zD,zM];have ha:=azz (r-i).toNat hz (by decide);refine a9 (as':=[(anc (r-i).toNat z).v]) rfl ?_;refine a5 (a3y _ ha) rfl trivial ?_;simp only [Ei.v,Ei.rv,push_cast,↓reduceIte,reduceCtorEq,zB,zE,zA,zS,zL,zD,zM];refine o6 (as':=[(lft (anc (r-i).toNat z)).v]) rfl ?_;refine c8 (a5n _) rfl trivial ?_;have hst:=a1v r.toNat z i.toNat (by omega) (by omega) (by omega);rw [show r.toNat-i.toNat=(r-i).toNat by omega] at hst;have hpr:pr (anc (r-i).toNat z)=anc (r-(i-1)).toNat z:=by rw [← as2,show (r-i).toNat+1=(r-(i-1)).toNat by omega]
   simp only [Ei.v,Ei.rv,hst,push_cast,↓reduceIte,reduceCtorEq,zB,zE,zA,zS,zL,zD,zM];rw [show IntKind.i64.wrap (i-1)=i-1 from a6 (by omega),hpr];refine ⟨by omega,by omega,by kernel_rfl,⟨i-1,by omega,rfl,?_⟩,by omega⟩;rw [show (i-1).toNat=i.toNat-1 by omega]
  ·have hi:i=0:=by simp at h; omega
   subst hi;have ha:=azz r.toNat hz (by decide);simp only [push_cast,↓reduceIte,reduceCtorEq,zB,zE,zA,zS,zL,zD,zM];rw [show (r-0).toNat=r.toNat by omega,show Int.toNat 0=0 from rfl];refine ⟨by kernel_rfl,?_⟩;refine c8 (a77 _) rfl trivial ?_;by_cases c:-512≤(anc r.toNat z).a∧(anc r.toNat z).a≤511
   ·rw [decide_eq_true c];simp only [push_cast,↓reduceIte,reduceCtorEq,zB,zE,zA,zS,zL,zD,zM];refine ⟨by kernel_rfl,?_⟩;refine c8 (a77 _) rfl trivial ?_;simp only [Ei.v,Ei.rv,push_cast,↓reduceIte,reduceCtorEq,zB,zE,zA,zS,zL,zD,zM];refine ⟨by kernel_rfl,?_⟩;simp [ai3,c.1,c.2];kernel_rfl
   ·rw [decide_eq_false c];simp only [Ei.v,Ei.rv,push_cast,↓reduceIte,reduceCtorEq,zB,zE,zA,zS,zL,zD,zM];refine ⟨by kernel_rfl,?_⟩;simp only [ai3,c,false_and,decide_false];exact ⟨by kernel_rfl,trivial⟩
def bbi (r:Int) (z:Ei):Bool:=iy r z&&ai3 (anc r.toNat z)
theorem avj {r:Int} {z:Ei} (h0:0≤r) (h:okc r.toNat z):iy r z=true∧ai3 (anc r.toNat z)=true:=by
 obtain ⟨h1,h2,h3,h4⟩:=h;simp only [iy,ai3,decide_eq_true_eq];exact ⟨⟨⟨h0,by omega⟩,h2⟩,h3,h4⟩
theorem bar (r:Int) (z:Ei) (h0:0≤r) (h:okc r.toNat z):a7 P0 166 [cel r z] [] (bl true) []:=by
 refine ao9 rfl (by decide) ?_;simp only [an1,cel,push_cast,↓reduceIte,reduceCtorEq,zB,zE,zA,zS,zL,zD,zM];refine a9 (as':=[cel r z]) rfl ?_;refine a5 (a2l r z (avj h0 h).1) rfl trivial ?_;rw [(avj h0 h).2];simp only [Ei.v,Ei.rv,push_cast,↓reduceIte,reduceCtorEq,zB,zE,zA,zS,zL,zD,zM];refine ⟨by simp [aax],?_⟩;simp only [aax,List.map_map,List.all_map];rw [List.all_eq_true];intro x hx
 rfl
theorem bas (x y r:Int) (h:inW x y) (hr:0≤r∧r≤12):a7 P0 114 [int .i64 x,int .i64 y,int .i64 r] [] (.tup [cel r (c9 x y r.toNat),int .i64 0]) []:=by
 refine apa rfl (by decide) ?_;simp only [an2,cel,push_cast,↓reduceIte,reduceCtorEq,zB,zE,zA,zS,zL,zD,zM];refine a5 (a2x x y) rfl trivial ?_;rw [decide_eq_true h];simp only [push_cast,↓reduceIte,reduceCtorEq,zB,zE,zA,zS,zL,zD,zM];refine a5 (a7t x y r h hr) rfl trivial ?_;simp only [Ei.v,Ei.rv,push_cast,↓reduceIte,reduceCtorEq,zB,zE,zA,zS,zL,zD,zM]

theorem ait {a b k:Nat} (h:a<2^k):a ||| b*2^k=b*2^k+a:=by
 rw [Nat.or_comm,← Nat.shiftLeft_eq,Nat.shiftLeft_add_eq_or_of_lt h]
theorem p8 (n:Nat):0<8^n:=zby (by decide)
def ba9 (r:Nat) (z:Ei) (i:Nat):Nat:=((8^i-1)*8^(r-i)+val (r-i) z)*8^(12-r)+(8^(12-r)-1)

end Go.Ev

import Derived.Test.YtpibfnekkfhkmaaGreatM10
open Nat renaming reduceBEq → zB, reduceEqDiff → zE, reduceAdd → zA, reduceSub → zS, reduceLT → zL, reduceLeDiff → zD, reduceMul → zM
open Go.Proofs.Tryz renaming prog → P0
open Go.Proofs.Tryz
open Nat renaming zero_add → zaa, zero_mul → zae, one_mul → zaf, mul_one → zah
open Int renaming toNat_zero → zab, reduceToNat → zac, toNat_one → zad, toNat_natCast → zam, toNat_natCast_add_one → zan, natCast_add → zap, natCast_zero → zav, natCast_one → zay, tmod_eq_emod_of_nonneg → zbr, natCast_emod → zbs
open List renaming set_cons_zero → zai, set_cons_succ → zaj, length_map → zak, take_of_length_le → zal, length_nil → zao, getD_eq_getElem?_getD → zaq, mem_of_getElem? → zar, length_append → zas, getD_cons_zero → zat, append_assoc → zau, getD_cons_succ → zaw, nil_append → zax, drop_length → zaz, length_cons → zba, foldl_cons → zbb, mem_map → zbc, take → zbd, range → zbe, length_eq_zero_iff → zbf, map_nil → zbg, getElem?_map → zbh, drop_eq_getElem_cons → zbi, range_succ → zbk, cons_append → zbl, getElem?_eq_some_iff → zbm, foldl_nil → zbn, getElem?_eq_getElem → zbo, getElem?_eq_none → zbp, mem_singleton → zbq
open Bool renaming and_eq_true → zbj, or_eq_true → zbt
namespace Go.Ev
set_option maxRecDepth 100000
noncomputable section
open Go
set_option linter.unusedSectionVars false
set_option linter.unnecessarySimpa false
set_option linter.unusedVariables false
def ang:PC:=
  (.seq (.reg [p_s 2 (.mov (.c (.nils 1 (.v (.int .u8 0)))))])
 (.seq (.reg [p_c 12 1 55 [(.c (.nils 1 (.v (.int .u8 0)))),(o_i 15),(.c (.r (.v (.int .u64 2))))],p_m 3 12])
 (.seq (.reg [p_m 13 3,p_a 14 (.bsl 1 (.v (.int .u8 0)) [(.c (.r (.v (.int .u8 99)))),(.c (.r (.v (.int .u8 101)))),(.c (.r (.v (.int .u8 108)))),(.c (.r (.v (.int .u8 108)))),(.c (.r (.v (.int .u8 115))))]),
 p_a 15 (.mrk (.t 14)),p_c 16 2 79 [(.t 13),(o_i 1),(.t 15)],p_m 3 16])
 (.seq (.seq (.reg [p_m 17 0,p_s 18 (.len false (.t 17)),p_s 19 (.mov (o_i 0))])
 (.block 0 (.loop (.seq (.reg [p_s 20 (.bin .lss (.t 19) (.t 18))])
 (.seq (.cond (.t 20)
 .skip
 (.exit 0))
 (.seq (.block 1 (.seq (.reg [p_m 21 19,p_s 22 (.ia 6 (.agg [(.v (.int .u64 0)),(.sl 2 []),(.v (.int .i64 0)),(.v (.int .i64 0)),(.v (.int .i64 0)),(.v (.int .i64 0))]) (.t 17) (.t 19)),
 p_s 23 (.ld (some 6) (.t 22)),p_a 5 (.new [(.r (.v (.int .u64 0))),(.nils 2 (.agg [(.v (.int .i64 0)),(.v (.int .i64 0))])),(.r (.v (.int .i64 0))),(.r (.v (.int .i64 0))),(.r (.v (.int .i64 0))),(.r (.v (.int .i64 0)))]),
 p_m 4 21,⟨none,none,0,.act (.st 6 (.t 5) (.t 23))⟩])
 (.reg [p_m 24 3,p_s 25 (.fa 0 (.t 5)),p_s 26 (.ld none (.t 25)),p_s 27 (.build [(.r (.v (.int .u64 0))),(.r (.v (.int .i64 0))),(.r (.v (.int .i64 0))),(.r (.v (.int .i64 0))),(.r (.v (.int .i64 0)))] [(0,1,(.t 26))]),
 p_s 28 (.fa 1 (.t 5)),p_s 29 (.ld none (.t 28)),p_m 30 4,p_s 31 (.bin .mul (o_i 4) (.t 30)),p_c 32 3 28 [.t 27,.t 29,.t 31],p_c 33 4 79 [(.c (.nils 1 (.v (.int .u8 0)))),(o_i 2),(.t 32)],
 p_a 34 (.app 1 (.v (.int .u8 0)) 1 (.t 24) (.t 33)),p_m 3 34])))
 (.reg [p_s 35 (.bin .add (.t 19) (o_i 1)),p_m 19 35])))))))
 (.seq (.seq (.reg [p_a 36 (.bsl 1 (.v (.string ⟨#[]⟩)) [(.c (.r (.v (.string ⟨#[99,111,117,110,116]⟩)))),(.c (.r (.v (.string ⟨#[115,117,109]⟩)))),(.c (.r (.v (.string ⟨#[109,105,110]⟩)))),(.c (.r (.v (.string ⟨#[109,97,120]⟩))))]),
 p_s 37 (.len false (.t 36)),p_s 38 (.mov (o_i 0))])
 (.block 2 (.loop (.seq (.reg [p_s 39 (.bin .lss (.t 38) (.t 37))])
 (.seq (.cond (.t 39)
 .skip
 (.exit 2))
 (.seq (.block 3 (.seq (.reg [p_s 40 (.ia 1 (.v (.string ⟨#[]⟩)) (.t 36) (.t 38)),p_s 41 (.ld none (.t 40)),p_m 7 41])
 (.reg [p_m 42 3,p_m 43 7,p_a 44 (.toBytes (.v (.int .u8 0)) (.t 43)),p_c 45 5 79 [(.t 42),(o_i 3),(.t 44)],p_m 3 45])))
 (.reg [p_s 46 (.bin .add (.t 38) (o_i 1)),p_m 38 46])))))))
 (.seq (.seq (.reg [p_m 47 0,p_s 48 (.len false (.t 47)),p_s 49 (.mov (o_i 0))])
 (.block 4 (.loop (.seq (.reg [p_s 50 (.bin .lss (.t 49) (.t 48))])
 (.seq (.cond (.t 50)
 .skip
 (.exit 4))
 (.seq (.block 5 (.seq (.reg [p_s 51 (.ia 6 (.agg [(.v (.int .u64 0)),(.sl 2 []),(.v (.int .i64 0)),(.v (.int .i64 0)),(.v (.int .i64 0)),(.v (.int .i64 0))]) (.t 47) (.t 49)),p_s 52 (.ld (some 6) (.t 51)),
 p_a 9 (.new [(.r (.v (.int .u64 0))),(.nils 2 (.agg [(.v (.int .i64 0)),(.v (.int .i64 0))])),(.r (.v (.int .i64 0))),(.r (.v (.int .i64 0))),(.r (.v (.int .i64 0))),(.r (.v (.int .i64 0)))]),
 ⟨none,none,0,.act (.st 6 (.t 9) (.t 52))⟩])
 (.seq (.reg [p_s 53 (.fa 2 (.t 9)),p_s 54 (.ld none (.t 53)),p_s 55 (.fa 3 (.t 9)),p_s 56 (.ld none (.t 55)),p_s 57 (.fa 4 (.t 9)),p_s 58 (.ld none (.t 57)),p_s 59 (.fa 5 (.t 9)),
 p_s 60 (.ld none (.t 59)),p_a 61 (.bsl 1 (.v (.int .i64 0)) [(.t 54),(.t 56),(.t 58),(.t 60)]),p_s 62 (.len false (.t 61)),p_s 63 (.mov (o_i 0))])
 (.block 6 (.loop (.seq (.reg [p_s 64 (.bin .lss (.t 63) (.t 62))])
 (.seq (.cond (.t 64)
 .skip
 (.exit 6))
 (.seq (.block 7 (.seq (.reg [p_s 65 (.ia 1 (.v (.int .i64 0)) (.t 61) (.t 63)),p_s 66 (.ld none (.t 65)),p_m 11 66])
 (.reg [p_m 67 3,p_m 68 11,p_c 69 6 31 [.t 68],p_c 70 7 55 [(.c (.nils 1 (.v (.int .u8 0)))),(o_i 6),(.t 69)],p_c 71 8 79 [(.c (.nils 1 (.v (.int .u8 0)))),(o_i 4),(.t 70)],
 p_a 72 (.app 1 (.v (.int .u8 0)) 1 (.t 67) (.t 71)),p_m 3 72])))
 (.reg [p_s 73 (.bin .add (.t 63) (o_i 1)),p_m 63 73])))))))))
 (.reg [p_s 74 (.bin .add (.t 49) (o_i 1)),p_m 49 74])))))))
 (.seq (.reg [p_m 75 3,p_c 76 9 55 [(.t 75),(o_i 5),(.c (.r (.v (.int .u64 4096))))],p_m 3 76])
 (.seq (.reg [p_m 77 3,p_c 78 10 79 [(.c (.nils 1 (.v (.int .u8 0)))),(o_i 3),(.t 77)],p_m 2 78])
 .ret))))))))
theorem aqr:Fun P0 40 1 [(2,false,none)] ang:=ad1 func40 rfl (by decide) (by kernel_rfl) (by decide) rfl (by kernel_rfl) (by kernel_rfl) (by decide)
structure Fea where
 w:Int
 ring:List P2
 c:Int
 s:Int
 lo:Int
 hi:Int
instance:Inhabited Fea:=⟨⟨0,[],0,0,0,0⟩⟩
def Fea.rv (f:Fea):RV:=.agg [.v (.int .u64 f.w),.sl 2 (f.ring.map ptR),.v (.int .i64 f.c),.v (.int .i64 f.s),.v (.int .i64 f.lo),.v (.int .i64 f.hi)]
def Fea.ok (f:Fea):Prop:=(0≤f.w∧f.w<18446744073709551616)∧f.ring.length≤100000∧i64P f.ring∧(in64 f.c∧in64 f.s∧in64 f.lo∧in64 f.hi)
def l8 (l:List Fea):AV:=.r (.sl 6 (l.map Fea.rv))
def fx (l:List Fea) (j:Nat):List UInt8:=k8 2 (ci (l.getD j default).w (4*(j:Int)) (l.getD j default).ring)
def fo (l:List Fea) (i:Nat):List UInt8:=(zbe i).flatMap (fx l)
def er:Nat→List UInt8
 | 0=>[99,111,117,110,116]
 | 1=>[115,117,109]
 | 2=>[109,105,110]
 | _=>[109,97,120]
def mz (i:Nat):List UInt8:=(zbe i).flatMap fun j=>k8 3 (er j)
def Fea.nums (f:Fea):List Int:=[f.c,f.s,f.lo,f.hi]
def vx (f:Fea) (k:Nat):List UInt8:=k8 4 (o6 6 (zig (f.nums.getD k 0)))
def ny (f:Fea) (k:Nat):List UInt8:=(zbe k).flatMap (vx f)
def mr (l:List Fea) (j:Nat):List UInt8:=(zbe j).flatMap fun i=>ny (l.getD i default) 4
def ov:List UInt8:=o6 15 2++k8 1 [99,101,108,108,115]
def q9 (l:List Fea):List UInt8:=k8 3 (ov++fo l l.length++mz 4++mr l l.length++o6 5 4096)
theorem adl (l:List Fea) (i:Nat):fo l (i+1)=fo l i++fx l i:=by simp [fo,zbk]
theorem au9 (i:Nat):mz (i+1)=mz i++k8 3 (er i):=by simp [mz,zbk]
theorem al5 (f:Fea) (i:Nat):ny f (i+1)=ny f i++vx f i:=by simp [ny,zbk]
theorem afo (l:List Fea) (i:Nat):mr l (i+1)=mr l i++ny (l.getD i default) 4:=by simp [mr,zbk]
theorem bjn {l:List Fea} (h:∀f∈l,f.ok) (j:Nat):(fx l j).length≤2000400:=by
 have h1:=jb 2 (ci (l.getD j default).w (4*(j:Int)) (l.getD j default).ring);have h2:=ad2 (l.getD j default).w (4*(j:Int)) (l.getD j default).ring
 have h3:(l.getD j default).ring.length≤100000:=by
  rw [zaq];cases e:l[j]? with
  | none=>exact Nat.zero_le _
  | some f=>exact (h f (zar e)).2.1
 unfold fx;omega
theorem aaw {l:List Fea} (h:∀f∈l,f.ok):∀i,(fo l i).length≤2000400*i
 | 0=>by simp [fo]
 | i+1=>by
  have:=aaw h i;have:=bjn h i;rw [adl,zas];omega
theorem as0 (i:Nat):(er i).length≤5:=by unfold er; split<;>simp
theorem yz:∀i,(mz i).length≤25*i
 | 0=>by simp [mz]
 | i+1=>by
  have:=yz i;have:=as0 i;have:=jb 3 (er i);rw [au9,zas];omega
theorem azu (f:Fea) (i:Nat):(vx f i).length≤40:=by
 have:=ck 6 (zig (f.nums.getD i 0));have:=jb 4 (o6 6 (zig (f.nums.getD i 0)));unfold vx;omega
theorem ait (f:Fea):∀i,(ny f i).length≤40*i
 | 0=>by simp [ny]
 | i+1=>by
  have:=ait f i;have:=azu f i;rw [al5,zas];omega
theorem yh (l:List Fea):∀i,(mr l i).length≤160*i
 | 0=>by simp [mr]
 | i+1=>by
  have:=yh l i;have:=ait (l.getD i default) 4;rw [afo,zas];omega
theorem ad0:ov.length≤50:=by decide
theorem ale {l:List Fea} {i:Nat} (hi:i<l.length) (z:RV):(l.map Fea.rv).getD i z=.agg [.v (.int .u64 (l.getD i default).w),.sl 2 ((l.getD i default).ring.map ptR),.v (.int .i64 (l.getD i default).c),.v (.int .i64 (l.getD i default).s),.v (.int .i64 (l.getD i default).lo),.v (.int .i64 (l.getD i default).hi)]:=by
 simp [zaq,hi,Fea.rv]
theorem aau {l:List Fea} (h:∀f∈l,f.ok) {i:Nat} (hi:i<l.length):(l.getD i default).ok:=by
 rw [zaq,zbo hi];exact h _ (List.getElem_mem hi)
set_option maxHeartbeats 2000000 in
theorem a3p (l:List Fea) (hl:l.length≤100000) (h:∀f∈l,f.ok):a8 P0 40 [l8 l] [] (.own 1000000 0 0 (q9 l).length) [oi (q9 l)]:=by
 refine aqr rfl (by decide) ?_;have hmx:=d7;obtain ⟨N,hN,hN1⟩:∃N:Int,((l.length:Nat):Int)=N∧0≤N∧N≤100000:=⟨_,rfl,by omega,by omega⟩
 have tn:=aut [] 15 2 (by decide) (by decide) (by decide) (by simp);rw [zax] at tn;have tb:=ac5 (o6 15 2) 1 [99,101,108,108,115] (by decide) (by decide) (by decide);rw [show o6 15 2++k8 1 [99,101,108,108,115]=ov from rfl] at tb;have hH:=ad0;simp only [ang,l8,push_cast];refine b5 (as':=[sb [],int .i64 15,int .u64 2]) rfl ?_;refine a6 tn rfl trivial ?_;simp only [push_cast,↓reduceIte,zE,zA,zS,zL,zD,zM];refine And.intro (by simp) (i9 ?_);refine b5 (as':=[sb (o6 15 2),int .i64 1,sb [99,101,108,108,115]]) rfl ?_;refine a6 tb rfl trivial ?_;simp only [push_cast,↓reduceIte,reduceCtorEq,zE,zA,zS,zL,zD,zM];have hF:=aaw h
 refine run_loop [(19,false),(18,false),(17,false),(3,false),(0,false)] (fun vs pos los=>∃(i:Nat) (B:List UInt8),i≤l.length∧B=ov++fo l i∧pos=[] ∧
   vs=[int .i64 i,int .i64 N,l8 l,.own 2000000 0 0 B.length,l8 l]∧los=[oi B])
  (fun vs _ _=>match vs with | .r (.v (.int _ a))::_=>(N-a).toNat | _=>0) rfl ?_ ?_
 ·simp only [l8,push_cast,↓reduceIte,reduceCtorEq,zE,zA,zL,zD];exact ⟨0,ov,by omega,by simp [fo],by simp [hN]⟩
 ·rintro vs pos los ⟨i,B,hi,hB,rfl,rfl,rfl⟩;have hFi:=hF i;have hBl:B.length=ov.length+(fo l i).length:=by rw [hB,zas]
  have w1:IntKind.i64.wrap ((i:Int)+1)=i+1:=a5 (by omega);have w4:IntKind.i64.wrap (4*(i:Int))=4*i:=a5 (by omega);simp only [l8,push_cast,↓reduceIte,zE];refine b6 (fun hd=>?_) (fun hd=>?_)
  ·have hd:=of_decide_eq_true hd;have hi2:i<l.length:=by omega
   have hg:=ale hi2;have ho:=aau h hi2;have hlg:B++fx l i=B++k8 2 (ci (l.getD i default).w (4*(i:Int)) (l.getD i default).ring):=rfl;have hff:=ad2 (l.getD i default).w (4*(i:Int)) (l.getD i default).ring;generalize l.getD i default=f at *;have tf:=tfeat_t f.w 0 0 0 0 (4*(i:Int)) f.ring ho.1 (by unfold in64; omega) ho.2.1 ho.2.2.1;have tb:=ac5 [] 2 (ci f.w (4*(i:Int)) f.ring) (by decide) (by have:=ho.2.1; omega) (by simp);rw [zax] at tb;have hbl:=jb 2 (ci f.w (4*(i:Int)) f.ring);generalize ci f.w (4*(i:Int)) f.ring=FL at *;generalize k8 2 FL=BL at *;simp only [hg,w4,hN,zam,zaa,push_cast,↓reduceIte,zE,zA,zL,zD];refine And.intro (by omega) ?_
   refine b5 (as':=[a4v f.w 0 0 0 0,a9 f.ring,int .i64 (4*(i:Int))]) rfl ?_;refine a6 tf rfl trivial ?_;simp only [push_cast,↓reduceIte,zE,zA,zS,zL,zD,zM];refine i9 ?_;refine b5 (as':=[sb [],int .i64 2,sb FL]) rfl ?_;refine a6 tb rfl trivial ?_;simp only [w1,push_cast,↓reduceIte,reduceCtorEq,zE,zA,zS,zL,zD,zM];have hrl:=ho.2.1;refine ⟨⟨by omega,by omega⟩,⟨i+1,B++BL,by omega,?_,by simp,by simp⟩,by omega⟩;rw [adl,← zau,← hB,hlg]
  ·have hd:=of_decide_eq_false hd;have hi2:i=l.length:=by omega
   subst hi2;simp only [push_cast,↓reduceIte,zE,zA];have hHd:B.length≤200040000050:=by omega
   refine And.intro (by simp) (run_loop [(38,false),(37,false),(36,false),(3,false),(0,false)] (fun vs pos los=>∃(k:Nat) (C:List UInt8),k≤4∧C=B++mz k∧pos=[] ∧
     vs=[int .i64 k,int .i64 4,.own 2000000 0 0 4,.own 2000001 0 0 C.length,l8 l]∧los=[.row 1 (.v (.string ⟨#[]⟩)) true true [.v (.string ⟨#[99,111,117,110,116]⟩),.v (.string ⟨#[115,117,109]⟩),.v (.string ⟨#[109,105,110]⟩),.v (.string ⟨#[109,97,120]⟩)],oi C])
    (fun vs _ _=>match vs with | .r (.v (.int _ a))::_=>(4-a).toNat | _=>0) rfl ?_ ?_)
   ·simp only [l8,push_cast,↓reduceIte,reduceCtorEq,zB,zE,zA,zL,zD];exact ⟨0,B,by omega,by simp [mz],by simp⟩
   ·rintro vs pos los ⟨k,C,hk,hC,rfl,rfl,rfl⟩;have hKl:=yz k;have hCl:C.length=B.length+(mz k).length:=by rw [hC,zas]
    have hks:=au9 k;have tk:=ac5 C 3 (er k) (by decide) (by have:=as0 k; omega) (by omega);rcases (show k=0∨k=1∨k=2∨k=3∨k=4 by omega) with rfl | rfl | rfl | rfl | rfl
    ·have d4:decide ((0:Int)<4)=true:=rfl;have w1:IntKind.i64.wrap ((0:Int)+1)=1:=rfl;have zs:(ByteArray.mk #[99,111,117,110,116]).size=5:=rfl;simp only [l8,d4,zs,zab,zaa,push_cast,↓reduceIte,zE,zA,zL];refine And.intro (by decide) (And.intro (by omega) (i9 ?_));refine b5 (as':=[sb C,int .i64 3,sb (er 0)]) rfl ?_;refine a6 tk rfl trivial ?_;simp only [w1,push_cast,↓reduceIte,reduceCtorEq,zB,zE,zA,zS,zL,zD,zM];exact ⟨⟨1,C++k8 3 (er 0),by omega,by rw [hks,← zau,← hC],by simp,by simp⟩,by decide⟩
    ·have d4:decide ((1:Int)<4)=true:=rfl;have w1:IntKind.i64.wrap ((1:Int)+1)=2:=rfl;have zs:(ByteArray.mk #[115,117,109]).size=3:=rfl;simp only [l8,d4,zs,zad,zaa,push_cast,↓reduceIte,zE,zA,zL];refine And.intro (by decide) (And.intro (by omega) (i9 ?_));refine b5 (as':=[sb C,int .i64 3,sb (er 1)]) rfl ?_;refine a6 tk rfl trivial ?_;simp only [w1,push_cast,↓reduceIte,reduceCtorEq,zB,zE,zA,zS,zL,zD,zM];exact ⟨⟨2,C++k8 3 (er 1),by omega,by rw [hks,← zau,← hC],by simp,by simp⟩,by decide⟩
    ·have d4:decide ((2:Int)<4)=true:=rfl;have w1:IntKind.i64.wrap ((2:Int)+1)=3:=rfl;have zs:(ByteArray.mk #[109,105,110]).size=3:=rfl;simp only [l8,d4,zs,zac,zaa,push_cast,↓reduceIte,zE,zA,zL];refine And.intro (by decide) (And.intro (by omega) (i9 ?_));refine b5 (as':=[sb C,int .i64 3,sb (er 2)]) rfl ?_;refine a6 tk rfl trivial ?_;simp only [w1,push_cast,↓reduceIte,reduceCtorEq,zB,zE,zA,zS,zL,zD,zM];exact ⟨⟨3,C++k8 3 (er 2),by omega,by rw [hks,← zau,← hC],by simp,by simp⟩,by decide⟩
    ·have d4:decide ((3:Int)<4)=true:=rfl;have w1:IntKind.i64.wrap ((3:Int)+1)=4:=rfl;have zs:(ByteArray.mk #[109,97,120]).size=3:=rfl;simp only [l8,d4,zs,zac,zaa,push_cast,↓reduceIte,zE,zA,zL];refine And.intro (by decide) (And.intro (by omega) (i9 ?_));refine b5 (as':=[sb C,int .i64 3,sb (er 3)]) rfl ?_;refine a6 tk rfl trivial ?_;simp only [w1,push_cast,↓reduceIte,reduceCtorEq,zB,zE,zA,zS,zL,zD,zM];exact ⟨⟨4,C++k8 3 (er 3),by omega,by rw [hks,← zau,← hC],by simp,by simp⟩,by decide⟩
    ·have d4:decide ((4:Int)<4)=false:=rfl;simp only [l8,d4,hN,push_cast,↓reduceIte,reduceCtorEq,zE,zA];have hCl2:C.length≤200040000150:=by omega
     clear tk
     refine run_loop [(49,false),(48,false),(47,false),(3,false),(0,false)] (fun vs pos los=>∃(j:Nat) (D:List UInt8),j≤l.length∧D=C++mr l j∧pos=[] ∧
       vs=[int .i64 j,int .i64 N,l8 l,.own 2000000 0 0 D.length,l8 l]∧los=[oi D])
      (fun vs _ _=>match vs with | .r (.v (.int _ a))::_=>(N-a).toNat | _=>0) rfl ?_ ?_
     ·simp only [l8,push_cast,↓reduceIte,reduceCtorEq,zE,zA,zL,zD];exact ⟨0,C,by omega,by simp [mr],by simp⟩
     ·rintro vs pos los ⟨j,D,hj,hD,rfl,rfl,rfl⟩;have hDi:=yh l j;have hDl:D.length=C.length+(mr l j).length:=by rw [hD,zas]
      have w1:IntKind.i64.wrap ((j:Int)+1)=j+1:=a5 (by omega);have hVs:=afo l j;simp only [l8,push_cast,↓reduceIte,zE];refine b6 (fun hd=>?_) (fun hd=>?_)
      ·have hd:=of_decide_eq_true hd;have hi2:j<l.length:=by omega
       have hg:=ale hi2;have ho:=aau h hi2;generalize l.getD j default=f at *;simp only [hg,hN,zam,zaa,push_cast,↓reduceIte,zE,zA,zL,zD];refine And.intro (by omega) (And.intro (by simp) ?_)
       refine run_loop [(63,false),(62,false),(61,false),(49,false),(48,false),(47,false),(3,false),(0,false)] (fun vs pos los=>∃(k:Nat) (E:List UInt8),k≤4∧E=D++ny f k∧pos=[] ∧
         vs=[int .i64 k,int .i64 4,.own 2000000 0 0 4,int .i64 j,int .i64 N,l8 l,.own 2000001 0 0 E.length,l8 l]∧los=[.row 1 (.v (.int .i64 0)) true true (f.nums.map fun n=>.v (.int .i64 n)),oi E])
        (fun vs _ _=>match vs with | .r (.v (.int _ a))::_=>(4-a).toNat | _=>0) rfl ?_ ?_
       ·simp only [l8,Fea.nums,push_cast,↓reduceIte,reduceCtorEq,zB,zE,zA,zL,zD];exact ⟨0,D,by omega,by simp [ny],by simp⟩
       ·rintro vs pos los ⟨k,E,hk,hE,rfl,rfl,rfl⟩;have hEi:=ait f k;have hEl:E.length=D.length+(ny f k).length:=by rw [hE,zas]
        have hnl:f.nums.length=4:=rfl;have w2:IntKind.i64.wrap ((k:Int)+1)=k+1:=a5 (by omega);have hKs:=al5 f k;simp only [l8,push_cast,↓reduceIte,zE,zA];refine b6 (fun hd4=>?_) (fun hd4=>?_)
        ·have hd4:=of_decide_eq_true hd4
         have hgn:∀z,(f.nums.map fun n=>RV.v (.int .i64 n)).getD k z=.v (.int .i64 (f.nums.getD k 0)):=fun z=>by
          have:k<f.nums.length:=by omega
          simp [zaq,this]
         have hin:in64 (f.nums.getD k 0):=by
          obtain ⟨q1,q2,q3,q4⟩:=ho.2.2.2;rcases (show k=0∨k=1∨k=2∨k=3 by omega) with rfl | rfl | rfl | rfl
          ·exact q1
          ·exact q2
          ·exact q3
          ·exact q4
         have zi:=ado _ hin;have tz:=atl _ hin;have tnn:=aut [] 6 (zig (f.nums.getD k 0)) (by decide) zi.1 zi.2 (by simp);have hnn:=ck 6 (zig (f.nums.getD k 0));have tbb:=ac5 [] 4 (o6 6 (zig (f.nums.getD k 0))) (by decide) (by omega) (by simp);have hvx:=azu f k;rw [zax] at tnn tbb;rw [show k8 4 (o6 6 (zig (f.nums.getD k 0)))=vx f k from rfl] at tbb;generalize vx f k=V at *;generalize o6 6 (zig (f.nums.getD k 0))=U at *;simp only [hgn,zam,zaa,push_cast,↓reduceIte,zE,zL];refine And.intro (by omega) ?_;refine a6 tz rfl trivial ?_;simp only [push_cast,↓reduceIte]
         refine b5 (as':=[sb [],int .i64 6,int .u64 (zig (f.nums.getD k 0))]) rfl ?_;refine a6 tnn rfl trivial ?_;simp only [push_cast,↓reduceIte,zE,zA,zS,zL,zD,zM];refine i9 ?_;refine b5 (as':=[sb [],int .i64 4,sb U]) rfl ?_;refine a6 tbb rfl trivial ?_;simp only [w2,push_cast,↓reduceIte,reduceCtorEq,zB,zE,zA,zS,zL,zD,zM];exact ⟨⟨by omega,by omega⟩,⟨k+1,E++V,by omega,by rw [hKs,← zau,← hE],by simp,by simp⟩,by omega⟩
        ·have hd4:=of_decide_eq_false hd4;obtain rfl:k=4:=by omega
         simp only [w1,push_cast,↓reduceIte,reduceCtorEq,zE,zA,zL,zD];exact ⟨⟨j+1,E,by omega,by rw [hVs,← zau,← hD,hE],by simp,by simp⟩,by omega⟩
      ·have hd:=of_decide_eq_false hd;have hi2:j=l.length:=by omega
       subst hi2;have te:=aut D 5 4096 (by decide) (by decide) (by decide) (by omega);have hle:=ck 5 4096;have hDF:k8 3 (D++o6 5 4096)=q9 l:=by rw [hD,hC,hB]; rfl
       have tf:=ac5 [] 3 (D++o6 5 4096) (by decide) (by rw [zas]; omega) (by simp);rw [zax,hDF] at tf;simp only [push_cast,↓reduceIte,zE];refine i9 ?_;refine b5 (as':=[sb D,int .i64 5,int .u64 4096]) rfl ?_;refine a6 te rfl trivial ?_;generalize D++o6 5 4096=G at *;simp only [push_cast,↓reduceIte,zE,zA,zS,zL,zD,zM];refine i9 ?_;refine b5 (as':=[sb [],int .i64 3,sb G]) rfl ?_;refine a6 tf rfl trivial ?_;simp only [push_cast,↓reduceIte,zE,zA,zS,zL,zD,zM]

def pu:PC:=
  (.seq (.reg [p_s 2 (.mov (.c (.r (.v (.string ⟨#[]⟩)))))])
 (.seq (.seq (.reg [p_m 8 0,p_s 9 (.len false (.t 8)),p_s 10 (.bin .eql (.t 9) (o_i 0))])
 (.cond (.t 10)
 (.seq (.reg [p_s 2 (.mov (.c (.r (.v (.string ⟨#[]⟩)))))])
 .ret)
 .skip))
 (.seq (.reg [p_c 11 1 57 [(o_i 15),(.c (.r (.v (.int .u64 2))))],p_c 12 2 88 [(o_i 1),(.c (.r (.v (.string ⟨#[99,101,108,108,115]⟩))))],p_s 13 (.bin .add (.t 11) (.t 12)),
 p_m 3 13])
 (.seq (.seq (.reg [p_s 4 (.mov (o_i 0))])
 (.block 0 (.loop (.seq (.seq (.reg [p_m 14 4,p_m 15 0,p_s 16 (.len false (.t 15)),p_s 17 (.bin .lss (.t 14) (.t 16))])
 (.cond (.t 17)
 .skip
 (.exit 0)))
 (.seq (.block 1 (.drw [p_m 20 3,p_m 21 0,p_m 22 4,p_s 23 (.ia 6 (.agg [(.v (.int .u64 0)),(.sl 2 []),(.v (.int .i64 0)),(.v (.int .i64 0)),(.v (.int .i64 0)),(.v (.int .i64 0))]) (.t 21) (.t 22)),
 p_s 24 (.fa 0 (.t 23)),p_s 25 (.ld none (.t 24)),p_m 26 0,p_m 27 4,p_s 28 (.ia 6 (.agg [(.v (.int .u64 0)),(.sl 2 []),(.v (.int .i64 0)),(.v (.int .i64 0)),(.v (.int .i64 0)),(.v (.int .i64 0))]) (.t 26) (.t 27)),
 p_s 29 (.fa 1 (.t 28)),p_s 30 (.ld none (.t 29)),p_m 31 4,p_s 32 (.bin .mul (o_i 4) (.t 31)),p_c 33 3 29 [.t 25,.t 30,.t 32],p_c 34 4 88 [(o_i 2),(.t 33)],
 p_s 35 (.bin .add (.t 20) (.t 34)),p_m 3 35]
 [[],[],[],[1,2],[1,2,3],[1,2,3,4],[],[],[6,7],[6,7,8],[6,7,8,9],[],[11],[1,2,3,4,5,6,7,8,9,10,11,12],[1,2,3,4,5,6,7,8,9,10,11,12,13],[0,1,2,3,4,5,6,7,8,9,10,11,12,13,14],[0,1,2,3,4,5,6,7,8,9,10,11,12,13,14,15]]))
 (.reg [p_m 18 4,p_s 19 (.bin .add (.t 18) (o_i 1)),p_m 4 19]))))))
 (.seq (.reg [p_m 36 3,p_c 37 5 88 [(o_i 3),(.c (.r (.v (.string ⟨#[99,111,117,110,116]⟩))))],p_s 38 (.bin .add (.t 36) (.t 37)),p_c 39 6 88 [(o_i 3),(.c (.r (.v (.string ⟨#[115,117,109]⟩))))],
 p_s 40 (.bin .add (.t 38) (.t 39)),p_c 41 7 88 [(o_i 3),(.c (.r (.v (.string ⟨#[109,105,110]⟩))))],p_s 42 (.bin .add (.t 40) (.t 41)),p_c 43 8 88 [(o_i 3),(.c (.r (.v (.string ⟨#[109,97,120]⟩))))],
 p_s 44 (.bin .add (.t 42) (.t 43)),p_m 3 44])
 (.seq (.seq (.reg [p_s 5 (.mov (o_i 0))])
 (.block 2 (.loop (.seq (.seq (.reg [p_m 45 5,p_m 46 0,p_s 47 (.len false (.t 46)),p_s 48 (.bin .lss (.t 45) (.t 47))])
 (.cond (.t 48)
 .skip
 (.exit 2)))
 (.seq (.block 3 (.seq (.drw [p_m 51 0,p_m 52 5,p_s 53 (.ia 6 (.agg [(.v (.int .u64 0)),(.sl 2 []),(.v (.int .i64 0)),(.v (.int .i64 0)),(.v (.int .i64 0)),(.v (.int .i64 0))]) (.t 51) (.t 52)),
 p_s 54 (.fa 2 (.t 53)),p_s 55 (.ld none (.t 54)),p_m 56 0,p_m 57 5,p_s 58 (.ia 6 (.agg [(.v (.int .u64 0)),(.sl 2 []),(.v (.int .i64 0)),(.v (.int .i64 0)),(.v (.int .i64 0)),(.v (.int .i64 0))]) (.t 56) (.t 57)),
 p_s 59 (.fa 3 (.t 58)),p_s 60 (.ld none (.t 59)),p_m 61 0,p_m 62 5,p_s 63 (.ia 6 (.agg [(.v (.int .u64 0)),(.sl 2 []),(.v (.int .i64 0)),(.v (.int .i64 0)),(.v (.int .i64 0)),(.v (.int .i64 0))]) (.t 61) (.t 62)),
 p_s 64 (.fa 4 (.t 63)),p_s 65 (.ld none (.t 64)),p_m 66 0,p_m 67 5,p_s 68 (.ia 6 (.agg [(.v (.int .u64 0)),(.sl 2 []),(.v (.int .i64 0)),(.v (.int .i64 0)),(.v (.int .i64 0)),(.v (.int .i64 0))]) (.t 66) (.t 67)),
 p_s 69 (.fa 5 (.t 68)),p_s 70 (.ld none (.t 69)),p_s 71 (.build [(.r (.v (.int .i64 0))),(.r (.v (.int .i64 0))),(.r (.v (.int .i64 0))),(.r (.v (.int .i64 0)))] [(0,1,(.t 55)),(1,1,(.t 60)),(2,1,(.t 65)),(3,1,(.t 70))]),
 p_a 6 (.new [(.r (.v (.int .i64 0))),(.r (.v (.int .i64 0))),(.r (.v (.int .i64 0))),(.r (.v (.int .i64 0)))]),⟨none,none,0,.act (.st 4 (.t 6) (.t 71))⟩]
 [[],[],[0,1],[0,1,2],[0,1,2,3],[],[],[5,6],[5,6,7],[5,6,7,8],[],[],[10,11],[10,11,12],[10,11,12,13],[],[],[15,16],[15,16,17],[15,16,17,18],[0,1,2,3,4,5,6,7,8,9,10,11,12,13,14,15,16,17,18,19],[],[0,1,2,3,4,5,6,7,8,9,10,11,12,13,14,15,16,17,18,19,20,21]])
 (.seq (.reg [p_s 7 (.mov (o_i 0))])
 (.block 4 (.loop (.seq (.seq (.reg [p_m 72 7,p_s 73 (.bin .lss (.t 72) (o_i 4))])
 (.cond (.t 73)
 .skip
 (.exit 4)))
 (.seq (.block 5 (.reg [p_m 76 3,p_m 77 7,p_s 78 (.iaa 4 1 (.t 6) (.t 77)),p_s 79 (.ld none (.t 78)),p_c 80 9 34 [.t 79],p_c 81 10 57 [(o_i 6),(.t 80)],p_c 82 11 88 [(o_i 4),(.t 81)],
 p_s 83 (.bin .add (.t 76) (.t 82)),p_m 3 83]))
 (.reg [p_m 74 7,p_s 75 (.bin .add (.t 74) (o_i 1)),p_m 7 75]))))))))
 (.reg [p_m 49 5,p_s 50 (.bin .add (.t 49) (o_i 1)),p_m 5 50]))))))
 (.seq (.reg [p_m 84 3,p_c 85 12 57 [(o_i 5),(.c (.r (.v (.int .u64 4096))))],p_s 86 (.bin .add (.t 84) (.t 85)),p_c 87 13 88 [(o_i 3),(.t 86)],p_m 2 87])
 .ret)))))))
theorem ahw:Fun P0 45 1 [(2,false,none)] pu:=ad1 func45 rfl (by decide) (by kernel_rfl) (by decide) rfl (by kernel_rfl) (by kernel_rfl) (by decide)
theorem au6 {l:List Fea} (h:∀f∈l,f.ok):(q9 l).length≤2000600*l.length+300:=by
 have h1:=aaw h l.length;have h2:=yh l l.length;have h3:=yz 4;have h4:=ad0;have h5:=ck 5 4096;have h6:=jb 3 (ov++fo l l.length++mz 4++mr l l.length++o6 5 4096);unfold q9;simp only [zas] at h6;omega
set_option maxHeartbeats 2000000 in
theorem a0f (l:List Fea) (hl:l.length≤100000) (h:∀f∈l,f.ok):a8 P0 45 [l8 l] [] (z7 (l9 (if l=[] then [] else q9 l))) []:=by
 refine ahw rfl (by decide) ?_;have hmx:=d7;obtain ⟨N,hN,hN1⟩:∃N:Int,((l.length:Nat):Int)=N∧0≤N∧N≤100000:=⟨_,rfl,by omega,by omega⟩
 by_cases h0:l=[]
 ·subst h0;simp only [pu,l8,push_cast,↓reduceIte,reduceCtorEq,zA]
  rfl
 rw [if_neg h0];have hpos:l.length≠0:=fun e=>h0 (zbf.1 e);have n0:(N == 0)=false:=beq_eq_false_iff_ne.2 (by omega);have tn:=aon 15 2 (by decide) (by decide) (by decide);have tb:=ol 1 [99,101,108,108,115] (by decide) (by decide);have hH:=ad0;have hHd:l9 (o6 15 2)++l9 (k8 1 [99,101,108,108,115])=l9 ov:=am _ _;have s1:(l9 (o6 15 2)).size=2:=rfl;have s2:(l9 (k8 1 [99,101,108,108,115])).size=7:=rfl;simp only [pu,l8,hN,n0,push_cast,↓reduceIte,reduceCtorEq];refine a6 tn rfl trivial ?_;simp only [push_cast];refine b5 (as':=[int .i64 1,z7 (l9 [99,101,108,108,115])]) rfl ?_;refine a6 tb rfl trivial ?_
 simp only [s1,s2,hHd,push_cast,↓reduceIte,zE,zA,zD];have hF:=aaw h
 refine run_loop [(4,false),(0,false),(3,false)] (fun vs pos los=>∃(i:Nat) (B:List UInt8),i≤l.length∧B=ov++fo l i∧pos=[] ∧
   vs=[int .i64 i,l8 l,z7 (l9 B)]∧los=[])
  (fun vs _ _=>match vs with | .r (.v (.int _ a))::_=>(N-a).toNat | _=>0) rfl ?_ ?_
 ·simp only [l8,push_cast,↓reduceIte,reduceCtorEq,zE,zA];exact ⟨0,ov,by omega,by simp [fo],by simp⟩
 ·rintro vs pos los ⟨i,B,hi,hB,rfl,rfl,rfl⟩;have hFi:=hF i;have hBl:B.length=ov.length+(fo l i).length:=by rw [hB,zas]
  have w1:IntKind.i64.wrap ((i:Int)+1)=i+1:=a5 (by omega);have w4:IntKind.i64.wrap (4*(i:Int))=4*i:=a5 (by omega);simp only [l8,hN,push_cast,↓reduceIte,reduceCtorEq,zE];refine b6 (fun hd=>?_) (fun hd=>?_)
  ·have hd:=of_decide_eq_true hd;have hi2:i<l.length:=by omega
   have hg:=ale hi2;have ho:=aau h hi2;have hlg:B++fx l i=B++k8 2 (ci (l.getD i default).w (4*(i:Int)) (l.getD i default).ring):=rfl;have hff:=ad2 (l.getD i default).w (4*(i:Int)) (l.getD i default).ring;generalize l.getD i default=f at *;have hrl:=ho.2.1;have tf:=bfj f.w (4*(i:Int)) f.ring ho.1 (by unfold in64; omega) ho.2.1 ho.2.2.1;have tb:=ol 2 (ci f.w (4*(i:Int)) f.ring) (by decide) (by omega);have hbl:=jb 2 (ci f.w (4*(i:Int)) f.ring);generalize ci f.w (4*(i:Int)) f.ring=FL at *;generalize k8 2 FL=BL at *;simp only [hg,w4,hN,zam,zaa,push_cast,↓reduceIte,reduceCtorEq,zE,zA,zL]
   repeat refine And.intro (by omega) ?_
   refine i7 (as':=[int .u64 f.w,a9 f.ring,int .i64 (4*(i:Int))]) rfl ?_;refine b9 tf rfl trivial ?_;simp only [push_cast,↓reduceIte];refine b9 tb rfl trivial ?_;simp only [j8,am,w1,push_cast,↓reduceIte,reduceCtorEq,zE,zA];refine And.intro (by omega) (And.intro (by kernel_rfl) ?_);refine ⟨⟨i+1,B++BL,by omega,?_,by simp⟩,by omega⟩;rw [adl,← zau,← hB,hlg]
  ·have hd:=of_decide_eq_false hd;have hi2:i=l.length:=by omega
   subst hi2;have hks:B++k8 3 (er 0)++k8 3 (er 1)++k8 3 (er 2)++k8 3 (er 3)=B++mz 4:=by simp [mz,zbk]
   have hkl:=yz 4;have hkl2:=congrArg List.length hks;simp only [zas] at hkl2;have k0:=ol 3 (er 0) (by decide) (by decide);have k1:=ol 3 (er 1) (by decide) (by decide);have k2:=ol 3 (er 2) (by decide) (by decide);have k3:=ol 3 (er 3) (by decide) (by decide);simp only [push_cast,↓reduceIte,reduceCtorEq,zE];refine b5 (as':=[int .i64 3,z7 (l9 (er 0))]) rfl ?_;refine a6 k0 rfl trivial ?_;simp only [j8,am,push_cast,↓reduceIte,zE];refine And.intro (by omega) ?_;refine b5 (as':=[int .i64 3,z7 (l9 (er 1))]) rfl ?_;refine a6 k1 rfl trivial ?_;simp only [j8,am,push_cast,↓reduceIte,zE];refine And.intro (by omega) ?_
   refine b5 (as':=[int .i64 3,z7 (l9 (er 2))]) rfl ?_;refine a6 k2 rfl trivial ?_;simp only [j8,am,push_cast,↓reduceIte,zE];refine And.intro (by omega) ?_;refine b5 (as':=[int .i64 3,z7 (l9 (er 3))]) rfl ?_;refine a6 k3 rfl trivial ?_;simp only [j8,am,push_cast,↓reduceIte,zE];refine And.intro (by omega) ?_;rw [hks];obtain ⟨C,hC⟩:∃C,C=B++mz 4:=⟨_,rfl⟩
   rw [← hC];have hCl2:C.length≤200040000150:=by rw [hC,zas]; omega
   clear k0 k1 k2 k3 hks hkl hkl2
   refine run_loop [(5,false),(0,false),(3,false)] (fun vs pos los=>∃(j:Nat) (D:List UInt8),j≤l.length∧D=C++mr l j∧pos=[] ∧
     vs=[int .i64 j,l8 l,z7 (l9 D)]∧los=[])
    (fun vs _ _=>match vs with | .r (.v (.int _ a))::_=>(N-a).toNat | _=>0) rfl ?_ ?_
   ·simp only [l8,push_cast,↓reduceIte,reduceCtorEq,zE,zA];exact ⟨0,C,by omega,by simp [mr],by simp⟩
   ·rintro vs pos los ⟨j,D,hj,hD,rfl,rfl,rfl⟩;have hDi:=yh l j;have hDl:D.length=C.length+(mr l j).length:=by rw [hD,zas]
    have w1:IntKind.i64.wrap ((j:Int)+1)=j+1:=a5 (by omega);have hVs:=afo l j;simp only [l8,hN,push_cast,↓reduceIte,reduceCtorEq,zE];refine b6 (fun hd=>?_) (fun hd=>?_)
    ·have hd:=of_decide_eq_true hd;have hi2:j<l.length:=by omega
     have hg:=ale hi2;have ho:=aau h hi2;generalize l.getD j default=f at *;simp only [hg,hN,zam,zaa,push_cast,↓reduceIte,reduceCtorEq,zE,zA,zL,zD]
     repeat refine And.intro (by first | omega | kernel_rfl) ?_
     refine run_loop [(7,false),(5,false),(0,false),(3,false),(6,false)] (fun vs pos los=>∃(k:Nat) (E:List UInt8),k≤4∧E=D++ny f k∧pos=[] ∧
       vs=[int .i64 k,int .i64 j,l8 l,z7 (l9 E),.ptr 2000000 0 0]∧los=[.box [int .i64 f.c,int .i64 f.s,int .i64 f.lo,int .i64 f.hi]])
      (fun vs _ _=>match vs with | .r (.v (.int _ a))::_=>(4-a).toNat | _=>0) rfl ?_ ?_
     ·simp only [l8,push_cast,↓reduceIte,reduceCtorEq,zE,zA,zL,zD];exact ⟨0,D,by omega,by simp [ny],by simp⟩
     ·rintro vs pos los ⟨k,E,hk,hE,rfl,rfl,rfl⟩;have hEi:=ait f k;have hEl:E.length=D.length+(ny f k).length:=by rw [hE,zas]
      have w2:IntKind.i64.wrap ((k:Int)+1)=k+1:=a5 (by omega);have hKs:=al5 f k;simp only [l8,push_cast,↓reduceIte];refine b6 (fun hd4=>?_) (fun hd4=>?_)
      ·have hd4:=of_decide_eq_true hd4
       have hin:in64 (f.nums.getD k 0):=by
        obtain ⟨q1,q2,q3,q4⟩:=ho.2.2.2;rcases (show k=0∨k=1∨k=2∨k=3 by omega) with rfl | rfl | rfl | rfl
        ·exact q1
        ·exact q2
        ·exact q3
        ·exact q4
       have zi:=ado _ hin;have tz:=aol _ hin;have tnn:=aon 6 (zig (f.nums.getD k 0)) (by decide) zi.1 zi.2;have hnn:=ck 6 (zig (f.nums.getD k 0));have tbb:=ol 4 (o6 6 (zig (f.nums.getD k 0))) (by decide) (by omega);have hvx:=azu f k;rw [show k8 4 (o6 6 (zig (f.nums.getD k 0)))=vx f k from rfl] at tbb;generalize vx f k=V at *;generalize o6 6 (zig (f.nums.getD k 0))=U at *;generalize zig (f.nums.getD k 0)=Z at *;have hfin:∃(i_1:Nat) (B_1:List UInt8),i_1≤4∧B_1=D++ny f i_1∧i_1=k+1∧B_1=E++V:=⟨k+1,E++V,by omega,by rw [hKs,← zau,← hE],rfl,rfl⟩
       rcases (show k=0∨k=1∨k=2∨k=3 by omega) with rfl | rfl | rfl | rfl
       ·have w9:IntKind.i64.wrap ((0:Int)+1)=1:=rfl;simp only [zab,zaa,zaa,push_cast,↓reduceIte,reduceCtorEq,zE,zA,zL,zM]
        repeat refine And.intro (by first | decide | omega) ?_
        refine b5 (as':=[int .i64 f.c]) rfl ?_;refine a6 tz rfl trivial ?_;simp only [push_cast,↓reduceIte];refine a6 tnn rfl trivial ?_;simp only [push_cast,↓reduceIte];refine a6 tbb rfl trivial ?_;simp only [j8,am,w9,push_cast,↓reduceIte,reduceCtorEq,zE,zA,zL,zD];refine And.intro (by omega) ?_;obtain ⟨k2,E2,g1,g2,rfl,rfl⟩:=hfin;exact ⟨⟨1,E++V,by omega,g2,by simp⟩,by decide⟩
       ·have w9:IntKind.i64.wrap ((1:Int)+1)=2:=rfl;simp only [zad,zaa,zaa,push_cast,↓reduceIte,reduceCtorEq,zE,zA,zL,zM]
        repeat refine And.intro (by first | decide | omega) ?_
        refine b5 (as':=[int .i64 f.s]) rfl ?_;refine a6 tz rfl trivial ?_;simp only [push_cast,↓reduceIte];refine a6 tnn rfl trivial ?_;simp only [push_cast,↓reduceIte];refine a6 tbb rfl trivial ?_;simp only [j8,am,w9,push_cast,↓reduceIte,reduceCtorEq,zE,zA,zL,zD];refine And.intro (by omega) ?_;obtain ⟨k2,E2,g1,g2,rfl,rfl⟩:=hfin;exact ⟨⟨2,E++V,by omega,g2,by simp⟩,by decide⟩
       ·have w9:IntKind.i64.wrap ((2:Int)+1)=3:=rfl;simp only [zac,zaa,zaa,push_cast,↓reduceIte,reduceCtorEq,zE,zA,zL,zM]
        repeat refine And.intro (by first | decide | omega) ?_
        refine b5 (as':=[int .i64 f.lo]) rfl ?_;refine a6 tz rfl trivial ?_;simp only [push_cast,↓reduceIte];refine a6 tnn rfl trivial ?_;simp only [push_cast,↓reduceIte];refine a6 tbb rfl trivial ?_;simp only [j8,am,w9,push_cast,↓reduceIte,reduceCtorEq,zE,zA,zL,zD];refine And.intro (by omega) ?_;obtain ⟨k2,E2,g1,g2,rfl,rfl⟩:=hfin;exact ⟨⟨3,E++V,by omega,g2,by simp⟩,by decide⟩
       ·have w9:IntKind.i64.wrap ((3:Int)+1)=4:=rfl;simp only [zac,zaa,zaa,push_cast,↓reduceIte,reduceCtorEq,zE,zA,zL,zM]
        repeat refine And.intro (by first | decide | omega) ?_
        refine b5 (as':=[int .i64 f.hi]) rfl ?_;refine a6 tz rfl trivial ?_;simp only [push_cast,↓reduceIte];refine a6 tnn rfl trivial ?_;simp only [push_cast,↓reduceIte];refine a6 tbb rfl trivial ?_;simp only [j8,am,w9,push_cast,↓reduceIte,reduceCtorEq,zE,zA,zL,zD];refine And.intro (by omega) ?_;obtain ⟨k2,E2,g1,g2,rfl,rfl⟩:=hfin;exact ⟨⟨4,E++V,by omega,g2,by simp⟩,by decide⟩
      ·have hd4:=of_decide_eq_false hd4;obtain rfl:k=4:=by omega
       simp only [w1,push_cast,↓reduceIte,reduceCtorEq,zE,zA];exact ⟨⟨j+1,E,by omega,by rw [hVs,← zau,← hD,hE],by simp⟩,by omega⟩
    ·have hd:=of_decide_eq_false hd;have hi2:j=l.length:=by omega
     subst hi2;have te:=aon 5 4096 (by decide) (by decide) (by decide);have hle:=ck 5 4096;have hDF:k8 3 (D++o6 5 4096)=q9 l:=by rw [hD,hC,hB]; rfl
     have tf:=ol 3 (D++o6 5 4096) (by decide) (by rw [zas]; omega);rw [hDF] at tf;simp only [push_cast,↓reduceIte,reduceCtorEq,zE];refine a6 te rfl trivial ?_;simp only [j8,am,push_cast,↓reduceIte,zE];refine And.intro (by omega) ?_;refine a6 tf rfl trivial ?_;simp only [push_cast,↓reduceIte,zA]

def rl:Mk P0 f90:={ x:=_ }
theorem ar9:b8 90 1 rl:=b7 func90
def pz:Mk P0 f91:={ x:=_ }
theorem aqq:b8 91 1 pz:=b7 func91
def s5 (d:List UInt8):List Int:=((au d).getD []).map fun n:Nat=>(n:Int)
def featD (b:List UInt8):Fea×Bool:=
 match r7 b with
 | some [x,_,_,y]=>(⟨x.2.2.1,dj (s5 y.2.2.2),0,0,0,0⟩,ao (s5 y.2.2.2))
 | _=>(⟨0,[],0,0,0,0⟩,false)
def mb (b:List UInt8):Int:=
 match r7 b with
 | some [x]=>zag x.2.2.1
 | _=>0
theorem ahc {b:List UInt8} (h:∀m,r7 b=some m→m.length≠4):featD b=(⟨0,[],0,0,0,0⟩,false):=by
 unfold featD;split
 ·rename_i x _ _ y e;exact absurd rfl (h _ e)
 ·rfl
theorem awa {b:List UInt8} (h:∀m,r7 b=some m→m.length≠1):mb b=0:=by
 unfold mb;split
 ·rename_i x e;exact absurd rfl (h _ e)
 ·rfl
theorem bbg {l:List UInt8} {x:Fld} {k:Nat} (h:t6 l=some (x,k)):x.1≤1000∧x.2.1≤2∧x.2.2.1<18446744073709551616∧x.2.2.2.length≤l.length:=by
 obtain ⟨h1,h2,h3⟩:=dq (l.drop (take l).2);unfold t6 at h;split at h
 ·cases h
 ·split at h
  ·cases h
  ·split at h
   ·cases h;exact ⟨by simp only; omega,by simp,by simp only; omega,by simp⟩
   ·split at h
    ·cases h;refine ⟨by simp only; omega,by simp,by simp,?_⟩;simp only [List.length_take,List.length_drop];omega
    ·cases h
theorem aya:∀(f:Nat) (l:List UInt8) (m:List Fld),ez f l=some m→∀x∈m,x.1≤1000∧x.2.1≤2∧x.2.2.1<18446744073709551616∧x.2.2.2.length≤l.length
 | f,[],m,h,x,hx=>by
  rw [jg] at h;cases h;simp at hx
 | 0,c::l,m,h,x,hx=>by cases h
 | f+1,c::l,m,h,x,hx=>by
  rw [ez] at h;split at h
  ·cases h
  ·rename_i y k e;cases hr:ez f ((c::l).drop k) with
   | none=>rw [hr] at h; cases h
   | some m'=>
    rw [hr] at h;cases h;rcases List.mem_cons.1 hx with rfl | hx
    ·exact bbg e
    ·have:=aya f _ m' hr x hx;simp only [List.length_drop] at this;omega
theorem u6 {l:List UInt8} {m:List Fld} (h:r7 l=some m):∀x∈m,x.1≤1000∧x.2.1≤2∧x.2.2.1<18446744073709551616∧x.2.2.2.length≤l.length:=aya _ l m h
theorem axr:∀(f:Nat) (l:List UInt8) (m:List Nat),dp f l=some m→∀n∈m,n<18446744073709551616
 | f,[],m,h,x,hx=>by
  rw [je] at h;cases h;simp at hx
 | 0,c::l,m,h,x,hx=>by cases h
 | f+1,c::l,m,h,x,hx=>by
  rw [dp] at h;split at h
  ·cases h
  ·cases hr:dp f ((c::l).drop (take (c::l)).2) with
   | none=>rw [hr] at h; cases h
   | some m'=>
    rw [hr] at h;cases h;rcases List.mem_cons.1 hx with rfl | hx
    ·exact (dq (c::l)).1
    ·exact axr f _ m' hr x hx
theorem ai3 (d:List UInt8):u64L (s5 d):=fun n hn=>by
 unfold s5 at hn;cases h:au d with
 | none=>rw [h] at hn; simp at hn
 | some m=>
  rw [h] at hn;obtain ⟨k,hk,rfl⟩:=zbc.1 hn;have:=axr _ d m h k hk;omega
theorem ai4 (d:List UInt8):(s5 d).length≤d.length:=by
 unfold s5;cases h:au d with
 | none=>simp
 | some m=>
  have:=a6p h;simpa using this
theorem al4 (b:List UInt8) (hb:b.length≤1000000):a8 P0 91 [sb b] [] (int .i64 (mb b)) []:=by
 refine aqq rfl (by decide) ?_;have hr:=aua b (by omega);have hmx:=d7;have f10:((10:Int) != 0)=true:=rfl;have f00:((0:Int) != 0)=false:=rfl;have f01:((0:Int) != 1)=true:=rfl;cases hm:r7 b with
 | none=>
  have hv:mb b=0:=awa (fun m h=>by rw [hm] at h; cases h);rw [hm] at hr;rw [hv]
  push_cast [pz,zao]
  refine a6 hr rfl trivial ?_
  push_cast [ca,f10]
 | some m=>
  by_cases h0:m=[]
  ·subst h0;have hv:mb b=0:=awa (fun m h=>by rw [hm] at h; cases h; simp);rw [hm] at hr;rw [hv]
   push_cast [pz,zao]
   refine a6 hr rfl trivial ?_
   push_cast [ca,f00,f01]
  ·rw [hm,(o5 h0).1,(o5 h0).2] at hr;have hml:=kr hm;by_cases h1:m.length=1
   ·obtain ⟨x,rfl⟩:∃x,m=[x]:=List.length_eq_one_iff.1 h1;have hx:=u6 hm x (by simp);have hv:mb b=zag x.2.2.1:=by unfold mb; rw [hm]
    have e1:((1:Int) != 1)=false:=rfl;have hz:=bcz (x.2.2.1:Nat) (by omega) (by omega);rw [hv]
    push_cast [pz,zao]
    refine a6 hr rfl trivial ?_
    push_cast [f00,e1,bj,List.map_cons,zbg,zba,zao,zab,zat]
    repeat refine And.intro (by omega) ?_
    refine a6 hz rfl trivial ?_
    push_cast
   ·have hv:mb b=0:=awa (fun m' h=>by rw [hm] at h; cases h; exact h1);have e1:((m.length:Int) != 1)=true:=bne_iff_ne.2 (by omega);rw [hv]
    push_cast [pz,zao]
    refine a6 hr rfl trivial ?_
    push_cast [f00,e1]
theorem aml (m:List Nat):da m=n9 (m.map fun n:Nat=>(n:Int)):=by simp [da,n9]
set_option maxHeartbeats 1000000 in
theorem aqf (b:List UInt8) (hb:b.length≤1000000):a8 P0 90 [sb b] [] (.tup [.r (featD b).1.rv,bl (featD b).2]) []:=by
 refine ar9 rfl (by decide) ?_;have hr:=aua b (by omega);have hmx:=d7;have f10:((10:Int) != 0)=true:=rfl;have f00:((0:Int) != 0)=false:=rfl;have f04:((0:Int) != 4)=true:=rfl;cases hm:r7 b with
 | none=>
  have hv:=ahc (b:=b) (fun m h=>by rw [hm] at h; cases h);rw [hm] at hr;rw [hv];simp only [rl,Fea.rv,push_cast,↓reduceIte,reduceCtorEq];refine a6 hr rfl trivial ?_;simp only [ca,dx,f10,push_cast,↓reduceIte,reduceCtorEq,zE,zA,zL,zD]
 | some m=>
  by_cases h0:m=[]
  ·subst h0;have hv:=ahc (b:=b) (fun m h=>by rw [hm] at h; cases h; simp);rw [hm] at hr;rw [hv];simp only [rl,Fea.rv,push_cast,↓reduceIte,reduceCtorEq];refine a6 hr rfl trivial ?_;simp only [ca,dx,f00,f04,push_cast,↓reduceIte,zE,zA,zL,zD]
  ·rw [hm,(o5 h0).1,(o5 h0).2] at hr;have hml:=kr hm;by_cases h1:m.length=4
   ·obtain ⟨x,y,z,u,rfl⟩:∃x y z u,m=[x,y,z,u]:=by
     rcases m with _ | ⟨x,_ | ⟨y,_ | ⟨z,_ | ⟨u,_ | ⟨v,r⟩⟩⟩⟩⟩<;>simp at h1 ⊢
    have hx:=u6 hm x (by simp);have hu:=u6 hm u (by simp);have hv:featD b=(⟨x.2.2.1,dj (s5 u.2.2.2),0,0,0,0⟩,ao (s5 u.2.2.2)):=by unfold featD; rw [hm]
    have e1:((4:Int) != 4)=false:=rfl;have hva:=bhq u.2.2.2 (by omega);have hnl:=ai4 u.2.2.2;have hnu:=ai3 u.2.2.2;have htr:=fun res ro=>tring_t (s5 u.2.2.2) (by omega) hnu (res:=res) (ro:=ro);have hnd:s5 u.2.2.2=((au u.2.2.2).getD []).map fun n:Nat=>(n:Int):=rfl;rw [hv];simp only [rl,Fea.rv,push_cast,↓reduceIte,reduceCtorEq];refine a6 hr rfl trivial ?_;simp only [f00,e1,bj,zac,push_cast,↓reduceIte,zE,zA,zS,zL,zD,zM]
    repeat refine And.intro (by omega) ?_
    have g10:((10:Int) == 0)=false:=rfl;have g00:((0:Int) == 0)=true:=rfl;by_cases hne:∃ns,au u.2.2.2=some ns∧ns≠[]
    ·obtain ⟨ns,hns,hn0⟩:=hne;have hnd2:s5 u.2.2.2=ns.map fun n:Nat=>(n:Int):=by rw [hnd,hns]; rfl
     have e2:zn (some ns)=.tup [.own 1000000 0 0 ns.length,int .i64 0]∧zo (some ns)=[awh ns]:=by
      cases ns with
      | nil=>exact absurd rfl hn0
      | cons=>exact ⟨rfl,rfl⟩
     rw [hns,e2.1,e2.2] at hva;refine a6 hva rfl trivial ?_;have htk:zbd ns.length (da ns)=da ns:=adp ns;simp only [htk,push_cast,↓reduceIte,zE,zA,zS,zL,zD,zM];refine i9 ?_;refine b5 (as':=[.r (.sl 1 (n9 (s5 u.2.2.2)))]) (by rw [hnd2,← aml]; rfl) ?_;have hrt:ao (s5 u.2.2.2)=false→dj (s5 u.2.2.2)=[]:=fun h=>by rw [dj,if_neg (by rw [h]; decide)]
     cases hck:ao (s5 u.2.2.2) with
     | false=>
      refine a6 (htr _ _ (.inl ⟨hck,rfl,rfl⟩)) rfl trivial ?_;simp only [pnt,g00,hrt hck,List.map_cons,zbg,zba,zao,zab,zat,zaw,push_cast,↓reduceIte,zE,zA,zL,zD];omega
     | true=>
      refine a6 (htr _ _ (.inr ⟨hck,rfl,rfl⟩)) rfl trivial ?_;generalize dj (s5 u.2.2.2)=R at *;have htk2:zbd R.length (R.map ptR)=R.map ptR:=d5 R;simp only [pnt,g00,d6,htk2,zab,push_cast,↓reduceIte,zE,zA,zS,zL,zD,zM];omega
    ·have hnd2:s5 u.2.2.2=[]:=by
      rw [hnd];cases hvl:au u.2.2.2 with
      | none=>rfl
      | some ns=>
       have:ns=[]:=Classical.byContradiction fun h=>hne ⟨ns,hvl,h⟩;rw [this]; rfl
     have hck:ao (s5 u.2.2.2)=false:=by rw [hnd2]; rfl
     have hrt:dj (s5 u.2.2.2)=[]:=by rw [hnd2]; rfl
     have htr2:=htr _ _ (.inl ⟨hck,rfl,rfl⟩);rw [hnd2] at htr2;rw [hck,hrt];cases hvl:au u.2.2.2 with
     | none=>
      rw [hvl] at hva;refine a6 hva rfl trivial ?_;simp only [zn,zo,push_cast,↓reduceIte,zE,zA,zL];refine b5 (as':=[.r (.sl 1 (n9 []))]) rfl ?_;refine a6 htr2 rfl trivial ?_;simp only [pnt,g10,zab,push_cast,↓reduceIte,zE,zA,zL,zD];omega
     | some ns=>
      have:ns=[]:=Classical.byContradiction fun h=>hne ⟨ns,hvl,h⟩;subst this;rw [hvl] at hva;refine a6 hva rfl trivial ?_;simp only [zn,zo,push_cast,↓reduceIte,zE,zA,zL];refine b5 (as':=[.r (.sl 1 (n9 []))]) rfl ?_;refine a6 htr2 rfl trivial ?_;simp only [pnt,g00,zab,push_cast,↓reduceIte,zE,zA,zL,zD];omega
   ·have hv:=ahc (b:=b) (fun m' h=>by rw [hm] at h; cases h; exact h1);have e1:((m.length:Int) != 4)=true:=bne_iff_ne.2 (by omega);rw [hv];simp only [rl,Fea.rv,push_cast,↓reduceIte,reduceCtorEq];refine a6 hr rfl trivial ?_;simp only [f00,e1,push_cast,↓reduceIte,zE,zA,zS,zL,zD,zM]

def rk:Mk P0 f46:={ x:=_ }
theorem ar8:b8 46 1 rk:=b7 func46
def z9:List Fld→List Fea→List Int→Option (List Fea×List Int)
 | [],o,v=>some (o,v)
 | f::r,o,v=>if f.1=2 then (if (featD f.2.2.2).2 then z9 r (o++[(featD f.2.2.2).1]) v else none) else if f.1=4 then z9 r o (v++[mb f.2.2.2]) else z9 r o v
def avg (f:Fea) (v:List Int) (i:Nat):Fea:={ f with c:=v.getD (4*i) 0,s:=v.getD (4*i+1) 0,lo:=v.getD (4*i+2) 0,hi:=v.getD (4*i+3) 0 }
def adk (o:List Fea) (v:List Int):List Fea:=(zbe o.length).map fun i=>avg (o.getD i default) v i
def re (o:List Fea) (v:List Int) (j:Nat):List Fea:=(zbe o.length).map fun i=>if i<j then avg (o.getD i default) v i else o.getD i default
theorem apf (o:List Fea) (v:List Int) (j:Nat):(re o v j).length=o.length:=by simp [re]
theorem bgh (o:List Fea) (v:List Int):re o v 0=o:=by
 apply List.ext_getElem?;intro i;rw [re,zbh];by_cases h:i<o.length
 ·simp [h,zaq]
 ·simp [h]
theorem bb7 (o:List Fea) (v:List Int) {j k:Nat} (hjk:j≤k) (h:k<o.length):(re o v j)[k]?=some (o.getD k default):=by
 simp [re,h,show ¬k<j by omega]
theorem a5t (o:List Fea) (v:List Int) {j:Nat} (h:j<o.length):re o v (j+1)=(re o v j).set j (avg (o.getD j default) v j):=by
 apply List.ext_getElem?;intro i;rw [List.getElem?_set];by_cases hi:i<o.length
 ·by_cases hj:j=i
  ·subst hj;simp [re,h]
  ·rw [if_neg hj];simp only [re,zbh,List.getElem?_range hi,Option.map_some];by_cases hlt:i<j
   ·rw [if_pos hlt,if_pos (by omega)]
   ·rw [if_neg hlt,if_neg (by omega)]
 ·rw [if_neg (by omega),zbp (by rw [apf]; omega),zbp (by rw [apf]; omega)]
theorem bjl (v:List Int) (k:Nat):(v.map fun n=>RV.v (.int .i64 n)).getD k (.v (.int .i64 0))=.v (.int .i64 (v.getD k 0)):=by
 simp only [zaq,zbh];cases v[k]? <;> rfl
theorem a89 (o:List Fea) (v:List Int):re o v o.length=adk o v:=by
 apply List.map_congr_left;intro i hi;rw [if_pos (List.mem_range.1 hi)]
def aay:Option (List Fea×List Int)→List Fea×Bool
 | none=>([],false)
 | some (o,v)=>if o=[]∨v.length≠4*o.length then ([],false) else (adk o v,true)
def aw (b:List UInt8):List Fea×Bool:=
 match r7 b with
 | some [x]=>match r7 x.2.2.2 with
  | some fs=>aay (z9 fs [] [])
  | none=>([],false)
 | _=>([],false)
theorem ar7 {b:List UInt8} (h:∀m,r7 b=some m→m.length≠1):aw b=([],false):=by
 unfold aw;split
 ·rename_i x e;exact absurd rfl (h _ e)
 ·rfl
def g7:RV:=.agg [.v (.int .u64 0),.sl 2 [],.v (.int .i64 0),.v (.int .i64 0),.v (.int .i64 0),.v (.int .i64 0)]
abbrev fm (l:List Fea):Ob:=.row 6 g7 true true (l.map Fea.rv)
def tu:List Fea×Bool→AV
 | (_,false)=>.tup [.nils 6 g7,bl false]
 | (l,true)=>.tup [.own 1000000 0 0 l.length,bl true]
def tx:List Fea×Bool→List Ob
 | (_,false)=>[]
 | (l,true)=>[fm l]
def atv (o:List Fea):AV:=if o=[] then .nils 6 g7 else .own 2000001 0 0 o.length
def atu (o:List Fea) (v:List Int):AV:=if v=[] then .nils 1 (.v (.int .i64 0)) else .own (if o=[] then 2000001 else 2000002) 0 0 v.length
abbrev a4s (v:List Int):Ob:=.row 1 (.v (.int .i64 0)) true true (v.map fun n=>.v (.int .i64 n))
def atw (o:List Fea) (v:List Int):List Ob:=(if o=[] then [] else [fm o])++(if v=[] then [] else [a4s v])
set_option maxHeartbeats 1000000 in
theorem bht (b:List UInt8) (hb:b.length≤1000000):a8 P0 46 [sb b] [] (tu (aw b)) (tx (aw b)):=by
 refine ar8 rfl (by decide) ?_;have hr:=aua b (by omega);have hmx:=d7;have f10:((10:Int) != 0)=true:=rfl;have f00:((0:Int) != 0)=false:=rfl;have f01:((0:Int) != 1)=true:=rfl;have d00:decide ((0:Int)<0)=false:=rfl;cases hm:r7 b with
 | none=>
  have hv:=ar7 (b:=b) (fun m h=>by rw [hm] at h; cases h);rw [hm] at hr;rw [hv]
  push_cast [rk,zao]
  refine a6 hr rfl trivial ?_
  push_cast [ca,dx,f10,tu,tx,g7]
 | some m=>
  by_cases h0:m=[]
  ·subst h0;have hv:=ar7 (b:=b) (fun m h=>by rw [hm] at h; cases h; simp);rw [hm] at hr;rw [hv]
   push_cast [rk,zao]
   refine a6 hr rfl trivial ?_
   push_cast [ca,dx,f00,f01,tu,tx,g7]
  rw [hm,(o5 h0).1,(o5 h0).2] at hr;have hml:=kr hm;by_cases h1:m.length≠1
  ·have hv:=ar7 (b:=b) (fun m' h=>by rw [hm] at h; cases h; exact h1);have e1:((m.length:Int) != 1)=true:=bne_iff_ne.2 (by omega);rw [hv]
   push_cast [rk,zao]
   refine a6 hr rfl trivial ?_
   push_cast [f00,e1,tu,tx,g7]
  obtain ⟨x,rfl⟩:∃x,m=[x]:=List.length_eq_one_iff.1 (by omega);have hx:=u6 hm x (by simp);have e1:((1:Int) != 1)=false:=rfl;have hr2:=aua x.2.2.2 (by omega)
  have hv:aw b=match r7 x.2.2.2 with
   | some fs=>aay (z9 fs [] [])
   | none=>([],false):=by unfold aw; rw [hm]
  rw [hv]
  push_cast [rk,zao]
  refine a6 hr rfl trivial ?_
  push_cast [f00,e1,bj,List.map_cons,zbg,zba,zao,zab,zac,zat,zaw]
  repeat refine And.intro (by omega) ?_
  cases hm2:r7 x.2.2.2 with
  | none=>
   rw [hm2] at hr2;refine a6 hr2 rfl trivial ?_
   push_cast [ca,dx,tu,tx]
   refine run_loop [(37,false),(36,false),(35,false),(7,false),(8,false),(5,false)] (fun vs pos los=>vs=[int .i64 0,int .i64 0,asy,.nils 6 g7,.nils 1 (.v (.int .i64 0)),int .i64 10]∧pos=[]∧los=[]) (fun _ _ _=>0) rfl ?_ ?_
   ·push_cast [g7]
    done
   ·rintro vs pos los ⟨rfl,rfl,rfl⟩
    push_cast [g7,f10,d00]
    done
  | some fs=>
   by_cases h2:fs=[]
   ·subst h2;rw [hm2] at hr2;refine a6 hr2 rfl trivial ?_
    push_cast [ca,dx,z9,aay,tu,tx]
    refine run_loop [(37,false),(36,false),(35,false),(7,false),(8,false),(5,false)] (fun vs pos los=>vs=[int .i64 0,int .i64 0,asy,.nils 6 g7,.nils 1 (.v (.int .i64 0)),int .i64 0]∧pos=[]∧los=[]) (fun _ _ _=>0) rfl ?_ ?_
    ·push_cast [g7]
     done
    ·rintro vs pos los ⟨rfl,rfl,rfl⟩
     push_cast [g7,f00,d00]
     exact ⟨rfl,rfl⟩
   rw [hm2,(o5 h2).1,(o5 h2).2] at hr2;have hfl:=u6 hm2;have hfn:=kr hm2;obtain ⟨M,hM,hM1⟩:∃M:Int,((fs.length:Nat):Int)=M∧0≤M∧M≤1000000:=⟨_,rfl,by omega,by omega⟩
   refine a6 hr2 rfl trivial ?_
   push_cast [hM]
   refine run_loop [(37,false),(36,false),(35,false),(7,false),(8,false),(5,false)] (fun vs pos los=>∃(i:Nat) (o:List Fea) (v:List Int),i≤fs.length∧o.length≤i∧v.length≤i∧z9 fs [] []=z9 (fs.drop i) o v ∧
     vs=[int .i64 i,int .i64 M,.own 2000000 0 0 fs.length,atv o,atu o v,int .i64 0]∧pos=[]∧los=awi fs::atw o v)
    (fun vs _ _=>match vs with | .r (.v (.int _ a))::_=>(M-a).toNat | _=>0) rfl ?_ ?_
   ·push_cast [g7]
    exact ⟨0,[],[],by omega,by simp,by simp,rfl,rfl,rfl⟩
   ·rintro vs pos los ⟨i,o,v,hi,ho,hvl,hs,rfl,rfl,rfl⟩;have w1:IntKind.i64.wrap ((i:Int)+1)=i+1:=a5 (by omega)
    have hstep:∀hi2:i<fs.length,z9 (fs.drop i) o v=if fs[i].1=2 then (if (featD fs[i].2.2.2).2 then z9 (fs.drop (i+1)) (o++[(featD fs[i].2.2.2).1]) v else none) else if fs[i].1=4 then z9 (fs.drop (i+1)) o (v++[mb fs[i].2.2.2]) else z9 (fs.drop (i+1)) o v:=fun hi2=>by
     rw [zbi hi2,z9]
    have hget:∀(hi2:i<fs.length) z,(fs.map bj).getD i z=.agg [.v (.int .i64 (fs[i].1:Nat)),.v (.int .i64 (fs[i].2.1:Nat)),.v (.int .u64 (fs[i].2.2.1:Nat)),.sl 1 (bys fs[i].2.2.2)]:=fun hi2 z=>by
     rw [zaq,zbh,zbo hi2]; rfl
    have hFb:∀hi2:i<fs.length,fs[i].2.2.2.length≤1000000:=fun hi2=>by
     have:=hfl _ (List.getElem_mem hi2);omega
    by_cases ho0:o=[]<;>by_cases hv0:v=[]
    ·push_cast [atv,atu,atw,ho0,hv0,g7,zak,hM,zax,zbl]
     refine b6 (fun hd=>?_) (fun hd=>?_)
     ·have hd:=of_decide_eq_true hd;have hi2:i<fs.length:=by omega
      have hg:=hget hi2;have hsp:=hstep hi2;have hdb:=hFb hi2;rw [hsp] at hs;clear hsp;generalize fs[i]=F at *;have hft:=aqf F.2.2.2 hdb;have hvt:=al4 F.2.2.2 hdb;generalize featD F.2.2.2=FD at *;generalize mb F.2.2.2=VD at *
      push_cast [hg,zak,hM,zam,zan,zaa]
      refine And.intro (by omega) ?_;cases e2:((F.1:Int) == 2) with
      | true=>
       have e2':F.1=2:=by have:=eq_of_beq e2; omega
       push_cast [e2]
       refine a6 hft rfl trivial ?_
       push_cast [Fea.rv]
       cases ok:FD.2 with
       | false=>
        rw [if_pos e2',ok] at hs
        push_cast
        rw [hs];exact ⟨rfl,rfl⟩
       | true=>
        rw [if_pos e2',ok] at hs
        push_cast [w1]
        refine ⟨by simp,by first | omega | exact ⟨by omega,by omega⟩,⟨i+1,o++[FD.1],v,by omega,by simp; omega,by omega,hs,by simp [ho0,hv0],by simp [ho0,hv0,Fea.rv,g7]⟩,by omega⟩
      | false=>
       have e2':¬F.1=2:=by have:=beq_eq_false_iff_ne.1 e2; omega
       rw [if_neg e2'] at hs;cases e4:((F.1:Int) == 4) with
       | true=>
        have e4':F.1=4:=by have:=eq_of_beq e4; omega
        rw [if_pos e4'] at hs
        push_cast [e2,e4]
        refine a6 hvt rfl trivial ?_
        push_cast [w1]
        refine ⟨by simp,by first | omega | exact ⟨by omega,by omega⟩,⟨i+1,o,v++[VD],by omega,by omega,by simp; omega,hs,by simp [ho0,hv0],by simp [ho0,hv0]⟩,by omega⟩
       | false=>
        have e4':¬F.1=4:=by have:=beq_eq_false_iff_ne.1 e4; omega
        rw [if_neg e4'] at hs
        push_cast [e2,e4,w1]
        exact ⟨⟨i+1,o,v,by omega,by omega,by omega,hs,by simp [ho0,hv0],by simp [ho0,hv0]⟩,by omega⟩
     ·have hd:=of_decide_eq_false hd;have hi2:i=fs.length:=by omega
      subst hi2;rw [zaz,z9] at hs;rw [hs];have hE:aay (some (o,v))=([],false):=if_pos (.inl ho0);have g00:((0:Int) == 0)=true:=rfl;rw [hE]
      push_cast [f00,g00,ho0,tu,tx,g7]
    ·push_cast [atv,atu,atw,ho0,hv0,g7,zak,hM,zax,zbl]
     refine b6 (fun hd=>?_) (fun hd=>?_)
     ·have hd:=of_decide_eq_true hd;have hi2:i<fs.length:=by omega
      have hg:=hget hi2;have hsp:=hstep hi2;have hdb:=hFb hi2;rw [hsp] at hs;clear hsp;generalize fs[i]=F at *;have hft:=aqf F.2.2.2 hdb;have hvt:=al4 F.2.2.2 hdb;generalize featD F.2.2.2=FD at *;generalize mb F.2.2.2=VD at *
      push_cast [hg,zak,hM,zam,zan,zaa]
      refine And.intro (by omega) ?_;cases e2:((F.1:Int) == 2) with
      | true=>
       have e2':F.1=2:=by have:=eq_of_beq e2; omega
       push_cast [e2]
       refine a6 hft rfl trivial ?_
       push_cast [Fea.rv]
       cases ok:FD.2 with
       | false=>
        rw [if_pos e2',ok] at hs
        push_cast
        rw [hs];exact ⟨rfl,rfl⟩
       | true=>
        rw [if_pos e2',ok] at hs
        push_cast [w1]
        refine ⟨by simp,by first | omega | exact ⟨by omega,by omega⟩,⟨i+1,o++[FD.1],v,by omega,by simp; omega,by omega,hs,by simp [ho0,hv0],by simp [ho0,hv0,Fea.rv,g7]⟩,by omega⟩
      | false=>
       have e2':¬F.1=2:=by have:=beq_eq_false_iff_ne.1 e2; omega
       rw [if_neg e2'] at hs;cases e4:((F.1:Int) == 4) with
       | true=>
        have e4':F.1=4:=by have:=eq_of_beq e4; omega
        rw [if_pos e4'] at hs
        push_cast [e2,e4]
        refine a6 hvt rfl trivial ?_
        push_cast [w1]
        refine ⟨by simp,by first | omega | exact ⟨by omega,by omega⟩,⟨i+1,o,v++[VD],by omega,by omega,by simp; omega,hs,by simp [ho0,hv0],by simp [ho0,hv0]⟩,by omega⟩
       | false=>
        have e4':¬F.1=4:=by have:=beq_eq_false_iff_ne.1 e4; omega
        rw [if_neg e4'] at hs
        push_cast [e2,e4,w1]
        exact ⟨⟨i+1,o,v,by omega,by omega,by omega,hs,by simp [ho0,hv0],by simp [ho0,hv0]⟩,by omega⟩
     ·have hd:=of_decide_eq_false hd;have hi2:i=fs.length:=by omega
      subst hi2;rw [zaz,z9] at hs;rw [hs];have hE:aay (some (o,v))=([],false):=if_pos (.inl ho0);have g00:((0:Int) == 0)=true:=rfl;rw [hE]
      push_cast [f00,g00,ho0,tu,tx,g7]
    ·push_cast [atv,atu,atw,ho0,hv0,g7,zak,hM,zax,zbl]
     refine b6 (fun hd=>?_) (fun hd=>?_)
     ·have hd:=of_decide_eq_true hd;have hi2:i<fs.length:=by omega
      have hg:=hget hi2;have hsp:=hstep hi2;have hdb:=hFb hi2;rw [hsp] at hs;clear hsp;generalize fs[i]=F at *;have hft:=aqf F.2.2.2 hdb;have hvt:=al4 F.2.2.2 hdb;generalize featD F.2.2.2=FD at *;generalize mb F.2.2.2=VD at *
      push_cast [hg,zak,hM,zam,zan,zaa]
      refine And.intro (by omega) ?_;cases e2:((F.1:Int) == 2) with
      | true=>
       have e2':F.1=2:=by have:=eq_of_beq e2; omega
       push_cast [e2]
       refine a6 hft rfl trivial ?_
       push_cast [Fea.rv]
       cases ok:FD.2 with
       | false=>
        rw [if_pos e2',ok] at hs
        push_cast
        rw [hs];exact ⟨rfl,rfl⟩
       | true=>
        rw [if_pos e2',ok] at hs
        push_cast [w1]
        refine ⟨by simp,by first | omega | exact ⟨by omega,by omega⟩,⟨i+1,o++[FD.1],v,by omega,by simp; omega,by omega,hs,by simp [ho0,hv0],by simp [ho0,hv0,Fea.rv,g7]⟩,by omega⟩
      | false=>
       have e2':¬F.1=2:=by have:=beq_eq_false_iff_ne.1 e2; omega
       rw [if_neg e2'] at hs;cases e4:((F.1:Int) == 4) with
       | true=>
        have e4':F.1=4:=by have:=eq_of_beq e4; omega
        rw [if_pos e4'] at hs
        push_cast [e2,e4]
        refine a6 hvt rfl trivial ?_
        push_cast [w1]
        refine ⟨by simp,by first | omega | exact ⟨by omega,by omega⟩,⟨i+1,o,v++[VD],by omega,by omega,by simp; omega,hs,by simp [ho0,hv0],by simp [ho0,hv0,g7]⟩,by omega⟩
       | false=>
        have e4':¬F.1=4:=by have:=beq_eq_false_iff_ne.1 e4; omega
        rw [if_neg e4'] at hs
        push_cast [e2,e4,w1]
        exact ⟨⟨i+1,o,v,by omega,by omega,by omega,hs,by simp [ho0,hv0],by simp [ho0,hv0,g7]⟩,by omega⟩
     ·have hd:=of_decide_eq_false hd;have hi2:i=fs.length:=by omega
      subst hi2;rw [zaz,z9] at hs;rw [hs];have hL:o.length≠0:=fun e=>ho0 (zbf.1 e);have hE:aay (some (o,v))=([],false):=if_pos (.inr (by rw [hv0,zao]; omega));have n0:((o.length:Int) == 0)=false:=beq_eq_false_iff_ne.2 (by omega);have w4:IntKind.i64.wrap (4*(o.length:Int))=4*o.length:=a5 (by omega);have n4:((0:Int) != 4*(o.length:Int))=true:=bne_iff_ne.2 (by omega);rw [hE]
      push_cast [f00,n0,w4,n4,tu,tx,g7]
      done
    ·push_cast [atv,atu,atw,ho0,hv0,g7,zak,hM,zax,zbl]
     refine b6 (fun hd=>?_) (fun hd=>?_)
     ·have hd:=of_decide_eq_true hd;have hi2:i<fs.length:=by omega
      have hg:=hget hi2;have hsp:=hstep hi2;have hdb:=hFb hi2;rw [hsp] at hs;clear hsp;generalize fs[i]=F at *;have hft:=aqf F.2.2.2 hdb;have hvt:=al4 F.2.2.2 hdb;generalize featD F.2.2.2=FD at *;generalize mb F.2.2.2=VD at *
      push_cast [hg,zak,hM,zam,zan,zaa]
      refine And.intro (by omega) ?_;cases e2:((F.1:Int) == 2) with
      | true=>
       have e2':F.1=2:=by have:=eq_of_beq e2; omega
       push_cast [e2]
       refine a6 hft rfl trivial ?_
       push_cast [Fea.rv]
       cases ok:FD.2 with
       | false=>
        rw [if_pos e2',ok] at hs
        push_cast
        rw [hs];exact ⟨rfl,rfl⟩
       | true=>
        rw [if_pos e2',ok] at hs
        push_cast [w1]
        refine ⟨by simp,by first | omega | exact ⟨by omega,by omega⟩,⟨i+1,o++[FD.1],v,by omega,by simp; omega,by omega,hs,by simp [ho0,hv0],by simp [ho0,hv0,Fea.rv,g7]⟩,by omega⟩
      | false=>
       have e2':¬F.1=2:=by have:=beq_eq_false_iff_ne.1 e2; omega
       rw [if_neg e2'] at hs;cases e4:((F.1:Int) == 4) with
       | true=>
        have e4':F.1=4:=by have:=eq_of_beq e4; omega
        rw [if_pos e4'] at hs
        push_cast [e2,e4]
        refine a6 hvt rfl trivial ?_
        push_cast [w1]
        refine ⟨by simp,by first | omega | exact ⟨by omega,by omega⟩,⟨i+1,o,v++[VD],by omega,by omega,by simp; omega,hs,by simp [ho0,hv0],by simp [ho0,hv0,g7]⟩,by omega⟩
       | false=>
        have e4':¬F.1=4:=by have:=beq_eq_false_iff_ne.1 e4; omega
        rw [if_neg e4'] at hs
        push_cast [e2,e4,w1]
        exact ⟨⟨i+1,o,v,by omega,by omega,by omega,hs,by simp [ho0,hv0],by simp [ho0,hv0,g7]⟩,by omega⟩
     ·have hd:=of_decide_eq_false hd;have hi2:i=fs.length:=by omega
      subst hi2;rw [zaz,z9] at hs;rw [hs];have hL:o.length≠0:=fun e=>ho0 (zbf.1 e);have n0:((o.length:Int) == 0)=false:=beq_eq_false_iff_ne.2 (by omega);have w4:IntKind.i64.wrap (4*(o.length:Int))=4*o.length:=a5 (by omega);by_cases h4:v.length=4*o.length
      ·have hE:aay (some (o,v))=(adk o v,true):=if_neg (fun h=>h.elim ho0 (fun h=>h h4));have n4:((v.length:Int) != 4*(o.length:Int))=false:=by rw [h4]; simp
       rw [hE]
       push_cast [f00,n0,w4,n4,tu,tx]
       refine run_loop [(83,false),(82,false),(7,false),(8,false)] (fun vs pos los=>∃j:Nat,j≤o.length∧vs=[int .i64 j,int .i64 o.length,.own 2000000 0 0 o.length,.own 2000001 0 0 v.length]∧pos=[]∧los=[fm (re o v j),a4s v])
        (fun vs _ _=>match vs with | .r (.v (.int _ a))::_=>(o.length-a).toNat | _=>0) rfl ?_ ?_
       ·push_cast [g7]
        exact ⟨0,by omega,rfl,by rw [bgh]; rfl⟩
       ·rintro vs pos los ⟨j,hj,rfl,rfl,rfl⟩;have w1:IntKind.i64.wrap ((j:Int)+1)=j+1:=a5 (by omega);have w5:IntKind.i64.wrap (4*(j:Int))=4*j:=a5 (by omega);have hfl2:=apf o v j
        push_cast [hfl2,g7,zak]
        refine b6 (fun hd=>?_) (fun hd=>?_)
        ·have hd:=of_decide_eq_true hd;have hi2:j<o.length:=by omega
         have n5:(4*(j:Int)).toNat=4*j:=by omega
         have hP:=bb7 o v (Nat.le_refl j) hi2;have hnx:=a5t o v hi2;generalize o.getD j default=P at *
         have hgF:((re o v j).map Fea.rv).getD j g7=.agg [.v (.int .u64 P.w),.sl 2 (P.ring.map ptR),.v (.int .i64 P.c),.v (.int .i64 P.s),.v (.int .i64 P.lo),.v (.int .i64 P.hi)]:=by
          rw [zaq,zbh,hP]; rfl
         have hset:∀x,(((re o v j).map Fea.rv).set j x).getD j g7=x:=fun x=>by
          rw [zaq,List.getElem?_set_self (by rw [zak,hfl2]; exact hi2)]; rfl
         push_cast [w1,w5,hfl2,n5,bjl,hgF,hset,List.set_set,List.take_succ_cons,List.take_zero,List.drop_succ_cons,List.drop_zero,zbl,zax,zab,zad,zac,Nat.add_zero,zak,List.length_set,zam,zan,zaa]
         repeat refine And.intro (by omega) ?_
         refine And.intro (by kernel_rfl) ⟨⟨j+1,by omega,rfl,?_⟩,by omega⟩;rw [hnx];simp only [fm,List.map_set,avg,Fea.rv,a4s]
        ·have hd:=of_decide_eq_false hd;obtain rfl:j=o.length:=by omega
         rw [a89]
         push_cast [hfl2,g7,zak]
         rw [show (adk o v).length=o.length by simp [adk]];exact ⟨rfl,rfl⟩
      ·have hE:aay (some (o,v))=([],false):=if_pos (.inr h4);have n4:((v.length:Int) != 4*(o.length:Int))=true:=bne_iff_ne.2 (by omega);rw [hE]
       push_cast [f00,n0,w4,n4,tu,tx,g7]

def alm:Mk P0 f47:={ x:=_ }
theorem apv:b8 47 2 alm:=b7 func47
def zu:Mk P0 f22:={ x:=_ }
theorem asb:b8 22 1 zu:=b7 func22
theorem bcg {l:List Int} (h:u64L l):∀j,in64 (vd l j).1∧in64 (vd l j).2
 | 0=>⟨atm _ (yi h 1).1 (yi h 1).2,atm _ (yi h 2).1 (yi h 2).2⟩
 | j+1=>⟨yf _,yf _⟩
theorem ba0 {l:List Int} (h:u64L l):i64P (dj l):=fun p hp=>by
 unfold dj at hp;split at hp
 ·obtain ⟨j,_,rfl⟩:=zbc.1 hp;exact bcg h j
 ·simp at hp
theorem a7l (l:List Int):(dj l).length≤l.length:=by
 unfold dj;split
 ·rename_i h
  have:9≤l.length:=by
   simp only [ao,zbj,decide_eq_true_eq] at h;exact h.1
  simp only [bw,zak,List.length_range];omega
 ·simp
theorem a1j (b:List UInt8) (hb:b.length≤100000):(featD b).1.ok:=by
 unfold featD;split
 ·rename_i x y z u e;have hx:=u6 e x (by simp);have hu:=u6 e u (by simp);have hn:=ai4 u.2.2.2;have hr:=a7l (s5 u.2.2.2);refine ⟨by simp only; omega,?_,ba0 (ai3 _),by refine ⟨?_,?_,?_,?_⟩<;>(show in64 0; decide)⟩;simp only;omega
 ·exact ⟨by decide,by decide,fun p hp=>by simp at hp,by decide⟩
theorem bd6 (b:List UInt8):in64 (mb b):=by
 unfold mb;split
 ·rename_i x e;have hx:=u6 e x (by simp);exact atm _ (by omega) (by omega)
 ·decide
theorem ame:∀(fs:List Fld) (o:List Fea) (v:List Int),(∀x∈fs,x.2.2.2.length≤100000)→(∀f∈o,f.ok)→(∀n∈v,in64 n)→∀p,z9 fs o v=some p→(∀f∈p.1,f.ok)∧(∀n∈p.2,in64 n)∧p.1.length≤o.length+fs.length
 | [],o,v,h,ho,hv,p,e=>by
  cases e;exact ⟨ho,hv,by simp⟩
 | x::r,o,v,h,ho,hv,p,e=>by
  have hr:∀y∈r,y.2.2.2.length≤100000:=fun y hy=>h y (by simp [hy]);rw [z9] at e;split at e
  ·split at e
   ·obtain ⟨a,b,c⟩:=ame r _ _ hr (fun f hf=>by
     rcases List.mem_append.1 hf with hf | hf
     ·exact ho f hf
     ·rw [zbq.1 hf]
      exact a1j _ (h x (by simp))) hv p e
    refine ⟨a,b,?_⟩;simp only [zas,zba,zao] at c ⊢;omega
   ·cases e
  ·split at e
   ·obtain ⟨a,b,c⟩:=ame r _ _ hr ho (fun n hn=>by
     rcases List.mem_append.1 hn with hn | hn
     ·exact hv n hn
     ·rw [zbq.1 hn]
      exact bd6 _) p e
    refine ⟨a,b,?_⟩;simp only [zba];omega
   ·obtain ⟨a,b,c⟩:=ame r _ _ hr ho hv p e;refine ⟨a,b,?_⟩;simp only [zba];omega
theorem aqc {v:List Int} (h:∀n∈v,in64 n) (i:Nat):in64 (v.getD i 0):=by
 rw [zaq];cases e:v[i]? with
 | none=>decide
 | some x=>exact h x (zar e)
theorem ar6 (b:List UInt8) (hb:b.length≤100000):(∀f∈(aw b).1,f.ok)∧(aw b).1.length≤b.length∧((aw b).2=true→(aw b).1≠[]):=by
 unfold aw;split
 ·rename_i x e;have hx:=u6 e x (by simp);split
  ·rename_i fs e2;have hl:=kr e2;have hf:=u6 e2;cases hs:z9 fs [] [] with
   | none=>exact ⟨by simp [aay],by simp [aay],by simp [aay]⟩
   | some p=>
    obtain ⟨o,v⟩:=p;obtain ⟨a,b,c⟩:=ame fs [] [] (fun y hy=>by have:=hf y hy; omega) (by simp) (by simp) _ hs;simp only [zao] at c;simp only [aay];split
    ·exact ⟨by simp,by simp,by simp⟩
    ·rename_i hn;have hL:o.length≠0:=fun e=>hn (.inl (zbf.1 e));refine ⟨fun f hf=>?_,?_,fun _ e=>hL ?_⟩
     ·obtain ⟨i,hi,rfl⟩:=zbc.1 hf;have hg:=aau a (List.mem_range.1 hi);exact ⟨hg.1,hg.2.1,hg.2.2.1,aqc b _,aqc b _,aqc b _,aqc b _⟩
     ·simp only [adk,zak,List.length_range];omega
     ·have:=congrArg List.length e;simpa [adk] using this
  ·exact ⟨by simp,by simp,by simp⟩
 ·exact ⟨by simp,by simp,by simp⟩
theorem bcp (a b:List UInt8) (ha:a.length≤1000000000000) (hb:b.length≤1000000000000):a8 P0 47 [sb a,sb b] [] (bl (decide (a=b))) []:=by
 refine apv rfl (by decide) ?_;have hmx:=d7
 push_cast [alm,x9,t7,ajf,zao]
 by_cases h:a=b
 ·subst h; simp
 ·rw [decide_eq_false h,beq_eq_false_iff_ne.2 h]
theorem a85 (l:List UInt8):nc (oi l):=fun x hx=>by
 obtain ⟨c,_,rfl⟩:=zbc.1 hx;exact trivial
def rdT (b:List UInt8):Option (List Fea):=if b=[] then some [] else if (aw b).2=true∧q9 (aw b).1=b then some (aw b).1 else none
def rdR:Option (List Fea)→AV
 | none=>.tup [.nils 6 g7,int .i64 10]
 | some []=>.tup [.nils 6 g7,int .i64 0]
 | some (f::l)=>.tup [.own 1000000 0 0 (f::l).length,int .i64 0]
def rdO:Option (List Fea)→List Ob
 | none=>[]
 | some []=>[]
 | some (f::l)=>[fm (f::l)]
theorem amj {m:List Fea} (hm:m≠[]):rdR (some m)=.tup [.own 1000000 0 0 m.length,int .i64 0]∧rdO (some m)=[fm m]:=by
 cases m with
 | nil=>exact absurd rfl hm
 | cons=>exact ⟨rfl,rfl⟩
set_option maxHeartbeats 1000000 in
theorem a2t (b:List UInt8) (hb:b.length≤100000):a8 P0 22 [sb b] [] (rdR (rdT b)) (rdO (rdT b)):=by
 refine asb rfl (by decide) ?_;have hmx:=d7;by_cases h0:b=[]
 ·subst h0
  push_cast [zu,zbg,zao]
  rw [show rdT []=some [] from if_pos rfl];exact ⟨rfl,rfl⟩
 have hL:b.length≠0:=fun e=>h0 (zbf.1 e);have n0:((b.length:Int) == 0)=false:=beq_eq_false_iff_ne.2 (by omega);obtain ⟨q1,q2,q3⟩:=ar6 b hb;have ht:=bht b (by omega);have hrd:rdT b=if (aw b).2=true∧q9 (aw b).1=b then some (aw b).1 else none:=if_neg h0
 rw [hrd];generalize aw b=T at *;obtain ⟨l,ok⟩:=T;cases ok with
 | false=>
  push_cast [zu,n0,zao]
  refine a6 ht rfl trivial ?_
  push_cast [tu,tx]
  exact ⟨rfl,rfl⟩
 | true=>
  have hly:=a3p l (by simp only at q2; omega) q1;have hll:=au6 q1;simp only at hll q2 q3;have heq:=bcp (q9 l) b (by omega) (by omega)
  push_cast [zu,n0,zao]
  refine a6 ht rfl trivial ?_
  push_cast [tu,tx]
  refine pj ?_;refine b5 (as':=[l8 l]) rfl ?_;refine sp hly rfl trivial trivial (by intro o ho; rw [zbq.1 ho]; exact a85 _) ?_;generalize q9 l=LL at *
  push_cast
  refine i9 ?_;refine b5 (as':=[sb LL,sb b]) rfl ?_;refine a6 heq rfl trivial ?_;have q3:=q3 trivial;by_cases he:LL=b
  ·have hd:decide (LL=b)=true:=decide_eq_true he;rw [if_pos he,(amj q3).1,(amj q3).2]
   push_cast [hd]
   done
  ·have hd:decide (LL=b)=false:=decide_eq_false he;rw [if_neg he]
   push_cast [hd,rdR,rdO,g7]
   done

def aoa:Mk P0 f19:={ x:=_ }
theorem asc:b8 19 2 aoa:=b7 func19
def bh (L:List Pt) (t:Til) (n:Int):Fea:=⟨n,cr t (o7 n.toNat t.r.toNat),((mem L n.toNat).length:Nat),agy (mem L n.toNat),loV (mem L n.toNat),hiV (mem L n.toNat)⟩
def apn (L:List Pt) (t:Til):List Fea:=(dv L t).map (bh L t)
def avk (L:List Pt) (t:Til):List UInt8:=if dv L t=[] then [] else q9 (apn L t)
theorem az7 {L:List Pt} {t:Til} {n:Int} (h:n∈dv L t):∃p∈L,n=((p.w t.r.toNat:Nat):Int):=by
 unfold dv at h;obtain ⟨i,hi,e⟩:=List.mem_iff_getElem.1 (List.mem_filter.1 h).1;exact avu (i:=i) (by rw [zbo hi,e])
theorem awc {L:List Pt} {p:Pt} (hp:p∈L) {r:Nat} (hr:r<13):mem L (p.w r)≠[]:=fun e=>by
 have:p∈mem L (p.w r):=List.mem_filter.2 ⟨hp,aw4.2 ⟨r,hr,rfl⟩⟩;rw [e] at this;simp at this
theorem a2v:∀{M:List Pt},(∀p∈M,p.ok)→-2147483648*(M.length:Int)≤agy M∧agy M≤2147483648*(M.length:Int)
 | [],_=>by simp [agy]
 | p::M,h=>by
  have h1:=a2v (M:=M) fun q hq=>h q (by simp [hq]);have h2:=(h p (by simp)).2.2;simp only [agy,List.map_cons,List.sum_cons,zba] at h1 ⊢;omega
theorem a24 {t:Til} {z:Ei} (ht:tis t=true) (hb:na z t.r.toNat):∀p∈bo t z,(-1099511627776≤p.1∧p.1≤1099511627776)∧(-1099511627776≤p.2∧p.2≤1099511627776):=fun p hp=>by
 have hin:=yk ht;have hr:0≤t.z∧t.z≤18∧0≤t.r∧t.r≤12∧0≤t.x∧t.x<2^t.z.toNat∧0≤t.y∧t.y<2^t.z.toNat:=by simpa [tis] using ht
 have hsd:=uf ⟨hr.1,hr.2.1⟩;obtain ⟨q,hq,rfl⟩:=zbc.1 hp;obtain ⟨i,hi,rfl⟩:=zbc.1 hq;have:=hb i (List.mem_range.1 hi);have e:afv t=2^(30-t.z).toNat:=rfl;rw [Int.add_mul,Int.one_mul,Int.add_mul,Int.one_mul] at hin;simp only [shP,e];generalize t.x*2^(30-t.z).toNat=A at *;generalize t.y*2^(30-t.z).toNat=B at *;omega
theorem a9a {L:List Pt} (hL:L.length<13) (hok:∀p∈L,p.ok) {t:Til} (hti:tis t=true) {p:Pt} (hp:p∈L):(bh L t ((p.w t.r.toNat:Nat):Int)).ok:=by
 have hr:0≤t.z∧t.z≤18∧0≤t.r∧t.r≤12∧0≤t.x∧t.x<2^t.z.toNat∧0≤t.y∧t.y<2^t.z.toNat:=by simpa [tis] using hti
 have hpo:=hok p hp;have hwr:=Pt.w_res hpo (show t.r.toNat<13 by omega);have hk:=jo p.x p.y t.r.toNat hpo.2.1.1 hpo.2.1.2 (by omega);obtain ⟨c1,c2,c3,c4⟩:=kj t.r.toNat _ hk;have hz:o7 (p.w t.r.toNat) t.r.toNat=d9 p.x p.y t.r.toNat:=by rw [show p.w t.r.toNat=s9 t.r.toNat (d9 p.x p.y t.r.toNat) from rfl,c3]
 have hl:=asz p.x p.y t.r.toNat (by omega);have hb:na (d9 p.x p.y t.r.toNat) t.r.toNat:=oq (by omega) hpo.2.1 hl;have hM:∀q∈mem L (p.w t.r.toNat),q.ok:=fun q hq=>hok q (List.mem_filter.1 hq).1;have hml:(mem L (p.w t.r.toNat)).length≤L.length:=List.length_filter_le ..;have hne:=awc hp (r:=t.r.toNat) (by omega);have hs:=a2v hM;obtain ⟨⟨a,a1,a2⟩,_⟩:=a8r hne;obtain ⟨⟨b,b1,b2⟩,_⟩:=a80 hne;have ha:=(hM a a1).2.2;have hbb:=(hM b b1).2.2;unfold bh;rw [zam,hz];refine ⟨⟨by simp only; omega,by simp only; omega⟩,?_,fun q hq=>?_,?_,?_,?_,?_⟩
 ·have:=a63 t hr.2.2.2.1 (d9 p.x p.y t.r.toNat);simp only;omega
 ·have:=baq t ⟨hr.1,hr.2.1⟩ _ (a24 hti hb) q hq;unfold in64;omega
 ·unfold in64; simp only; omega
 ·unfold in64; simp only; omega
 ·unfold in64; simp only; omega
 ·unfold in64; simp only; omega
theorem a9e {L:List Pt} (hL:L.length<13) (hok:∀p∈L,p.ok) {t:Til} (hti:tis t=true):∀f∈apn L t,f.ok:=fun f hf=>by
 obtain ⟨n,hn,rfl⟩:=zbc.1 hf;obtain ⟨p,hp,rfl⟩:=az7 hn;exact a9a hL hok hti hp
theorem a62 (L:List Pt) (t:Til):(dv L t).length≤L.length:=Nat.le_trans (List.length_filter_le ..) (af9 L _)
set_option maxHeartbeats 2000000 in
theorem draw_t (L : List Pt) (hL : L.length < 13) (hok : ∀ p ∈ L, p.ok) (t : Til) (ht : t.ok) (hti : tis t = true) (hf : fine t = false) {res : AV} {ro : List Ob}
    (hres:(dv L t=[]∧res=.tup [.nils 1 (.v (.int .u8 0)),int .i64 0]∧ro=[.abs (sT L)])∨(dv L t≠[]∧res=.tup [.own 1000001 0 0 (avk L t).length,int .i64 0]∧ro=[.abs (sT L),oi (avk L t)])) :
    a8 P0 19 [t.v,.ptr 1000000 0 0] [.abs (sT L)] res ro:=by
  refine asc rfl (by simp) ?_;have hmx:=d7;have hc:=baa L hL hok t ht hti hf;have hsl:=a62 L t;have hsa:=fun n h=>az7 (L:=L) (t:=t) (n:=n) h;have f00:((0:Int) != 0)=false:=rfl;have hdk:=a9e hL hok hti;have hdl:avk L t=if dv L t=[] then [] else q9 (apn L t):=rfl
  rw [hdl] at hres;have hdn:apn L t=(dv L t).map (bh L t):=rfl;rw [hdn] at hdk hres;clear hdl hdn;generalize dv L t=S at *;simp only [aoa,Til.v,push_cast,↓reduceIte,reduceCtorEq,zE,zA,zD];refine b5 (as':=[t.v,.ptr 1000000 0 0]) rfl ?_;refine a6 hc rfl ⟨rfl,trivial⟩ ?_;by_cases hS:S=[]
  · subst hS;have g00:((0:Int) == 0)=true:=rfl;rcases hres with ⟨_,rfl,rfl⟩ | ⟨h,_⟩
    · simp only [j7,f00,g00,push_cast,↓reduceIte,zE,zA,zS,zL,zD,zM]
    · exact absurd rfl h
  have hSl:S.length≠0:=fun e=>hS (zbf.1 e);have n0:((S.length:Int) == 0)=false:=beq_eq_false_iff_ne.2 (by omega);simp only [j7,f00,n0,push_cast,↓reduceIte,zE,zA,zS,zL,zD,zM];rcases hres with ⟨h,_⟩ | ⟨_,rfl,rfl⟩
  · exact absurd h hS
  rw [if_neg hS];have hT:∀i,((S.take i).map (bh L t)).length≤50:=fun i=>by simp; omega
  refine run_loop [(29, false), (28, false), (27, false), (8, false), (2, false), (1, false)] (fun vs pos los => ∃ i : Nat, i ≤ S.length ∧ pos = [.abs (sT L)] ∧
      (i=0∧vs=[int .i64 i,int .i64 S.length,.own 2000000 0 0 S.length,.nils 6 g7,.ptr 2000001 0 0,.ptr 1000000 0 0]∧los=[j7 S,.box [int .i64 t.z,int .i64 t.x,int .i64 t.y,int .i64 t.r]] ∨
       0<i∧vs=[int .i64 i,int .i64 S.length,.own 2000000 0 0 S.length,.own 2000001 0 0 i,.ptr 2000002 0 0,.ptr 1000000 0 0]∧los=[j7 S,fm ((S.take i).map (bh L t)),.box [int .i64 t.z,int .i64 t.x,int .i64 t.y,int .i64 t.r]]))
    (fun vs _ _=>match vs with | .r (.v (.int _ a))::_=>(S.length-a).toNat | _=>0) rfl ?_ ?_
  · simp only [g7,j7,push_cast,↓reduceIte,reduceCtorEq,zB,zE,zA,zS,zL,zD];exact ⟨0,by omega,by simp⟩
  · rintro vs pos los ⟨i,hi,rfl,hc⟩;have w1:IntKind.i64.wrap ((i:Int)+1)=i+1:=a5 (by omega)
    have hstep:i<S.length→∃p∈L,S[i]?=some ((p.w t.r.toNat:Nat):Int):=fun h=>by
      obtain ⟨p,hp,e⟩:=hsa S[i] (List.getElem_mem h);exact ⟨p,hp,by rw [zbo h,e]⟩
    have hr:0≤t.z∧t.z≤18∧0≤t.r∧t.r≤12∧0≤t.x∧t.x<2^t.z.toNat∧0≤t.y∧t.y<2^t.z.toNat:=by simpa [tis] using hti
    rcases hc with ⟨h0,rfl,rfl⟩ | ⟨h0,rfl,rfl⟩
    · subst h0;have dS:decide ((0:Int)<(S.length:Int))=true:=decide_eq_true (by omega);obtain ⟨p,hp,hn⟩:=hstep (by omega);have hpo:=hok p hp;have hk:=jo p.x p.y t.r.toNat hpo.2.1.1 hpo.2.1.2 (by omega);obtain ⟨c1,c2,c3,c4⟩:=kj t.r.toNat _ hk;have hz:o7 (p.w t.r.toNat) t.r.toNat=d9 p.x p.y t.r.toNat:=by rw [show p.w t.r.toNat=s9 t.r.toNat (d9 p.x p.y t.r.toNat) from rfl,c3]
      have hb:=oq (by omega) hpo.2.1 (asz p.x p.y t.r.toNat (by omega));have hvs:=azw t hti hf (d9 p.x p.y t.r.toNat) hk hb;have hcy:=a1s L (p.w t.r.toNat) (awc hp (by omega));have hfe:bh L t ((p.w t.r.toNat:Nat):Int)=⟨(p.w t.r.toNat:Nat),cr t (d9 p.x p.y t.r.toNat),((mem L (p.w t.r.toNat)).length:Nat),agy (mem L (p.w t.r.toNat)),loV (mem L (p.w t.r.toNat)),hiV (mem L (p.w t.r.toNat))⟩:=by unfold bh; rw [zam,hz]
      have hwe:p.w t.r.toNat=s9 t.r.toNat (d9 p.x p.y t.r.toNat):=rfl;rw [← hwe] at hvs;have hgU:=fun z=>u5 hn z;have hgU0:=fun z=>t5 hn z;simp only [zav] at hgU hgU0 w1
      have hnx:(S.take 1).map (bh L t)=[bh L t ((p.w t.r.toNat:Nat):Int)]:=by
        rw [List.take_add_one,hn]; rfl
      generalize cr t (d9 p.x p.y t.r.toNat)=Q at *;have htq:zbd Q.length (Q.map ptR)=Q.map ptR:=d5 Q;simp only [g7,j7,dS,hgU0,push_cast,↓reduceIte,zE,zA,zL];refine And.intro (by omega) ?_;refine a6 hcy rfl ⟨rfl,trivial⟩ ?_;simp only [push_cast,↓reduceIte,zE,zA,zL,zD];refine i7 (as':=[t.v,uw (p.w t.r.toNat:Nat)]) rfl ?_;refine b9 hvs rfl trivial ?_;simp only [d6,pnt,htq,w1,push_cast,↓reduceIte,zB,zE,zA,zS,zL,zD,zM];refine And.intro (by simp) (And.intro (by omega) (And.intro (by kernel_rfl) ⟨⟨1,by omega,.inr ⟨by omega,rfl,?_⟩⟩,by omega⟩));rw [hnx,hfe]; rfl
    · simp only [g7,j7,fm,push_cast,↓reduceIte,zE,zA];refine b6 (fun hd=>?_) (fun hd=>?_)
      · have hd:=of_decide_eq_true hd;obtain ⟨p,hp,hn⟩:=hstep (by omega);have hpo:=hok p hp;have hk:=jo p.x p.y t.r.toNat hpo.2.1.1 hpo.2.1.2 (by omega);obtain ⟨c1,c2,c3,c4⟩:=kj t.r.toNat _ hk;have hz:o7 (p.w t.r.toNat) t.r.toNat=d9 p.x p.y t.r.toNat:=by rw [show p.w t.r.toNat=s9 t.r.toNat (d9 p.x p.y t.r.toNat) from rfl,c3]
        have hb:=oq (by omega) hpo.2.1 (asz p.x p.y t.r.toNat (by omega));have hvs:=azw t hti hf (d9 p.x p.y t.r.toNat) hk hb;have hcy:=a1s L (p.w t.r.toNat) (awc hp (by omega));have hfe:bh L t ((p.w t.r.toNat:Nat):Int)=⟨(p.w t.r.toNat:Nat),cr t (d9 p.x p.y t.r.toNat),((mem L (p.w t.r.toNat)).length:Nat),agy (mem L (p.w t.r.toNat)),loV (mem L (p.w t.r.toNat)),hiV (mem L (p.w t.r.toNat))⟩:=by unfold bh; rw [zam,hz]
        have hwe:p.w t.r.toNat=s9 t.r.toNat (d9 p.x p.y t.r.toNat):=rfl;rw [← hwe] at hvs;have hgU:=fun z=>u5 hn z;have hgU0:=fun z=>t5 hn z;generalize cr t (d9 p.x p.y t.r.toNat)=Q at *;have htq:zbd Q.length (Q.map ptR)=Q.map ptR:=d5 Q;have hTi:=hT i;have htk:zbd i (((S.take i).map (bh L t)).map Fea.rv)=((S.take i).map (bh L t)).map Fea.rv:=zal (by simp; omega)
        have hnx:(S.take (i+1)).map (bh L t)=(S.take i).map (bh L t)++[bh L t ((p.w t.r.toNat:Nat):Int)]:=by
          rw [List.take_add_one,hn,List.map_append]; rfl
        simp only [hgU0,push_cast,↓reduceIte,zE,zA,zL];refine And.intro (by omega) ?_;refine a6 hcy rfl ⟨rfl,trivial⟩ ?_;simp only [push_cast,↓reduceIte,zE,zA,zL,zD];refine i7 (as':=[t.v,uw (p.w t.r.toNat:Nat)]) rfl ?_;refine b9 hvs rfl trivial ?_;simp only [d6,pnt,htq,htk,w1,push_cast,↓reduceIte,zB,zE,zA,zS,zL,zD,zM];refine And.intro (by simp) (And.intro ⟨by omega,by omega⟩ (And.intro (by kernel_rfl) ⟨⟨i+1,by omega,.inr ⟨by omega,rfl,?_⟩⟩,by omega⟩));rw [hnx,hfe,List.map_append]; rfl
      · have hd:=of_decide_eq_false hd;obtain rfl:i=S.length:=by omega
        rw [List.take_length];have hly:=a3p (S.map (bh L t)) (by simp; omega) hdk;have htk:zbd S.length ((S.map (bh L t)).map Fea.rv)=(S.map (bh L t)).map Fea.rv:=zal (by simp);simp only [htk,push_cast,↓reduceIte,zE];refine i9 ?_;refine b5 (as':=[l8 (S.map (bh L t))]) rfl ?_;refine a6 hly rfl trivial ?_;simp only [push_cast,↓reduceIte,zB,zE,zA,zS,zL,zD,zM]

theorem ba5 {L:List Pt} {os:List Ob} (h:SS L os) (p:Pt) (hpo:p.ok) (hk:has L p.k=false) (hlt:L.length<2):∃os',SS (L++[p]) os'∧a8 P0 36 [.ptr 1000000 0 0,p.av] os (bl true) (os'++[]):=by
 obtain ⟨es,c,ns,ce,cc,h,rfl⟩:=h;have hn:=a3x.1 hk;obtain ⟨a1,a2,a3,a4⟩:=bdh h.pm hn;refine ⟨_,⟨_,_,_,_,_,h.put hpo hn (by omega),rfl⟩,?_⟩;rw [List.append_nil];refine ba6 h hpo hn hlt (bjs h p.k hn) a1 ⟨⟨0,0,0,0⟩,a3 _⟩ ?_;rw [a2,bim h.pm];exact .inr ⟨rfl,by omega⟩
theorem bfp (L:List Pt) (p:Pt) (hpo:p.ok) (hk:has L p.k=false) (hlt:L.length<2):a8 P0 36 [.ptr 1000000 0 0,p.av] [.abs (sT L)] (bl true) [.abs (sT (L++[p]))]:=
 bbe (F:=SF L) (F':=SF (L++[p])) rfl (fun os h=>ba5 h p hpo hk hlt) rfl (by simp) (by simp [ba,ka])
theorem bk9 (l:List Pt) (hl:l.length<2) (hok:∀p∈l,p.ok) (hnd:(l.map (·.k)).Nodup):a8 P0 18 [.r (pts l)] [] (.ptr 1000000 0 0) [.abs (sT l)]:=by
 refine at2 rfl (by decide) ?_
 push_cast [ara,pts,zao,zak]
 refine a6 bdn rfl trivial ?_
 push_cast [zak]
 refine run_loop [(3,false),(7,false),(8,false),(9,false)] (fun vs pos los=>∃(i:Nat),i≤l.length∧vs=[.ptr 2000000 0 0,.r (pts l),int .i64 l.length,int .i64 i]∧pos=[]∧los=[.abs (sT (l.take i))])
  (fun vs _ _=>match vs with | [_,_,_,.r (.v (.int _ j))]=>(l.length-j).toNat | _=>0) rfl ?_ ?_
 ·push_cast [pts]
  exact ⟨0,by omega,by simp⟩
 ·rintro vs pos los ⟨i,hi,rfl,rfl,rfl⟩
  push_cast [pts,zak]
  refine b6 (fun h=>?_) (fun h=>?_)
  ·have h':i<l.length:=by simpa using h
   obtain ⟨p,hp⟩:∃p,l[i]?=some p:=⟨l[i],by simp [h']⟩
   have hj1:IntKind.i64.wrap ((i:Int)+1)=(i:Int)+1:=a5 ⟨by omega,by omega⟩;have hpm:=zar hp;have htk:l.take (i+1)=l.take i++[p]:=by rw [List.take_add_one,hp]; rfl
   have hno:has (l.take i) p.k=false:=a3x.2 fun q hq e=>by
    have hs:((l.take (i+1)).map (·.k)).Nodup:=hnd.sublist ((List.take_sublist _ _).map _);rw [htk,List.map_append,List.nodup_append] at hs;exact hs.2.2 q.k (List.mem_map_of_mem hq) p.k (by simp) e
   push_cast [a3a hp,zak]
   refine And.intro ⟨by omega,by omega⟩ ?_;refine b5 (as':=[.ptr 1000000 0 0,p.av]) rfl ?_;refine a6 (bfp (l.take i) p (hok p hpm) hno (by simp; omega)) rfl ⟨rfl,trivial⟩ ?_
   push_cast [hj1]
   refine ⟨⟨i+1,by omega,rfl,by rw [htk]⟩,by omega⟩
  ·have h':¬i<l.length:=by simpa using h
   push_cast
   rw [zal (by omega)]

def abi:Mk P0 f11:={ x:=_ }
theorem ah1:b8 11 0 abi:=b7 func11
def awP:Pt:=⟨1,500,600,7⟩
def awT:Til:=⟨0,0,0,0⟩
theorem bcq:de [awP] 0=[((awP.w 0:Nat):Int)]:=by
 unfold de zy akt asI;rw [show dd (List.map (fun q:Pt=>q.w 0) [awP])=[awP.w 0] from rfl];exact List.mergeSort_singleton _
theorem bl7:tw awT ((awP.w 0:Nat):Int)=true:=by decide +kernel
theorem a1w:dv [awP] awT=[((awP.w 0:Nat):Int)]:=by
 unfold dv;rw [show awT.r.toNat=0 from rfl,bcq,List.filter_cons,if_pos bl7]
 rfl
theorem a9x:dv [] awT=[]:=by
 unfold dv;rw [show de [] awT.r.toNat=[] from List.eq_nil_of_length_eq_zero (by have:=af9 [] awT.r.toNat; simpa using this)]
 rfl
def awF:Fea:=bh [awP] awT ((awP.w 0:Nat):Int)
theorem bg5:avk [awP] awT=q9 [awF]:=by
 unfold avk apn;rw [a1w,if_neg (by simp)]
 rfl
def awB (o:Option (List Fea)):Bool:=match o with | some [f]=>f.s == 7&&f.c == 1 | _=>false
theorem bg4:awB (rdT (q9 [awF]))=true:=by decide +kernel
theorem a9y:(q9 [awF]).length≤10000:=by decide +kernel
theorem bdw:∀p∈[awP],p.ok:=fun p hp=>by rw [zbq.1 hp]; decide
theorem a9w:awT.ok:=by unfold Til.ok in64; decide
theorem ay9:a8 P0 11 [] [] (bl true) []:=by
 refine ah1 rfl (by decide) ?_;have h1:=bk9 [awP] (by simp) bdw (by simp);have h2:=draw_t [awP] (by simp) bdw awT a9w (by decide) (by decide +kernel) (.inr ⟨by rw [a1w]; simp,rfl,rfl⟩);rw [bg5] at h2;have h3:=a2t (q9 [awF]) (by have:=a9y; omega);have h4:=draw_t [] (by simp) (by simp) awT a9w (by decide) (by decide +kernel) (.inl ⟨a9x,rfl,rfl⟩);have hr:=bg4;have hll:=a9y;generalize q9 [awF]=B at *
 obtain ⟨f,hf,f1,f2⟩:∃f,rdT B=some [f]∧f.s=7∧f.c=1:=by
  cases h:rdT B with
  | none=>rw [h] at hr; cases hr
  | some l=>
   rw [h] at hr;rcases l with _ | ⟨f,_ | ⟨g,r⟩⟩
   ·cases hr
   ·simp only [awB,zbj,beq_iff_eq] at hr;exact ⟨f,rfl,hr⟩
   ·cases hr
 rw [hf] at h3;have g1:((0:Int) == 0)=true:=rfl;have g2:((1:Int) == 1)=true:=rfl;have g3:((7:Int) == 7)=true:=rfl;simp only [abi,push_cast,↓reduceIte,zE,zA,zD];refine And.intro (by simp) ?_;refine i9 ?_;refine b5 (as':=[.r (pts [awP])]) rfl ?_;refine a6 h1 rfl trivial ?_;simp only [push_cast,↓reduceIte,zE,zA,zS,zL,zD,zM];refine b5 (as':=[awT.v,.ptr 1000000 0 0]) rfl ?_;refine a6 h2 rfl ⟨rfl,trivial⟩ ?_;simp only [push_cast,↓reduceIte,zE,zA,zS,zL,zD,zM];refine i9 ?_;refine b5 (as':=[sb B]) rfl ?_;refine a6 h3 rfl trivial ?_;simp only [rdR,rdO,push_cast,↓reduceIte,zE,zA,zS,zL,zD,zM];refine a6 bdn rfl trivial ?_
 simp only [push_cast,↓reduceIte,zE,zA,zS,zL,zD,zM];refine b5 (as':=[awT.v,.ptr 1000000 0 0]) rfl ?_;refine a6 h4 rfl ⟨rfl,trivial⟩ ?_;simp only [g1,g2,g3,f1,f2,Fea.rv,zab,push_cast,↓reduceIte,zE,zA,zL,zD];omega

def aea:Mk P0 f187:={ x:=_ }
theorem aj9:b8 187 1 aea:=b7 func187
def aeb:Mk P0 f142:={ x:=_ }
theorem aka:b8 142 2 aeb:=b7 func142
def zh:Mk P0 f144:={ x:=_ }
theorem agc:b8 144 3 zh:=b7 func144
def ad9:Mk P0 f143:={ x:=_ }
theorem aj7:b8 143 3 ad9:=b7 func143
def abw:Mk P0 f141:={ x:=_ }
theorem aid:b8 141 2 abw:=b7 func141
def su:Mk P0 f86:={ x:=_ }
theorem xf:b8 86 1 su:=b7 func86
def mo (n:Int):Int:=if n<0 then -n else n
theorem aqb (n:Int) (h:-9007199254740992≤n∧n≤9007199254740992):a8 P0 187 [int .i64 n] [] (int .i64 (mo n)) []:=by
 refine aj9 rfl (by decide) ?_;have w:IntKind.i64.wrap (0-n)=-n:=by rw [a5 (by omega)]; omega
 have w2:IntKind.i64.wrap (-n)=-n:=a5 (by omega)
 push_cast [aea,zao]
 refine b6 (fun hd=>?_) (fun hd=>?_)
 ·have hd:=of_decide_eq_true hd;have e:mo n=-n:=if_pos hd;rw [e]
  push_cast [w,w2]
 ·have hd:=of_decide_eq_false hd;have e:mo n=n:=if_neg hd;rw [e]
  push_cast
def azf (a b:P2):Bool:=decide (a.1<b.1)||(a.1 == b.1&&decide (a.2<b.2))
theorem bf4 (a b:P2):a8 P0 142 [pv2 a,pv2 b] [] (bl (azf a b)) []:=by
  refine aka rfl (by decide) ?_;unfold azf
  cases d1:decide (a.1<b.1)<;>cases d2:(a.1 == b.1)<;>cases d3:decide (a.2<b.2) <;>
    (push_cast [aeb,pv2,pnt,d1,d2,d3,zao,zab,zac,zat,zaw]
     first | done | omega | (refine ⟨?_,?_⟩<;>first | omega | rfl) | skip)
def aw8 (a q p:P2):Bool:=decide (mo (p.1-a.1)+mo (p.2-a.2)>mo (q.1-a.1)+mo (q.2-a.2))
theorem ayx (a q p:P2) (ha:near29 a) (hq:near29 q) (hp:near29 p):a8 P0 144 [pv2 a,pv2 q,pv2 p] [] (bl (aw8 a q p)) []:=by
 refine agc rfl (by decide) ?_;unfold near29 at ha hq hp;have w1:IntKind.i64.wrap (p.1-a.1)=p.1-a.1:=a5 (by omega);have w2:IntKind.i64.wrap (p.2-a.2)=p.2-a.2:=a5 (by omega);have w3:IntKind.i64.wrap (q.1-a.1)=q.1-a.1:=a5 (by omega);have w4:IntKind.i64.wrap (q.2-a.2)=q.2-a.2:=a5 (by omega);have b:∀x:Int,-2147483648≤x∧x≤2147483648→0≤mo x∧mo x≤2147483648:=fun x hx=>by unfold mo; split<;>omega
 have b1:=b (p.1-a.1) (by omega);have b2:=b (p.2-a.2) (by omega);have b3:=b (q.1-a.1) (by omega);have b4:=b (q.2-a.2) (by omega);have v1:IntKind.i64.wrap (mo (p.1-a.1)+mo (p.2-a.2))=mo (p.1-a.1)+mo (p.2-a.2):=a5 (by omega);have v2:IntKind.i64.wrap (mo (q.1-a.1)+mo (q.2-a.2))=mo (q.1-a.1)+mo (q.2-a.2):=a5 (by omega)
 push_cast [zh,pv2,pnt,w1,w2,w3,w4,zao,zab,zac,zat,zaw]
 repeat refine And.intro (by omega) ?_
 refine b9 (aqb (p.1-a.1) (by omega)) rfl trivial ?_
 push_cast [pnt,w1,w2,w3,w4,zab,zac,zat,zaw]
 repeat refine And.intro (by omega) ?_
 refine b9 (aqb (p.2-a.2) (by omega)) rfl trivial ?_
 push_cast [pnt,w1,w2,w3,w4,zab,zac,zat,zaw]
 repeat refine And.intro (by omega) ?_
 refine b9 (aqb (q.1-a.1) (by omega)) rfl trivial ?_
 push_cast [pnt,w1,w2,w3,w4,zab,zac,zat,zaw]
 repeat refine And.intro (by omega) ?_
 refine b9 (aqb (q.2-a.2) (by omega)) rfl trivial ?_
 push_cast [v1,v2]
 exact ⟨by kernel_rfl,rfl⟩
theorem a2s (a b c:P2) (ha:near29 a) (hb:near29 b) (hc:near29 c):a8 P0 143 [pv2 a,pv2 b,pv2 c] [] (int .i64 (sg (eu a b c))) []:=by
 refine aj7 rfl (by decide) ?_;unfold near29 at ha hb hc;have hx:=asl a.1 a.2 b.1 b.2 c.1 c.2 (by unfold ah; omega) (by unfold ah; omega) (by unfold ah; omega) (by unfold ah; omega) (by unfold ah; omega) (by unfold ah; omega)
 push_cast [ad9,pv2,pnt,zao,zab,zac,zat,zaw]
 repeat refine And.intro (by omega) ?_
 refine b5 (as':=[pv a.1 a.2,pv b.1 b.2,int .i64 c.1,int .i64 c.2]) rfl ?_;refine a6 hx rfl trivial ?_
 push_cast
 rfl
theorem fb {l:List P2} {i:Nat} {p:P2} (h:l[i]?=some p) (z:RV):(l.map ptR).getD i z=.agg [.v (.int .i64 p.1),.v (.int .i64 p.2)]:=by
 rw [zaq,zbh,h]; rfl
set_option maxHeartbeats 1000000 in
theorem az5 (l:List P2) (hl:l.length≤1000) (h:∀p∈l,near29 p):a8 P0 141 [a9 l,int .i64 1000] [] (bl true) []:=by
 refine aid rfl (by decide) ?_;have d0:decide ((l.length:Int)>1000)=false:=decide_eq_false (by omega);simp only [abw,a9,d0,push_cast,↓reduceIte,reduceCtorEq,zE,zA]
 refine run_loop [(5,false),(0,false)] (fun vs pos los=>∃i:Nat,i≤l.length∧vs=[int .i64 i,a9 l]∧pos=[]∧los=[])
  (fun vs _ _=>match vs with | .r (.v (.int _ a))::_=>(l.length-a).toNat | _=>0) rfl ?_ ?_
 ·simp only [a9,push_cast,↓reduceIte,reduceCtorEq,zA];exact ⟨0,by omega,rfl⟩
 ·rintro vs pos los ⟨i,hi,rfl,rfl,rfl⟩;have w1:IntKind.i64.wrap ((i:Int)+1)=i+1:=a5 (by omega);simp only [a9,push_cast,↓reduceIte,reduceCtorEq,zE];refine b6 (fun hd=>?_) (fun hd=>?_)
  ·have hi2:i<l.length:=by have:=of_decide_eq_true hd; omega
   obtain ⟨p,hp⟩:∃p,l[i]?=some p:=⟨l[i],by simp [hi2]⟩
   have hn:=h p (zar hp);unfold near29 at hn;have hg:=fun z=>fb hp z;simp only [push_cast]
   refine run_loop [(6,false),(5,false),(0,false)] (fun vs pos los=>∃a:Nat,a≤2∧vs=[int .i64 a,int .i64 i,a9 l]∧pos=[]∧los=[])
    (fun vs _ _=>match vs with | .r (.v (.int _ a))::_=>(2-a).toNat | _=>0) rfl ?_ ?_
   ·simp only [a9,push_cast,↓reduceIte,reduceCtorEq,zE,zA];exact ⟨0,by omega,rfl⟩
   ·rintro vs pos los ⟨a,ha,rfl,rfl,rfl⟩;rcases (show a=0∨a=1∨a=2 by omega) with rfl | rfl | rfl
    ·have d4:decide ((0:Int)<2)=true:=rfl;have e1:decide (p.1 < -536870912)=false:=decide_eq_false (by omega);have e2:decide (p.1>536870912)=false:=decide_eq_false (by omega);simp only [a9,hg,d4,e1,e2,zab,zaa,zae,zam,zaa,push_cast,↓reduceIte,reduceCtorEq,zE,zA,zL];exact ⟨by omega,by omega,by omega,by omega,⟨1,by omega,rfl⟩,by decide⟩
    ·have d4:decide ((1:Int)<2)=true:=rfl;have e1:decide (p.2 < -536870912)=false:=decide_eq_false (by omega);have e2:decide (p.2>536870912)=false:=decide_eq_false (by omega);simp only [a9,hg,d4,e1,e2,zad,zaa,zah,zam,zaa,push_cast,↓reduceIte,reduceCtorEq,zE,zA,zL];exact ⟨by omega,by omega,by omega,by omega,⟨2,by omega,rfl⟩,by decide⟩
    ·have d4:decide ((2:Int)<2)=false:=rfl;simp only [a9,d4,w1,push_cast,↓reduceIte,reduceCtorEq,zE,zA];exact ⟨⟨i+1,by omega,rfl⟩,by omega⟩
  ·simp only [push_cast,↓reduceIte,zA]
def rz (now nx p:P2):P2:=if p=now then nx else if nx=now then p else if eu now nx p<0∨(eu now nx p=0∧aw8 now nx p=true) then p else nx
def aoz (l:List P2) (now:P2):P2:=l.foldl (rz now) now
def ajt (f p:P2):P2:=if azf p f=true then p else f
def xa (l:List P2):P2:=l.foldl ajt (l.getD 0 (0,0))
def wrapP (l:List P2) (first:P2):Nat→P2→List P2
 | 0,_=>[]
 | k+1,now=>now::(if aoz l now=first∨aoz l now=now then [] else wrapP l first k (aoz l now))
def uz (l:List P2):List P2:=if l=[] then [] else if (wrapP l (xa l) (l.length+1) (xa l)).length<3 then [] else wrapP l (xa l) (l.length+1) (xa l)
theorem as9 (g:P2→P2→P2) (hg:∀a p,g a p=a∨g a p=p):∀(l:List P2) (a:P2),l.foldl g a=a∨l.foldl g a∈l
 | [],a=>.inl rfl
 | p::l,a=>by
  rw [zbb];rcases as9 g hg l (g a p) with h | h
  ·rw [h];rcases hg a p with e | e
   ·exact .inl e
   ·exact .inr (by rw [e]; simp)
  ·exact .inr (List.mem_cons_of_mem _ h)
theorem bfy (now a p:P2):rz now a p=a∨rz now a p=p:=by
 unfold rz;split
 ·exact .inl rfl
 ·split
  ·exact .inr rfl
  ·split
   ·exact .inr rfl
   ·exact .inl rfl
theorem bf2 (a p:P2):ajt a p=a∨ajt a p=p:=by
 unfold ajt;split
 ·exact .inr rfl
 ·exact .inl rfl
theorem bbi {l:List P2} {now:P2} (h:now∈l):aoz l now∈l:=by
 rcases as9 (rz now) (bfy now) l now with e | e
 ·unfold aoz; rw [e]; exact h
 ·exact e
theorem a5s {l:List P2} (h:l≠[]):xa l∈l:=by
 have h0:l.getD 0 (0,0)∈l:=by
  cases l with
  | nil=>exact absurd rfl h
  | cons a r=>simp
 rcases as9 ajt bf2 l (l.getD 0 (0,0)) with e | e
 ·unfold xa; rw [e]; exact h0
 ·exact e
theorem axo {l:List P2} {first:P2}:∀(k:Nat) {now:P2},now∈l→∀p∈wrapP l first k now,p∈l
 | 0,now,h,p,hp=>by simp [wrapP] at hp
 | k+1,now,h,p,hp=>by
  rw [wrapP] at hp;rcases List.mem_cons.1 hp with rfl | hp
  ·exact h
  ·split at hp
   ·simp at hp
   ·exact axo k (bbi h) p hp
theorem an1 (l:List P2) (first:P2):∀(k:Nat) (now:P2),(wrapP l first k now).length≤k
 | 0,now=>by simp [wrapP]
 | k+1,now=>by
  rw [wrapP,zba];split
  ·simp
  ·have:=an1 l first k (aoz l now)
   omega
set_option maxHeartbeats 2000000 in
theorem rhull_t (l : List P2) (hl : l.length ≤ 1000) (hl0 : l ≠ []) (h : ∀ p ∈ l, near29 p) {res : AV} {ro : List Ob}
    (hres:(uz l=[]∧res=.nils 2 (pnt 0 0)∧ro=[])∨(uz l≠[]∧res=.own 1000000 0 0 (uz l).length∧ro=[d6 (uz l)])) :
    a8 P0 86 [a9 l] [] res ro:=by
  refine xf rfl (by decide) ?_;have hmx:=d7
  obtain ⟨q0,r0,hq0⟩:∃q r,l=q::r:=by
    cases l with
    | nil=>exact absurd rfl hl0
    | cons q r=>exact ⟨q,r,rfl⟩
  have hg0:∀z,(l.map ptR).getD 0 z=.agg [.v (.int .i64 q0.1),.v (.int .i64 q0.2)]:=fun z=>fb (by rw [hq0]; rfl) z;have hd0:l.getD 0 (0,0)=q0:=by rw [hq0]; rfl
  have hlen:1≤l.length:=by rw [hq0]; simp
  have n0:((l.length:Int) == 0)=false:=beq_eq_false_iff_ne.2 (by omega);have hsm:=az5 l hl h
  push_cast [su,a9,zao]
  refine b5 (as':=[a9 l,int .i64 1000]) rfl ?_;refine a6 hsm rfl trivial ?_
  push_cast [a9,hg0,n0,zak,zab,zaa]
  refine And.intro (by omega) ?_
  refine run_loop [(4,false),(0,false),(3,false)] (fun vs pos los=>∃(i:Nat) (f:P2),i≤l.length∧f∈l∧xa l=(l.drop i).foldl ajt f∧vs=[int .i64 i,a9 l,.ptr 2000000 0 0]∧pos=[]∧los=[.box [int .i64 f.1,int .i64 f.2]])
    (fun vs _ _=>match vs with | .r (.v (.int _ a))::_=>(l.length-a).toNat | _=>0) rfl ?_ ?_
  · push_cast [a9]
    exact ⟨0,q0,by omega,by rw [hq0]; simp,by unfold xa; rw [hd0]; rfl,rfl,rfl⟩
  · rintro vs pos los ⟨i,f,hi,hfm,hff,rfl,rfl,rfl⟩;have w1:IntKind.i64.wrap ((i:Int)+1)=i+1:=a5 (by omega)
    push_cast [a9,zak]
    refine b6 (fun hd=>?_) (fun hd=>?_)
    · have hi2:i<l.length:=by have:=of_decide_eq_true hd; omega
      obtain ⟨p,hp⟩:∃p,l[i]?=some p:=⟨l[i],by simp [hi2]⟩
      have hpm:=zar hp;have hg:=fun z=>fb hp z;have hdr:l.drop i=p::l.drop (i+1):=by rw [zbi hi2,(zbm.1 hp).2]
      rw [hdr,zbb] at hff;have hle:=bf4 p f
      push_cast [a9,hg,zak,zam,zan,zaa]
      refine And.intro (by omega) ?_;refine i7 (as':=[pv2 p,pv2 f]) rfl ?_;refine b9 hle rfl trivial ?_
      push_cast
      refine And.intro (by kernel_rfl) ?_;cases hb:azf p f with
      | true=>
        rw [show ajt f p=p by rw [ajt,hb]; rfl] at hff
        push_cast [a9,hg,w1,zak,zam,zan,zaa]
        exact ⟨by omega,⟨i+1,p,by omega,hpm,hff,rfl,rfl⟩,by omega⟩
      | false=>
        rw [show ajt f p=f by rw [ajt,hb]; rfl] at hff
        push_cast [w1]
        exact ⟨⟨i+1,f,by omega,hfm,hff,rfl,rfl⟩,by omega⟩
    · have hi2:i=l.length:=by have:=of_decide_eq_false hd; omega
      subst hi2;rw [zaz,zbn] at hff;obtain ⟨W,hW⟩:∃W,wrapP l f (l.length+1) f=W:=⟨_,rfl⟩
      have hHR:uz l=if W.length<3 then [] else W:=by unfold uz; rw [if_neg hl0,hff,hW]
      have hWl:=an1 l f (l.length+1) f;rw [hW] at hWl;rw [hHR] at hres;have hfn:=h f hfm
      push_cast
      refine run_loop [(7, false), (0, false), (3, false), (5, false), (6, false)] (fun vs pos los => ∃ (n : Nat) (o : List P2) (now : P2), n ≤ l.length + 1 ∧ o.length = n ∧ now ∈ l ∧ W = o ++ wrapP l f (l.length + 1 - n) now ∧ pos = [] ∧
          (o=[]∧vs=[int .i64 n,a9 l,.ptr 2000000 0 0,.nils 2 (pnt 0 0),.ptr 2000001 0 0]∧los=[.box [int .i64 f.1,int .i64 f.2],.box [int .i64 now.1,int .i64 now.2]] ∨
           o≠[]∧vs=[int .i64 n,a9 l,.ptr 2000000 0 0,.own 2000001 0 0 n,.ptr 2000002 0 0]∧los=[.box [int .i64 f.1,int .i64 f.2],d6 o,.box [int .i64 now.1,int .i64 now.2]]))
        (fun vs _ _=>match vs with | .r (.v (.int _ a))::_=>(l.length+2-a).toNat | _=>0) rfl ?_ ?_
      · push_cast [a9,pnt]
        exact ⟨0,[],f,by omega,rfl,hfm,by rw [zax,← hW]; rfl,by simp⟩
      · rintro vs pos los ⟨n,o,now,hn,hol,hnm,hWo,rfl,hcase⟩;have hnn:=h now hnm;have wn:IntKind.i64.wrap ((n:Int)+1)=n+1:=a5 (by omega);have dm1:decide ((-1:Int)<0)=true:=rfl;have d00:decide ((0:Int)<0)=false:=rfl;have d10:decide ((1:Int)<0)=false:=rfl;have b00:((0:Int) == 0)=true:=rfl;have b10:((1:Int) == 0)=false:=rfl;rcases hcase with ⟨ho0,rfl,rfl⟩ | ⟨ho0,rfl,rfl⟩
        · push_cast [a9,d6,pnt,zak]
          have hn0:n=0:=by rw [← hol,ho0]; rfl
          refine b6 (fun hd=>?_) (fun hd=>?_)
          · have hd:=of_decide_eq_true hd;obtain ⟨k,hk⟩:∃k,l.length+1-n=k+1:=⟨l.length-n,by omega⟩
            rw [hk,wrapP] at hWo
            push_cast [a9,d6,pnt,zak]
            refine And.intro (by simp) (And.intro (by first | omega | exact ⟨by omega,by omega⟩) ?_)
            refine run_loop [(9,false),(0,false),(3,false),(5,false),(6,false),(8,false),(7,false)] (fun vs pos los=>∃(i:Nat) (nx:P2),i≤l.length∧nx∈l∧aoz l now=(l.drop i).foldl (rz now) nx∧pos=[] ∧
              vs=[int .i64 i,a9 l,.ptr 2000000 0 0,.own 2000001 0 0 (n+1),.ptr 2000002 0 0,.ptr 2000003 0 0,int .i64 n]∧los=[.box [int .i64 f.1,int .i64 f.2],d6 (o++[now]),.box [int .i64 now.1,int .i64 now.2],.box [int .i64 nx.1,int .i64 nx.2]])
              (fun vs _ _=>match vs with | .r (.v (.int _ a))::_=>(l.length-a).toNat | _=>0) rfl ?_ ?_
            · push_cast [a9,d6,pnt]
              exact ⟨0,now,by omega,hnm,rfl,by simp [ho0,hn0,ptR,pnt]⟩
            · rintro vs pos los ⟨i,nx,hi,hxm,hfold,rfl,rfl,rfl⟩;have hxn:=h nx hxm;have w1:IntKind.i64.wrap ((i:Int)+1)=i+1:=a5 (by omega);have q1:=af5 nx now;have q2:=af5 nx f
              push_cast [a9,d6,pnt,zak]
              refine b6 (fun hd2=>?_) (fun hd2=>?_)
              · have hi2:i<l.length:=by have:=of_decide_eq_true hd2; omega
                obtain ⟨p,hp⟩:∃p,l[i]?=some p:=⟨l[i],by simp [hi2]⟩
                have hpm:=zar hp;have hpn:=h p hpm;have hg:=fun z=>fb hp z;have hdr:l.drop i=p::l.drop (i+1):=by rw [zbi hi2,(zbm.1 hp).2]
                rw [hdr,zbb] at hfold;have q3:=af5 p now
                push_cast [a9,d6,pnt,hg,q1,q3,zak,zam,zan,zaa]
                refine And.intro (by omega) ?_;by_cases c1:p=now
                · have e1:decide (p=now)=true:=decide_eq_true c1;rw [show rz now nx p=nx from if_pos c1] at hfold
                  push_cast [e1,w1]
                  exact ⟨⟨i+1,nx,by omega,hxm,hfold,rfl,rfl⟩,by omega⟩
                · have e1:decide (p=now)=false:=decide_eq_false c1;by_cases c2:nx=now
                  · have e2:decide (nx=now)=true:=decide_eq_true c2;rw [show rz now nx p=p by rw [rz,if_neg c1,if_pos c2]] at hfold
                    push_cast [q1,q3,e1,e2,w1]
                    exact ⟨⟨i+1,p,by omega,hpm,hfold,rfl,rfl⟩,by omega⟩
                  · have e2:decide (nx=now)=false:=decide_eq_false c2;have hN:rz now nx p=if eu now nx p<0∨(eu now nx p=0∧aw8 now nx p=true) then p else nx:=by rw [rz,if_neg c1,if_neg c2]
                    have htt:=a2s now nx p hnn hxn hpn;have hft:=ayx now nx p hnn hxn hpn
                    push_cast [q1,q3,e1,e2]
                    refine b5 (as':=[pv2 now,pv2 nx,pv2 p]) rfl ?_;refine a6 htt rfl trivial ?_;rcases (show eu now nx p<0∨eu now nx p=0∨0<eu now nx p by omega) with s1 | s1 | s1
                    · have es:sg (eu now nx p)=-1:=if_pos s1;rw [hN,if_pos (.inl s1)] at hfold
                      push_cast [es,dm1,d00,d10,b00,b10,w1]
                      exact ⟨⟨i+1,p,by omega,hpm,hfold,rfl,rfl⟩,by omega⟩
                    · have es:sg (eu now nx p)=0:=by rw [sg,if_neg (by omega),if_neg (by omega)]
                      cases hfb:aw8 now nx p with
                      | true=>
                        rw [hfb] at hft;rw [hN,if_pos (.inr ⟨s1,hfb⟩)] at hfold
                        push_cast [es,dm1,d00,d10,b00,b10,w1]
                        refine b5 (as':=[pv2 now,pv2 nx,pv2 p]) rfl ?_;refine a6 hft rfl trivial ?_
                        push_cast [w1]
                        exact ⟨⟨i+1,p,by omega,hpm,hfold,rfl,rfl⟩,by omega⟩
                      | false=>
                        rw [hfb] at hft;rw [hN,if_neg (fun q=>q.elim (fun q=>by omega) (fun q=>by rw [hfb] at q; exact absurd q.2 (by decide)))] at hfold
                        push_cast [es,dm1,d00,d10,b00,b10,w1]
                        refine b5 (as':=[pv2 now,pv2 nx,pv2 p]) rfl ?_;refine a6 hft rfl trivial ?_
                        push_cast [w1]
                        exact ⟨⟨i+1,nx,by omega,hxm,hfold,rfl,rfl⟩,by omega⟩
                    · have es:sg (eu now nx p)=1:=by rw [sg,if_neg (by omega),if_pos s1]
                      rw [hN,if_neg (fun q=>q.elim (fun q=>by omega) (fun q=>by omega))] at hfold
                      push_cast [es,dm1,d00,d10,b00,b10,w1]
                      exact ⟨⟨i+1,nx,by omega,hxm,hfold,rfl,rfl⟩,by omega⟩
              · have hi2:i=l.length:=by have:=of_decide_eq_false hd2; omega
                subst hi2;rw [zaz,zbn] at hfold;rw [hfold] at hWo
                push_cast [a9,d6,pnt,q1,q2]
                by_cases c1:nx=f
                · have e1:decide (nx=f)=true:=decide_eq_true c1;rw [if_pos (.inl c1)] at hWo
                  push_cast [e1]
                  by_cases h3:n+1<3
                  · have d3:decide ((n:Int)+1<3)=true:=decide_eq_true (by omega);rw [if_pos (by rw [hWo]; first | (simp; omega) | omega)] at hres;rcases hres with ⟨_,rfl,rfl⟩ | ⟨q,_⟩
                    · push_cast [d3,pnt]
                    · exact absurd rfl q
                  · have d3:decide ((n:Int)+1<3)=false:=decide_eq_false (by omega);rw [if_neg (by rw [hWo]; first | (simp; omega) | omega)] at hres;rcases hres with ⟨q,_⟩ | ⟨_,rfl,rfl⟩
                    · first | (rw [q] at hWo; simp at hWo; done) | exact absurd (hWo.symm.trans q) ho0
                    · rw [hWo]
                      push_cast [d3,d6,pnt]
                      first | (simp [hol]; done) | exact ⟨by simp [hol],rfl⟩ | rfl
                · have e1:decide (nx=f)=false:=decide_eq_false c1;by_cases c2:nx=now
                  · have e2:decide (nx=now)=true:=decide_eq_true c2;rw [if_pos (.inr c2)] at hWo
                    push_cast [e1,e2]
                    by_cases h3:n+1<3
                    · have d3:decide ((n:Int)+1<3)=true:=decide_eq_true (by omega);rw [if_pos (by rw [hWo]; first | (simp; omega) | omega)] at hres;rcases hres with ⟨_,rfl,rfl⟩ | ⟨q,_⟩
                      · push_cast [d3,pnt]
                      · exact absurd rfl q
                    · have d3:decide ((n:Int)+1<3)=false:=decide_eq_false (by omega);rw [if_neg (by rw [hWo]; first | (simp; omega) | omega)] at hres;rcases hres with ⟨q,_⟩ | ⟨_,rfl,rfl⟩
                      · first | (rw [q] at hWo; simp at hWo; done) | exact absurd (hWo.symm.trans q) ho0
                      · rw [hWo]
                        push_cast [d3,d6,pnt]
                        first | (simp [hol]; done) | exact ⟨by simp [hol],rfl⟩ | rfl
                  · have e2:decide (nx=now)=false:=decide_eq_false c2;rw [if_neg (fun q=>q.elim c1 c2)] at hWo
                    push_cast [e1,e2,wn]
                    exact ⟨⟨n+1,o++[now],nx,by omega,by simp [hol],hxm,by rw [hWo,show l.length+1-(n+1)=k by omega,zau]; rfl,.inr ⟨by simp,rfl,rfl⟩⟩,by omega⟩
          · have hd:=of_decide_eq_false hd;have hnE:n=l.length+1:=by omega
            exfalso;rw [ho0] at hol;simp at hol;omega
        · push_cast [a9,d6,pnt,zak]
          refine b6 (fun hd=>?_) (fun hd=>?_)
          · have hd:=of_decide_eq_true hd;obtain ⟨k,hk⟩:∃k,l.length+1-n=k+1:=⟨l.length-n,by omega⟩
            rw [hk,wrapP] at hWo;have tO:zbd n (o.map ptR)=o.map ptR:=zal (by simp; omega)
            push_cast [a9,d6,pnt,tO,zak]
            refine And.intro (by simp) (And.intro (by first | omega | exact ⟨by omega,by omega⟩) ?_)
            refine run_loop [(9,false),(0,false),(3,false),(5,false),(6,false),(8,false),(7,false)] (fun vs pos los=>∃(i:Nat) (nx:P2),i≤l.length∧nx∈l∧aoz l now=(l.drop i).foldl (rz now) nx∧pos=[] ∧
              vs=[int .i64 i,a9 l,.ptr 2000000 0 0,.own 2000001 0 0 (n+1),.ptr 2000002 0 0,.ptr 2000003 0 0,int .i64 n]∧los=[.box [int .i64 f.1,int .i64 f.2],d6 (o++[now]),.box [int .i64 now.1,int .i64 now.2],.box [int .i64 nx.1,int .i64 nx.2]])
              (fun vs _ _=>match vs with | .r (.v (.int _ a))::_=>(l.length-a).toNat | _=>0) rfl ?_ ?_
            · push_cast [a9,d6,pnt]
              exact ⟨0,now,by omega,hnm,rfl,by simp [ptR,pnt]⟩
            · rintro vs pos los ⟨i,nx,hi,hxm,hfold,rfl,rfl,rfl⟩;have hxn:=h nx hxm;have w1:IntKind.i64.wrap ((i:Int)+1)=i+1:=a5 (by omega);have q1:=af5 nx now;have q2:=af5 nx f
              push_cast [a9,d6,pnt,zak]
              refine b6 (fun hd2=>?_) (fun hd2=>?_)
              · have hi2:i<l.length:=by have:=of_decide_eq_true hd2; omega
                obtain ⟨p,hp⟩:∃p,l[i]?=some p:=⟨l[i],by simp [hi2]⟩
                have hpm:=zar hp;have hpn:=h p hpm;have hg:=fun z=>fb hp z;have hdr:l.drop i=p::l.drop (i+1):=by rw [zbi hi2,(zbm.1 hp).2]
                rw [hdr,zbb] at hfold;have q3:=af5 p now
                push_cast [a9,d6,pnt,hg,q1,q3,zak,zam,zan,zaa]
                refine And.intro (by omega) ?_;by_cases c1:p=now
                · have e1:decide (p=now)=true:=decide_eq_true c1;rw [show rz now nx p=nx from if_pos c1] at hfold
                  push_cast [e1,w1]
                  exact ⟨⟨i+1,nx,by omega,hxm,hfold,rfl,rfl⟩,by omega⟩
                · have e1:decide (p=now)=false:=decide_eq_false c1;by_cases c2:nx=now
                  · have e2:decide (nx=now)=true:=decide_eq_true c2;rw [show rz now nx p=p by rw [rz,if_neg c1,if_pos c2]] at hfold
                    push_cast [q1,q3,e1,e2,w1]
                    exact ⟨⟨i+1,p,by omega,hpm,hfold,rfl,rfl⟩,by omega⟩
                  · have e2:decide (nx=now)=false:=decide_eq_false c2;have hN:rz now nx p=if eu now nx p<0∨(eu now nx p=0∧aw8 now nx p=true) then p else nx:=by rw [rz,if_neg c1,if_neg c2]
                    have htt:=a2s now nx p hnn hxn hpn;have hft:=ayx now nx p hnn hxn hpn
                    push_cast [q1,q3,e1,e2]
                    refine b5 (as':=[pv2 now,pv2 nx,pv2 p]) rfl ?_;refine a6 htt rfl trivial ?_;rcases (show eu now nx p<0∨eu now nx p=0∨0<eu now nx p by omega) with s1 | s1 | s1
                    · have es:sg (eu now nx p)=-1:=if_pos s1;rw [hN,if_pos (.inl s1)] at hfold
                      push_cast [es,dm1,d00,d10,b00,b10,w1]
                      exact ⟨⟨i+1,p,by omega,hpm,hfold,rfl,rfl⟩,by omega⟩
                    · have es:sg (eu now nx p)=0:=by rw [sg,if_neg (by omega),if_neg (by omega)]
                      cases hfb:aw8 now nx p with
                      | true=>
                        rw [hfb] at hft;rw [hN,if_pos (.inr ⟨s1,hfb⟩)] at hfold
                        push_cast [es,dm1,d00,d10,b00,b10,w1]
                        refine b5 (as':=[pv2 now,pv2 nx,pv2 p]) rfl ?_;refine a6 hft rfl trivial ?_
                        push_cast [w1]
                        exact ⟨⟨i+1,p,by omega,hpm,hfold,rfl,rfl⟩,by omega⟩
                      | false=>
                        rw [hfb] at hft;rw [hN,if_neg (fun q=>q.elim (fun q=>by omega) (fun q=>by rw [hfb] at q; exact absurd q.2 (by decide)))] at hfold
                        push_cast [es,dm1,d00,d10,b00,b10,w1]
                        refine b5 (as':=[pv2 now,pv2 nx,pv2 p]) rfl ?_;refine a6 hft rfl trivial ?_
                        push_cast [w1]
                        exact ⟨⟨i+1,nx,by omega,hxm,hfold,rfl,rfl⟩,by omega⟩
                    · have es:sg (eu now nx p)=1:=by rw [sg,if_neg (by omega),if_pos s1]
                      rw [hN,if_neg (fun q=>q.elim (fun q=>by omega) (fun q=>by omega))] at hfold
                      push_cast [es,dm1,d00,d10,b00,b10,w1]
                      exact ⟨⟨i+1,nx,by omega,hxm,hfold,rfl,rfl⟩,by omega⟩
              · have hi2:i=l.length:=by have:=of_decide_eq_false hd2; omega
                subst hi2;rw [zaz,zbn] at hfold;rw [hfold] at hWo
                push_cast [a9,d6,pnt,q1,q2]
                by_cases c1:nx=f
                · have e1:decide (nx=f)=true:=decide_eq_true c1;rw [if_pos (.inl c1)] at hWo
                  push_cast [e1]
                  by_cases h3:n+1<3
                  · have d3:decide ((n:Int)+1<3)=true:=decide_eq_true (by omega);rw [if_pos (by rw [hWo]; first | (simp; omega) | omega)] at hres;rcases hres with ⟨_,rfl,rfl⟩ | ⟨q,_⟩
                    · push_cast [d3,pnt]
                    · exact absurd rfl q
                  · have d3:decide ((n:Int)+1<3)=false:=decide_eq_false (by omega);rw [if_neg (by rw [hWo]; first | (simp; omega) | omega)] at hres;rcases hres with ⟨q,_⟩ | ⟨_,rfl,rfl⟩
                    · first | (rw [q] at hWo; simp at hWo; done) | exact absurd (hWo.symm.trans q) ho0
                    · rw [hWo]
                      push_cast [d3,d6,pnt]
                      first | (simp [hol]; done) | exact ⟨by simp [hol],rfl⟩ | rfl
                · have e1:decide (nx=f)=false:=decide_eq_false c1;by_cases c2:nx=now
                  · have e2:decide (nx=now)=true:=decide_eq_true c2;rw [if_pos (.inr c2)] at hWo
                    push_cast [e1,e2]
                    by_cases h3:n+1<3
                    · have d3:decide ((n:Int)+1<3)=true:=decide_eq_true (by omega);rw [if_pos (by rw [hWo]; first | (simp; omega) | omega)] at hres;rcases hres with ⟨_,rfl,rfl⟩ | ⟨q,_⟩
                      · push_cast [d3,pnt]
                      · exact absurd rfl q
                    · have d3:decide ((n:Int)+1<3)=false:=decide_eq_false (by omega);rw [if_neg (by rw [hWo]; first | (simp; omega) | omega)] at hres;rcases hres with ⟨q,_⟩ | ⟨_,rfl,rfl⟩
                      · first | (rw [q] at hWo; simp at hWo; done) | exact absurd (hWo.symm.trans q) ho0
                      · rw [hWo]
                        push_cast [d3,d6,pnt]
                        first | (simp [hol]; done) | exact ⟨by simp [hol],rfl⟩ | rfl
                  · have e2:decide (nx=now)=false:=decide_eq_false c2;rw [if_neg (fun q=>q.elim c1 c2)] at hWo
                    push_cast [e1,e2,wn]
                    exact ⟨⟨n+1,o++[now],nx,by omega,by simp [hol],hxm,by rw [hWo,show l.length+1-(n+1)=k by omega,zau]; rfl,.inr ⟨by simp,rfl,rfl⟩⟩,by omega⟩
          · have hd:=of_decide_eq_false hd;have hnE:n=l.length+1:=by omega
            rw [hnE,Nat.sub_self,wrapP,List.append_nil] at hWo
            push_cast [a9,d6,pnt]
            by_cases h3:n<3
            · have d3:decide ((n:Int)<3)=true:=decide_eq_true (by omega);rw [if_pos (by rw [hWo]; first | (simp; omega) | omega)] at hres;rcases hres with ⟨_,rfl,rfl⟩ | ⟨q,_⟩
              · push_cast [d3,pnt]
              · exact absurd rfl q
            · have d3:decide ((n:Int)<3)=false:=decide_eq_false (by omega);rw [if_neg (by rw [hWo]; first | (simp; omega) | omega)] at hres;rcases hres with ⟨q,_⟩ | ⟨_,rfl,rfl⟩
              · first | (rw [q] at hWo; simp at hWo; done) | exact absurd (hWo.symm.trans q) ho0
              · rw [hWo]
                push_cast [d3,d6,pnt]
                first | (simp [hol]; done) | exact ⟨by simp [hol],rfl⟩ | rfl

def ej:Mk P0 f188:={ x:=_ }
theorem sr:b8 188 2 ej:=b7 func188
def aec:Mk P0 f145:={ x:=_ }
theorem akb:b8 145 1 aec:=b7 func145
def acu (a:Int) (lo:Int) (p:P2):Int:=min lo (sel a p)
def acv (a:Int) (hi:Int) (p:P2):Int:=max hi (sel a p)
def qi (a:Int) (l:List P2):Int:=match l with
 | []=>0
 | p::r=>(p::r).foldl (acv a) (sel a p)-(p::r).foldl (acu a) (sel a p)
theorem a31 (a:Int):∀(l:List P2) (x:Int),(l.foldl (acu a) x=x∨∃p∈l,l.foldl (acu a) x=sel a p)
 | [],x=>.inl rfl
 | p::l,x=>by
  rw [zbb];rcases a31 a l (acu a x p) with h | ⟨q,hq,h⟩
  ·rw [h];unfold acu;rcases (show min x (sel a p)=x∨min x (sel a p)=sel a p by omega) with e | e
   ·exact .inl e
   ·exact .inr ⟨p,by simp,e⟩
  ·exact .inr ⟨q,by simp [hq],h⟩
theorem a32 (a:Int):∀(l:List P2) (x:Int),(l.foldl (acv a) x=x∨∃p∈l,l.foldl (acv a) x=sel a p)
 | [],x=>.inl rfl
 | p::l,x=>by
  rw [zbb];rcases a32 a l (acv a x p) with h | ⟨q,hq,h⟩
  ·rw [h];unfold acv;rcases (show max x (sel a p)=x∨max x (sel a p)=sel a p by omega) with e | e
   ·exact .inl e
   ·exact .inr ⟨p,by simp,e⟩
  ·exact .inr ⟨q,by simp [hq],h⟩
theorem bb4 (a:Int) (ha:a=0∨a=1) (l:List P2) (h:RgOk l) (p:P2) (r:List P2) (e:l=p::r):l.foldl (acv a) (sel a p)-l.foldl (acu a) (sel a p)≤1073741824:=by
 obtain ⟨_,_,h3⟩:=h;have hp:p∈l:=by rw [e]; simp
 have hlo:∃q∈l,l.foldl (acu a) (sel a p)=sel a q:=by
  rcases a31 a l (sel a p) with x | ⟨q,hq,x⟩
  ·exact ⟨p,hp,x⟩
  ·exact ⟨q,hq,x⟩
 have hhi:∃q∈l,l.foldl (acv a) (sel a p)=sel a q:=by
  rcases a32 a l (sel a p) with x | ⟨q,hq,x⟩
  ·exact ⟨p,hp,x⟩
  ·exact ⟨q,hq,x⟩
 obtain ⟨u,hu,e1⟩:=hlo;obtain ⟨v,hv,e2⟩:=hhi;have:=h3 v hv u hu;rw [e1,e2];rcases ha with rfl | rfl
 ·show v.1-u.1≤1073741824;omega
 ·show v.2-u.2≤1073741824;omega
theorem a60 (l:List P2) (h:RgOk l):a8 P0 188 [a9 l,int .i64 0] [] (int .i64 (qi 0 l)) []:=by
 refine sr rfl (by decide) ?_;obtain ⟨h1,h2,h3⟩:=h;cases l with
 | nil=>
  push_cast [ej,a9,qi,zbg,zao]
  done
 | cons p r=>
  obtain ⟨l,hl⟩:∃l,l=p::r:=⟨_,rfl⟩
  have hsp:qi 0 (p::r)=l.foldl (acv 0) p.1-l.foldl (acu 0) p.1:=by rw [hl]; rfl
  rw [hsp,← hl];rw [← hl] at h1 h2 h3;have hp0:l[0]?=some p:=by rw [hl]; rfl
  have hg0:=fun z=>fb hp0 z;have hlen:1≤l.length:=by rw [hl]; simp
  have n0:((l.length:Int) == 0)=false:=beq_eq_false_iff_ne.2 (by omega);have hpb:=h2 p (by rw [hl]; simp)
  push_cast [ej,a9,hg0,n0,zak,zao,zab,zad,zaa,zae,zaf,zah,zat,zaw]
  repeat refine And.intro (by first | omega | kernel_rfl) ?_
  refine run_loop [(7,false),(0,false),(5,false),(6,false),(1,false)] (fun vs pos los=>∃(i:Nat) (lo hi:Int),i≤l.length∧(-1099511627776≤lo∧lo≤1099511627776)∧(-1099511627776≤hi∧hi≤1099511627776)∧l.foldl (acv 0) p.1=(l.drop i).foldl (acv 0) hi∧l.foldl (acu 0) p.1=(l.drop i).foldl (acu 0) lo∧vs=[int .i64 i,a9 l,int .i64 lo,int .i64 hi,int .i64 0]∧pos=[]∧los=[])
   (fun vs _ _=>match vs with | .r (.v (.int _ a))::_=>(l.length-a).toNat | _=>0) rfl ?_ ?_
  ·push_cast [a9]
   exact ⟨0,p.1,p.1,by omega,by omega,by omega,rfl,rfl,rfl⟩
  ·rintro vs pos los ⟨i,lo,hi,hi0,hlb,hhb,e1,e2,rfl,rfl,rfl⟩;have w1:IntKind.i64.wrap ((i:Int)+1)=i+1:=a5 (by omega)
   push_cast [a9,zak]
   refine b6 (fun hd=>?_) (fun hd=>?_)
   ·have hi2:i<l.length:=by have:=of_decide_eq_true hd; omega
    obtain ⟨q,hq⟩:∃q,l[i]?=some q:=⟨l[i],by simp [hi2]⟩
    have hqb:=h2 q (zar hq);have hg:=fun z=>fb hq z;have hdr:l.drop i=q::l.drop (i+1):=by rw [zbi hi2,(zbm.1 hq).2]
    rw [hdr,zbb] at e1 e2
    push_cast [a9,hg,w1,zak,zab,zad,zaa,zae,zaf,zah,zat,zaw,zam,zan,zaa]
    repeat refine And.intro (by first | omega | kernel_rfl) ?_
    exact ⟨⟨i+1,min lo q.1,max hi q.1,by omega,by omega,by omega,e1,e2,rfl⟩,by omega⟩
   ·have hi2:i=l.length:=by have:=of_decide_eq_false hd; omega
    subst hi2;rw [zaz,zbn] at e1 e2;have w2:IntKind.i64.wrap (hi-lo)=hi-lo:=a5 (by omega);rw [e1,e2]
    push_cast [w2]
theorem a6z (l:List P2) (h:RgOk l):a8 P0 188 [a9 l,int .i64 1] [] (int .i64 (qi 1 l)) []:=by
 refine sr rfl (by decide) ?_;obtain ⟨h1,h2,h3⟩:=h;cases l with
 | nil=>
  push_cast [ej,a9,qi,zbg,zao]
  done
 | cons p r=>
  obtain ⟨l,hl⟩:∃l,l=p::r:=⟨_,rfl⟩
  have hsp:qi 1 (p::r)=l.foldl (acv 1) p.2-l.foldl (acu 1) p.2:=by rw [hl]; rfl
  rw [hsp,← hl];rw [← hl] at h1 h2 h3;have hp0:l[0]?=some p:=by rw [hl]; rfl
  have hg0:=fun z=>fb hp0 z;have hlen:1≤l.length:=by rw [hl]; simp
  have n0:((l.length:Int) == 0)=false:=beq_eq_false_iff_ne.2 (by omega);have hpb:=h2 p (by rw [hl]; simp)
  push_cast [ej,a9,hg0,n0,zak,zao,zab,zad,zaa,zae,zaf,zah,zat,zaw]
  repeat refine And.intro (by first | omega | kernel_rfl) ?_
  refine run_loop [(7,false),(0,false),(5,false),(6,false),(1,false)] (fun vs pos los=>∃(i:Nat) (lo hi:Int),i≤l.length∧(-1099511627776≤lo∧lo≤1099511627776)∧(-1099511627776≤hi∧hi≤1099511627776)∧l.foldl (acv 1) p.2=(l.drop i).foldl (acv 1) hi∧l.foldl (acu 1) p.2=(l.drop i).foldl (acu 1) lo∧vs=[int .i64 i,a9 l,int .i64 lo,int .i64 hi,int .i64 1]∧pos=[]∧los=[])
   (fun vs _ _=>match vs with | .r (.v (.int _ a))::_=>(l.length-a).toNat | _=>0) rfl ?_ ?_
  ·push_cast [a9]
   exact ⟨0,p.2,p.2,by omega,by omega,by omega,rfl,rfl,rfl⟩
  ·rintro vs pos los ⟨i,lo,hi,hi0,hlb,hhb,e1,e2,rfl,rfl,rfl⟩;have w1:IntKind.i64.wrap ((i:Int)+1)=i+1:=a5 (by omega)
   push_cast [a9,zak]
   refine b6 (fun hd=>?_) (fun hd=>?_)
   ·have hi2:i<l.length:=by have:=of_decide_eq_true hd; omega
    obtain ⟨q,hq⟩:∃q,l[i]?=some q:=⟨l[i],by simp [hi2]⟩
    have hqb:=h2 q (zar hq);have hg:=fun z=>fb hq z;have hdr:l.drop i=q::l.drop (i+1):=by rw [zbi hi2,(zbm.1 hq).2]
    rw [hdr,zbb] at e1 e2
    push_cast [a9,hg,w1,zak,zab,zad,zaa,zae,zaf,zah,zat,zaw,zam,zan,zaa]
    repeat refine And.intro (by first | omega | kernel_rfl) ?_
    exact ⟨⟨i+1,min lo q.2,max hi q.2,by omega,by omega,by omega,e1,e2,rfl⟩,by omega⟩
   ·have hi2:i=l.length:=by have:=of_decide_eq_false hd; omega
    subst hi2;rw [zaz,zbn] at e1 e2;have w2:IntKind.i64.wrap (hi-lo)=hi-lo:=a5 (by omega);rw [e1,e2]
    push_cast [w2]
theorem axy (a:Int) (ha:a=0∨a=1) (l:List P2) (h:RgOk l):qi a l≤1073741824:=by
 cases l with
 | nil=>simp [qi]
 | cons p r=>exact bb4 a ha (p::r) h p r rfl
set_option maxHeartbeats 1000000 in
theorem a1g (l:List P2) (h:RgOk l):a8 P0 145 [a9 l] [] (bl true) []:=by
 refine akb rfl (by decide) ?_;have s0:=a60 l h;have s1:=a6z l h;have b0:decide (qi 0 l≤1073741824)=true:=decide_eq_true (axy 0 (.inl rfl) l h);have b1:decide (qi 1 l≤1073741824)=true:=decide_eq_true (axy 1 (.inr rfl) l h);obtain ⟨h1,h2,h3⟩:=h;have d0:decide ((l.length:Int)>100)=false:=decide_eq_false (by omega);simp only [aec,a9,d0,push_cast,↓reduceIte,reduceCtorEq]
 refine run_loop [(3,false),(0,false)] (fun vs pos los=>∃i:Nat,i≤l.length∧vs=[int .i64 i,a9 l]∧pos=[]∧los=[])
  (fun vs _ _=>match vs with | .r (.v (.int _ a))::_=>(l.length-a).toNat | _=>0) rfl ?_ ?_
 ·simp only [a9,push_cast,↓reduceIte,reduceCtorEq,zA];exact ⟨0,by omega,rfl⟩
 ·rintro vs pos los ⟨i,hi,rfl,rfl,rfl⟩;have w1:IntKind.i64.wrap ((i:Int)+1)=i+1:=a5 (by omega);simp only [a9,push_cast,↓reduceIte,reduceCtorEq,zE];refine b6 (fun hd=>?_) (fun hd=>?_)
  ·have hi2:i<l.length:=by have:=of_decide_eq_true hd; omega
   obtain ⟨p,hp⟩:∃p,l[i]?=some p:=⟨l[i],by simp [hi2]⟩
   have hn:=h2 p (zar hp);have hg:=fun z=>fb hp z;simp only [push_cast]
   refine run_loop [(4,false),(3,false),(0,false)] (fun vs pos los=>∃a:Nat,a≤2∧vs=[int .i64 a,int .i64 i,a9 l]∧pos=[]∧los=[])
    (fun vs _ _=>match vs with | .r (.v (.int _ a))::_=>(2-a).toNat | _=>0) rfl ?_ ?_
   ·simp only [a9,push_cast,↓reduceIte,reduceCtorEq,zE,zA];exact ⟨0,by omega,rfl⟩
   ·rintro vs pos los ⟨a,ha,rfl,rfl,rfl⟩;rcases (show a=0∨a=1∨a=2 by omega) with rfl | rfl | rfl
    ·have d4:decide ((0:Int)<2)=true:=rfl;have e1:decide (p.1 < -1099511627776)=false:=decide_eq_false (by omega);have e2:decide (p.1>1099511627776)=false:=decide_eq_false (by omega);simp only [a9,hg,d4,e1,e2,zab,zaa,zae,zam,zaa,push_cast,↓reduceIte,reduceCtorEq,zE,zA,zL];exact ⟨by omega,by omega,by omega,by omega,⟨1,by omega,rfl⟩,by decide⟩
    ·have d4:decide ((1:Int)<2)=true:=rfl;have e1:decide (p.2 < -1099511627776)=false:=decide_eq_false (by omega);have e2:decide (p.2>1099511627776)=false:=decide_eq_false (by omega);simp only [a9,hg,d4,e1,e2,zad,zaa,zah,zam,zaa,push_cast,↓reduceIte,reduceCtorEq,zE,zA,zL];exact ⟨by omega,by omega,by omega,by omega,⟨2,by omega,rfl⟩,by decide⟩
    ·have d4:decide ((2:Int)<2)=false:=rfl;simp only [a9,d4,w1,push_cast,↓reduceIte,reduceCtorEq,zE,zA];exact ⟨⟨i+1,by omega,rfl⟩,by omega⟩
  ·simp only [push_cast,↓reduceIte,reduceCtorEq];refine b5 (as':=[a9 l,int .i64 0]) rfl ?_;refine a6 s0 rfl trivial ?_;simp only [b0,push_cast,↓reduceIte,reduceCtorEq,zE];refine b5 (as':=[a9 l,int .i64 1]) rfl ?_;refine a6 s1 rfl trivial ?_;simp only [b1,push_cast,↓reduceIte,zE,zA]

def ss:Mk P0 f140:={ x:=_ }
theorem xe:b8 140 4 ss:=b7 func140
theorem aqa (x c:Int) (ab:Bool):(bif x == c then true else decide (x>c) == ab)=(if ab then decide (x≥c) else decide (x≤c)):=by
 by_cases h:x=c
 ·subst h;cases ab<;>simp
 ·have:(x == c)=false:=beq_eq_false_iff_ne.2 h;rw [this];cases ab
  ·by_cases h2:x>c
   ·simp [h2]
    try omega
   ·simp [h2]
    try omega
  ·by_cases h2:x>c
   ·simp [h2]
    try omega
   ·simp [h2]
    try omega
set_option maxHeartbeats 4000000 in
theorem side0_t (c : Int) (ab : Bool) (hc : -9007199254740992 ≤ c ∧ c ≤ 9007199254740992) (rg : List P2) (h : RgOk rg) {res : AV} {ro : List Ob}
    (hres:(u9 ⟨0,c,ab⟩ rg=[]∧res=.nils 2 (pnt 0 0)∧ro=[])∨(u9 ⟨0,c,ab⟩ rg≠[]∧res=.own 1000000 0 0 (u9 ⟨0,c,ab⟩ rg).length∧ro=[d6 (u9 ⟨0,c,ab⟩ rg)])) :
    a8 P0 140 [a9 rg,int .i64 0,int .i64 c,bl ab] [] res ro:=by
  have hf:=a1g rg h;obtain ⟨h1,h2,h3⟩:=h;refine xe rfl (by decide) ?_;have hmx:=d7;simp only [ss,a9,push_cast,↓reduceIte,reduceCtorEq,zA];refine b5 (as':=[a9 rg]) rfl ?_;refine a6 hf rfl trivial ?_;have dA:decide ((0:Int)<0)=false:=rfl;have dB:decide ((0:Int)>1)=false:=rfl;have w1a:IntKind.i64.wrap (1-0)=1:=rfl;simp only [dA,dB,push_cast,↓reduceIte,reduceCtorEq,zE];obtain ⟨l,hl⟩:∃l:Lin,l=⟨0,c,ab⟩:=⟨_,rfl⟩
  have hlo:l.ok:=by rw [hl]; exact .inl rfl
  rw [← hl] at hres
  refine run_loop [(10, false), (0, false), (1, false), (2, false), (3, false), (9, false)] (fun vs pos los => ∃ i : Nat, i ≤ rg.length ∧ pos = [] ∧
      (i8 l rg i=[]∧vs=[int .i64 i,a9 rg,int .i64 0,int .i64 c,bl ab,.nils 2 (pnt 0 0)]∧los=[] ∨
       i8 l rg i≠[]∧vs=[int .i64 i,a9 rg,int .i64 0,int .i64 c,bl ab,.own 2000000 0 0 (i8 l rg i).length]∧los=[d6 (i8 l rg i)]))
    (fun vs _ _=>match vs with | .r (.v (.int _ a))::_=>(rg.length-a).toNat | _=>0) rfl ?_ ?_
  · simp only [a9,pnt,push_cast,↓reduceIte,reduceCtorEq,zE,zA];exact ⟨0,by omega,.inl ⟨rfl,by simp⟩⟩
  · rintro vs pos los ⟨i,hi,rfl,hcase⟩;have hlen:=ac2 l rg i;have wi:IntKind.i64.wrap ((i:Int)+1)=(i:Int)+1:=a5 (by omega);rcases hcase with ⟨h0,rfl,rfl⟩ | ⟨h0,rfl,rfl⟩
    · simp only [a9,d6,pnt,push_cast,↓reduceIte,reduceCtorEq,zE];refine b6 (fun hd=>?_) (fun hd=>?_)
      · have hi2:i<rg.length:=by have:=of_decide_eq_true hd; omega
        obtain ⟨p,hp⟩:∃p,rg[i]?=some p:=⟨rg[i],by simp [hi2]⟩
        obtain ⟨J,hJ⟩:∃J,(i+1)%rg.length=J:=⟨_,rfl⟩
        have hJl:J<rg.length:=by rw [← hJ]; exact Nat.mod_lt _ (by omega)
        obtain ⟨q,hq⟩:∃q,rg[J]?=some q:=⟨rg[J],by simp [hJl]⟩
        have hgi:rg.getD i (0,0)=p:=by rw [zaq,hp]; rfl
        have hgn:ngh rg i=q:=by unfold ngh; rw [hJ,zaq,hq]; rfl
        have hpm:=zar hp;have hqm:=zar hq;have hpb:=h2 p hpm;have hqb:=h2 q hqm;have hdb:=h3 p hpm q hqm;have wJ:((i:Int)+1).tmod (rg.length:Int)=(J:Int):=by rw [zbr (by omega),← hJ,zbs,zap]; rfl
        have hn0:¬((rg.length:Int)=0):=by omega
        have hgp:=fun z=>fb hp z;have hgq:=fun z=>fb hq z;have hNx:i8 l rg (i+1)=i8 l rg i++z6 l p q:=by rw [i8,hgi,hgn]
        have hke:(if ab then decide (p.1≥c) else decide (p.1≤c))=bg l p:=by rw [hl]; rfl
        have hbe:(bif bif decide (p.1<c) then decide (q.1>c) else false then true else bif decide (p.1>c) then decide (q.1<c) else false)=fi l p q:=by
          rw [agb,hl];show _=(decide (p.1<c)&&decide (c<q.1)||decide (q.1<c)&&decide (c<p.1));rw [Bool.and_comm (decide (p.1>c))]
        have hcr:fi l p q=true→∃E D F:Int,(q.2-p.2)*(c-p.1)=E∧q.1-p.1=D∧(-1152921504606846976≤E∧E≤1152921504606846976)∧D≠0∧(-1073741824≤c-p.1∧c-p.1≤1073741824)∧F=(if D<0 then (-E)/(-D) else E/D)∧t9 l p q=(c,p.2+F)∧(-4398046511104≤p.2+F∧p.2+F≤4398046511104):=fun hb=>by
          have hb2:=hb;rw [← hbe] at hb2
          have hcc:(p.1<c∧c<q.1)∨(q.1<c∧c<p.1):=by
            rw [agb] at hb2;simp only [zbt,zbj,decide_eq_true_eq] at hb2;omega
          have m:=bf (n:=1073741824) (m:=1073741824) (x:=q.2-p.2) (y:=c-p.1) (by omega) (by omega);have hbt:=(ze hlo hb).2
          have hcx:t9 l p q=(c,p.2+(if q.1-p.1<0 then (-((q.2-p.2)*(c-p.1)))/(-(q.1-p.1)) else (q.2-p.2)*(c-p.1)/(q.1-p.1))):=by
            rw [hl];show (c,p.2+_) = _;congr 2;show (if q.1-p.1<0 then _ else (if 0<q.1-p.1 then _ else 0)) = _;by_cases hs:q.1-p.1<0
            · rw [if_pos hs,if_pos hs]
              rfl
            · rw [if_neg hs,if_neg hs,if_pos (by omega)]
              rfl
          refine ⟨_,_,_,rfl,rfl,by omega,by omega,by omega,rfl,hcx,?_⟩;rw [hcx] at hbt;unfold Btw at hbt;simp only at hbt;omega
        simp only [hgp,hgq,wi,wJ,hn0,zab,zaa,zah,zam,zaa,push_cast,↓reduceIte,reduceCtorEq,zE,zA,zL,zD];refine And.intro (by omega) (And.intro (by omega) (And.intro (by kernel_rfl) (And.intro (by omega) (And.intro (by omega) (And.intro (by kernel_rfl) (And.intro (fun h=>by rw [h]; rfl) ?_))))));rw [aqa,hke];refine b6 (fun hk=>?_) (fun hk=>?_)
        · simp only [push_cast,↓reduceIte,reduceCtorEq,zE,zA,zD,zM];refine And.intro (by simp) (And.intro (by omega) (And.intro (fun a b=>by rw [a,b]; rfl) (And.intro (fun a=>by rw [a]; rfl) ?_)));rw [hbe];refine b6 (fun hb=>?_) (fun hb=>?_)
          · obtain ⟨E,D,F,hE,hD,hEb,hD0,hcb,hF,hcx,hFb⟩:=hcr hb;have v1:IntKind.i64.wrap (q.2-p.2)=q.2-p.2:=a5 (by omega);have v2:IntKind.i64.wrap (c-p.1)=c-p.1:=a5 (by omega);have v3:IntKind.i64.wrap E=E:=a5 (by omega);have v4:IntKind.i64.wrap D=D:=a5 (by omega);have v5:IntKind.i64.wrap (-E)=-E:=a5 (by omega);have v6:IntKind.i64.wrap (-D)=-D:=a5 (by omega);have v7:IntKind.i64.wrap (0-E)=-E:=by rw [a5 (by omega)]; omega
            have v8:IntKind.i64.wrap (0-D)=-D:=by rw [a5 (by omega)]; omega
            have v9:IntKind.i64.wrap (p.2+F)=p.2+F:=a5 (by omega);simp only [w1a,v1,v2,hE,hD,v3,v4,zad,zaa,zah,push_cast,↓reduceIte,reduceCtorEq,zE,zA,zL];refine And.intro (by omega) (And.intro (by omega) (And.intro (by kernel_rfl) ?_))
            have hN:i8 l rg (i+1)=i8 l rg i++[p,t9 l p q]:=by
              rw [hNx];unfold z6;rw [if_pos hk,if_pos hb]
              rfl
            by_cases hs:D<0
            · have ds:decide (D<0)=true:=decide_eq_true hs;rw [if_pos hs] at hF;have hfl:=x6 (-E) (-D) (by unfold in64; omega) (by unfold in64; omega);rw [if_pos (by omega),if_pos (by omega),← hF] at hfl;simp only [ds,v7,v8,push_cast,↓reduceIte,zE];refine a6 hfl rfl trivial ?_;simp only [w1a,v9,wi,zad,zaa,zah,push_cast,↓reduceIte,reduceCtorEq,zE,zA,zL,zD,zM];refine And.intro (by omega) (And.intro (by omega) (And.intro (by simp) (And.intro (by omega) ?_)));refine ⟨⟨i+1,by omega,.inr ⟨?_,?_,?_⟩⟩,by omega⟩<;>rw [hN,h0,hcx]<;>simp [ptR,pnt,zap]
            · have ds:decide (D<0)=false:=decide_eq_false hs;rw [if_neg hs] at hF;have hfl:=x6 E D (by unfold in64; omega) (by unfold in64; omega);rw [if_pos (by omega),if_pos (by omega),← hF] at hfl;simp only [ds,push_cast,↓reduceIte,zE];refine a6 hfl rfl trivial ?_;simp only [w1a,v9,wi,zad,zaa,zah,push_cast,↓reduceIte,reduceCtorEq,zE,zA,zL,zD,zM];refine And.intro (by omega) (And.intro (by omega) (And.intro (by simp) (And.intro (by omega) ?_)));refine ⟨⟨i+1,by omega,.inr ⟨?_,?_,?_⟩⟩,by omega⟩<;>rw [hN,h0,hcx]<;>simp [ptR,pnt,zap]
          · have hN:i8 l rg (i+1)=i8 l rg i++[p]:=by
              rw [hNx];unfold z6;rw [if_pos hk,if_neg (by rw [hb]; simp)]
              rfl
            simp only [wi,push_cast,↓reduceIte,reduceCtorEq,zE,zA,zL,zD];refine ⟨⟨i+1,by omega,.inr ⟨?_,?_,?_⟩⟩,by omega⟩<;>rw [hN,h0]<;>simp [ptR,pnt,zap]
        · simp only [push_cast,↓reduceIte,reduceCtorEq,zE];refine (And.intro (fun a b=>by rw [a,b]; rfl) (And.intro (fun a=>by rw [a]; rfl) ?_));rw [hbe];refine b6 (fun hb=>?_) (fun hb=>?_)
          · obtain ⟨E,D,F,hE,hD,hEb,hD0,hcb,hF,hcx,hFb⟩:=hcr hb;have v1:IntKind.i64.wrap (q.2-p.2)=q.2-p.2:=a5 (by omega);have v2:IntKind.i64.wrap (c-p.1)=c-p.1:=a5 (by omega);have v3:IntKind.i64.wrap E=E:=a5 (by omega);have v4:IntKind.i64.wrap D=D:=a5 (by omega);have v5:IntKind.i64.wrap (-E)=-E:=a5 (by omega);have v6:IntKind.i64.wrap (-D)=-D:=a5 (by omega);have v7:IntKind.i64.wrap (0-E)=-E:=by rw [a5 (by omega)]; omega
            have v8:IntKind.i64.wrap (0-D)=-D:=by rw [a5 (by omega)]; omega
            have v9:IntKind.i64.wrap (p.2+F)=p.2+F:=a5 (by omega);simp only [w1a,v1,v2,hE,hD,v3,v4,zad,zaa,zah,push_cast,↓reduceIte,reduceCtorEq,zE,zA,zL];refine And.intro (by omega) (And.intro (by omega) (And.intro (by kernel_rfl) ?_))
            have hN:i8 l rg (i+1)=i8 l rg i++[t9 l p q]:=by
              rw [hNx];unfold z6;rw [if_neg (by rw [hk]; simp),if_pos hb]
              rfl
            by_cases hs:D<0
            · have ds:decide (D<0)=true:=decide_eq_true hs;rw [if_pos hs] at hF;have hfl:=x6 (-E) (-D) (by unfold in64; omega) (by unfold in64; omega);rw [if_pos (by omega),if_pos (by omega),← hF] at hfl;simp only [ds,v7,v8,push_cast,↓reduceIte,zE];refine a6 hfl rfl trivial ?_;simp only [w1a,v9,wi,zad,zaa,zaf,zah,push_cast,↓reduceIte,reduceCtorEq,zE,zA,zL,zD];refine And.intro (by omega) (And.intro (by omega) (And.intro (by simp) (And.intro (by omega) ?_)));refine ⟨⟨i+1,by omega,.inr ⟨?_,?_,?_⟩⟩,by omega⟩<;>rw [hN,h0,hcx]<;>simp [ptR,pnt,zap]
            · have ds:decide (D<0)=false:=decide_eq_false hs;rw [if_neg hs] at hF;have hfl:=x6 E D (by unfold in64; omega) (by unfold in64; omega);rw [if_pos (by omega),if_pos (by omega),← hF] at hfl;simp only [ds,push_cast,↓reduceIte,zE];refine a6 hfl rfl trivial ?_;simp only [w1a,v9,wi,zad,zaa,zaf,zah,push_cast,↓reduceIte,reduceCtorEq,zE,zA,zL,zD];refine And.intro (by omega) (And.intro (by omega) (And.intro (by simp) (And.intro (by omega) ?_)));refine ⟨⟨i+1,by omega,.inr ⟨?_,?_,?_⟩⟩,by omega⟩<;>rw [hN,h0,hcx]<;>simp [ptR,pnt,zap]
          · have hN:i8 l rg (i+1)=i8 l rg i++[]:=by
              rw [hNx];unfold z6;rw [if_neg (by rw [hk]; simp),if_neg (by rw [hb]; simp)]
              rfl
            simp only [wi,push_cast,↓reduceIte,reduceCtorEq,zE,zA];exact ⟨⟨i+1,by omega,.inl ⟨by rw [hN,h0]; rfl,by simp [zap]⟩⟩,by omega⟩
      · have hi2:i=rg.length:=by have:=of_decide_eq_false hd; omega
        rw [hi2] at h0;rcases hres with ⟨g0,rfl,rfl⟩ | ⟨g0,rfl,rfl⟩
        · simp only [pnt,push_cast,↓reduceIte,reduceCtorEq,zE,zA]
        · exact absurd h0 g0
    · simp only [a9,d6,pnt,push_cast,↓reduceIte,reduceCtorEq,zE];refine b6 (fun hd=>?_) (fun hd=>?_)
      · have hi2:i<rg.length:=by have:=of_decide_eq_true hd; omega
        obtain ⟨p,hp⟩:∃p,rg[i]?=some p:=⟨rg[i],by simp [hi2]⟩
        obtain ⟨J,hJ⟩:∃J,(i+1)%rg.length=J:=⟨_,rfl⟩
        have hJl:J<rg.length:=by rw [← hJ]; exact Nat.mod_lt _ (by omega)
        obtain ⟨q,hq⟩:∃q,rg[J]?=some q:=⟨rg[J],by simp [hJl]⟩
        have hgi:rg.getD i (0,0)=p:=by rw [zaq,hp]; rfl
        have hgn:ngh rg i=q:=by unfold ngh; rw [hJ,zaq,hq]; rfl
        have hpm:=zar hp;have hqm:=zar hq;have hpb:=h2 p hpm;have hqb:=h2 q hqm;have hdb:=h3 p hpm q hqm;have wJ:((i:Int)+1).tmod (rg.length:Int)=(J:Int):=by rw [zbr (by omega),← hJ,zbs,zap]; rfl
        have hn0:¬((rg.length:Int)=0):=by omega
        have hgp:=fun z=>fb hp z;have hgq:=fun z=>fb hq z;have hNx:i8 l rg (i+1)=i8 l rg i++z6 l p q:=by rw [i8,hgi,hgn]
        have hke:(if ab then decide (p.1≥c) else decide (p.1≤c))=bg l p:=by rw [hl]; rfl
        have hbe:(bif bif decide (p.1<c) then decide (q.1>c) else false then true else bif decide (p.1>c) then decide (q.1<c) else false)=fi l p q:=by
          rw [agb,hl];show _=(decide (p.1<c)&&decide (c<q.1)||decide (q.1<c)&&decide (c<p.1));rw [Bool.and_comm (decide (p.1>c))]
        have hcr:fi l p q=true→∃E D F:Int,(q.2-p.2)*(c-p.1)=E∧q.1-p.1=D∧(-1152921504606846976≤E∧E≤1152921504606846976)∧D≠0∧(-1073741824≤c-p.1∧c-p.1≤1073741824)∧F=(if D<0 then (-E)/(-D) else E/D)∧t9 l p q=(c,p.2+F)∧(-4398046511104≤p.2+F∧p.2+F≤4398046511104):=fun hb=>by
          have hb2:=hb;rw [← hbe] at hb2
          have hcc:(p.1<c∧c<q.1)∨(q.1<c∧c<p.1):=by
            rw [agb] at hb2;simp only [zbt,zbj,decide_eq_true_eq] at hb2;omega
          have m:=bf (n:=1073741824) (m:=1073741824) (x:=q.2-p.2) (y:=c-p.1) (by omega) (by omega);have hbt:=(ze hlo hb).2
          have hcx:t9 l p q=(c,p.2+(if q.1-p.1<0 then (-((q.2-p.2)*(c-p.1)))/(-(q.1-p.1)) else (q.2-p.2)*(c-p.1)/(q.1-p.1))):=by
            rw [hl];show (c,p.2+_) = _;congr 2;show (if q.1-p.1<0 then _ else (if 0<q.1-p.1 then _ else 0)) = _;by_cases hs:q.1-p.1<0
            · rw [if_pos hs,if_pos hs]
              rfl
            · rw [if_neg hs,if_neg hs,if_pos (by omega)]
              rfl
          refine ⟨_,_,_,rfl,rfl,by omega,by omega,by omega,rfl,hcx,?_⟩;rw [hcx] at hbt;unfold Btw at hbt;simp only at hbt;omega
        simp only [hgp,hgq,wi,wJ,hn0,zab,zaa,zah,zam,zaa,push_cast,↓reduceIte,reduceCtorEq,zE,zA,zL,zD];refine And.intro (by omega) (And.intro (by omega) (And.intro (by kernel_rfl) (And.intro (by omega) (And.intro (by omega) (And.intro (by kernel_rfl) (And.intro (fun h=>by rw [h]; rfl) ?_))))));rw [aqa,hke];refine b6 (fun hk=>?_) (fun hk=>?_)
        · simp only [push_cast,↓reduceIte,reduceCtorEq,zE,zA,zL,zD];refine And.intro (by simp) (And.intro (And.intro (by omega) (by omega)) (And.intro (fun a b=>by rw [a,b]; rfl) (And.intro (fun a=>by rw [a]; rfl) ?_)));rw [hbe];refine b6 (fun hb=>?_) (fun hb=>?_)
          · obtain ⟨E,D,F,hE,hD,hEb,hD0,hcb,hF,hcx,hFb⟩:=hcr hb;have v1:IntKind.i64.wrap (q.2-p.2)=q.2-p.2:=a5 (by omega);have v2:IntKind.i64.wrap (c-p.1)=c-p.1:=a5 (by omega);have v3:IntKind.i64.wrap E=E:=a5 (by omega);have v4:IntKind.i64.wrap D=D:=a5 (by omega);have v5:IntKind.i64.wrap (-E)=-E:=a5 (by omega);have v6:IntKind.i64.wrap (-D)=-D:=a5 (by omega);have v7:IntKind.i64.wrap (0-E)=-E:=by rw [a5 (by omega)]; omega
            have v8:IntKind.i64.wrap (0-D)=-D:=by rw [a5 (by omega)]; omega
            have v9:IntKind.i64.wrap (p.2+F)=p.2+F:=a5 (by omega);simp only [w1a,v1,v2,hE,hD,v3,v4,zad,zaa,zah,push_cast,↓reduceIte,reduceCtorEq,zE,zA,zL];refine And.intro (by omega) (And.intro (by omega) (And.intro (by kernel_rfl) ?_))
            have hN:i8 l rg (i+1)=i8 l rg i++[p,t9 l p q]:=by
              rw [hNx];unfold z6;rw [if_pos hk,if_pos hb]
              rfl
            by_cases hs:D<0
            · have ds:decide (D<0)=true:=decide_eq_true hs;rw [if_pos hs] at hF;have hfl:=x6 (-E) (-D) (by unfold in64; omega) (by unfold in64; omega);rw [if_pos (by omega),if_pos (by omega),← hF] at hfl;simp only [ds,v7,v8,push_cast,↓reduceIte,zE];refine a6 hfl rfl trivial ?_;simp only [w1a,v9,wi,zad,zaa,zah,push_cast,↓reduceIte,reduceCtorEq,zE,zA,zL,zD];refine And.intro (by omega) (And.intro (by omega) (And.intro (by simp) (And.intro ⟨by omega,by omega⟩ ?_)));refine ⟨⟨i+1,by omega,.inr ⟨?_,?_,?_⟩⟩,by omega⟩<;>rw [hN,hcx]<;>simp [ptR,pnt,h0,zap,zal]
            · have ds:decide (D<0)=false:=decide_eq_false hs;rw [if_neg hs] at hF;have hfl:=x6 E D (by unfold in64; omega) (by unfold in64; omega);rw [if_pos (by omega),if_pos (by omega),← hF] at hfl;simp only [ds,push_cast,↓reduceIte,zE];refine a6 hfl rfl trivial ?_;simp only [w1a,v9,wi,zad,zaa,zah,push_cast,↓reduceIte,reduceCtorEq,zE,zA,zL,zD];refine And.intro (by omega) (And.intro (by omega) (And.intro (by simp) (And.intro ⟨by omega,by omega⟩ ?_)));refine ⟨⟨i+1,by omega,.inr ⟨?_,?_,?_⟩⟩,by omega⟩<;>rw [hN,hcx]<;>simp [ptR,pnt,h0,zap,zal]
          · have hN:i8 l rg (i+1)=i8 l rg i++[p]:=by
              rw [hNx];unfold z6;rw [if_pos hk,if_neg (by rw [hb]; simp)]
              rfl
            simp only [wi,push_cast,↓reduceIte,reduceCtorEq,zE,zA,zL,zD];refine ⟨⟨i+1,by omega,.inr ⟨?_,?_,?_⟩⟩,by omega⟩<;>rw [hN]<;>simp [ptR,pnt,h0,zap]
        · simp only [push_cast,↓reduceIte,reduceCtorEq,zE];refine (And.intro (fun a b=>by rw [a,b]; rfl) (And.intro (fun a=>by rw [a]; rfl) ?_));rw [hbe];refine b6 (fun hb=>?_) (fun hb=>?_)
          · obtain ⟨E,D,F,hE,hD,hEb,hD0,hcb,hF,hcx,hFb⟩:=hcr hb;have v1:IntKind.i64.wrap (q.2-p.2)=q.2-p.2:=a5 (by omega);have v2:IntKind.i64.wrap (c-p.1)=c-p.1:=a5 (by omega);have v3:IntKind.i64.wrap E=E:=a5 (by omega);have v4:IntKind.i64.wrap D=D:=a5 (by omega);have v5:IntKind.i64.wrap (-E)=-E:=a5 (by omega);have v6:IntKind.i64.wrap (-D)=-D:=a5 (by omega);have v7:IntKind.i64.wrap (0-E)=-E:=by rw [a5 (by omega)]; omega
            have v8:IntKind.i64.wrap (0-D)=-D:=by rw [a5 (by omega)]; omega
            have v9:IntKind.i64.wrap (p.2+F)=p.2+F:=a5 (by omega);simp only [w1a,v1,v2,hE,hD,v3,v4,zad,zaa,zah,push_cast,↓reduceIte,reduceCtorEq,zE,zA,zL];refine And.intro (by omega) (And.intro (by omega) (And.intro (by kernel_rfl) ?_))
            have hN:i8 l rg (i+1)=i8 l rg i++[t9 l p q]:=by
              rw [hNx];unfold z6;rw [if_neg (by rw [hk]; simp),if_pos hb]
              rfl
            by_cases hs:D<0
            · have ds:decide (D<0)=true:=decide_eq_true hs;rw [if_pos hs] at hF;have hfl:=x6 (-E) (-D) (by unfold in64; omega) (by unfold in64; omega);rw [if_pos (by omega),if_pos (by omega),← hF] at hfl;simp only [ds,v7,v8,push_cast,↓reduceIte,zE];refine a6 hfl rfl trivial ?_;simp only [w1a,v9,wi,zad,zaa,zah,push_cast,↓reduceIte,reduceCtorEq,zE,zA,zL,zD];refine And.intro (by omega) (And.intro (by omega) (And.intro (by simp) (And.intro ⟨by omega,by omega⟩ ?_)));refine ⟨⟨i+1,by omega,.inr ⟨?_,?_,?_⟩⟩,by omega⟩<;>rw [hN,hcx]<;>simp [ptR,pnt,h0,zap]
            · have ds:decide (D<0)=false:=decide_eq_false hs;rw [if_neg hs] at hF;have hfl:=x6 E D (by unfold in64; omega) (by unfold in64; omega);rw [if_pos (by omega),if_pos (by omega),← hF] at hfl;simp only [ds,push_cast,↓reduceIte,zE];refine a6 hfl rfl trivial ?_;simp only [w1a,v9,wi,zad,zaa,zah,push_cast,↓reduceIte,reduceCtorEq,zE,zA,zL,zD];refine And.intro (by omega) (And.intro (by omega) (And.intro (by simp) (And.intro ⟨by omega,by omega⟩ ?_)));refine ⟨⟨i+1,by omega,.inr ⟨?_,?_,?_⟩⟩,by omega⟩<;>rw [hN,hcx]<;>simp [ptR,pnt,h0,zap]
          · have hN:i8 l rg (i+1)=i8 l rg i++[]:=by
              rw [hNx];unfold z6;rw [if_neg (by rw [hk]; simp),if_neg (by rw [hb]; simp)]
              rfl
            simp only [wi,push_cast,↓reduceIte,reduceCtorEq,zE,zA,zL,zD];refine ⟨⟨i+1,by omega,.inr ⟨?_,?_,?_⟩⟩,by omega⟩<;>rw [hN]<;>simp [h0,zap]
      · have hi2:i=rg.length:=by have:=of_decide_eq_false hd; omega
        rw [hi2] at h0;rcases hres with ⟨g0,rfl,rfl⟩ | ⟨g0,rfl,rfl⟩
        · exact absurd g0 h0
        · simp only [push_cast,↓reduceIte,reduceCtorEq,zE,zA,zL,zD];rw [hi2];exact ⟨rfl,rfl⟩
set_option maxHeartbeats 4000000 in
theorem side1_t (c : Int) (ab : Bool) (hc : -9007199254740992 ≤ c ∧ c ≤ 9007199254740992) (rg : List P2) (h : RgOk rg) {res : AV} {ro : List Ob}
    (hres:(u9 ⟨1,c,ab⟩ rg=[]∧res=.nils 2 (pnt 0 0)∧ro=[])∨(u9 ⟨1,c,ab⟩ rg≠[]∧res=.own 1000000 0 0 (u9 ⟨1,c,ab⟩ rg).length∧ro=[d6 (u9 ⟨1,c,ab⟩ rg)])) :
    a8 P0 140 [a9 rg,int .i64 1,int .i64 c,bl ab] [] res ro:=by
  have hf:=a1g rg h;obtain ⟨h1,h2,h3⟩:=h;refine xe rfl (by decide) ?_;have hmx:=d7;simp only [ss,a9,push_cast,↓reduceIte,reduceCtorEq,zA];refine b5 (as':=[a9 rg]) rfl ?_;refine a6 hf rfl trivial ?_;have dA:decide ((1:Int)<0)=false:=rfl;have dB:decide ((1:Int)>1)=false:=rfl;have w1a:IntKind.i64.wrap (1-1)=0:=rfl;simp only [dA,dB,push_cast,↓reduceIte,reduceCtorEq,zE];obtain ⟨l,hl⟩:∃l:Lin,l=⟨1,c,ab⟩:=⟨_,rfl⟩
  have hlo:l.ok:=by rw [hl]; exact .inr rfl
  rw [← hl] at hres
  refine run_loop [(10, false), (0, false), (1, false), (2, false), (3, false), (9, false)] (fun vs pos los => ∃ i : Nat, i ≤ rg.length ∧ pos = [] ∧
      (i8 l rg i=[]∧vs=[int .i64 i,a9 rg,int .i64 1,int .i64 c,bl ab,.nils 2 (pnt 0 0)]∧los=[] ∨
       i8 l rg i≠[]∧vs=[int .i64 i,a9 rg,int .i64 1,int .i64 c,bl ab,.own 2000000 0 0 (i8 l rg i).length]∧los=[d6 (i8 l rg i)]))
    (fun vs _ _=>match vs with | .r (.v (.int _ a))::_=>(rg.length-a).toNat | _=>0) rfl ?_ ?_
  · simp only [a9,pnt,push_cast,↓reduceIte,reduceCtorEq,zE,zA];exact ⟨0,by omega,.inl ⟨rfl,by simp⟩⟩
  · rintro vs pos los ⟨i,hi,rfl,hcase⟩;have hlen:=ac2 l rg i;have wi:IntKind.i64.wrap ((i:Int)+1)=(i:Int)+1:=a5 (by omega);rcases hcase with ⟨h0,rfl,rfl⟩ | ⟨h0,rfl,rfl⟩
    · simp only [a9,d6,pnt,push_cast,↓reduceIte,reduceCtorEq,zE];refine b6 (fun hd=>?_) (fun hd=>?_)
      · have hi2:i<rg.length:=by have:=of_decide_eq_true hd; omega
        obtain ⟨p,hp⟩:∃p,rg[i]?=some p:=⟨rg[i],by simp [hi2]⟩
        obtain ⟨J,hJ⟩:∃J,(i+1)%rg.length=J:=⟨_,rfl⟩
        have hJl:J<rg.length:=by rw [← hJ]; exact Nat.mod_lt _ (by omega)
        obtain ⟨q,hq⟩:∃q,rg[J]?=some q:=⟨rg[J],by simp [hJl]⟩
        have hgi:rg.getD i (0,0)=p:=by rw [zaq,hp]; rfl
        have hgn:ngh rg i=q:=by unfold ngh; rw [hJ,zaq,hq]; rfl
        have hpm:=zar hp;have hqm:=zar hq;have hpb:=h2 p hpm;have hqb:=h2 q hqm;have hdb:=h3 p hpm q hqm;have wJ:((i:Int)+1).tmod (rg.length:Int)=(J:Int):=by rw [zbr (by omega),← hJ,zbs,zap]; rfl
        have hn0:¬((rg.length:Int)=0):=by omega
        have hgp:=fun z=>fb hp z;have hgq:=fun z=>fb hq z;have hNx:i8 l rg (i+1)=i8 l rg i++z6 l p q:=by rw [i8,hgi,hgn]
        have hke:(if ab then decide (p.2≥c) else decide (p.2≤c))=bg l p:=by rw [hl]; rfl
        have hbe:(bif bif decide (p.2<c) then decide (q.2>c) else false then true else bif decide (p.2>c) then decide (q.2<c) else false)=fi l p q:=by
          rw [agb,hl];show _=(decide (p.2<c)&&decide (c<q.2)||decide (q.2<c)&&decide (c<p.2));rw [Bool.and_comm (decide (p.2>c))]
        have hcr:fi l p q=true→∃E D F:Int,(q.1-p.1)*(c-p.2)=E∧q.2-p.2=D∧(-1152921504606846976≤E∧E≤1152921504606846976)∧D≠0∧(-1073741824≤c-p.2∧c-p.2≤1073741824)∧F=(if D<0 then (-E)/(-D) else E/D)∧t9 l p q=(p.1+F,c)∧(-4398046511104≤p.1+F∧p.1+F≤4398046511104):=fun hb=>by
          have hb2:=hb;rw [← hbe] at hb2
          have hcc:(p.2<c∧c<q.2)∨(q.2<c∧c<p.2):=by
            rw [agb] at hb2;simp only [zbt,zbj,decide_eq_true_eq] at hb2;omega
          have m:=bf (n:=1073741824) (m:=1073741824) (x:=q.1-p.1) (y:=c-p.2) (by omega) (by omega);have hbt:=(ze hlo hb).1
          have hcx:t9 l p q=(p.1+(if q.2-p.2<0 then (-((q.1-p.1)*(c-p.2)))/(-(q.2-p.2)) else (q.1-p.1)*(c-p.2)/(q.2-p.2)),c):=by
            rw [hl];show (p.1+_,c) = _;congr 2;show (if q.2-p.2<0 then _ else (if 0<q.2-p.2 then _ else 0)) = _;by_cases hs:q.2-p.2<0
            · rw [if_pos hs,if_pos hs]
              rfl
            · rw [if_neg hs,if_neg hs,if_pos (by omega)]
              rfl
          refine ⟨_,_,_,rfl,rfl,by omega,by omega,by omega,rfl,hcx,?_⟩;rw [hcx] at hbt;unfold Btw at hbt;simp only at hbt;omega
        simp only [hgp,hgq,wi,wJ,hn0,zad,zaa,zah,zam,zaa,push_cast,↓reduceIte,reduceCtorEq,zE,zA,zL,zD];refine And.intro (by omega) (And.intro (by omega) (And.intro (by kernel_rfl) (And.intro (by omega) (And.intro (by omega) (And.intro (by kernel_rfl) (And.intro (fun h=>by rw [h]; rfl) ?_))))));rw [aqa,hke];refine b6 (fun hk=>?_) (fun hk=>?_)
        · simp only [push_cast,↓reduceIte,reduceCtorEq,zE,zA,zD,zM];refine And.intro (by simp) (And.intro (by omega) (And.intro (fun a b=>by rw [a,b]; rfl) (And.intro (fun a=>by rw [a]; rfl) ?_)));rw [hbe];refine b6 (fun hb=>?_) (fun hb=>?_)
          · obtain ⟨E,D,F,hE,hD,hEb,hD0,hcb,hF,hcx,hFb⟩:=hcr hb;have v1:IntKind.i64.wrap (q.1-p.1)=q.1-p.1:=a5 (by omega);have v2:IntKind.i64.wrap (c-p.2)=c-p.2:=a5 (by omega);have v3:IntKind.i64.wrap E=E:=a5 (by omega);have v4:IntKind.i64.wrap D=D:=a5 (by omega);have v5:IntKind.i64.wrap (-E)=-E:=a5 (by omega);have v6:IntKind.i64.wrap (-D)=-D:=a5 (by omega);have v7:IntKind.i64.wrap (0-E)=-E:=by rw [a5 (by omega)]; omega
            have v8:IntKind.i64.wrap (0-D)=-D:=by rw [a5 (by omega)]; omega
            have v9:IntKind.i64.wrap (p.1+F)=p.1+F:=a5 (by omega);simp only [w1a,v1,v2,hE,hD,v3,v4,zab,zaa,zah,push_cast,↓reduceIte,reduceCtorEq,zE,zA,zL];refine And.intro (by omega) (And.intro (by omega) (And.intro (by kernel_rfl) ?_))
            have hN:i8 l rg (i+1)=i8 l rg i++[p,t9 l p q]:=by
              rw [hNx];unfold z6;rw [if_pos hk,if_pos hb]
              rfl
            by_cases hs:D<0
            · have ds:decide (D<0)=true:=decide_eq_true hs;rw [if_pos hs] at hF;have hfl:=x6 (-E) (-D) (by unfold in64; omega) (by unfold in64; omega);rw [if_pos (by omega),if_pos (by omega),← hF] at hfl;simp only [ds,v7,v8,push_cast,↓reduceIte,zE];refine a6 hfl rfl trivial ?_;simp only [w1a,v9,wi,zab,zaa,zah,push_cast,↓reduceIte,reduceCtorEq,zE,zA,zL,zD,zM];refine And.intro (by omega) (And.intro (by omega) (And.intro (by simp) (And.intro (by omega) ?_)));refine ⟨⟨i+1,by omega,.inr ⟨?_,?_,?_⟩⟩,by omega⟩<;>rw [hN,h0,hcx]<;>simp [ptR,pnt,zap]
            · have ds:decide (D<0)=false:=decide_eq_false hs;rw [if_neg hs] at hF;have hfl:=x6 E D (by unfold in64; omega) (by unfold in64; omega);rw [if_pos (by omega),if_pos (by omega),← hF] at hfl;simp only [ds,push_cast,↓reduceIte,zE];refine a6 hfl rfl trivial ?_;simp only [w1a,v9,wi,zab,zaa,zah,push_cast,↓reduceIte,reduceCtorEq,zE,zA,zL,zD,zM];refine And.intro (by omega) (And.intro (by omega) (And.intro (by simp) (And.intro (by omega) ?_)));refine ⟨⟨i+1,by omega,.inr ⟨?_,?_,?_⟩⟩,by omega⟩<;>rw [hN,h0,hcx]<;>simp [ptR,pnt,zap]
          · have hN:i8 l rg (i+1)=i8 l rg i++[p]:=by
              rw [hNx];unfold z6;rw [if_pos hk,if_neg (by rw [hb]; simp)]
              rfl
            simp only [wi,push_cast,↓reduceIte,reduceCtorEq,zE,zA,zL,zD];refine ⟨⟨i+1,by omega,.inr ⟨?_,?_,?_⟩⟩,by omega⟩<;>rw [hN,h0]<;>simp [ptR,pnt,zap]
        · simp only [push_cast,↓reduceIte,reduceCtorEq,zE];refine (And.intro (fun a b=>by rw [a,b]; rfl) (And.intro (fun a=>by rw [a]; rfl) ?_));rw [hbe];refine b6 (fun hb=>?_) (fun hb=>?_)
          · obtain ⟨E,D,F,hE,hD,hEb,hD0,hcb,hF,hcx,hFb⟩:=hcr hb;have v1:IntKind.i64.wrap (q.1-p.1)=q.1-p.1:=a5 (by omega);have v2:IntKind.i64.wrap (c-p.2)=c-p.2:=a5 (by omega);have v3:IntKind.i64.wrap E=E:=a5 (by omega);have v4:IntKind.i64.wrap D=D:=a5 (by omega);have v5:IntKind.i64.wrap (-E)=-E:=a5 (by omega);have v6:IntKind.i64.wrap (-D)=-D:=a5 (by omega);have v7:IntKind.i64.wrap (0-E)=-E:=by rw [a5 (by omega)]; omega
            have v8:IntKind.i64.wrap (0-D)=-D:=by rw [a5 (by omega)]; omega
            have v9:IntKind.i64.wrap (p.1+F)=p.1+F:=a5 (by omega);simp only [w1a,v1,v2,hE,hD,v3,v4,zab,zaa,zah,push_cast,↓reduceIte,reduceCtorEq,zE,zA,zL];refine And.intro (by omega) (And.intro (by omega) (And.intro (by kernel_rfl) ?_))
            have hN:i8 l rg (i+1)=i8 l rg i++[t9 l p q]:=by
              rw [hNx];unfold z6;rw [if_neg (by rw [hk]; simp),if_pos hb]
              rfl
            by_cases hs:D<0
            · have ds:decide (D<0)=true:=decide_eq_true hs;rw [if_pos hs] at hF;have hfl:=x6 (-E) (-D) (by unfold in64; omega) (by unfold in64; omega);rw [if_pos (by omega),if_pos (by omega),← hF] at hfl;simp only [ds,v7,v8,push_cast,↓reduceIte,zE];refine a6 hfl rfl trivial ?_;simp only [w1a,v9,wi,zab,zaa,zaf,zah,push_cast,↓reduceIte,reduceCtorEq,zE,zA,zL,zD];refine And.intro (by omega) (And.intro (by omega) (And.intro (by simp) (And.intro (by omega) ?_)));refine ⟨⟨i+1,by omega,.inr ⟨?_,?_,?_⟩⟩,by omega⟩<;>rw [hN,h0,hcx]<;>simp [ptR,pnt,zap]
            · have ds:decide (D<0)=false:=decide_eq_false hs;rw [if_neg hs] at hF;have hfl:=x6 E D (by unfold in64; omega) (by unfold in64; omega);rw [if_pos (by omega),if_pos (by omega),← hF] at hfl;simp only [ds,push_cast,↓reduceIte,zE];refine a6 hfl rfl trivial ?_;simp only [w1a,v9,wi,zab,zaa,zaf,zah,push_cast,↓reduceIte,reduceCtorEq,zE,zA,zL,zD];refine And.intro (by omega) (And.intro (by omega) (And.intro (by simp) (And.intro (by omega) ?_)));refine ⟨⟨i+1,by omega,.inr ⟨?_,?_,?_⟩⟩,by omega⟩<;>rw [hN,h0,hcx]<;>simp [ptR,pnt,zap]
          · have hN:i8 l rg (i+1)=i8 l rg i++[]:=by
              rw [hNx];unfold z6;rw [if_neg (by rw [hk]; simp),if_neg (by rw [hb]; simp)]
              rfl
            simp only [wi,push_cast,↓reduceIte,reduceCtorEq,zE,zA];exact ⟨⟨i+1,by omega,.inl ⟨by rw [hN,h0]; rfl,by simp [zap]⟩⟩,by omega⟩
      · have hi2:i=rg.length:=by have:=of_decide_eq_false hd; omega
        rw [hi2] at h0;rcases hres with ⟨g0,rfl,rfl⟩ | ⟨g0,rfl,rfl⟩
        · simp only [pnt,push_cast,↓reduceIte,reduceCtorEq,zE,zA]
        · exact absurd h0 g0
    · simp only [a9,d6,pnt,push_cast,↓reduceIte,reduceCtorEq,zE];refine b6 (fun hd=>?_) (fun hd=>?_)
      · have hi2:i<rg.length:=by have:=of_decide_eq_true hd; omega
        obtain ⟨p,hp⟩:∃p,rg[i]?=some p:=⟨rg[i],by simp [hi2]⟩
        obtain ⟨J,hJ⟩:∃J,(i+1)%rg.length=J:=⟨_,rfl⟩
        have hJl:J<rg.length:=by rw [← hJ]; exact Nat.mod_lt _ (by omega)
        obtain ⟨q,hq⟩:∃q,rg[J]?=some q:=⟨rg[J],by simp [hJl]⟩
        have hgi:rg.getD i (0,0)=p:=by rw [zaq,hp]; rfl
        have hgn:ngh rg i=q:=by unfold ngh; rw [hJ,zaq,hq]; rfl
        have hpm:=zar hp;have hqm:=zar hq;have hpb:=h2 p hpm;have hqb:=h2 q hqm;have hdb:=h3 p hpm q hqm;have wJ:((i:Int)+1).tmod (rg.length:Int)=(J:Int):=by rw [zbr (by omega),← hJ,zbs,zap]; rfl
        have hn0:¬((rg.length:Int)=0):=by omega
        have hgp:=fun z=>fb hp z;have hgq:=fun z=>fb hq z;have hNx:i8 l rg (i+1)=i8 l rg i++z6 l p q:=by rw [i8,hgi,hgn]
        have hke:(if ab then decide (p.2≥c) else decide (p.2≤c))=bg l p:=by rw [hl]; rfl
        have hbe:(bif bif decide (p.2<c) then decide (q.2>c) else false then true else bif decide (p.2>c) then decide (q.2<c) else false)=fi l p q:=by
          rw [agb,hl];show _=(decide (p.2<c)&&decide (c<q.2)||decide (q.2<c)&&decide (c<p.2));rw [Bool.and_comm (decide (p.2>c))]
        have hcr:fi l p q=true→∃E D F:Int,(q.1-p.1)*(c-p.2)=E∧q.2-p.2=D∧(-1152921504606846976≤E∧E≤1152921504606846976)∧D≠0∧(-1073741824≤c-p.2∧c-p.2≤1073741824)∧F=(if D<0 then (-E)/(-D) else E/D)∧t9 l p q=(p.1+F,c)∧(-4398046511104≤p.1+F∧p.1+F≤4398046511104):=fun hb=>by
          have hb2:=hb;rw [← hbe] at hb2
          have hcc:(p.2<c∧c<q.2)∨(q.2<c∧c<p.2):=by
            rw [agb] at hb2;simp only [zbt,zbj,decide_eq_true_eq] at hb2;omega
          have m:=bf (n:=1073741824) (m:=1073741824) (x:=q.1-p.1) (y:=c-p.2) (by omega) (by omega);have hbt:=(ze hlo hb).1
          have hcx:t9 l p q=(p.1+(if q.2-p.2<0 then (-((q.1-p.1)*(c-p.2)))/(-(q.2-p.2)) else (q.1-p.1)*(c-p.2)/(q.2-p.2)),c):=by
            rw [hl];show (p.1+_,c) = _;congr 2;show (if q.2-p.2<0 then _ else (if 0<q.2-p.2 then _ else 0)) = _;by_cases hs:q.2-p.2<0
            · rw [if_pos hs,if_pos hs]
              rfl
            · rw [if_neg hs,if_neg hs,if_pos (by omega)]
              rfl
          refine ⟨_,_,_,rfl,rfl,by omega,by omega,by omega,rfl,hcx,?_⟩;rw [hcx] at hbt;unfold Btw at hbt;simp only at hbt;omega
        simp only [hgp,hgq,wi,wJ,hn0,zad,zaa,zah,zam,zaa,push_cast,↓reduceIte,reduceCtorEq,zE,zA,zL,zD];refine And.intro (by omega) (And.intro (by omega) (And.intro (by kernel_rfl) (And.intro (by omega) (And.intro (by omega) (And.intro (by kernel_rfl) (And.intro (fun h=>by rw [h]; rfl) ?_))))));rw [aqa,hke];refine b6 (fun hk=>?_) (fun hk=>?_)
        · simp only [push_cast,↓reduceIte,reduceCtorEq,zE,zA,zL,zD];refine And.intro (by simp) (And.intro (And.intro (by omega) (by omega)) (And.intro (fun a b=>by rw [a,b]; rfl) (And.intro (fun a=>by rw [a]; rfl) ?_)));rw [hbe];refine b6 (fun hb=>?_) (fun hb=>?_)
          · obtain ⟨E,D,F,hE,hD,hEb,hD0,hcb,hF,hcx,hFb⟩:=hcr hb;have v1:IntKind.i64.wrap (q.1-p.1)=q.1-p.1:=a5 (by omega);have v2:IntKind.i64.wrap (c-p.2)=c-p.2:=a5 (by omega);have v3:IntKind.i64.wrap E=E:=a5 (by omega);have v4:IntKind.i64.wrap D=D:=a5 (by omega);have v5:IntKind.i64.wrap (-E)=-E:=a5 (by omega);have v6:IntKind.i64.wrap (-D)=-D:=a5 (by omega);have v7:IntKind.i64.wrap (0-E)=-E:=by rw [a5 (by omega)]; omega
            have v8:IntKind.i64.wrap (0-D)=-D:=by rw [a5 (by omega)]; omega
            have v9:IntKind.i64.wrap (p.1+F)=p.1+F:=a5 (by omega);simp only [w1a,v1,v2,hE,hD,v3,v4,zab,zaa,zah,push_cast,↓reduceIte,reduceCtorEq,zE,zA,zL];refine And.intro (by omega) (And.intro (by omega) (And.intro (by kernel_rfl) ?_))
            have hN:i8 l rg (i+1)=i8 l rg i++[p,t9 l p q]:=by
              rw [hNx];unfold z6;rw [if_pos hk,if_pos hb]
              rfl
            by_cases hs:D<0
            · have ds:decide (D<0)=true:=decide_eq_true hs;rw [if_pos hs] at hF;have hfl:=x6 (-E) (-D) (by unfold in64; omega) (by unfold in64; omega);rw [if_pos (by omega),if_pos (by omega),← hF] at hfl;simp only [ds,v7,v8,push_cast,↓reduceIte,zE];refine a6 hfl rfl trivial ?_;simp only [w1a,v9,wi,zab,zaa,zah,push_cast,↓reduceIte,reduceCtorEq,zE,zA,zL,zD];refine And.intro (by omega) (And.intro (by omega) (And.intro (by simp) (And.intro ⟨by omega,by omega⟩ ?_)));refine ⟨⟨i+1,by omega,.inr ⟨?_,?_,?_⟩⟩,by omega⟩<;>rw [hN,hcx]<;>simp [ptR,pnt,h0,zap,zal]
            · have ds:decide (D<0)=false:=decide_eq_false hs;rw [if_neg hs] at hF;have hfl:=x6 E D (by unfold in64; omega) (by unfold in64; omega);rw [if_pos (by omega),if_pos (by omega),← hF] at hfl;simp only [ds,push_cast,↓reduceIte,zE];refine a6 hfl rfl trivial ?_;simp only [w1a,v9,wi,zab,zaa,zah,push_cast,↓reduceIte,reduceCtorEq,zE,zA,zL,zD];refine And.intro (by omega) (And.intro (by omega) (And.intro (by simp) (And.intro ⟨by omega,by omega⟩ ?_)));refine ⟨⟨i+1,by omega,.inr ⟨?_,?_,?_⟩⟩,by omega⟩<;>rw [hN,hcx]<;>simp [ptR,pnt,h0,zap,zal]
          · have hN:i8 l rg (i+1)=i8 l rg i++[p]:=by
              rw [hNx];unfold z6;rw [if_pos hk,if_neg (by rw [hb]; simp)]
              rfl
            simp only [wi,push_cast,↓reduceIte,reduceCtorEq,zE,zA,zL,zD];refine ⟨⟨i+1,by omega,.inr ⟨?_,?_,?_⟩⟩,by omega⟩<;>rw [hN]<;>simp [ptR,pnt,h0,zap]
        · simp only [push_cast,↓reduceIte,reduceCtorEq,zE];refine (And.intro (fun a b=>by rw [a,b]; rfl) (And.intro (fun a=>by rw [a]; rfl) ?_));rw [hbe];refine b6 (fun hb=>?_) (fun hb=>?_)
          · obtain ⟨E,D,F,hE,hD,hEb,hD0,hcb,hF,hcx,hFb⟩:=hcr hb;have v1:IntKind.i64.wrap (q.1-p.1)=q.1-p.1:=a5 (by omega);have v2:IntKind.i64.wrap (c-p.2)=c-p.2:=a5 (by omega);have v3:IntKind.i64.wrap E=E:=a5 (by omega);have v4:IntKind.i64.wrap D=D:=a5 (by omega);have v5:IntKind.i64.wrap (-E)=-E:=a5 (by omega);have v6:IntKind.i64.wrap (-D)=-D:=a5 (by omega);have v7:IntKind.i64.wrap (0-E)=-E:=by rw [a5 (by omega)]; omega
            have v8:IntKind.i64.wrap (0-D)=-D:=by rw [a5 (by omega)]; omega
            have v9:IntKind.i64.wrap (p.1+F)=p.1+F:=a5 (by omega);simp only [w1a,v1,v2,hE,hD,v3,v4,zab,zaa,zah,push_cast,↓reduceIte,reduceCtorEq,zE,zA,zL];refine And.intro (by omega) (And.intro (by omega) (And.intro (by kernel_rfl) ?_))
            have hN:i8 l rg (i+1)=i8 l rg i++[t9 l p q]:=by
              rw [hNx];unfold z6;rw [if_neg (by rw [hk]; simp),if_pos hb]
              rfl
            by_cases hs:D<0
            · have ds:decide (D<0)=true:=decide_eq_true hs;rw [if_pos hs] at hF;have hfl:=x6 (-E) (-D) (by unfold in64; omega) (by unfold in64; omega);rw [if_pos (by omega),if_pos (by omega),← hF] at hfl;simp only [ds,v7,v8,push_cast,↓reduceIte,zE];refine a6 hfl rfl trivial ?_;simp only [w1a,v9,wi,zab,zaa,zah,push_cast,↓reduceIte,reduceCtorEq,zE,zA,zL,zD];refine And.intro (by omega) (And.intro (by omega) (And.intro (by simp) (And.intro ⟨by omega,by omega⟩ ?_)));refine ⟨⟨i+1,by omega,.inr ⟨?_,?_,?_⟩⟩,by omega⟩<;>rw [hN,hcx]<;>simp [ptR,pnt,h0,zap]
            · have ds:decide (D<0)=false:=decide_eq_false hs;rw [if_neg hs] at hF;have hfl:=x6 E D (by unfold in64; omega) (by unfold in64; omega);rw [if_pos (by omega),if_pos (by omega),← hF] at hfl;simp only [ds,push_cast,↓reduceIte,zE];refine a6 hfl rfl trivial ?_;simp only [w1a,v9,wi,zab,zaa,zah,push_cast,↓reduceIte,reduceCtorEq,zE,zA,zL,zD];refine And.intro (by omega) (And.intro (by omega) (And.intro (by simp) (And.intro ⟨by omega,by omega⟩ ?_)));refine ⟨⟨i+1,by omega,.inr ⟨?_,?_,?_⟩⟩,by omega⟩<;>rw [hN,hcx]<;>simp [ptR,pnt,h0,zap]
          · have hN:i8 l rg (i+1)=i8 l rg i++[]:=by
              rw [hNx];unfold z6;rw [if_neg (by rw [hk]; simp),if_neg (by rw [hb]; simp)]
              rfl
            simp only [wi,push_cast,↓reduceIte,reduceCtorEq,zE,zA,zL,zD];refine ⟨⟨i+1,by omega,.inr ⟨?_,?_,?_⟩⟩,by omega⟩<;>rw [hN]<;>simp [h0,zap]
      · have hi2:i=rg.length:=by have:=of_decide_eq_false hd; omega
        rw [hi2] at h0;rcases hres with ⟨g0,rfl,rfl⟩ | ⟨g0,rfl,rfl⟩
        · exact absurd g0 h0
        · simp only [push_cast,↓reduceIte,reduceCtorEq,zE,zA,zL,zD];rw [hi2];exact ⟨rfl,rfl⟩

end
end Go.Ev

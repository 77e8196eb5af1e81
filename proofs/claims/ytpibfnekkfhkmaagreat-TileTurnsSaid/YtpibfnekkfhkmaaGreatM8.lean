import Derived.Test.YtpibfnekkfhkmaaGreatChecked
import Derived.WalkKit
import Derived.Test.YtpibfnekkfhkmaaGreatM7
open Nat renaming reduceBEq → zB, reduceEqDiff → zE, reduceAdd → zA, reduceSub → zS, reduceLT → zL, reduceLeDiff → zD, reduceMul → zM
open Go.Proofs.Tryz renaming prog → P0
open Nat renaming zero_add → zaa
open Int renaming toNat_natCast → zab, toNat_natCast_add_one → zac, toNat_zero → zam, reduceToNat → zan, le_ediv_iff_mul_le → zat, ediv_lt_iff_lt_mul → zau
open List renaming getElem?_eq_some_iff → zad, length_append → zae, length_cons → zaf, append_assoc → zag, map_set → zah, mem_map → zai, getElem?_take → zaj, map_append → zak, length_map → zal, mem_of_getElem? → zao, getD_eq_getElem?_getD → zap, length_take → zaq, replicate → zar, take_add_one → zas, getElem?_append_left → zav, ext_getElem? → zay, length_reverse → zaz, take_succ_eq_append_getElem → zba, mem_cons_of_mem → zbb, take_of_length_le → zbc, mem_iff_getElem? → zbf
open Array renaming getElem?_eq_some_iff → zaw
open Option renaming getD_some → zax, isSome_none → zbd, map_eq_some_iff → zbe
namespace Go.Ev
set_option maxRecDepth 100000
open Go
set_option linter.unusedSectionVars false
set_option linter.unnecessarySimpa false
set_option linter.unusedSimpArgs false
set_option linter.unusedVariables false
noncomputable def ln:PC:=
  (.seq (.reg [p_m 10 1,p_s 11 (.bin .add (.t 10) (o_i 1)),p_m 8 11])
 (.block 0 (.loop (.seq (.seq (.reg [p_m 12 8,p_m 13 2,p_s 14 (.bin .lss (.t 12) (.t 13))])
 (.cond (.t 14)
 .skip
 (.exit 0)))
 (.seq (.block 1 (.seq (.reg [p_m 17 8,p_m 9 17])
 (.block 2 (.loop (.seq (.seq (.drw [p_m 18 9,p_m 19 1,p_s 20 (.bin .gtr (.t 18) (.t 19)),p_m 21 20,p_g 22 21 true (.mov (.t 3)),p_g 23 21 true (.mov (.t 0)),p_g 24 21 true (.mov (.t 9)),p_g 25 21 true (.ia 2 (.agg [(.v (.int .i64 0)),(.v (.int .i64 0))]) (.t 23) (.t 24)),
 p_g 26 21 true (.ld (some 2) (.t 25)),p_g 27 21 true (.mov (.t 0)),p_g 28 21 true (.mov (.t 9)),p_g 29 21 true (.bin .sub (.t 28) (o_i 1)),p_g 30 21 true (.ia 2 (.agg [(.v (.int .i64 0)),(.v (.int .i64 0))]) (.t 27) (.t 29)),
 p_g 31 21 true (.ld (some 2) (.t 30)),⟨(some 32),(some (21,true)),1,.callv (.t 22) [(.t 26),(.t 31)]⟩,p_g 33 21 true (.bin .lss (.t 32) (o_i 0)),p_s 34 (.pick (.t 21) (.t 33) (.c (.r (.v (.bool false)))))]
 [[],[],[0,1],[0,1,2],[0,1,2,3],[0,1,2,3],[0,1,2,3],[0,1,2,3,5,6],[0,1,2,3,5,6,7],[0,1,2,3],[0,1,2,3],[0,1,2,3,10],[0,1,2,3,9,10,11],[0,1,2,3,9,10,11,12],[0,1,2,3,4,5,6,7,8,9,10,11,12,13],[0,1,2,3,4,5,6,7,8,9,10,11,12,13,14],[0,1,2,3,4,5,6,7,8,9,10,11,12,13,14,15]])
 (.cond (.t 34)
 .skip
 (.exit 2)))
 (.seq (.block 3 (.drw [p_m 37 0,p_m 38 9,p_m 39 0,p_m 40 9,p_s 41 (.bin .sub (.t 40) (o_i 1)),p_m 42 0,p_m 43 9,p_s 44 (.bin .sub (.t 43) (o_i 1)),p_s 45 (.ia 2 (.agg [(.v (.int .i64 0)),(.v (.int .i64 0))]) (.t 42) (.t 44)),
 p_s 46 (.ld (some 2) (.t 45)),p_m 47 0,p_m 48 9,p_s 49 (.ia 2 (.agg [(.v (.int .i64 0)),(.v (.int .i64 0))]) (.t 47) (.t 48)),p_s 50 (.ld (some 2) (.t 49)),
 p_s 51 (.ia 2 (.agg [(.v (.int .i64 0)),(.v (.int .i64 0))]) (.t 37) (.t 38)),⟨none,none,0,.act (.st 2 (.t 51) (.t 46))⟩,p_s 52 (.ia 2 (.agg [(.v (.int .i64 0)),(.v (.int .i64 0))]) (.t 39) (.t 41)),
 ⟨none,none,0,.act (.st 2 (.t 52) (.t 50))⟩]
 [[],[],[],[],[3],[],[],[6],[5,6,7],[5,6,7,8],[],[],[10,11],[10,11,12],[0,1,5,6,7,8,9,10,11,12,13],[0,1,5,6,7,8,9,10,11,12,13,14],[0,1,2,3,4,5,6,7,8,9,10,11,12,13,14,15],[0,1,2,3,4,5,6,7,8,9,10,11,12,13,14,15,16]]))
 (.reg [p_m 35 9,p_s 36 (.bin .sub (.t 35) (o_i 1)),p_m 9 36])))))))
 (.reg [p_m 15 8,p_s 16 (.bin .add (.t 15) (o_i 1)),p_m 8 16]))))))
theorem pg:Fun P0 220 4 [] ln:=b5 Go.Proofs.Tryz.func220 rfl (by decide) (by kernel_rfl) (by decide) rfl (by kernel_rfl) (by kernel_rfl) (by decide)
def ltP (p q:P2):Bool:=decide (ao6 p q<0)
def uv (x:P2):List P2→List P2
 | []=>[x]
 | e::r=>if ltP x e=true then e::uv x r else x::e::r
def ae6 (l:List P2):List P2:=l.foldl (fun s x=>uv x s) []
def y6 (l:List P2):List P2:=(ae6 l).reverse
theorem asc (x:P2):∀s,(uv x s).length=s.length+1
 | []=>rfl
 | e::r=>by
  rw [uv];split
  ·simp [asc x r]
  ·simp
theorem ag9 (l:List P2) (p:P2):ae6 (l++[p])=uv p (ae6 l):=by simp [ae6]
theorem ara (l:List P2):(ae6 l).length=l.length:=by
 refine ae7 (P:=fun l=>(ae6 l).length=l.length) rfl (fun l p ih=>?_) l;rw [ag9,asc,ih,zae]
 rfl
theorem ym (l:List P2):(y6 l).length=l.length:=by rw [y6,zaz,ara]
def agF:AV:=.fn (.func 130) [] 0
def l8 (l:List P2):Ob:=.row 2 (pnt 0 0) false true (l.map ptR)
theorem a32 (A T:List P2) (e x:P2):(((A++e::x::T).map ptR).set (A.length+1) (ptR e)).set A.length (ptR x)=(A++x::e::T).map ptR:=by
 have h1:(A++e::x::T).set (A.length+1) e=A++e::e::T:=by simp
 have h2:(A++e::e::T).set A.length x=A++x::e::T:=by simp
 rw [← zah,h1,← zah,h2]
theorem yd (A T:List P2) (e:P2) (z:RV):((A++e::T).map ptR).getD A.length z=ptR e:=by
 rw [zap]; simp
theorem aqt (A T:List P2) (e x:P2) (z:RV):((A++e::x::T).map ptR).getD (A.length+1) z=ptR x:=by
 rw [zap]; simp
set_option maxHeartbeats 4000000 in
theorem a75 (l:List P2) (hl:1≤l.length∧l.length≤1000):a7 P0 220 [.own 1000000 0 0 l.length,int .i64 0,int .i64 l.length,agF] [l8 l] (.tup []) [l8 (y6 l)]:=by
 refine pg rfl (by simp) ?_;have hfn:uu P0 130=true:=rfl;have w0:IntKind.i64.wrap ((0:Int)+1)=1:=rfl;simp only [ln,agF,l8,w0,push_cast,↓reduceIte,reduceCtorEq,zB,zE,zA,zS,zL,zD,zM]
 refine run_loop [(0,false),(1,false),(2,false),(3,false),(8,false)] (fun vs pos los=>∃i:Nat,1≤i∧i≤l.length∧vs=[.own 1000000 0 0 l.length,int .i64 0,int .i64 l.length,agF,int .i64 i]∧pos=[l8 (y6 (l.take i)++l.drop i)]∧los=[])
  (fun vs _ _=>match vs with | [_,_,_,_,.r (.v (.int _ a))]=>(l.length-a).toNat | _=>0) rfl ?_ ?_
 ·simp only [push_cast,↓reduceIte,reduceCtorEq,zB,zE,zA,zS,zL,zD,zM]
  obtain ⟨p,r,rfl⟩:∃p r,l=p::r:=by
   cases l with
   | nil=>simp at hl
   | cons p r=>exact ⟨p,r,rfl⟩
  exact ⟨1,by omega,by omega,rfl,rfl⟩
 ·rintro vs pos los ⟨i,i1,i2,rfl,rfl,rfl⟩;simp only [agF,l8,push_cast,↓reduceIte,reduceCtorEq,zB,zE,zA,zS,zL,zD,zM];refine b6 (fun hi=>?_) (fun hi=>?_)
  ·have hi:i<l.length:=by have:=of_decide_eq_true hi; omega
   have wi:IntKind.i64.wrap ((i:Int)+1)=(i:Int)+1:=a6 (by omega);obtain ⟨x,hx⟩:∃x,l[i]=x:=⟨_,rfl⟩
   have htk:l.take (i+1)=l.take i++[x]:=by rw [zba hi,hx]
   have hdr:l.drop i=x::l.drop (i+1):=by rw [List.drop_eq_getElem_cons hi,hx]
   obtain ⟨s,hs⟩:∃s,ae6 (l.take i)=s:=⟨_,rfl⟩
   have hsl:s.length=i:=by rw [← hs,ara,zaq]; omega
   have hsort:y6 (l.take i)=s.reverse:=by rw [y6,hs]
   have hsort2:y6 (l.take (i+1))=(uv x s).reverse:=by rw [y6,htk,ag9,hs]
   obtain ⟨D,hD⟩:∃D,l.drop (i+1)=D:=⟨_,rfl⟩
   rw [hsort,hdr,hD];simp only [push_cast,↓reduceIte,reduceCtorEq,zB,zE,zA,zS,zL,zD,zM]
   refine run_loop [(0,false),(1,false),(2,false),(3,false),(8,false),(9,false)] (fun vs pos los=>∃(m r:List P2),s=m++r∧uv x s=m++uv x r∧vs=[.own 1000000 0 0 l.length,int .i64 0,int .i64 l.length,agF,int .i64 i,int .i64 r.length]∧pos=[l8 (r.reverse++x::(m.reverse++D))]∧los=[])
    (fun vs _ _=>match vs with | [_,_,_,_,_,.r (.v (.int _ a))]=>a.toNat | _=>0) rfl ?_ ?_
   ·simp only [agF,l8,push_cast,↓reduceIte,reduceCtorEq,zB,zE,zA,zS,zL,zD,zM];exact ⟨[],s,rfl,rfl,by rw [hsl],rfl⟩
   ·rintro vs pos los ⟨m,r,hm,hins,rfl,rfl,rfl⟩
    have hend:∀T,T=r.reverse++x::(m.reverse++D)→uv x r=x::r→T=y6 (l.take (i+1))++D:=fun T hT hr=>by
     rw [hT,hsort2,hins,hr];simp
    cases r with
    | nil=>
     have z0:decide ((0:Int)>0)=false:=rfl;simp only [agF,l8,z0,wi,push_cast,↓reduceIte,reduceCtorEq,zB,zE,zA,zS,zL,zD,zM];refine And.intro (by kernel_rfl) ⟨⟨i+1,by omega,by omega,by simp,?_⟩,by omega⟩;rw [hend _ rfl rfl,hD]
    | cons e r=>
     have hrl:r.length<i:=by rw [← hsl,hm]; simp; omega
     have z1:decide (((r.length:Nat):Int)+1>0)=true:=decide_eq_true (by omega);have wj:IntKind.i64.wrap (((r.length:Nat):Int)+1-1)=(r.length:Int):=by rw [a6 (by omega)]; omega
     have hag:=az1 x e;have hR:(e::r).reverse++x::(m.reverse++D)=r.reverse++e::x::(m.reverse++D):=by simp
     obtain ⟨T,hT⟩:∃T,m.reverse++D=T:=⟨_,rfl⟩
     obtain ⟨A,hA⟩:∃A,r.reverse=A:=⟨_,rfl⟩
     have hAl:A.length=r.length:=by rw [← hA]; simp
     rw [hR,hT,hA];have ge:=yd A (x::T) e;have gx:=aqt A T e x;rw [hAl] at ge gx;have hpe:ptR e=.agg [.v (.int .i64 e.1),.v (.int .i64 e.2)]:=rfl;have hpx:ptR x=.agg [.v (.int .i64 x.1),.v (.int .i64 x.2)]:=rfl;simp only [agF,l8,z1,wj,ge,gx,hpe,hpx,hfn,zab,zac,zaa,push_cast,↓reduceIte,reduceCtorEq,zB,zE,zA,zS,zL,zD,zM];refine ⟨⟨by omega,by omega⟩,⟨by omega,by omega⟩,?_⟩;refine o6 (as':=[pv2 x,pv2 e]) rfl ?_;refine c8 hag rfl trivial ?_;simp only [agF,l8,z1,wj,ge,gx,hpe,hpx,hfn,zab,zac,zaa,push_cast,↓reduceIte,reduceCtorEq,zB,zE,zA,zS,zL,zD,zM];refine And.intro (by kernel_rfl) ?_;refine b6 (fun hc=>?_) (fun hc=>?_)
     ·have hlt:ltP x e=true:=hc;have hset:=a32 A T e x;rw [hAl,hpe,hpx] at hset
      have ge2:∀z,(((A++e::x::T).map ptR).set (r.length+1) (.agg [.v (.int .i64 e.1),.v (.int .i64 e.2)])).getD r.length z=.agg [.v (.int .i64 e.1),.v (.int .i64 e.2)]:=fun z=>by
       rw [zap,List.getElem?_set_ne (by omega),← zap,ge];exact hpe
      simp only [agF,l8,wj,ge,gx,ge2,hpe,hpx,hset,zab,zac,zaa,push_cast,↓reduceIte,reduceCtorEq,zB,zE,zA,zS,zL,zD,zM]
      repeat refine And.intro (by first | exact ⟨by omega,by omega⟩ | kernel_rfl) ?_
      refine ⟨⟨m++[e],r,by rw [hm]; simp,by rw [hins,uv,if_pos hlt]; simp,by simp,?_⟩,by omega⟩;rw [← hA,← hT];simp
     ·have hlt:ltP x e=false:=hc;simp only [wi,push_cast,↓reduceIte,reduceCtorEq,zB,zE,zA,zS,zL,zD,zM];refine ⟨⟨i+1,by omega,by omega,by simp,?_⟩,by omega⟩;have:=hend (A++e::x::T) (by rw [← hA,← hT]; simp) (by rw [uv,hlt]; rfl);rw [this,hD]
  ·have hi:i=l.length:=by have:=of_decide_eq_false hi; omega
   subst hi;simp only [push_cast,↓reduceIte,reduceCtorEq,zB,zE,zA,zS,zL,zD,zM];rw [List.take_length,List.drop_length,List.append_nil]

noncomputable def mn:PC:=
  (.seq (.reg [p_s 10 (.mov (.c (.r (.v (.bool true)))))])
 (.seq (.reg [p_s 11 (.mov (.c (.r (.v (.bool true)))))])
 (.block 0 (.loop (.block 1 (.seq (.reg [p_m 21 2,p_m 22 1,p_s 23 (.bin .sub (.t 21) (.t 22)),p_m 12 23])
 (.seq (.seq (.reg [p_m 24 12,p_s 25 (.bin .leq (.t 24) (o_i 12))])
 (.cond (.t 25)
 (.seq (.reg [p_m 26 0,p_m 27 1,p_m 28 2,p_m 29 4,p_c 30 1 220 [.t 26,.t 27,.t 28,.t 29]])
 .ret)
 .skip))
 (.seq (.seq (.reg [p_m 31 3,p_s 32 (.bin .eql (.t 31) (o_i 0))])
 (.cond (.t 32)
 (.seq (.reg [p_m 33 0,p_m 34 1,p_m 35 2,p_m 36 4,p_c 37 2 221 [.t 33,.t 34,.t 35,.t 36]])
 .ret)
 .skip))
 (.seq (.seq (.reg [p_m 38 10,p_s 39 (.un .not (.t 38))])
 (.cond (.t 39)
 (.seq (.reg [p_m 40 0,p_m 41 1,p_m 42 2,p_m 43 4,p_c 44 3 222 [.t 40,.t 41,.t 42,.t 43]])
 (.reg [p_m 45 3,p_s 46 (.bin .sub (.t 45) (o_i 1)),p_m 3 46]))
 .skip))
 (.seq (.reg [p_m 48 0,p_m 49 1,p_m 50 2,p_m 51 4,p_c 52 4 223 [.t 48,.t 49,.t 50,.t 51],p_m 47 52,p_s 53 (.ext (.t 47) 0),p_s 54 (.ext (.t 47) 1),p_m 13 53,p_m 14 54])
 (.seq (.seq (.reg [p_m 55 14,p_s 56 (.bin .eql (.t 55) (o_i 2))])
 (.cond (.t 56)
 (.seq (.reg [p_m 57 0,p_m 58 1,p_m 59 2,p_m 60 4,p_c 61 5 224 [.t 57,.t 58,.t 59,.t 60]])
 (.seq (.reg [p_m 62 2,p_s 63 (.bin .sub (.t 62) (o_i 1)),p_m 64 13,p_m 65 1,p_s 66 (.bin .sub (.t 64) (.t 65)),p_s 67 (.bin .sub (.t 63) (.t 66)),p_m 13 67])
 (.reg [p_s 14 (.mov (o_i 1))])))
 .skip))
 (.seq (.seq (.reg [p_m 68 10,p_m 69 68,p_g 70 69 true (.mov (.t 11)),p_s 71 (.pick (.t 69) (.t 70) (.c (.r (.v (.bool false))))),p_m 72 71,p_g 73 72 true (.mov (.t 14)),p_g 74 72 true (.bin .eql (.t 73) (o_i 1)),
 p_s 75 (.pick (.t 72) (.t 74) (.c (.r (.v (.bool false)))))])
 (.cond (.t 75)
 (.seq (.reg [p_m 76 0,p_m 77 1,p_m 78 2,p_m 79 4,p_c 80 6 225 [.t 76,.t 77,.t 78,.t 79]])
 (.cond (.t 80)
 .ret
 .skip))
 .skip))
 (.seq (.seq (.drw [p_m 81 1,p_s 82 (.bin .gtr (.t 81) (o_i 0)),p_m 83 82,p_g 84 83 true (.mov (.t 4)),p_g 85 83 true (.mov (.t 0)),p_g 86 83 true (.mov (.t 1)),p_g 87 83 true (.bin .sub (.t 86) (o_i 1)),
 p_g 88 83 true (.ia 2 (.agg [(.v (.int .i64 0)),(.v (.int .i64 0))]) (.t 85) (.t 87)),p_g 89 83 true (.ld (some 2) (.t 88)),p_g 90 83 true (.mov (.t 0)),p_g 91 83 true (.mov (.t 13)),
 p_g 92 83 true (.ia 2 (.agg [(.v (.int .i64 0)),(.v (.int .i64 0))]) (.t 90) (.t 91)),p_g 93 83 true (.ld (some 2) (.t 92)),⟨(some 94),(some (83,true)),7,.callv (.t 84) [(.t 89),(.t 93)]⟩,
 p_g 95 83 true (.bin .lss (.t 94) (o_i 0)),p_g 96 83 true (.un .not (.t 95)),p_s 97 (.pick (.t 83) (.t 96) (.c (.r (.v (.bool false)))))]
 [[],[0],[0,1],[0,1,2],[0,1,2],[0,1,2],[0,1,2,5],[0,1,2,4,5,6],[0,1,2,4,5,6,7],[0,1,2],[0,1,2],[0,1,2,9,10],[0,1,2,9,10,11],[0,1,2,3,4,5,6,7,8,9,10,11,12],[0,1,2,3,4,5,6,7,8,9,10,11,12,13],[0,1,2,3,4,5,6,7,8,9,10,11,12,13,14],[0,1,2,3,4,5,6,7,8,9,10,11,12,13,14,15]])
 (.cond (.t 97)
 (.seq (.reg [p_m 98 0,p_m 99 1,p_m 100 2,p_m 101 13,p_m 102 4,p_c 103 8 226 [.t 98,.t 99,.t 100,.t 101,.t 102],p_m 15 103])
 (.seq (.reg [p_m 104 15,p_m 1 104])
 (.exit 1)))
 .skip))
 (.seq (.reg [p_m 106 0,p_m 107 1,p_m 108 2,p_m 109 13,p_m 110 4,p_c 111 9 227 [.t 106,.t 107,.t 108,.t 109,.t 110],p_m 105 111,p_s 112 (.ext (.t 105) 0),p_s 113 (.ext (.t 105) 1),
 p_m 16 112,p_m 17 113])
 (.seq (.reg [p_m 114 17,p_m 11 114])
 (.seq (.reg [p_m 115 16,p_m 116 1,p_s 117 (.bin .sub (.t 115) (.t 116)),p_m 118 2,p_m 119 16,p_s 120 (.bin .sub (.t 118) (.t 119)),p_m 18 117,p_m 19 120])
 (.seq (.reg [p_m 121 12,p_s 122 (.bin .quo (.t 121) (o_i 8)),p_m 20 122])
 (.seq (.reg [p_m 123 18,p_m 124 19,p_s 125 (.bin .lss (.t 123) (.t 124))])
 (.cond (.t 125)
 (.seq (.reg [p_m 126 18,p_m 127 20,p_s 128 (.bin .geq (.t 126) (.t 127)),p_m 10 128])
 (.seq (.reg [p_m 129 0,p_m 130 1,p_m 131 16,p_m 132 3,p_m 133 4,p_c 134 10 183 [.t 129,.t 130,.t 131,.t 132,.t 133]])
 (.reg [p_m 135 16,p_s 136 (.bin .add (.t 135) (o_i 1)),p_m 1 136])))
 (.seq (.reg [p_m 137 19,p_m 138 20,p_s 139 (.bin .geq (.t 137) (.t 138)),p_m 10 139])
 (.seq (.reg [p_m 140 0,p_m 141 16,p_s 142 (.bin .add (.t 141) (o_i 1)),p_m 143 2,p_m 144 3,p_m 145 4,p_c 146 11 183 [.t 140,.t 142,.t 143,.t 144,.t 145]])
 (.reg [p_m 147 16,p_m 2 147]))))))))))))))))))))))
theorem qi:Fun P0 183 5 [] mn:=b5 Go.Proofs.Tryz.func183 rfl (by decide) (by kernel_rfl) (by decide) rfl (by kernel_rfl) (by kernel_rfl) (by decide)
noncomputable def mj:PC:=
  (.seq (.reg [p_m 5 0,p_s 6 (.len false (.t 5)),p_m 4 6])
 (.reg [p_m 7 0,p_m 8 4,p_m 9 4,p_s 10 (.conv .u64 (.t 9)),p_c 11 1 169 [.t 10],p_m 12 1,p_c 13 2 183 [(.t 7),(o_i 0),(.t 8),(.t 11),(.t 12)]]))
theorem qf:Fun P0 129 2 [] mj:=b5 Go.Proofs.Tryz.func129 rfl (by decide) (by kernel_rfl) (by decide) rfl (by kernel_rfl) (by kernel_rfl) (by decide)
noncomputable def aag:PC:=
  (.seq (.reg [p_m 4 0,p_s 5 (.len false (.t 4)),p_s 6 (.bin .sub (.t 5) (o_i 1)),p_s 2 (.mov (o_i 0)),p_m 3 6])
 (.block 0 (.loop (.seq (.seq (.reg [p_m 7 2,p_m 8 3,p_s 9 (.bin .lss (.t 7) (.t 8))])
 (.cond (.t 9)
 .skip
 (.exit 0)))
 (.seq (.block 1 (.drw [p_m 14 0,p_m 15 2,p_m 16 0,p_m 17 3,p_m 18 0,p_m 19 3,p_s 20 (.ia 2 (.agg [(.v (.int .i64 0)),(.v (.int .i64 0))]) (.t 18) (.t 19)),p_s 21 (.ld (some 2) (.t 20)),
 p_m 22 0,p_m 23 2,p_s 24 (.ia 2 (.agg [(.v (.int .i64 0)),(.v (.int .i64 0))]) (.t 22) (.t 23)),p_s 25 (.ld (some 2) (.t 24)),p_s 26 (.ia 2 (.agg [(.v (.int .i64 0)),(.v (.int .i64 0))]) (.t 14) (.t 15)),
 ⟨none,none,0,.act (.st 2 (.t 26) (.t 21))⟩,p_s 27 (.ia 2 (.agg [(.v (.int .i64 0)),(.v (.int .i64 0))]) (.t 16) (.t 17)),⟨none,none,0,.act (.st 2 (.t 27) (.t 25))⟩]
 [[],[],[],[],[],[],[4,5],[4,5,6],[],[],[8,9],[8,9,10],[0,1,4,5,6,7,8,9,10,11],[0,1,4,5,6,7,8,9,10,11,12],[0,1,2,3,4,5,6,7,8,9,10,11,12,13],[0,1,2,3,4,5,6,7,8,9,10,11,12,13,14]]))
 (.reg [p_m 10 2,p_s 11 (.bin .add (.t 10) (o_i 1)),p_m 12 3,p_s 13 (.bin .sub (.t 12) (o_i 1)),p_m 2 11,p_m 3 13]))))))
theorem aeg:Fun P0 133 1 [] aag:=b5 Go.Proofs.Tryz.func133 rfl (by decide) (by kernel_rfl) (by decide) rfl (by kernel_rfl) (by kernel_rfl) (by decide)
def awk (n:Nat):Nat:=if n=0 then 0 else Nat.log2 n+1
theorem a1l (n:Nat) (hn:n<16):a7 P0 214 [int .u64 n] [] (int .i64 (awk n)) []:=by
 refine aai rfl (by decide) ?_;have g1:decide ((n:Int)≥4294967296)=false:=by simp; omega
 have g2:decide ((n:Int)≥65536)=false:=by simp; omega
 have g3:decide ((n:Int)≥256)=false:=by simp; omega
 have w:IntKind.u8.wrap (n:Int)=n:=by simp [IntKind.wrap,IntKind.bits,IntKind.signed]; omega
 simp only [zx,g1,g2,g3,w,zab,push_cast,↓reduceIte,reduceCtorEq,zB,zE,zA,zS,zL,zD,zM];refine ⟨⟨by omega,(show (n:Int)<((256:Nat):Int) by omega)⟩,?_⟩;refine congrArg (fun z=>AV.r (.v (.int .i64 z))) ?_;clear g1 g2 g3 w
 revert n
 decide +kernel
theorem ayt (n:Nat) (hn:n<16):a7 P0 169 [int .u64 n] [] (int .i64 (awk n)) []:=by
 refine ac9 rfl (by decide) ?_;have w:IntKind.u64.wrap (n:Int)=n:=by rw [IntKind.wrap_u64]; omega
 simp only [adv,w,push_cast,↓reduceIte,reduceCtorEq,zB,zE,zA,zS,zL,zD,zM];refine a5 (a1l n hn) rfl trivial ?_;simp only [push_cast,↓reduceIte,reduceCtorEq,zB,zE,zA,zS,zL,zD,zM]
theorem a7l (l:List P2) (hl:1≤l.length∧l.length≤12) (lim:Int):a7 P0 183 [.own 1000000 0 0 l.length,int .i64 0,int .i64 l.length,int .i64 lim,agF] [l8 l] (.tup []) [l8 (y6 l)]:=by
 refine qi rfl (by simp) ?_;simp only [mn,agF,l8,push_cast,↓reduceIte,reduceCtorEq,zB,zE,zA,zS,zL,zD,zM]
 refine run_loop [(0,false),(1,false),(2,false),(3,false),(4,false),(10,false),(11,false)] (fun vs pos los=>vs=[.own 1000000 0 0 l.length,int .i64 0,int .i64 l.length,int .i64 lim,agF,bl true,bl true]∧pos=[l8 l]∧los=[])
  (fun _ _ _=>0) rfl ?_ ?_
 ·simp only [agF,l8,push_cast,↓reduceIte,reduceCtorEq,zB,zE,zA,zS,zL,zD,zM]
 ·rintro vs pos los ⟨rfl,rfl,rfl⟩;have w0:IntKind.i64.wrap ((l.length:Int)-0)=(l.length:Int):=by rw [a6 (by omega)]; omega
  have d0:decide ((l.length:Int)≤12)=true:=decide_eq_true (by omega);simp only [agF,l8,w0,d0,push_cast,↓reduceIte,reduceCtorEq,zB,zE,zA,zS,zL,zD,zM];refine ac8 ?_;simp only [push_cast,↓reduceIte,reduceCtorEq,zB,zE,zA,zS,zL,zD,zM];refine a9 (as':=[.own 1000000 0 0 l.length,int .i64 0,int .i64 l.length,agF]) rfl ?_;refine a5 (po:=[l8 l]) (a75 l (by omega)) rfl ⟨⟨rfl,by simp [ym]⟩,trivial⟩ ?_;simp only [l8,push_cast,↓reduceIte,reduceCtorEq,zB,zE,zA,zS,zL,zD,zM]
theorem a6y (l:List P2) (hl:1≤l.length∧l.length≤12):a7 P0 129 [.own 1000000 0 0 l.length,agF] [l8 l] (.tup []) [l8 (y6 l)]:=by
 refine qf rfl (by simp) ?_;have w:IntKind.u64.wrap ((l.length:Nat):Int)=(l.length:Int):=by rw [IntKind.wrap_u64]; omega
 simp only [mj,agF,l8,w,push_cast,↓reduceIte,reduceCtorEq,zB,zE,zA,zS,zL,zD,zM];refine a5 (ayt l.length (by omega)) rfl trivial ?_;simp only [push_cast,↓reduceIte,reduceCtorEq,zB,zE,zA,zS,zL,zD,zM];refine ac8 ?_;simp only [push_cast,↓reduceIte,reduceCtorEq,zB,zE,zA,zS,zL,zD,zM];refine a9 (as':=[.own 1000000 0 0 l.length,int .i64 0,int .i64 l.length,int .i64 (awk l.length),agF]) rfl ?_;refine a5 (po:=[l8 l]) (a7l l hl _) rfl ⟨⟨rfl,by simp [ym]⟩,trivial⟩ ?_;simp only [l8,push_cast,↓reduceIte,reduceCtorEq,zB,zE,zA,zS,zL,zD,zM]
set_option maxHeartbeats 2000000 in
theorem a79 (l G:List P2) (hl:l.length≤1000):a7 P0 133 [.own 1000000 0 0 l.length] [l8 (l++G)] (.tup []) [l8 (l.reverse++G)]:=by
 refine aeg rfl (by simp) ?_;have w0:IntKind.i64.wrap ((l.length:Int)-1)=(l.length:Int)-1:=a6 (by omega);simp only [aag,l8,w0,push_cast,↓reduceIte,reduceCtorEq,zB,zE,zA,zS,zL,zD,zM]
 refine run_loop [(0,false),(2,false),(3,false)] (fun vs pos los=>∃(A M B:List P2),A.length=B.length∧l.reverse=A++(M.reverse++B)∧vs=[.own 1000000 0 0 l.length,int .i64 A.length,int .i64 ((l.length:Int)-1-A.length)]∧pos=[l8 (A++(M++(B++G)))]∧los=[])
  (fun vs _ _=>match vs with | [_,_,.r (.v (.int _ a))]=>a.toNat | _=>0) rfl ?_ ?_
 ·simp only [l8,push_cast,↓reduceIte,reduceCtorEq,zB,zE,zA,zS,zL,zD,zM];refine ⟨[],l,[],rfl,by simp,?_,?_⟩
  ·simp
  ·simp
 ·rintro vs pos los ⟨A,M,B,hAB,hrev,rfl,rfl,rfl⟩
  have hlen:l.length=A.length+(M.length+B.length):=by
   have:=congrArg List.length hrev;simpa using this
  simp only [l8,push_cast,↓reduceIte,reduceCtorEq,zB,zE,zA,zS,zL,zD,zM];refine b6 (fun hc=>?_) (fun hc=>?_)
  ·have hc:=of_decide_eq_true hc
   obtain ⟨p,M',q,rfl⟩:∃p M' q,M=p::(M'++[q]):=by
    cases M with
    | nil=>simp at hlen; omega
    | cons p M=>
     rcases List.eq_nil_or_concat M with rfl | ⟨M',q,rfl⟩
     ·simp at hlen; omega
     ·exact ⟨p,M',q,by simp⟩
   obtain ⟨J,hJ⟩:∃J:Nat,J=A.length+M'.length+1:=⟨_,rfl⟩
   simp only [zaf,zae,List.length_nil] at hlen;have hj:((l.length:Nat):Int)-1-(A.length:Int)=(J:Int):=by omega
   obtain ⟨T,hT⟩:∃T,B++G=T:=⟨_,rfl⟩
   have hrow:A++(p::(M'++[q])++(B++G))=A++p::(M'++q::T):=by rw [hT]; simp
   have gp:∀z,((A++p::(M'++q::T)).map ptR).getD A.length z=.agg [.v (.int .i64 p.1),.v (.int .i64 p.2)]:=fun z=>yd A _ p z
   have gq:∀z,((A++p::(M'++q::T)).map ptR).getD J z=.agg [.v (.int .i64 q.1),.v (.int .i64 q.2)]:=fun z=>by
    have:=yd (A++p::M') T q z;rw [show A++p::(M'++q::T)=(A++p::M')++q::T by simp,hJ];simp only [zae,zaf] at this;rw [show A.length+M'.length+1=A.length+(M'.length+1) by omega];exact this
   have s1:((A++p::(M'++q::T)).map ptR).set A.length (.agg [.v (.int .i64 q.1),.v (.int .i64 q.2)])=(A++q::(M'++q::T)).map ptR:=by
    rw [show (RV.agg [.v (.int .i64 q.1),.v (.int .i64 q.2)])=ptR q from rfl,← zah];congr 1;simp
   have gq2:∀z,((A++q::(M'++q::T)).map ptR).getD J z=.agg [.v (.int .i64 q.1),.v (.int .i64 q.2)]:=fun z=>by
    have:=yd (A++q::M') T q z;rw [show A++q::(M'++q::T)=(A++q::M')++q::T by simp,hJ];simp only [zae,zaf] at this;rw [show A.length+M'.length+1=A.length+(M'.length+1) by omega];exact this
   have s2:((A++q::(M'++q::T)).map ptR).set J (.agg [.v (.int .i64 p.1),.v (.int .i64 p.2)])=(A++q::(M'++p::T)).map ptR:=by
    rw [show (RV.agg [.v (.int .i64 p.1),.v (.int .i64 p.2)])=ptR p from rfl,← zah];congr 1
    have h1:((A++q::M')++q::T).set J p=(A++q::M')++p::T:=by
     rw [show J=(A++q::M').length by simp; omega];simp
    rw [show A++q::(M'++q::T)=(A++q::M')++q::T by simp,h1];simp
   have wi:IntKind.i64.wrap ((A.length:Int)+1)=(A.length:Int)+1:=a6 (by omega);have wj:IntKind.i64.wrap ((J:Int)-1)=(J:Int)-1:=a6 (by omega);rw [hj,hrow];simp only [l8,gp,gq,gq2,s1,s2,wi,wj,zab,zac,zaa,push_cast,↓reduceIte,reduceCtorEq,zB,zE,zA,zS,zL,zD,zM]
   repeat refine And.intro (by first | exact ⟨by omega,by omega⟩ | kernel_rfl) ?_
   refine ⟨⟨A++[q],M',p::B,by simp; omega,by rw [hrev]; simp,?_,?_⟩,by omega⟩
   ·simp;omega
   ·rw [← hT]; simp
  ·have hc:=of_decide_eq_false hc;simp only [push_cast,↓reduceIte,reduceCtorEq,zB,zE,zA,zS,zL,zD,zM];rw [hrev]
   have hM:M.reverse=M:=by
    rcases M with _ | ⟨p,_ | ⟨q,M⟩⟩
    ·rfl
    ·rfl
    ·simp at hlen; omega
   rw [hM];simp

noncomputable def mv:PC:=
  (.seq (.reg [p_s 2 (.mov (.c (.nils 2 (.agg [(.v (.int .i64 0)),(.v (.int .i64 0))]))))])
 (.seq (.seq (.reg [p_m 6 0,p_s 7 (.len false (.t 6)),p_s 8 (.bin .lss (.t 7) (o_i 2))])
 (.cond (.t 8)
 (.seq (.reg [p_m 9 0,p_m 2 9])
 .ret)
 .skip))
 (.seq (.seq (.reg [p_s 3 (.mov (o_i 1))])
 (.block 0 (.loop (.seq (.seq (.reg [p_m 10 3,p_m 11 0,p_s 12 (.len false (.t 11)),p_s 13 (.bin .lss (.t 10) (.t 12))])
 (.cond (.t 13)
 .skip
 (.exit 0)))
 (.seq (.block 1 (.seq (.drw [p_m 16 0,p_m 17 3,p_s 18 (.ia 2 (.agg [(.v (.int .i64 0)),(.v (.int .i64 0))]) (.t 16) (.t 17)),p_s 19 (.ld (some 2) (.t 18)),p_m 20 0,p_m 21 3,p_s 22 (.bin .sub (.t 21) (o_i 1)),
 p_s 23 (.ia 2 (.agg [(.v (.int .i64 0)),(.v (.int .i64 0))]) (.t 20) (.t 22)),p_s 24 (.ld (some 2) (.t 23)),p_s 25 (.eqa false [0,0] (.t 19) (.t 24))]
 [[],[],[0,1],[0,1,2],[],[],[5],[4,5,6],[4,5,6,7],[0,1,2,3,4,5,6,7,8]])
 (.cond (.t 25)
 (.seq (.reg [p_m 26 0,p_m 27 3,p_s 28 (.sll 2 (.t 26) (some (.t 27)) none none),p_m 4 28])
 (.seq (.seq (.reg [p_s 5 (.mov (o_i 1))])
 (.block 2 (.loop (.seq (.seq (.reg [p_m 29 5,p_m 30 4,p_s 31 (.len false (.t 30)),p_s 32 (.bin .lss (.t 29) (.t 31))])
 (.cond (.t 32)
 .skip
 (.exit 2)))
 (.seq (.block 3 (.seq (.drw [p_m 35 4,p_m 36 5,p_s 37 (.ia 2 (.agg [(.v (.int .i64 0)),(.v (.int .i64 0))]) (.t 35) (.t 36)),p_s 38 (.ld (some 2) (.t 37)),p_m 39 4,p_m 40 5,p_s 41 (.bin .sub (.t 40) (o_i 1)),
 p_s 42 (.ia 2 (.agg [(.v (.int .i64 0)),(.v (.int .i64 0))]) (.t 39) (.t 41)),p_s 43 (.ld (some 2) (.t 42)),p_s 44 (.eqa true [0,0] (.t 38) (.t 43))]
 [[],[],[0,1],[0,1,2],[],[],[5],[4,5,6],[4,5,6,7],[0,1,2,3,4,5,6,7,8]])
 (.cond (.t 44)
 (.seq (.reg [p_m 45 0,p_m 46 3,p_m 47 4,p_m 48 5,p_s 49 (.ia 2 (.agg [(.v (.int .i64 0)),(.v (.int .i64 0))]) (.t 47) (.t 48)),p_s 50 (.ld (some 2) (.t 49)),p_s 51 (.ia 2 (.agg [(.v (.int .i64 0)),(.v (.int .i64 0))]) (.t 45) (.t 46)),
 ⟨none,none,0,.act (.st 2 (.t 51) (.t 50))⟩])
 (.reg [p_m 52 3,p_s 53 (.bin .add (.t 52) (o_i 1)),p_m 3 53]))
 .skip)))
 (.reg [p_m 33 5,p_s 34 (.bin .add (.t 33) (o_i 1)),p_m 5 34]))))))
 (.seq (.reg [p_m 54 0,p_m 55 3,p_s 56 (.sll 2 (.t 54) (some (.t 55)) none none),⟨none,none,0,.act (.clr 2 (.agg [(.v (.int .i64 0)),(.v (.int .i64 0))]) (.t 56))⟩])
 (.seq (.reg [p_m 57 0,p_m 58 3,p_s 59 (.sll 2 (.t 57) none (some (.t 58)) none),p_m 2 59])
 .ret))))
 .skip)))
 (.reg [p_m 14 3,p_s 15 (.bin .add (.t 14) (o_i 1)),p_m 3 15]))))))
 (.seq (.reg [p_m 60 0,p_m 2 60])
 .ret))))
theorem qk:Fun P0 131 1 [(2,false,none)] mv:=b5 Go.Proofs.Tryz.func131 rfl (by decide) (by kernel_rfl) (by decide) rfl (by kernel_rfl) (by kernel_rfl) (by decide)
def ry (u:P2):List P2→List P2
 | []=>[]
 | q::r=>if q=u then ry u r else q::ry q r
def bt:List P2→List P2
 | []=>[]
 | p::r=>p::ry p r
theorem als:∀(u:P2) (l:List P2),(ry u l).length≤l.length
 | u,[]=>Nat.le_refl _
 | u,q::r=>by
  rw [ry];split
  ·have:=als u r; simp; omega
  ·have:=als q r; simp; omega
theorem aig (l:List P2):(bt l).length≤l.length:=by
 cases l with
 | nil=>exact Nat.le_refl _
 | cons p r=>have:=als p r; simp [bt]; exact this
theorem av7 (p q:P2):(p.1 == q.1&&p.2 == q.2)=decide (p=q):=by
 rw [Bool.eq_iff_iff];simp [Prod.ext_iff]
theorem a3z (o W:List P2) (k n:Nat) (hk:k=o.length) (hn:n=W.length):spl ((o++W).map ptR) k (zar n (.agg [.v (.int .i64 0),.v (.int .i64 0)]))=(o++zar n (0,0)).map ptR:=by
 subst hk; subst hn;unfold spl b7;rw [zak,List.take_left' (by simp),List.drop_of_length_le (by simp),List.append_nil,zak,List.map_replicate]
 rfl
set_option maxHeartbeats 4000000 in
theorem a8o (l:List P2) (hl:1≤l.length∧l.length≤1000):a7 P0 131 [.own 1000000 0 0 l.length] [l8 l] (.own 1000000 0 0 (bt l).length) [l8 (bt l++zar (l.length-(bt l).length) (0,0))]:=by
 refine qk rfl (by simp) ?_;simp only [mv,l8,push_cast,↓reduceIte,reduceCtorEq,zB,zE,zA,zS,zL,zD,zM];refine b6 (fun h2=>?_) (fun h2=>?_)
 ·have h2:=of_decide_eq_true h2
  obtain ⟨p,rfl⟩:∃p,l=[p]:=by
   rcases l with _ | ⟨p,_ | ⟨q,r⟩⟩
   ·simp at hl
   ·exact ⟨p,rfl⟩
   ·simp at h2; omega
  simp only [push_cast,↓reduceIte,reduceCtorEq,zB,zE,zA,zS,zL,zD,zM];exact ⟨rfl,rfl⟩
 ·have h2:=of_decide_eq_false h2;simp only [push_cast,↓reduceIte,reduceCtorEq,zB,zE,zA,zS,zL,zD,zM]
  refine run_loop [(0,false),(3,false)] (fun vs pos los=>∃(A:List P2) (x:P2) (T:List P2),l=A++x::T∧bt l=A++x::ry x T∧vs=[.own 1000000 0 0 l.length,int .i64 ((A.length:Int)+1)]∧pos=[l8 (A++x::T)]∧los=[])
   (fun vs _ _=>match vs with | [_,.r (.v (.int _ a))]=>(l.length-a).toNat | _=>0) rfl ?_ ?_
  ·simp only [l8,push_cast,↓reduceIte,reduceCtorEq,zB,zE,zA,zS,zL,zD,zM]
   obtain ⟨p,r,rfl⟩:∃p r,l=p::r:=by
    cases l with
    | nil=>simp at hl
    | cons p r=>exact ⟨p,r,rfl⟩
   exact ⟨[],p,r,rfl,rfl,rfl,rfl⟩
  ·rintro vs pos los ⟨A,x,T,hlA,hcA,rfl,rfl,rfl⟩;have hlen:l.length=A.length+1+T.length:=by rw [hlA]; simp; omega
   simp only [l8,push_cast,↓reduceIte,reduceCtorEq,zB,zE,zA,zS,zL,zD,zM];cases T with
   | nil=>
    have z0:decide (((A.length:Nat):Int)+1<((l.length:Nat):Int))=false:=decide_eq_false (by simp at hlen; omega);simp only [z0,push_cast,↓reduceIte,reduceCtorEq,zB,zE,zA,zS,zL,zD,zM];rw [hcA];have h1:(A++x::ry x []).length=l.length:=by rw [hlA]; rfl
    rw [h1,Nat.sub_self];simp [ry]
   | cons y T=>
    simp only [zaf] at hlen;have z0:decide (((A.length:Nat):Int)+1<((l.length:Nat):Int))=true:=decide_eq_true (by omega);have wk:IntKind.i64.wrap (((A.length:Nat):Int)+1-1)=(A.length:Int):=by rw [a6 (by omega)]; omega
    have wk2:IntKind.i64.wrap (((A.length:Nat):Int)+1+1)=(A.length:Int)+2:=by
     have:A.length<1000:=by omega
     rw [a6 (by omega)]; omega
    have gx:∀z,((A++x::y::T).map ptR).getD A.length z=.agg [.v (.int .i64 x.1),.v (.int .i64 x.2)]:=fun z=>yd A _ x z;have gy:∀z,((A++x::y::T).map ptR).getD (A.length+1) z=.agg [.v (.int .i64 y.1),.v (.int .i64 y.2)]:=fun z=>aqt A _ x y z;have heq:=av7 y x;simp only [z0,wk,gx,gy,zab,zac,zaa,push_cast,↓reduceIte,reduceCtorEq,zB,zE,zA,zS,zL,zD,zM];refine And.intro ⟨by omega,by omega⟩ ?_;refine And.intro ⟨by omega,by omega⟩ ?_;refine And.intro (by kernel_rfl) ?_;refine b6 (fun hyx=>?_) (fun hyx=>?_)
    ·have hyx:y=x:=of_decide_eq_true (heq.symm.trans hyx);subst hyx;obtain ⟨k0,hk0⟩:∃k0,A.length+1=k0:=⟨_,rfl⟩
     have hk1:((A.length:Nat):Int)+1=(k0:Int):=by omega
     have hk2:((A.length:Nat):Int)+2=(k0:Int)+1:=by omega
     simp only [l8,hk0,hk1,zab,zac,zaa,push_cast,↓reduceIte,reduceCtorEq,zB,zE,zA,zS,zL,zD,zM];obtain ⟨n0,hn0⟩:∃n0:Nat,((l.length:Int)-(k0:Int)).toNat=n0:=⟨_,rfl⟩
     have hnn:n0=T.length+1:=by omega
     refine And.intro ⟨by omega,by omega,by omega⟩ ?_;simp only [hn0]
     refine run_loop [(0,false),(3,false),(4,false),(5,false)] (fun vs pos los=>∃(C W T2:List P2) (u:P2) (k k2:Nat),k=C.length+1∧k0+k2=C.length+1+W.length+1∧1≤k2∧C.length+1+W.length+1+T2.length=l.length∧bt l=C++u::ry u T2∧vs=[.own 1000000 0 0 l.length,int .i64 k,.own 1000000 0 k0 n0,int .i64 k2]∧pos=[l8 ((C++[u])++(W++u::T2))]∧los=[])
      (fun vs _ _=>match vs with | [_,_,_,.r (.v (.int _ a))]=>(l.length-a).toNat | _=>0) rfl ?_ ?_
     ·simp only [l8,push_cast,↓reduceIte,reduceCtorEq,zB,zE,zA,zS,zL,zD,zM];refine ⟨A,[],T,y,k0,1,by omega,by simp; omega,by omega,by simp; omega,?_,rfl,?_⟩
      ·rw [hcA,ry,if_pos rfl]
      ·simp
     ·rintro vs pos los ⟨C,W,T2,u,k,k2,hk,hkk,hk21,hL,hcC,rfl,rfl,rfl⟩;simp only [l8,push_cast,↓reduceIte,reduceCtorEq,zB,zE,zA,zS,zL,zD,zM];cases T2 with
      | nil=>
       simp only [List.length_nil] at hL;have z1:decide (((k2:Nat):Int)<((n0:Nat):Int))=false:=decide_eq_false (by omega);simp only [z1,l8,zab,zac,zaa,push_cast,↓reduceIte,reduceCtorEq,zB,zE,zA,zS,zL,zD,zM];have hcC2:bt l=C++[u]:=hcC;have hcl:(bt l).length=C.length+1:=by rw [hcC2]; simp
       refine ⟨⟨by omega,by omega,by omega⟩,⟨by omega,by omega,by omega,by omega⟩,?_,?_⟩
       ·rw [hcl,show (Int.toNat 0)=0 from rfl,show ((k:Int)-0).toNat=C.length+1 by omega]
       ·rw [a3z (C++[u]) (W++[u]) k _ (by simp; omega) (by simp; omega),hcl,hcC2,show ((l.length:Int)-(k:Int)).toNat=l.length-(C.length+1) by omega]
      | cons v T3=>
       simp only [zaf] at hL;have z1:decide (((k2:Nat):Int)<((n0:Nat):Int))=true:=decide_eq_true (by omega);have wk4:IntKind.i64.wrap (((k2:Nat):Int)-1)=((k2-1:Nat):Int):=by rw [a6 (by omega)]; omega
       have wk5:IntKind.i64.wrap (((k2:Nat):Int)+1)=((k2+1:Nat):Int):=by rw [a6 (by omega)]; omega
       have wk6:IntKind.i64.wrap (((k:Nat):Int)+1)=((k+1:Nat):Int):=by rw [a6 (by omega)]; omega
       have gu:∀z,(((C++[u])++(W++u::v::T3)).map ptR).getD (k0+(k2-1)) z=.agg [.v (.int .i64 u.1),.v (.int .i64 u.2)]:=fun z=>by
        rw [← zag,show k0+(k2-1)=((C++[u])++W).length by simp; omega];exact yd _ _ u z
       have gv:∀z,(((C++[u])++(W++u::v::T3)).map ptR).getD (k0+k2) z=.agg [.v (.int .i64 v.1),.v (.int .i64 v.2)]:=fun z=>by
        rw [← zag,show k0+k2=((C++[u])++W).length+1 by simp; omega];exact aqt _ _ u v z
       simp only [z1,wk4,wk5,wk6,gu,gv,l8,zab,zac,zaa,push_cast,↓reduceIte,reduceCtorEq,zB,zE,zA,zS,zL,zD,zM];refine And.intro ⟨by omega,by omega⟩ ?_;refine And.intro ⟨by omega,by omega⟩ ?_;refine And.intro (by kernel_rfl) ?_;have heq2:=av7 v u;refine b6 (fun hvu=>?_) (fun hvu=>?_)
       ·have hvu:v≠u:=by
         have h3:(v.1 == u.1&&v.2 == u.2)=false:=by
          generalize (v.1 == u.1&&v.2 == u.2)=q at hvu;cases q
          ·rfl
          ·cases hvu
         exact of_decide_eq_false (heq2.symm.trans h3)
        obtain ⟨W',hW',hset⟩:∃W':List P2,W'.length=W.length∧(((C++[u])++(W++u::v::T3)).map ptR).set k (.agg [.v (.int .i64 v.1),.v (.int .i64 v.2)])=(((C++[u])++[v])++(W'++v::T3)).map ptR:=by
         subst hk;rw [show (RV.agg [.v (.int .i64 v.1),.v (.int .i64 v.2)])=ptR v from rfl,← zah];cases W with
         | nil=>exact ⟨[],rfl,by congr 1; simp⟩
         | cons w W2=>exact ⟨W2++[u],by simp,by congr 1; simp⟩
        obtain ⟨q,hq⟩:∃q:P2,∀z,(((C++[u])++(W++u::v::T3)).map ptR).getD k z=.agg [.v (.int .i64 q.1),.v (.int .i64 q.2)]:=by
         rw [show k=(C++[u]).length by simp; omega];cases W with
         | nil=>exact ⟨u,yd _ _ u⟩
         | cons w W2=>exact ⟨w,yd _ _ w⟩
        simp only [wk5,wk6,gv,hq,hset,l8,zab,zac,zaa,push_cast,↓reduceIte,reduceCtorEq,zB,zE,zA,zS,zL,zD,zM]
        repeat refine And.intro (by first | exact ⟨by omega,by omega⟩ | kernel_rfl) ?_
        refine ⟨⟨C++[u],W',T3,v,k+1,k2+1,by simp; omega,by simp; omega,by omega,by simp; omega,?_,by simp,rfl⟩,by omega⟩;rw [hcC,ry,if_neg hvu];simp
       ·have hvu:v=u:=by
         have h3:(v.1 == u.1&&v.2 == u.2)=true:=by
          generalize (v.1 == u.1&&v.2 == u.2)=q at hvu;cases q
          ·cases hvu
          ·rfl
         exact of_decide_eq_true (heq2.symm.trans h3)
        subst hvu;simp only [wk5,l8,zab,zac,zaa,push_cast,↓reduceIte,reduceCtorEq,zB,zE,zA,zS,zL,zD,zM];refine ⟨⟨C,W++[v],T3,v,k,k2+1,by omega,by simp; omega,by omega,by simp; omega,?_,by simp,by simp⟩,by omega⟩;rw [hcC,ry,if_pos rfl]
    ·have hyx:y≠x:=of_decide_eq_false (heq.symm.trans hyx);have wk3:IntKind.i64.wrap (((A.length:Nat):Int)+1+1)=(A.length:Int)+1+1:=by rw [wk2]; omega
     simp only [wk3,l8,zab,zac,zaa,push_cast,↓reduceIte,reduceCtorEq,zB,zE,zA,zS,zL,zD,zM];refine ⟨⟨A++[x],y,T,by rw [hlA]; simp,?_,by simp,by simp⟩,by omega⟩;rw [hcA,ry,if_neg hyx];simp

theorem arm (p a:P2):rb p [a]=[a]:=rfl
set_option maxHeartbeats 4000000 in
theorem auv (l:List P2) (hl:1≤l.length∧l.length≤1000) (hn:∀p∈l,near29 p):a7 P0 132 [a8 l] [] (.own 1000000 0 0 ((dm l).length-1)) [g7 (dm l).reverse]:=by
  refine ajg rfl (by decide) ?_;have hmx:=d5;have hsl:∀i,(dm (l.take i)).length≤i:=fun i=>by have:=abk (l.take i); simp at this; omega
  simp only [agb,a8,push_cast,↓reduceIte,reduceCtorEq,zB,zE,zA,zS,zL,zD,zM]
  refine run_loop [(8, false), (6, false), (7, false), (3, false)] (fun vs pos los => ∃ i : Nat, i ≤ l.length ∧ pos = [] ∧
      (i=0∧vs=[int .i64 i,a8 l,int .i64 l.length,.nils 2 (pnt 0 0)]∧los=[] ∨
       i≠0∧vs=[int .i64 i,a8 l,int .i64 l.length,.own 2000000 0 0 (dm (l.take i)).length]∧los=[g7 (dm (l.take i)).reverse]))
    (fun vs _ _=>match vs with | .r (.v (.int _ a))::_=>(l.length-a).toNat | _=>0) rfl ?_ ?_
  · simp only [a8,pnt,push_cast,↓reduceIte,reduceCtorEq,zB,zE,zA,zS,zL,zD,zM];exact ⟨0,by omega,.inl ⟨rfl,by simp⟩⟩
  · rintro vs pos los ⟨i,hi,rfl,⟨h0,rfl,rfl⟩ | ⟨h0,rfl,rfl⟩⟩
    · simp only [a8,pnt,push_cast,↓reduceIte,reduceCtorEq,zB,zE,zA,zS,zL,zD,zM];refine b6 (fun hd=>?_) (fun hd=>?_)
      · have hi2:i<l.length:=by simpa using hd
        obtain ⟨p,hp⟩:∃p,l[i]?=some p:=⟨l[i],by simp [hi2]⟩
        have wi:IntKind.i64.wrap ((i:Int)+1)=(i:Int)+1:=a6 (by omega);have z0:decide ((0:Int)>1)=false:=rfl
        have hN:dm (l.take (i+1))=[p]:=by
          subst h0;rw [zas,hp];simp [dm,rb]
        simp only [a8,pnt,zal,aa hp,w9 hp,wi,z0,zam,zan,zaa,push_cast,↓reduceIte,reduceCtorEq,zB,zE,zA,zS,zL,zD,zM]
        repeat refine And.intro (by first | decide | omega | exact fun _=>by decide | (simp +contextual; done) | kernel_rfl) ?_
        refine run_loop [(8,false),(6,false),(7,false),(3,false),(5,false)] (fun vs pos los=>vs=[int .i64 i,a8 l,int .i64 l.length,.nils 2 (pnt 0 0),.ptr 2000000 0 0]∧pos=[]∧los=[.box [int .i64 p.1,int .i64 p.2]])
          (fun _ _ _=>0) rfl ?_ ?_
        · simp only [a8,pnt,ptR,push_cast,↓reduceIte,reduceCtorEq,zB,zE,zA,zS,zL,zD,zM]
        · rintro vs pos los ⟨rfl,rfl,rfl⟩;simp only [a8,pnt,z0,wi,push_cast,↓reduceIte,reduceCtorEq,zB,zE,zA,zS,zL,zD,zM];refine And.intro (by kernel_rfl) (And.intro (by simp) (And.intro (by omega) ⟨⟨i+1,by omega,.inr ⟨by omega,?_,?_⟩⟩,by omega⟩))
          · rw [hN]; simp
          · rw [hN]; simp [ptR,pnt]
      · have hi2:¬i<l.length:=by simpa using hd
        exact absurd hi2 (by omega)
    · have hlen:=hsl i;obtain ⟨S,hS⟩:∃S,dm (l.take i)=S:=⟨_,rfl⟩
      have hSn:S≠[]:=by
        rw [← hS];obtain ⟨j,rfl⟩:∃j,i=j+1:=⟨i-1,by omega⟩
        rw [zba (by omega),acp];simp
      have hSm:∀q∈S,near29 q:=fun q hq=>hn q (List.mem_of_mem_take (aq9 _ (hS▸hq)));rw [hS];rw [hS] at hlen;simp only [a8,pnt,push_cast,↓reduceIte,reduceCtorEq,zB,zE,zA,zS,zL,zD,zM];refine b6 (fun hd=>?_) (fun hd=>?_)
      · have hi2:i<l.length:=by simpa using hd
        obtain ⟨p,hp⟩:∃p,l[i]?=some p:=⟨l[i],by simp [hi2]⟩
        have hpn:near29 p:=hn p (zao hp);have wi:IntKind.i64.wrap ((i:Int)+1)=(i:Int)+1:=a6 (by omega)
        have hN:dm (l.take (i+1))=p::rb p S:=by
          rw [zas,hp,← hS];exact acp _ p
        simp only [a8,pnt,zal,aa hp,w9 hp,wi,zam,zan,zaa,push_cast,↓reduceIte,reduceCtorEq,zB,zE,zA,zS,zL,zD,zM]
        repeat refine And.intro (by first | decide | omega | exact fun _=>by decide | (simp +contextual; done) | kernel_rfl) ?_
        refine run_loop [(8,false),(6,false),(7,false),(3,false),(5,false)] (fun vs pos los=>∃(s G:List P2),s≠[]∧S.reverse=s.reverse++G∧rb p S=rb p s∧vs=[int .i64 i,a8 l,int .i64 l.length,.own 2000000 0 0 s.length,.ptr 2000001 0 0]∧pos=[]∧los=[g7 (s.reverse++G),.box [int .i64 p.1,int .i64 p.2]])
          (fun vs _ _=>match vs with | [_,_,_,.own _ _ _ n,_]=>n | _=>0) rfl ?_ ?_
        · simp only [a8,pnt,ptR,push_cast,↓reduceIte,reduceCtorEq,zB,zE,zA,zS,zL,zD,zM];exact ⟨S,[],hSn,by simp,rfl,rfl,by simp [pnt,ptR]⟩
        · rintro vs pos los ⟨s,G,hs,hSG,hpop,rfl,rfl,rfl⟩
          have hsS:s.length≤S.length:=by
            have:=congrArg List.length hSG;simp at this;omega
          have hsm:∀q∈s,near29 q:=fun q hq=>hSm q (by
            have:q∈S.reverse:=by rw [hSG]; simp [hq]
            simpa using this)
          have hend:∀n,n=s.length→List.take n ((s.reverse++G).map ptR)=s.reverse.map ptR:=fun n hn=>by
            rw [zak,List.take_left' (by simp [hn])]
          rcases s with _ | ⟨b,_ | ⟨a,r⟩⟩
          · exact absurd rfl hs
          · have z0:decide ((1:Int)>1)=false:=rfl;simp only [a8,pnt,z0,wi,push_cast,↓reduceIte,reduceCtorEq,zB,zE,zA,zS,zL,zD,zM];refine And.intro (by kernel_rfl) (And.intro (by simp) (And.intro (by omega) ⟨⟨i+1,by omega,.inr ⟨by omega,?_,?_⟩⟩,by omega⟩))
            · rw [hN,hpop,arm]; simp
            · rw [hN,hpop,arm,hend 1 rfl]; simp [ptR,pnt]
          · have z0:decide (((r.length:Nat):Int)+1+1>1)=true:=decide_eq_true (by omega);simp only [zaf] at hsS;have wk1:IntKind.i64.wrap (((r.length:Nat):Int)+1+1-2)=(r.length:Int):=by rw [a6 (by omega)]; omega
            have wk2:IntKind.i64.wrap (((r.length:Nat):Int)+1+1-1)=(r.length:Int)+1:=by rw [a6 (by omega)]; omega
            obtain ⟨A,hA⟩:∃A,r.reverse=A:=⟨_,rfl⟩
            have hAl:A.length=r.length:=by rw [← hA]; simp
            have hR:(b::a::r).reverse++G=A++a::b::G:=by rw [← hA]; simp
            have ga:=yd A (b::G) a;have gb:=aqt A G a b;rw [hAl] at ga gb;have hpa:ptR a=.agg [.v (.int .i64 a.1),.v (.int .i64 a.2)]:=rfl;have hpb:ptR b=.agg [.v (.int .i64 b.1),.v (.int .i64 b.2)]:=rfl;have htn:=a6q a b p (hsm a (by simp)) (hsm b (by simp)) hpn;rw [hR] at hend ⊢;simp only [a8,pnt,z0,wi,wk1,wk2,ga,gb,hpa,hpb,zab,zac,zaa,push_cast,↓reduceIte,reduceCtorEq,zB,zE,zA,zS,zL,zD,zM];refine And.intro ⟨by omega,by omega⟩ ?_;refine And.intro ⟨by omega,by omega⟩ ?_;refine o6 (as':=[pv2 a,pv2 b,pv2 p]) rfl ?_;refine c8 htn rfl trivial ?_;simp only [a8,pnt,z0,wi,wk1,wk2,ga,gb,hpa,hpb,zab,zac,zaa,push_cast,↓reduceIte,reduceCtorEq,zB,zE,zA,zS,zL,zD,zM];refine And.intro (by kernel_rfl) ?_
            refine b6 (fun hc=>?_) (fun hc=>?_)
            · have hc:=of_decide_eq_true hc;simp only [a8,pnt,wi,wk2,zab,zac,zaa,push_cast,↓reduceIte,reduceCtorEq,zB,zE,zA,zS,zL,zD,zM];refine ⟨⟨by omega,by omega,by omega,by omega⟩,⟨a::r,b::G,by simp,by rw [hSG,hR,← hA]; simp,?_,?_,?_⟩,by omega⟩
              · rw [hpop,rb,if_pos hc]
              · rw [show ((r.length:Int)+1-0).toNat=r.length+1 by omega]; simp
              · rw [← hA]; simp [g7,pnt]
            · have hc:=of_decide_eq_false hc;simp only [a8,pnt,wi,wk2,zab,zac,zaa,push_cast,↓reduceIte,reduceCtorEq,zB,zE,zA,zS,zL,zD,zM];have hN2:dm (l.take (i+1))=p::b::a::r:=by rw [hN,hpop,rb,if_neg hc]
              refine ⟨by simp,⟨by omega,by omega⟩,⟨i+1,by omega,.inr ⟨by omega,?_,?_⟩⟩,by omega⟩
              · rw [hN2]; simp
              · rw [hN2,hend (r.length+1+1) rfl]; simp [g7,pnt,ptR]
      · have hi2:i=l.length:=by
          have:¬i<l.length:=by simpa using hd
          omega
        have hS2:dm l=S:=by rw [← hS,hi2,List.take_length]
        have hSp:1≤S.length:=by
          cases S with
          | nil=>exact absurd rfl hSn
          | cons b r=>simp
        have wk:IntKind.i64.wrap ((S.length:Int)-1)=(S.length:Int)-1:=a6 (by omega);rw [hS2];simp only [a8,pnt,wk,zab,zac,zaa,push_cast,↓reduceIte,reduceCtorEq,zB,zE,zA,zS,zL,zD,zM];exact ⟨⟨by omega,by omega,by omega,by omega⟩,by rw [show (Int.toNat 0)=0 from rfl,show ((S.length:Int)-1-0).toNat=S.length-1 by omega],rfl⟩

noncomputable def afl:PC:=
  (.seq (.reg [p_s 2 (.mov (.c (.nils 2 (.agg [(.v (.int .i64 0)),(.v (.int .i64 0))]))))])
 (.seq (.seq (.reg [p_m 7 0,p_c 8 1 128 [.t 7],p_s 9 (.un .not (.t 8))])
 (.cond (.t 9)
 (.seq (.reg [p_s 2 (.mov (.c (.nils 2 (.agg [(.v (.int .i64 0)),(.v (.int .i64 0))]))))])
 .ret)
 .skip))
 (.seq (.reg [p_s 3 (.mov (.c (.nils 2 (.agg [(.v (.int .i64 0)),(.v (.int .i64 0))]))))])
 (.seq (.seq (.reg [p_m 10 0,p_s 11 (.len false (.t 10)),p_s 12 (.mov (o_i 0))])
 (.block 0 (.loop (.seq (.reg [p_s 13 (.bin .lss (.t 12) (.t 11))])
 (.seq (.cond (.t 13)
 .skip
 (.exit 0))
 (.seq (.block 1 (.seq (.reg [p_s 14 (.ia 2 (.agg [(.v (.int .i64 0)),(.v (.int .i64 0))]) (.t 10) (.t 12)),p_s 15 (.ld (some 2) (.t 14)),p_a 5 (.new [(.r (.v (.int .i64 0))),(.r (.v (.int .i64 0)))]),
 ⟨none,none,0,.act (.st 2 (.t 5) (.t 15))⟩])
 (.reg [p_m 16 3,p_s 17 (.ld (some 2) (.t 5)),p_a 18 (.bsl 2 (.agg [(.v (.int .i64 0)),(.v (.int .i64 0))]) [(.t 17)]),p_a 19 (.app 2 (.agg [(.v (.int .i64 0)),(.v (.int .i64 0))]) 16 (.t 16) (.t 18)),
 p_m 3 19])))
 (.reg [p_s 20 (.bin .add (.t 12) (o_i 1)),p_m 12 20])))))))
 (.seq (.reg [p_m 21 3,p_c 22 2 129 [(.t 21),(.c (.fn (.func 130) []))]])
 (.seq (.reg [p_m 23 3,p_c 24 3 131 [.t 23],p_m 3 24])
 (.seq (.seq (.reg [p_m 25 3,p_s 26 (.len false (.t 25)),p_s 27 (.bin .lss (.t 26) (o_i 3))])
 (.cond (.t 27)
 (.seq (.reg [p_s 2 (.mov (.c (.nils 2 (.agg [(.v (.int .i64 0)),(.v (.int .i64 0))]))))])
 .ret)
 .skip))
 (.seq (.reg [p_m 28 3,p_c 29 4 132 [.t 28],p_m 6 29])
 (.seq (.reg [p_m 30 3,p_c 31 5 133 [.t 30]])
 (.seq (.reg [p_m 32 6,p_m 33 3,p_c 34 6 132 [.t 33],p_a 35 (.app 2 (.agg [(.v (.int .i64 0)),(.v (.int .i64 0))]) 16 (.t 32) (.t 34)),p_m 6 35])
 (.seq (.seq (.reg [p_m 36 6,p_s 37 (.len false (.t 36)),p_s 38 (.bin .lss (.t 37) (o_i 3))])
 (.cond (.t 38)
 (.seq (.reg [p_s 2 (.mov (.c (.nils 2 (.agg [(.v (.int .i64 0)),(.v (.int .i64 0))]))))])
 .ret)
 .skip))
 (.seq (.reg [p_m 39 6,p_m 2 39])
 .ret))))))))))))
theorem aep:Fun P0 77 1 [(2,false,none)] afl:=b5 Go.Proofs.Tryz.func77 rfl (by decide) (by kernel_rfl) (by decide) rfl (by kernel_rfl) (by kernel_rfl) (by decide)
def qv (rg:List P2):List P2:=if (bt (y6 rg)).length<3 then [] else if (dt (bt (y6 rg))++dt (bt (y6 rg)).reverse).length<3 then [] else dt (bt (y6 rg))++dt (bt (y6 rg)).reverse
theorem asb {x q:P2}:∀{s:List P2},q∈uv x s→q=x∨q∈s
 | [],h=>by simp [uv] at h; exact .inl h
 | e::r,h=>by
  rw [uv] at h;split at h
  ·rcases List.mem_cons.1 h with rfl | h
   ·simp
   ·rcases asb h with rfl | h
    ·simp
    ·simp [h]
  ·simpa using h
theorem a0h (l:List P2):∀{q:P2},q∈ae6 l→q∈l:=by
 refine ae7 (P:=fun l=>∀{q:P2},q∈ae6 l→q∈l) (fun h=>h) (fun l p ih=>?_) l;intro q h;rw [ag9] at h;rcases asb h with rfl | h
 ·simp
 ·exact List.mem_append_left _ (ih h)
theorem ahc {l:List P2} {q:P2} (h:q∈y6 l):q∈l:=a0h l (by simpa [y6] using h)
theorem alr {q:P2}:∀{u:P2} {l:List P2},q∈ry u l→q∈l
 | u,[],h=>h
 | u,v::r,h=>by
  rw [ry] at h;split at h
  ·exact zbb _ (alr h)
  ·rcases List.mem_cons.1 h with rfl | h
   ·simp
   ·exact zbb _ (alr h)
theorem aif {q:P2} {l:List P2} (h:q∈bt l):q∈l:=by
 cases l with
 | nil=>exact h
 | cons v r=>
  rcases List.mem_cons.1 h with rfl | h
  ·simp
  ·exact zbb _ (alr h)
theorem ah2 (l:List P2):∀o∈[g7 l],iv o:=fun o ho=>by
 rw [List.mem_singleton.1 ho];intro x hx;obtain ⟨p,_,rfl⟩:=zai.1 hx;exact ⟨trivial,trivial,trivial⟩
theorem aa1 (l:List P2):(dm l).length-1=(dt l).length:=by simp [dt]
theorem ake (l:List P2):List.take (dt l).length ((dm l).reverse.map ptR)=(dt l).map ptR:=by
 rw [← List.map_take];congr 1;rw [dt,List.dropLast_eq_take,zaq,Nat.min_eq_left (by simp)]
set_option maxHeartbeats 4000000 in
theorem hull_t (rg : List P2) (hl : 1 ≤ rg.length ∧ rg.length ≤ 12) (hn : ∀ p ∈ rg, near29 p) {res : AV} {ro : List Ob}
    (hres:(qv rg=[]∧res=.nils 2 (pnt 0 0)∧ro=[])∨(qv rg≠[]∧res=.own 1000000 0 0 (qv rg).length∧ro=[g7 (qv rg)])) :
    a7 P0 77 [a8 rg] [] res ro:=by
  refine aep rfl (by decide) ?_;have hmx:=d5;have hok:=a26 rg (by omega) hn;simp only [afl,a8,push_cast,↓reduceIte,reduceCtorEq,zB,zE,zA,zS,zL,zD,zM];refine a9 (as':=[a8 rg]) rfl ?_;refine a5 hok rfl trivial ?_;simp only [push_cast,↓reduceIte,reduceCtorEq,zB,zE,zA,zS,zL,zD,zM]
  refine run_loop [(12, false), (10, false), (11, false), (3, false)] (fun vs pos los => ∃ i : Nat, i ≤ rg.length ∧ pos = [] ∧
      (i=0∧vs=[int .i64 i,a8 rg,int .i64 rg.length,.nils 2 (pnt 0 0)]∧los=[] ∨
       i≠0∧vs=[int .i64 i,a8 rg,int .i64 rg.length,.own 2000000 0 0 i]∧los=[g7 (rg.take i)]))
    (fun vs _ _=>match vs with | .r (.v (.int _ a))::_=>(rg.length-a).toNat | _=>0) rfl ?_ ?_
  · simp only [a8,pnt,push_cast,↓reduceIte,reduceCtorEq,zB,zE,zA,zS,zL,zD,zM];exact ⟨0,by omega,.inl ⟨rfl,by simp⟩⟩
  · rintro vs pos los ⟨i,hi,rfl,⟨h0,rfl,rfl⟩ | ⟨h0,rfl,rfl⟩⟩
    · simp only [a8,pnt,push_cast,↓reduceIte,reduceCtorEq,zB,zE,zA,zS,zL,zD,zM];refine b6 (fun hd=>?_) (fun hd=>?_)
      · have hi2:i<rg.length:=by simpa using hd
        obtain ⟨p,hp⟩:∃p,rg[i]?=some p:=⟨rg[i],by simp [hi2]⟩
        have wi:IntKind.i64.wrap ((i:Int)+1)=(i:Int)+1:=a6 (by omega)
        have hN:rg.take (i+1)=[p]:=by
          rw [zas,hp,h0]; rfl
        simp only [a8,zal,aa hp,w9 hp,wi,zam,zan,zaa,push_cast,↓reduceIte,reduceCtorEq,zB,zE,zA,zS,zL,zD,zM]
        repeat refine And.intro (by first | decide | omega | exact fun _=>by decide | (simp +contextual; done) | kernel_rfl) ?_
        exact ⟨⟨i+1,by omega,.inr ⟨by omega,by simp [h0],by rw [hN]; simp [ptR,pnt]⟩⟩,by omega⟩
      · have hi2:¬i<rg.length:=by simpa using hd
        exact absurd hi2 (by omega)
    · simp only [a8,pnt,push_cast,↓reduceIte,reduceCtorEq,zB,zE,zA,zS,zL,zD,zM];refine b6 (fun hd=>?_) (fun hd=>?_)
      · have hi2:i<rg.length:=by simpa using hd
        obtain ⟨p,hp⟩:∃p,rg[i]?=some p:=⟨rg[i],by simp [hi2]⟩
        have wi:IntKind.i64.wrap ((i:Int)+1)=(i:Int)+1:=a6 (by omega)
        have hN:rg.take (i+1)=rg.take i++[p]:=by
          rw [zas,hp]; rfl
        have htk:List.take i ((rg.take i).map ptR)=(rg.take i).map ptR:=zbc (by simp; omega);simp only [a8,zal,aa hp,w9 hp,htk,wi,zam,zan,zaa,push_cast,↓reduceIte,reduceCtorEq,zB,zE,zA,zS,zL,zD,zM]
        repeat refine And.intro (by first | decide | omega | exact fun _=>by decide | (simp +contextual; done) | kernel_rfl) ?_
        exact ⟨⟨i+1,by omega,.inr ⟨by omega,by simp,by rw [hN]; simp [ptR,pnt]⟩⟩,by omega⟩
      · have hi2:i=rg.length:=by
          have:¬i<rg.length:=by simpa using hd
          omega
        subst hi2;rw [List.take_length];simp only [a8,pnt,push_cast,↓reduceIte,reduceCtorEq,zB,zE,zA,zS,zL,zD,zM]
        have hne:rg.map ptR≠[]:=by
          intro h;have:=congrArg List.length h;simp at this;rw [this] at hl;simp at hl
        refine awi 2000000 0 2 _ (rg.map ptR) rfl hne ?_;simp only [pnt,push_cast,↓reduceIte,reduceCtorEq,zB,zE,zA,zS,zL,zD,zM];refine a9 (as':=[.own 1000000 0 0 rg.length,agF]) rfl ?_;refine a5 (po:=[l8 rg]) (a6y rg hl) rfl ⟨⟨rfl,by simp [ym]⟩,trivial⟩ ?_;simp only [l8,pnt,push_cast,↓reduceIte,reduceCtorEq,zB,zE,zA,zS,zL,zD,zM];refine ac8 ?_;simp only [pnt,push_cast,↓reduceIte,reduceCtorEq,zB,zE,zA,zS,zL,zD,zM];obtain ⟨s,hs⟩:∃s,y6 rg=s:=⟨_,rfl⟩
        have hsl:s.length=rg.length:=by rw [← hs,ym]
        have hsn:∀p∈s,near29 p:=fun p hp=>hn p (ahc (hs▸hp));unfold qv at hres;rw [hs] at hres ⊢;refine a9 (as':=[.own 1000000 0 0 s.length]) (by rw [hsl]) ?_;refine a5 (po:=[l8 s]) (a8o s (by omega)) rfl ⟨⟨rfl,by have:=aig s; simp; omega⟩,trivial⟩ ?_;obtain ⟨c,hc⟩:∃c,bt s=c:=⟨_,rfl⟩
        have hcl:c.length≤s.length:=by rw [← hc]; exact aig s
        have hcn:∀p∈c,near29 p:=fun p hp=>hsn p (aif (hc▸hp));rw [hc] at hres ⊢;obtain ⟨G,hG⟩:∃G,zar (s.length-c.length) ((0,0):P2)=G:=⟨_,rfl⟩
        rw [hG];simp only [l8,pnt,push_cast,↓reduceIte,reduceCtorEq,zB,zE,zA,zS,zL,zD,zM];refine b6 (fun hd=>?_) (fun hd=>?_)
        · have hd:c.length<3:=by have:=of_decide_eq_true hd; omega
          rw [if_pos hd] at hres;rcases hres with ⟨_,rfl,rfl⟩ | ⟨h,_⟩
          · simp only [pnt,push_cast,↓reduceIte,reduceCtorEq,zB,zE,zA,zS,zL,zD,zM]
          · exact absurd rfl h
        · have hd:¬c.length<3:=by have:=of_decide_eq_false hd; omega
          rw [if_neg hd] at hres;simp only [pnt,push_cast,↓reduceIte,reduceCtorEq,zB,zE,zA,zS,zL,zD,zM]
          have htk:∀A:List P2,A.length=c.length→List.take c.length ((A++G).map ptR)=A.map ptR:=fun A hA=>by
            rw [zak,List.take_left' (by simp [hA])]
          refine da ?_;rw [htk c rfl];simp only [pnt,push_cast,↓reduceIte,reduceCtorEq,zB,zE,zA,zS,zL,zD,zM];refine a9 (as':=[a8 c]) rfl ?_;refine fw (auv c (by omega) hcn) rfl trivial trivial (ah2 _) ?_;simp only [l8,g7,pnt,push_cast,↓reduceIte,reduceCtorEq,zB,zE,zA,zS,zL,zD,zM];refine ac8 ?_;simp only [pnt,push_cast,↓reduceIte,reduceCtorEq,zB,zE,zA,zS,zL,zD,zM];refine a9 (as':=[.own 1000000 0 0 c.length]) rfl ?_;refine a5 (po:=[l8 (c++G)]) (a79 c G (by omega)) rfl ⟨⟨rfl,by simp⟩,trivial⟩ ?_;simp only [l8,g7,pnt,push_cast,↓reduceIte,reduceCtorEq,zB,zE,zA,zS,zL,zD,zM];refine da ?_;rw [htk c.reverse (by simp)];simp only [pnt,push_cast,↓reduceIte,reduceCtorEq,zB,zE,zA,zS,zL,zD,zM]
          refine a9 (as':=[a8 c.reverse]) rfl ?_;refine fw (auv c.reverse (by simp; omega) (fun p hp=>hcn p (by simpa using hp))) rfl trivial trivial (ah2 _) ?_;have e1:=aa1 c;have e2:=aa1 c.reverse;have e3:=ake c;have e4:=ake c.reverse;simp only [l8,g7,pnt,e1,e2,e3,e4,push_cast,↓reduceIte,reduceCtorEq,zB,zE,zA,zS,zL,zD,zM];have b1:=abk c;have b2:=abk c.reverse;rw [zaz] at b2;refine And.intro ⟨by omega,by omega⟩ ?_;refine b6 (fun hq=>?_) (fun hq=>?_)
          · have hq:(dt c++dt c.reverse).length<3:=by have:=of_decide_eq_true hq; rw [zae]; omega
            rw [if_pos hq] at hres;rcases hres with ⟨_,rfl,rfl⟩ | ⟨h,_⟩
            · simp only [pnt,push_cast,↓reduceIte,reduceCtorEq,zB,zE,zA,zS,zL,zD,zM]
            · exact absurd rfl h
          · have hq:¬(dt c++dt c.reverse).length<3:=by have:=of_decide_eq_false hq; rw [zae]; omega
            rw [if_neg hq] at hres;rcases hres with ⟨h,_,_⟩ | ⟨_,rfl,rfl⟩
            · rw [h] at hq;exact absurd (by simp) hq
            · simp only [g7,pnt,push_cast,↓reduceIte,reduceCtorEq,zB,zE,zA,zS,zL,zD,zM];simp

def bbh (p q:P2):Prop:=p.1<q.1∨(p.1=q.1∧p.2≤q.2)

def shP (d p:P2):P2:=(p.1+d.1,p.2+d.2)


def a0a (v:Bool) (bs:List Bool):Bool:=((bs.dropWhile (· == v)).dropWhile (· == !v)).all (· == v)
theorem az9 (f:P2→Bool) (l:List P2) (v:Bool) (h:a0a v (l.map f)=true):Uni f l:=by
 refine ⟨v,l.takeWhile (fun p=>f p == v),(l.dropWhile (fun p=>f p == v)).takeWhile (fun p=>f p == !v),(l.dropWhile (fun p=>f p == v)).dropWhile (fun p=>f p == !v),?_,?_,?_,?_⟩
 ·rw [List.takeWhile_append_dropWhile,List.takeWhile_append_dropWhile]
 ·intro a ha;have:=List.all_takeWhile (p:=fun p=>f p == v) (l:=l);have:=List.all_eq_true.1 this a ha;simpa using this
 ·intro a ha;have:=List.all_takeWhile (p:=fun p=>f p == !v) (l:=l.dropWhile (fun p=>f p == v));have:=List.all_eq_true.1 this a ha;simpa using this
 ·intro a ha;unfold a0a at h;rw [List.dropWhile_map,List.dropWhile_map,List.all_map] at h;have:=List.all_eq_true.1 h a ha;simpa using this
theorem att (a b c X t:Int) (h:b=a+c):a0a (decide (X+a≤t)) [decide (X+a≤t),decide (X+b≤t),decide (X+c≤t),decide (X + -a≤t),decide (X + -b≤t),decide (X + -c≤t)]=true:=by
 subst h
 cases h0:decide (X+a≤t)<;>cases h1:decide (X+(a+c)≤t)<;>cases h2:decide (X+c≤t)<;>cases h3:decide (X + -a≤t)<;>cases h4:decide (X + -(a+c)≤t)<;>cases h5:decide (X + -c≤t) <;>
  first
  | rfl
  | (exfalso; simp only [decide_eq_true_iff,decide_eq_false_iff_not] at h0 h1 h2 h3 h4 h5; omega)
def afm (z:Ei) (r:Nat):List P2:=(List.range 6).map fun i=>(hx z r i,hy z r i)
theorem a8c (z:Ei) (r:Nat):rl z r 6=(afm z r).map ptR:=by
 unfold rl afm;rw [List.map_map]
 rfl
theorem ash (z:Ei) (r:Nat):(afm z r).length=6:=by simp [afm]
theorem a73 (r:Nat) (hr:r≤12):(kx r 1=kx r 0+kx r 2∧kx r 3=-kx r 0∧kx r 4=-kx r 1∧kx r 5=-kx r 2)∧(ky r 1=ky r 0+ky r 2∧ky r 3=-ky r 0∧ky r 4=-ky r 1∧ky r 5=-ky r 2):=by
 have:∀j:Fin 13,(kx j.val 1=kx j.val 0+kx j.val 2∧kx j.val 3=-kx j.val 0∧kx j.val 4=-kx j.val 1∧kx j.val 5=-kx j.val 2)∧(ky j.val 1=ky j.val 0+ky j.val 2∧ky j.val 3=-ky j.val 0∧ky j.val 4=-ky j.val 1∧ky j.val 5=-ky j.val 2):=by decide +kernel
 exact this ⟨r,by omega⟩
theorem asg (z:Ei) (r:Nat) (hr:r≤12) (d:P2):alx ((afm z r).map (shP d)):=fun a c=>by
 obtain ⟨⟨x1,x3,x4,x5⟩,y1,y3,y4,y5⟩:=a73 r hr;have e:((afm z r).map (shP d)).map (thr a c)=[thr a c (hx z r 0+d.1,hy z r 0+d.2),thr a c (hx z r 1+d.1,hy z r 1+d.2),thr a c (hx z r 2+d.1,hy z r 2+d.2),thr a c (hx z r 3+d.1,hy z r 3+d.2),thr a c (hx z r 4+d.1,hy z r 4+d.2),thr a c (hx z r 5+d.1,hy z r 5+d.2)]:=rfl;refine az9 _ _ (thr a c (hx z r 0+d.1,hy z r 0+d.2)) ?_;rw [e];unfold thr sel;by_cases ha:a=0
 ·simp only [if_pos ha,bd,x3,x4,x5];have:=att (kx r 0) (kx r 1) (kx r 2) (3*cx z r+d.1) c x1;simp only [show ∀k:Int,3*cx z r+k+d.1=3*cx z r+d.1+k from fun k=>by omega];exact this
 ·simp only [if_neg ha,ba,y3,y4,y5];have:=att (ky r 0) (ky r 1) (ky r 2) (3*cy z r+d.2) c y1;simp only [show ∀k:Int,3*cy z r+k+d.2=3*cy z r+d.2+k from fun k=>by omega];exact this
theorem a76:a7 P0 220 [a8 [],int .i64 0,int .i64 0,agF] [] (.tup []) []:=by
 refine pg rfl (by simp) ?_;simp only [ln,agF,a8,push_cast,↓reduceIte,reduceCtorEq,zB,zE,zA,zS,zL,zD,zM];refine run_loop [(0,false),(1,false),(2,false),(3,false),(8,false)] (fun vs pos los=>vs=[a8 [],int .i64 0,int .i64 0,agF,int .i64 1]∧pos=[]∧los=[]) (fun _ _ _=>0) rfl ?_ ?_
 ·simp only [agF,pnt,a8,push_cast,↓reduceIte,reduceCtorEq,zB,zE,zA,zS,zL,zD,zM]
  rfl
 ·rintro vs pos los ⟨rfl,rfl,rfl⟩;have z0:decide ((1:Int)<0)=false:=rfl;simp only [agF,pnt,a8,z0,push_cast,↓reduceIte,reduceCtorEq,zB,zE,zA,zS,zL,zD,zM]
theorem a7m (lim:Int):a7 P0 183 [a8 [],int .i64 0,int .i64 0,int .i64 lim,agF] [] (.tup []) []:=by
 refine qi rfl (by simp) ?_;simp only [mn,agF,pnt,a8,push_cast,↓reduceIte,reduceCtorEq,zB,zE,zA,zS,zL,zD,zM];refine run_loop [(0,false),(1,false),(2,false),(3,false),(4,false),(10,false),(11,false)] (fun vs pos los=>vs=[a8 [],int .i64 0,int .i64 0,int .i64 lim,agF,bl true,bl true]∧pos=[]∧los=[]) (fun _ _ _=>0) rfl ?_ ?_
 ·simp only [agF,pnt,a8,push_cast,↓reduceIte,reduceCtorEq,zB,zE,zA,zS,zL,zD,zM]
 ·rintro vs pos los ⟨rfl,rfl,rfl⟩;have w0:IntKind.i64.wrap ((0:Int)-0)=0:=rfl;have d0:decide ((0:Int)≤12)=true:=rfl;simp only [agF,pnt,a8,w0,d0,push_cast,↓reduceIte,reduceCtorEq,zB,zE,zA,zS,zL,zD,zM];refine a9 (as':=[a8 [],int .i64 0,int .i64 0,agF]) rfl ?_;refine a5 a76 rfl trivial ?_;simp only [push_cast,↓reduceIte,reduceCtorEq,zB,zE,zA,zS,zL,zD,zM]
theorem a6z:a7 P0 129 [a8 [],agF] [] (.tup []) []:=by
 refine qf rfl (by simp) ?_;have w:IntKind.u64.wrap 0=0:=rfl;have h:=ayt 0 (by decide);simp only [mj,agF,pnt,a8,w,push_cast,↓reduceIte,reduceCtorEq,zB,zE,zA,zS,zL,zD,zM];refine a9 (as':=[int .u64 ((0:Nat):Int)]) rfl ?_;refine a5 h rfl trivial ?_;simp only [push_cast,↓reduceIte,reduceCtorEq,zB,zE,zA,zS,zL,zD,zM];refine a9 (as':=[a8 [],int .i64 0,int .i64 0,int .i64 (awk 0),agF]) rfl ?_;refine a5 (a7m _) rfl trivial ?_;simp only [push_cast,↓reduceIte,reduceCtorEq,zB,zE,zA,zS,zL,zD,zM]
theorem a8p:a7 P0 131 [a8 []] [] (a8 []) []:=by
 refine qk rfl (by simp) ?_;have z0:decide ((0:Int)<2)=true:=rfl;simp only [mv,pnt,a8,z0,push_cast,↓reduceIte,reduceCtorEq,zB,zE,zA,zS,zL,zD,zM]
theorem a78:a7 P0 77 [a8 []] [] (.nils 2 (pnt 0 0)) []:=by
 refine aep rfl (by decide) ?_;have hok:=a26 [] (by simp) (fun p hp=>by simp at hp);simp only [afl,a8,push_cast,↓reduceIte,reduceCtorEq,zB,zE,zA,zS,zL,zD,zM];refine a9 (as':=[a8 []]) rfl ?_;refine a5 hok rfl trivial ?_;simp only [push_cast,↓reduceIte,reduceCtorEq,zB,zE,zA,zS,zL,zD,zM];refine run_loop [(12,false),(10,false),(11,false),(3,false)] (fun vs pos los=>vs=[int .i64 0,a8 [],int .i64 0,.nils 2 (pnt 0 0)]∧pos=[]∧los=[]) (fun _ _ _=>0) rfl ?_ ?_
 ·simp only [a8,pnt,push_cast,↓reduceIte,reduceCtorEq,zB,zE,zA,zS,zL,zD,zM]
  try rfl
 ·rintro vs pos los ⟨rfl,rfl,rfl⟩;have z0:decide ((0:Int)<0)=false:=rfl;simp only [a8,pnt,z0,push_cast,↓reduceIte,reduceCtorEq,zB,zE,zA,zS,zL,zD,zM];refine a9 (as':=[a8 [],agF]) rfl ?_;refine a5 a6z rfl trivial ?_;simp only [pnt,push_cast,↓reduceIte,reduceCtorEq,zB,zE,zA,zS,zL,zD,zM];refine a9 (as':=[a8 []]) rfl ?_;refine a5 a8p rfl trivial ?_;have z1:decide ((0:Int)<3)=true:=rfl;simp only [pnt,a8,z1,push_cast,↓reduceIte,reduceCtorEq,zB,zE,zA,zS,zL,zD,zM]

noncomputable def af3:PC:=
  (.seq (.reg [p_a 2 (.box (.t 0)),p_s 4 (.mov (.c (.nils 2 (.agg [(.v (.int .i64 0)),(.v (.int .i64 0))]))))])
 (.seq (.reg [p_m 15 1,p_c 16 1 70 [.t 15],p_m 14 16,p_s 17 (.ext (.t 14) 0),p_s 18 (.ext (.t 14) 1),p_a 5 (.new [(.r (.v (.int .i64 0))),(.r (.v (.int .i64 0))),(.r (.v (.int .i64 0)))]),
 ⟨none,none,0,.act (.st 3 (.t 5) (.t 17))⟩,p_m 6 18])
 (.seq (.seq (.reg [p_s 19 (.ld (some 4) (.t 2)),p_c 20 2 66 [.t 19],p_s 21 (.bin .neq (.t 20) (o_i 0)),p_m 22 21,p_g 23 22 false (.mov (.t 6)),p_g 24 22 false (.bin .neq (.t 23) (o_i 0)),
 p_s 25 (.pick (.t 22) (.c (.r (.v (.bool true)))) (.t 24)),p_m 26 25,p_g 27 26 false (.fa 0 (.t 5)),p_g 28 26 false (.ld none (.t 27)),p_g 29 26 false (.fa 3 (.t 2)),
 p_g 30 26 false (.ld none (.t 29)),p_g 31 26 false (.bin .neq (.t 28) (.t 30)),p_s 32 (.pick (.t 26) (.c (.r (.v (.bool true)))) (.t 31)),p_m 33 32,p_g 34 33 false (.ld (some 4) (.t 2)),
 p_g 35 33 false (.ld (some 3) (.t 5)),⟨(some 36),(some (33,false)),3,.call 72 [(.t 34),(.t 35)]⟩,p_g 37 33 false (.un .not (.t 36)),p_s 38 (.pick (.t 33) (.c (.r (.v (.bool true)))) (.t 37))])
 (.cond (.t 38)
 (.seq (.reg [p_s 4 (.mov (.c (.nils 2 (.agg [(.v (.int .i64 0)),(.v (.int .i64 0))]))))])
 .ret)
 .skip))
 (.seq (.reg [p_s 40 (.fa 1 (.t 5)),p_s 41 (.ld (some 2) (.t 40)),p_s 42 (.fa 0 (.t 5)),p_s 43 (.ld none (.t 42)),p_c 44 4 73 [.t 41,.t 43],p_m 39 44,p_s 45 (.ext (.t 39) 0),
 p_s 46 (.ext (.t 39) 1),p_m 7 45,p_m 8 46])
 (.seq (.reg [p_s 48 (.ld (some 4) (.t 2)),p_c 49 5 74 [.t 48],p_m 47 49,p_s 50 (.ext (.t 47) 0),p_s 51 (.ext (.t 47) 1),p_s 52 (.ext (.t 47) 2),p_m 9 50,p_m 10 51,p_m 11 52])
 (.seq (.seq (.reg [p_m 53 7,p_s 54 (.len false (.t 53)),p_s 55 (.mov (o_i 0))])
 (.block 0 (.loop (.seq (.reg [p_s 56 (.bin .lss (.t 55) (.t 54))])
 (.seq (.cond (.t 56)
 .skip
 (.exit 0))
 (.seq (.block 1 (.seq (.reg [p_m 57 55,p_m 12 57])
 (.seq (.drw [p_m 58 7,p_m 59 12,p_s 60 (.ia 2 (.agg [(.v (.int .i64 0)),(.v (.int .i64 0))]) (.t 58) (.t 59)),p_s 61 (.iaa 2 1 (.t 60) (o_i 0)),p_s 62 (.ld none (.t 61)),
 p_m 63 9,p_s 64 (.bin .mul (o_i 3) (.t 63)),p_s 65 (.bin .sub (.t 62) (.t 64)),p_s 66 (.ia 2 (.agg [(.v (.int .i64 0)),(.v (.int .i64 0))]) (.t 58) (.t 59)),
 p_s 67 (.iaa 2 1 (.t 66) (o_i 0)),⟨none,none,0,.act (.st 1 (.t 67) (.t 65))⟩]
 [[],[],[0,1],[0,1,2],[0,1,2,3],[],[5],[0,1,2,3,4,5,6],[0,1],[0,1,2,3,4,5,6,7,8],[0,1,2,3,4,5,6,7,8,9]])
 (.drw [p_m 68 7,p_m 69 12,p_s 70 (.ia 2 (.agg [(.v (.int .i64 0)),(.v (.int .i64 0))]) (.t 68) (.t 69)),p_s 71 (.iaa 2 1 (.t 70) (o_i 1)),p_s 72 (.ld none (.t 71)),
 p_m 73 10,p_s 74 (.bin .mul (o_i 3) (.t 73)),p_s 75 (.bin .sub (.t 72) (.t 74)),p_s 76 (.ia 2 (.agg [(.v (.int .i64 0)),(.v (.int .i64 0))]) (.t 68) (.t 69)),
 p_s 77 (.iaa 2 1 (.t 76) (o_i 1)),⟨none,none,0,.act (.st 1 (.t 77) (.t 75))⟩]
 [[],[],[0,1],[0,1,2],[0,1,2,3],[],[5],[0,1,2,3,4,5,6],[0,1],[0,1,2,3,4,5,6,7,8],[0,1,2,3,4,5,6,7,8,9]]))))
 (.reg [p_s 78 (.bin .add (.t 55) (o_i 1)),p_m 55 78])))))))
 (.seq (.reg [p_s 79 (.ld (some 4) (.t 2)),p_c 80 6 75 [.t 79],p_m 13 80])
 (.seq (.reg [p_m 81 7,p_m 82 13,p_s 83 (.bin .mul (o_i (-192)) (.t 82)),p_m 84 13,p_s 85 (.bin .mul (o_i (-192)) (.t 84)),p_s 86 (.build [(.r (.v (.int .i64 0))),(.r (.v (.int .i64 0)))] [(0,1,(.t 83)),(1,1,(.t 85))]),
 p_m 87 13,p_s 88 (.bin .mul (o_i 12480) (.t 87)),p_m 89 13,p_s 90 (.bin .mul (o_i 12480) (.t 89)),p_s 91 (.build [(.r (.v (.int .i64 0))),(.r (.v (.int .i64 0)))] [(0,1,(.t 88)),(1,1,(.t 90))]),
 p_c 92 7 76 [.t 81,.t 86,.t 91],p_m 7 92])
 (.seq (.reg [p_m 93 7,p_m 94 13,p_s 95 (.bin .mul (o_i 3) (.t 94)),p_c 96 8 78 [.t 93,.t 95],p_c 97 9 77 [.t 96],p_m 4 97])
 .ret)))))))))
theorem ai7:Fun P0 39 2 [(4,false,none)] af3:=b5 Go.Proofs.Tryz.func39 rfl (by decide) (by kernel_rfl) (by decide) rfl (by kernel_rfl) (by kernel_rfl) (by decide)
theorem ac4 {l:Lin} (hl:l.ok) {rg:List P2} {p:P2} (h:p∈t6 l rg):ar l p=true:=by
 cases rg with
 | nil=>simp [t6,q9] at h
 | cons a r=>
  rw [adn l hl (a::r) a rfl] at h;exact (List.mem_filter.1 h).2
theorem auw (lo hi:P2) {a b:P2} {rg:List P2} (h:sa a b rg):sa lo hi (zu lo hi rg):=by
 have e:zu lo hi rg=t6 ⟨1,hi.2,false⟩ (t6 ⟨1,lo.2,true⟩ (t6 ⟨0,hi.1,false⟩ (t6 ⟨0,lo.1,true⟩ rg))):=rfl
 have h1:sa (lo.1,a.2) (b.1,b.2) (t6 ⟨0,lo.1,true⟩ rg):=fun p hp=>by
  have k:=ac4 (l:=⟨0,lo.1,true⟩) (.inl rfl) hp;have i:=aeu (l:=⟨0,lo.1,true⟩) (.inl rfl) h p hp;simp [ar,sel] at k;simp only;omega
 have h2:sa (lo.1,a.2) (hi.1,b.2) (t6 ⟨0,hi.1,false⟩ (t6 ⟨0,lo.1,true⟩ rg)):=fun p hp=>by
  have k:=ac4 (l:=⟨0,hi.1,false⟩) (.inl rfl) hp;have i:=aeu (l:=⟨0,hi.1,false⟩) (.inl rfl) h1 p hp;simp [ar,sel] at k;simp only at i ⊢;omega
 have h3:sa (lo.1,lo.2) (hi.1,b.2) (t6 ⟨1,lo.2,true⟩ (t6 ⟨0,hi.1,false⟩ (t6 ⟨0,lo.1,true⟩ rg))):=fun p hp=>by
  have k:=ac4 (l:=⟨1,lo.2,true⟩) (.inr rfl) hp;have i:=aeu (l:=⟨1,lo.2,true⟩) (.inr rfl) h2 p hp;simp [ar,sel] at k;simp only at i ⊢;omega
 rw [e];intro p hp;have k:=ac4 (l:=⟨1,hi.2,false⟩) (.inr rfl) hp;have i:=aeu (l:=⟨1,hi.2,false⟩) (.inr rfl) h3 p hp;simp [ar,sel] at k;simp only at i ⊢;omega
def z6 (t:Til):Int:=2^(18-t.z).toNat
def aiq (t:Til):Int:=2^(30-t.z).toNat
def lv (t:Til) (z:Ei):List P2:=(afm z t.r.toNat).map (shP (-(3*(t.x*aiq t)),-(3*(t.y*aiq t))))
def agq (t:Til) (z:Ei):List P2:=zu (-192*z6 t,-192*z6 t) (12480*z6 t,12480*z6 t) (lv t z)
def v9 (t:Til) (z:Ei):List P2:=if tch z t.r.toNat (2^(30-t.z).toNat) t.x t.y=true then qv (ej (3*z6 t) (agq t z)) else []
set_option maxHeartbeats 1000000 in
theorem aq3 (t:Til) (h:tis t=true) (hf:fine t=false) (z:Ei) (hk:okc t.r.toNat z) (hz:z.In 1073741824) (hb:uz z t.r.toNat) {res:AV} {ro:List Ob}
  (hres:(v9 t z=[]∧res=.nils 2 (pnt 0 0)∧ro=[])∨(v9 t z≠[]∧res=.own 1000000 0 0 (v9 t z).length∧ro=[g7 (v9 t z)])) :
  a7 P0 39 [t.v,uw (s9 t.r.toNat z)] [] res ro:=by
 refine ai7 rfl (by decide) ?_;have hr:0≤t.z∧t.z≤18∧0≤t.r∧t.r≤12∧0≤t.x∧t.x<2^t.z.toNat∧0≤t.y∧t.y<2^t.z.toNat:=by simpa [tis] using h
 have ho:=a6u h;have hOk:=a7p t ho;rw [h,hf] at hOk;obtain ⟨w1,w2,w3,w4⟩:=yi t.r.toNat z hk;have hic:=aoz (s9 t.r.toNat z) w4 w1;rw [w2,w3,Int.toNat_of_nonneg hr.2.2.1] at hic;have e1:(t.r == t.r)=true:=by simp
 have htc:=au4 t h z t.r hr.2.2.1 hk hb;simp only [af3,Til.v,uw,push_cast,↓reduceIte,reduceCtorEq,zB,zE,zA,zS,zL,zD,zM];refine a9 (as':=[uw (s9 t.r.toNat z)]) rfl ?_;refine a5 hic rfl trivial ?_;simp only [cel,push_cast,↓reduceIte,reduceCtorEq,zB,zE,zA,zS,zL,zD,zM];refine a9 (as':=[t.v]) rfl ?_;refine a5 hOk rfl trivial ?_;have n0:((0:Int) != 0)=false:=rfl;have n1:(t.r != t.r)=false:=by simp
 simp only [n0,n1,push_cast,↓reduceIte,reduceCtorEq,zB,zE,zA,zS,zL,zD,zM];refine a9 (as':=[t.v,cel t.r z]) rfl ?_;refine a5 htc rfl trivial ?_;simp only [push_cast,↓reduceIte,reduceCtorEq,zB,zE,zA,zS,zL,zD,zM];cases hT:tch z t.r.toNat (2^(30-t.z).toNat) t.x t.y with
 | false=>
  have hN:v9 t z=[]:=by
   unfold v9;rw [hT];exact if_neg (by decide)
  rcases hres with ⟨_,rfl,rfl⟩ | ⟨h,_⟩
  ·simp only [pnt,push_cast,↓reduceIte,reduceCtorEq,zB,zE,zA,zS,zL,zD,zM]
  ·exact absurd hN h
 | true=>
  have hN:v9 t z=qv (ej (3*z6 t) (agq t z)):=by
   unfold v9;rw [hT];exact if_pos rfl
  rw [hN] at hres;simp only [push_cast,↓reduceIte,reduceCtorEq,zB,zE,zA,zS,zL,zD,zM];refine a9 (as':=[z.v,int .i64 t.r]) rfl ?_;refine a5 (a27 z t.r hz ⟨hr.2.2.1,hr.2.2.2.1⟩) rfl trivial ?_;simp only [pnt,push_cast,↓reduceIte,reduceCtorEq,zB,zE,zA,zS,zL,zD,zM];refine a9 (as':=[t.v]) rfl ?_;refine a5 (arp t h) rfl trivial ?_;rw [a8c];simp only [pnt,push_cast,↓reduceIte,reduceCtorEq,zB,zE,zA,zS,zL,zD,zM];have hin:=aec h;have hsd:=aa9 ⟨hr.1,hr.2.1⟩;obtain ⟨X0,hX0⟩:∃X0,t.x*2^(30-t.z).toNat=X0:=⟨_,rfl⟩
  obtain ⟨Y0,hY0⟩:∃Y0,t.y*2^(30-t.z).toNat=Y0:=⟨_,rfl⟩
  obtain ⟨S0,hS0⟩:∃S0:Int,2^(30-t.z).toNat=S0:=⟨_,rfl⟩
  rw [Int.add_mul,Int.one_mul,Int.add_mul,Int.one_mul] at hin;rw [hX0,hY0,hS0] at hin;rw [hS0] at hsd;have hRP:lv t z=(afm z t.r.toNat).map (shP (-(3*X0),-(3*Y0))):=by unfold lv aiq; rw [hX0,hY0]
  obtain ⟨R,hR⟩:∃R,afm z t.r.toNat=R:=⟨_,rfl⟩
  have hRl:R.length=6:=by rw [← hR,ash]
  have hRb:∀p∈R,(-4294967296≤p.1∧p.1≤4294967296)∧(-4294967296≤p.2∧p.2≤4294967296):=fun p hp=>by
   rw [← hR] at hp;obtain ⟨i,hi,rfl⟩:=zai.1 hp;exact hb i (List.mem_range.1 hi)
  rw [hX0,hY0,hS0,hR];rw [hR] at hRP;obtain ⟨d,hd⟩:∃d:P2,(-(3*X0),-(3*Y0))=d:=⟨_,rfl⟩
  rw [hd] at hRP
  refine run_loop [(55,false),(54,false),(7,false),(9,false),(10,false),(2,false)] (fun vs pos los=>∃i:Nat,i≤6∧vs=[int .i64 i,int .i64 6,.own 2000000 0 0 6,int .i64 X0,int .i64 Y0,.ptr 2000001 0 0]∧pos=[]∧los=[g7 ((R.take i).map (shP d)++R.drop i),.box [int .i64 t.z,int .i64 t.x,int .i64 t.y,int .i64 t.r]])
   (fun vs _ _=>match vs with | .r (.v (.int _ a))::_=>(6-a).toNat | _=>0) rfl ?_ ?_
  ·simp only [g7,pnt,push_cast,↓reduceIte,reduceCtorEq,zB,zE,zA,zS,zL,zD,zM];exact ⟨0,by omega,rfl,by simp⟩
  ·rintro vs pos los ⟨i,hi,rfl,rfl,rfl⟩;simp only [g7,pnt,push_cast,↓reduceIte,reduceCtorEq,zB,zE,zA,zS,zL,zD,zM];refine b6 (fun hd6=>?_) (fun hd6=>?_)
   ·have hi2:i<6:=by have:=of_decide_eq_true hd6; omega
    obtain ⟨p,hp⟩:∃p,R[i]'(by omega)=p:=⟨_,rfl⟩
    have hpb:=hRb p (hp▸List.getElem_mem _);have wi:IntKind.i64.wrap ((i:Int)+1)=(i:Int)+1:=a6 (by omega);have hdr:R.drop i=p::R.drop (i+1):=by rw [List.drop_eq_getElem_cons (by omega),hp]
    have htk:(R.take (i+1)).map (shP d)=(R.take i).map (shP d)++[shP d p]:=by rw [zba (by omega),hp,zak]; rfl
    obtain ⟨A,hA⟩:∃A,(R.take i).map (shP d)=A:=⟨_,rfl⟩
    have hAl:A.length=i:=by rw [← hA]; simp; omega
    obtain ⟨T,hT⟩:∃T,R.drop (i+1)=T:=⟨_,rfl⟩
    rw [hdr,hA,hT]
    have hg:∀q:P2,∀z,((A++q::T).map ptR).getD i z=.agg [.v (.int .i64 q.1),.v (.int .i64 q.2)]:=fun q z=>by
     rw [← hAl]; exact yd A T q z
    have hs:∀(q:P2) (a b:Int),((A++q::T).map ptR).set i (.agg [.v (.int .i64 a),.v (.int .i64 b)])=(A++(a,b)::T).map ptR:=fun q a b=>by
     rw [show (RV.agg [.v (.int .i64 a),.v (.int .i64 b)])=ptR (a,b) from rfl,← zah,← hAl];congr 1;simp
    have m1:IntKind.i64.wrap (3*X0)=3*X0:=a6 (by omega);have m2:IntKind.i64.wrap (3*Y0)=3*Y0:=a6 (by omega);have m3:IntKind.i64.wrap (p.1-3*X0)=p.1-3*X0:=a6 (by omega);have m4:IntKind.i64.wrap (p.2-3*Y0)=p.2-3*Y0:=a6 (by omega);simp only [g7,pnt,hg,hs,m1,m2,m3,m4,wi,zam,zan,zaa,Nat.zero_mul,Nat.mul_one,List.set_cons_zero,List.set_cons_succ,zab,zac,zaa,push_cast,↓reduceIte,reduceCtorEq,zB,zE,zA,zS,zL,zD,zM]
    repeat refine And.intro (by first | exact ⟨by omega,by omega⟩ | kernel_rfl) ?_
    refine ⟨⟨i+1,by omega,by simp,?_⟩,by omega⟩;rw [htk,hA,hT,← hd];simp [g7,pnt,shP,Int.sub_eq_add_neg]
   ·have hi2:i=6:=by have:=of_decide_eq_false hd6; omega
    subst hi2
    have hfin:(R.take 6).map (shP d)++R.drop 6=lv t z:=by
     rw [hRP,zbc (by omega),List.drop_of_length_le (by omega),List.append_nil]
    rw [hfin];have hut:=aw3 t hr.1 hr.2.1
    have hu1:1≤z6 t∧z6 t≤262144:=by
     have h1:2^(18-t.z).toNat≤2^18:=Nat.pow_le_pow_right (by decide) (by omega);have h3:((2^(18-t.z).toNat:Nat):Int)=(2:Int)^(18-t.z).toNat:=by simp
     have h4:0<2^(18-t.z).toNat:=Nat.pow_pos (by decide);unfold z6;omega
    simp only [push_cast,↓reduceIte,reduceCtorEq,zB,zE,zA,zS,zL,zD,zM];refine a9 (as':=[t.v]) rfl ?_;refine a5 hut rfl trivial ?_;rw [show (2:Int)^(18-t.z).toNat=z6 t from rfl];obtain ⟨U,hU⟩:∃U,z6 t=U:=⟨_,rfl⟩
    rw [hU] at hu1 hres ⊢;have m1:IntKind.i64.wrap (-192*U)=-192*U:=a6 (by omega);have m2:IntKind.i64.wrap (12480*U)=12480*U:=a6 (by omega);have m3:IntKind.i64.wrap (3*U)=3*U:=a6 (by omega);simp only [g7,pnt,m1,m2,m3,push_cast,↓reduceIte,reduceCtorEq,zB,zE,zA,zS,zL,zD,zM];have hk0:=ar9 t.r.toNat 0 (by omega) (by decide);have hb0:=hb 0 (by decide);rw [bd,ba] at hb0
    have hRI:sa (3*cx z t.r.toNat-100000000-3*X0,3*cy z t.r.toNat-100000000-3*Y0) (3*cx z t.r.toNat+100000000-3*X0,3*cy z t.r.toNat+100000000-3*Y0) (lv t z):=fun p hp=>by
     rw [hRP,← hR,← hd] at hp;obtain ⟨q,hq,rfl⟩:=zai.1 hp;obtain ⟨i,hi,rfl⟩:=zai.1 hq;have hk:=ar9 t.r.toNat i (by omega) (List.mem_range.1 hi);simp only [shP,bd,ba];omega
    have hRL:(lv t z).length=6:=by rw [hRP]; simp [hRl]
    have hHu:alx (lv t z):=by rw [hRP,← hR]; exact asg z _ (by omega) d
    obtain ⟨c1,c2,c3⟩:=a87 (-192*U,-192*U) (12480*U,12480*U) (by simp only; omega) (by simp only; omega) hRI (by omega) (by simp only; omega) (by simp only; omega);have c4:=auw (-192*U,-192*U) (12480*U,12480*U) hRI
    have c5:(zu (-192*U,-192*U) (12480*U,12480*U) (lv t z)).length≤10:=by
     have:=(apc (lo:=(-192*U,-192*U)) (hi:=(12480*U,12480*U)) hHu 4 (Nat.le_refl _)).2;rw [hRL] at this;exact this
    have hW:agq t z=zu (-192*U,-192*U) (12480*U,12480*U) (lv t z):=by unfold agq; rw [hU]
    rw [← hW] at c1 c2 c3 c4 c5;obtain ⟨W,hW2⟩:∃W,agq t z=W:=⟨_,rfl⟩
    rw [hW2] at c1 c2 c3 c4 c5 hres;have htk6:List.take 6 ((lv t z).map ptR)=(lv t z).map ptR:=zbc (by simp [hRL]);refine f6 ?_;rw [htk6];simp only [pnt,push_cast,↓reduceIte,reduceCtorEq,zB,zE,zA,zS,zL,zD,zM];refine a9 (as':=[a8 (lv t z),pv2 (-192*U,-192*U),pv2 (12480*U,12480*U)]) rfl ?_;refine a5 c1 rfl trivial ?_;simp only [g7,pnt,m3,push_cast,↓reduceIte,reduceCtorEq,zB,zE,zA,zS,zL,zD,zM];refine f6 ?_
    try rw [j7]
    simp only [pnt,push_cast,↓reduceIte,reduceCtorEq,zB,zE,zA,zS,zL,zD,zM];refine a9 (as':=[a8 W,int .i64 (3*U)]) rfl ?_;by_cases hWe:W=[]
    ·refine a5 (cfloor_r (3*U) (by omega) W c3 (.inl ⟨hWe,rfl,rfl⟩)) rfl trivial ?_;simp only [pnt,push_cast,↓reduceIte,reduceCtorEq,zB,zE,zA,zS,zL,zD,zM];refine a9 (as':=[a8 []]) rfl ?_;refine a5 a78 rfl trivial ?_;have h0:qv (ej (3*U) W)=[]:=by rw [hWe]; rfl
     rw [h0] at hres;rcases hres with ⟨_,rfl,rfl⟩ | ⟨h,_⟩
     ·simp only [pnt,push_cast,↓reduceIte,reduceCtorEq,zB,zE,zA,zS,zL,zD,zM]
     ·exact absurd rfl h
    ·refine a5 (cfloor_r (3*U) (by omega) W c3 (.inr ⟨hWe,rfl,rfl⟩)) rfl trivial ?_;simp only [g7,pnt,push_cast,↓reduceIte,reduceCtorEq,zB,zE,zA,zS,zL,zD,zM];refine f6 ?_
     try rw [j7]
     simp only [pnt,push_cast,↓reduceIte,reduceCtorEq,zB,zE,zA,zS,zL,zD,zM];refine a9 (as':=[a8 (ej (3*U) W)]) rfl ?_;have hFl:(ej (3*U) W).length=W.length:=by simp [ej]
     have hWl:1≤W.length:=by
      cases W with
      | nil=>exact absurd rfl hWe
      | cons a r=>simp
     have hFn:∀p∈ej (3*U) W,near29 p:=fun p hp=>by
      obtain ⟨q,hq,rfl⟩:=zai.1 hp;have:=c4 q hq;simp only at this;have e1:-64≤q.1/(3*U):=(zat (by omega)).2 (by omega);have e2:q.1/(3*U)<4161:=(zau (by omega)).2 (by omega);have e3:-64≤q.2/(3*U):=(zat (by omega)).2 (by omega);have e4:q.2/(3*U)<4161:=(zau (by omega)).2 (by omega);unfold near29;simp only;omega
     rcases hres with ⟨a,rfl,rfl⟩ | ⟨a,rfl,rfl⟩
     ·refine a5 (hull_t (ej (3*U) W) (by omega) hFn (.inl ⟨a,rfl,rfl⟩)) rfl trivial ?_;simp only [g7,pnt,push_cast,↓reduceIte,reduceCtorEq,zB,zE,zA,zS,zL,zD,zM]
     ·refine a5 (hull_t (ej (3*U) W) (by omega) hFn (.inr ⟨a,rfl,rfl⟩)) rfl trivial ?_;simp only [g7,pnt,push_cast,↓reduceIte,reduceCtorEq,zB,zE,zA,zS,zL,zD,zM]
theorem aq4 (t:Til) (h:tis t=true) (hf:fine t=false) (z:Ei) (hk:okc t.r.toNat z) (hb:uz z t.r.toNat) :
  a7 P0 39 [t.v,uw (s9 t.r.toNat z)] [] (.own 1000000 0 0 (v9 t z).length) [g7 (v9 t z)]:=by
 by_cases h0:v9 t z=[]
 ·have:=aiw (aq3 t h hf z hk hk.2.1 hb (.inl ⟨h0,rfl,rfl⟩));rw [h0];exact this
 ·exact aq3 t h hf z hk hk.2.1 hb (.inr ⟨h0,rfl,rfl⟩)
theorem a1k (rg:List P2):(qv rg).length≤2*rg.length:=by
 have h1:=aig (y6 rg);rw [ym] at h1;have h2:=abk (bt (y6 rg));have h3:=abk (bt (y6 rg)).reverse;rw [zaz] at h3;have h4:=aa1 (bt (y6 rg));have h5:=aa1 (bt (y6 rg)).reverse;unfold qv;split
 ·simp
 ·split
  ·simp
  ·rw [zae]; omega
theorem axc (t:Til) (hr:t.r≤12) (z:Ei):(v9 t z).length≤20:=by
 unfold v9;split
 ·refine Nat.le_trans (a1k _) ?_
  have h1:(agq t z).length≤10:=by
   have:=(apc (lo:=(-192*z6 t,-192*z6 t)) (hi:=(12480*z6 t,12480*z6 t)) (asg z t.r.toNat (by omega) (-(3*(t.x*aiq t)),-(3*(t.y*aiq t)))) 4 (Nat.le_refl _)).2;rw [zal,ash] at this;exact this
  have:(ej (3*z6 t) (agq t z)).length=(agq t z).length:=by simp [ej]
  omega
 ·simp
theorem ayr {rg:List P2} {q:P2} (h:q∈qv rg):q∈rg:=by
 have hc:∀l:List P2,q∈dt l→q∈l:=fun l hq=>aq9 l (by
  unfold dt at hq
  first
  | exact List.mem_of_mem_tail (by simpa using hq)
  | exact List.mem_of_mem_dropLast (by simpa using hq)
  | (simp at hq; exact List.mem_of_mem_tail hq))
 unfold qv at h;split at h
 ·simp at h
 ·split at h
  ·simp at h
  ·rcases List.mem_append.1 h with h | h
   ·exact ahc (aif (hc _ h))
   ·exact ahc (aif (List.mem_reverse.1 (hc _ h)))
theorem a0k (t:Til) (h:0≤t.z∧t.z≤18) (z:Ei) (hb:∀p∈lv t z,(-1099511627776≤p.1∧p.1≤1099511627776)∧(-1099511627776≤p.2∧p.2≤1099511627776)):∀p∈v9 t z,(-64≤p.1∧p.1≤4160)∧(-64≤p.2∧p.2≤4160):=fun p hp=>by
 have hu1:1≤z6 t:=by
  have h3:((2^(18-t.z).toNat:Nat):Int)=(2:Int)^(18-t.z).toNat:=by simp
  have h4:0<2^(18-t.z).toNat:=Nat.pow_pos (by decide);unfold z6;omega
 unfold v9 at hp;split at hp
 ·have hp2:=ayr hp;obtain ⟨q,hq,rfl⟩:=zai.1 hp2;have hw:=auw (a:=(-1099511627776,-1099511627776)) (b:=(1099511627776,1099511627776)) (-192*z6 t,-192*z6 t) (12480*z6 t,12480*z6 t) hb q hq;simp only at hw;generalize z6 t=U at *;have e1:-64≤q.1/(3*U):=(zat (by omega)).2 (by omega);have e2:q.1/(3*U)<4161:=(zau (by omega)).2 (by omega);have e3:-64≤q.2/(3*U):=(zat (by omega)).2 (by omega);have e4:q.2/(3*U)<4161:=(zau (by omega)).2 (by omega);simp only;omega
 ·simp at hp

noncomputable def ag2:PC:=
  (.seq (.reg [p_a 2 (.box (.t 0)),p_a 3 (.box (.t 1)),p_s 4 (.mov (.c (.r (.v (.bool false)))))])
 (.seq (.block 0 (.seq (.reg [p_s 6 (.fa 0 (.t 2)),p_s 7 (.ld none (.t 6)),p_s 8 (.fa 0 (.t 3)),p_s 9 (.ld none (.t 8)),p_s 10 (.bin .neq (.t 7) (.t 9)),p_m 5 10])
 (.cond (.t 5)
 (.seq (.reg [p_s 11 (.fa 0 (.t 2)),p_s 12 (.ld none (.t 11)),p_s 13 (.fa 0 (.t 3)),p_s 14 (.ld none (.t 13)),p_s 15 (.bin .lss (.t 12) (.t 14)),p_m 4 15])
 .ret)
 (.seq (.reg [p_s 17 (.fa 1 (.t 2)),p_s 18 (.ld none (.t 17)),p_s 19 (.fa 1 (.t 3)),p_s 20 (.ld none (.t 19)),p_s 21 (.bin .neq (.t 18) (.t 20)),p_m 16 21])
 (.cond (.t 16)
 (.seq (.reg [p_s 22 (.fa 1 (.t 2)),p_s 23 (.ld none (.t 22)),p_s 24 (.fa 1 (.t 3)),p_s 25 (.ld none (.t 24)),p_s 26 (.bin .lss (.t 23) (.t 25)),p_m 4 26])
 .ret)
 .skip)))))
 (.seq (.reg [p_s 27 (.fa 2 (.t 2)),p_s 28 (.ld none (.t 27)),p_s 29 (.fa 2 (.t 3)),p_s 30 (.ld none (.t 29)),p_s 31 (.bin .lss (.t 28) (.t 30)),p_m 4 31])
 .ret)))
theorem akn:Fun P0 156 2 [(4,false,none)] ag2:=b5 Go.Proofs.Tryz.func156 rfl (by decide) (by kernel_rfl) (by decide) rfl (by kernel_rfl) (by kernel_rfl) (by decide)
noncomputable def aed:PC:=
  (.seq (.reg [p_s 4 (.mov (o_i 0))])
 (.seq (.reg [p_m 8 0,p_s 5 (.mov (o_i 0)),p_m 6 8])
 (.seq (.block 0 (.loop (.seq (.seq (.reg [p_m 9 5,p_m 10 6,p_s 11 (.bin .lss (.t 9) (.t 10))])
 (.cond (.t 11)
 .skip
 (.exit 0)))
 (.block 1 (.seq (.reg [p_m 12 5,p_m 13 6,p_s 14 (.bin .add (.t 12) (.t 13)),p_s 15 (.conv .u64 (.t 14)),p_s 16 (.bin .shr (.t 15) (.c (.r (.v (.int .u64 1))))),p_s 17 (.conv .i64 (.t 16)),
 p_m 7 17])
 (.seq (.reg [p_m 18 1,p_m 19 7,⟨(some 20),none,1,.callv (.t 18) [(.t 19)]⟩,p_s 21 (.un .not (.t 20))])
 (.cond (.t 21)
 (.reg [p_m 22 7,p_s 23 (.bin .add (.t 22) (o_i 1)),p_m 5 23])
 (.reg [p_m 24 7,p_m 6 24]))))))))
 (.seq (.reg [p_m 25 5,p_m 4 25])
 .ret))))
theorem ahb:Fun P0 157 2 [(4,false,none)] aed:=b5 Go.Proofs.Tryz.func157 rfl (by decide) (by kernel_rfl) (by decide) rfl (by kernel_rfl) (by kernel_rfl) (by decide)
noncomputable def ad9:PC:=
  (.seq (.reg [p_s 4 (.mov (.c (.r (.v (.bool false)))))])
 (.seq (.drw [p_s 5 (.ld none (.t 1)),p_m 6 0,p_s 7 (.ia 3 (.agg [(.v (.int .u64 0)),(.v (.int .i64 0)),(.v (.int .i64 0))]) (.t 5) (.t 6)),p_s 8 (.ld (some 3) (.t 7)),p_s 9 (.ld (some 3) (.t 2)),
 p_c 10 1 156 [.t 8,.t 9],p_s 11 (.un .not (.t 10)),p_m 4 11]
 [[],[],[0,1],[0,1,2],[],[0,1,2,3,4],[0,1,2,3,4,5],[0,1,2,3,4,5,6]])
 .ret))
theorem ag1:Fun P0 159 3 [(4,false,none)] ad9:=b5 Go.Proofs.Tryz.func159 rfl (by decide) (by kernel_rfl) (by decide) rfl (by kernel_rfl) (by kernel_rfl) (by decide)
noncomputable def ag0:PC:=
  (.seq (.reg [p_a 2 (.box (.t 0)),p_a 3 (.box (.t 1)),p_s 4 (.mov (o_i 0)),p_s 5 (.mov (.c (.r (.v (.bool false)))))])
 (.seq (.reg [p_s 7 (.ld none (.t 2)),p_s 8 (.len false (.t 7)),p_s 9 (.mkf (.func 159) [(.t 2),(.t 3)]),p_c 10 1 157 [.t 8,.t 9],p_m 6 10])
 (.seq (.drw [p_m 11 6,p_m 12 6,p_s 13 (.ld none (.t 2)),p_s 14 (.len false (.t 13)),p_s 15 (.bin .lss (.t 12) (.t 14)),p_m 16 15,p_g 17 16 true (.ld none (.t 2)),p_g 18 16 true (.mov (.t 6)),
 p_g 19 16 true (.ia 3 (.agg [(.v (.int .u64 0)),(.v (.int .i64 0)),(.v (.int .i64 0))]) (.t 17) (.t 18)),p_g 20 16 true (.ld (some 3) (.t 19)),p_g 21 16 true (.ld (some 3) (.t 3)),
 p_g 22 16 true (.eqa false [0,0,0] (.t 20) (.t 21)),p_s 23 (.pick (.t 16) (.t 22) (.c (.r (.v (.bool false))))),p_m 4 11,p_m 5 23]
 [[],[],[],[2],[1,2,3],[1,2,3,4],[1,2,3,4,5],[1,2,3,4,5],[1,2,3,4,5,6,7],[1,2,3,4,5,6,7,8],[1,2,3,4,5],[1,2,3,4,5,6,7,8,9,10],[1,2,3,4,5,6,7,8,9,10,11],[0,1,2,3,4,5],[0,1,2,3,4,5,6,7,8,9,10,11,12,13]])
 .ret)))
theorem akm:Fun P0 112 2 [(4,false,none),(5,false,none)] ag0:=b5 Go.Proofs.Tryz.func112 rfl (by decide) (by kernel_rfl) (by decide) rfl (by kernel_rfl) (by kernel_rfl) (by decide)
structure Ky where
 c:Int
 v:Int
 d:Int
deriving DecidableEq
def Ky.rv (k:Ky):RV:=.agg [.v (.int .u64 k.c),.v (.int .i64 k.v),.v (.int .i64 k.d)]
def Ky.av (k:Ky):AV:=.r k.rv
def kl (a b:Ky):Bool:=if a.c≠b.c then decide (a.c<b.c) else if a.v≠b.v then decide (a.v<b.v) else decide (a.d<b.d)
theorem ar6 (a b:Ky):a7 P0 156 [a.av,b.av] [] (bl (kl a b)) []:=by
 refine akn rfl (by decide) ?_;simp only [ag2,Ky.av,Ky.rv,kl,push_cast,↓reduceIte,reduceCtorEq,zB,zE,zA,zS,zL,zD,zM];refine b6 (fun h1=>?_) (fun h1=>?_)
 ·simp only [push_cast,↓reduceIte,reduceCtorEq,zB,zE,zA,zS,zL,zD,zM];simp at h1;refine jd ?_;simp [h1]
 ·simp only [push_cast,↓reduceIte,reduceCtorEq,zB,zE,zA,zS,zL,zD,zM];simp at h1;refine b6 (fun h2=>?_) (fun h2=>?_)
  ·simp only [push_cast,↓reduceIte,reduceCtorEq,zB,zE,zA,zS,zL,zD,zM];simp at h2;refine jd ?_;simp [h1,h2]
  ·simp only [push_cast,↓reduceIte,reduceCtorEq,zB,zE,zA,zS,zL,zD,zM];simp at h2;refine jd ?_;simp [h1,h2]

theorem arc (F:FuncId) (A B:List AV) (hA:i7 A=[]) (hB:i7 B=[]) (hfn:uu P0 F=true) (p:Nat→Bool) (n r:Nat) (hn:n≤maxLen) (hr:r≤n)
  (h0:∀i,i<r→p i=false) (h1:∀i,r≤i→i<n→p i=true)
  (hF:∀i:Nat,i<n→a7 P0 F [int .i64 i,.ptr 1000000 0 0,.ptr 1000001 0 0] [.box A,.box B] (bl (p i)) [.box A,.box B]) :
  a7 P0 157 [int .i64 n,.fn (.func F) [.ptr 1000000 0 0,.ptr 1000001 0 0] 0] [.box A,.box B] (int .i64 r) [.box A,.box B]:=by
 refine ahb rfl (by simp) ?_;simp only [aed,push_cast,↓reduceIte,reduceCtorEq,zB,zE,zA,zS,zL,zD,zM];have hmax:=d5;have iA:∀F,imL F A=A:=fun F=>mq F A hA;have iB:∀F,imL F B=B:=fun F=>mq F B hB
 refine run_loop [(1,false),(5,false),(6,false)] (fun vs pos los=>∃(lo hi:Int),0≤lo∧lo≤r∧(r:Int)≤hi∧hi≤n ∧
  vs=[.fn (.func F) [.ptr 1000000 0 0,.ptr 1000001 0 0] 0,int .i64 lo,int .i64 hi]∧pos=[.box A,.box B]∧los=[])
  (fun vs _ _=>match vs with | [_,.r (.v (.int _ a)),.r (.v (.int _ b))]=>(b-a).toNat | _=>0) rfl ?_ ?_
 ·simp only [hA,hB,iA,iB,hfn,push_cast,↓reduceIte,reduceCtorEq,zB,zE,zA,zS,zL,zD,zM];refine ⟨0,n,by omega,by omega,by omega,by omega,?_⟩;simp
 ·rintro vs pos los ⟨lo,hi,l0,lr,rh,hn',rfl,rfl,rfl⟩;simp only [hA,hB,iA,iB,hfn,push_cast,↓reduceIte,reduceCtorEq,zB,zE,zA,zS,zL,zD,zM];refine b6 (fun h=>?_) (fun h=>?_)
  ·simp only [hA,hB,iA,iB,hfn,push_cast,↓reduceIte,reduceCtorEq,zB,zE,zA,zS,zL,zD,zM];have hlt:lo<hi:=by simpa using h
   have hmx:(n:Int)≤9223372036854775807:=by have:=hn; simp only [maxLen] at this; omega
   have hw2:IntKind.u64.wrap (IntKind.i64.wrap (lo+hi))=lo+hi:=by rw [IntKind.wrap_i64,IntKind.wrap_u64]; omega
   have hs:(lo+hi).fdiv (2^min (Int.toNat 1) IntKind.u64.bits)=(lo+hi)/2:=air (lo+hi) 1 (by decide);have hw3:IntKind.i64.wrap ((lo+hi)/2)=(lo+hi)/2:=a6 ⟨by omega,by omega⟩;obtain ⟨M,hM⟩:∃M:Nat,(lo+hi)/2=M:=⟨((lo+hi)/2).toNat,by omega⟩
   rw [hM] at hw3;simp only [hw2,hs,hM,hw3];refine ⟨by decide,a5 (hF M (by omega)) rfl ⟨rfl,rfl,trivial⟩ ?_⟩;simp only [hA,hB,iA,iB,hfn,push_cast,↓reduceIte,reduceCtorEq,zB,zE,zA,zS,zL,zD,zM];have hw4:IntKind.i64.wrap ((M:Int)+1)=M+1:=a6 ⟨by omega,by omega⟩;refine b6 (fun h2=>?_) (fun h2=>?_)
   ·simp only [hA,hB,iA,iB,hfn,hw4,push_cast,↓reduceIte,reduceCtorEq,zB,zE,zA,zS,zL,zD,zM];have hp:p M=false:=by simpa using h2
    have hMr:M<r:=Nat.lt_of_not_le fun hle=>by rw [h1 M hle (by omega)] at hp; cases hp
    refine ⟨⟨M+1,hi,by omega,by omega,by omega,by omega,?_⟩,by omega⟩;simp
   ·simp only [hA,hB,iA,iB,hfn,push_cast,↓reduceIte,reduceCtorEq,zB,zE,zA,zS,zL,zD,zM];have hp:p M=true:=by simpa using h2
    have hMr:r≤M:=Nat.le_of_not_lt fun hlt=>by rw [h0 M hlt] at hp; cases hp
    refine ⟨⟨lo,M,by omega,by omega,by omega,by omega,?_⟩,by omega⟩;simp
  ·simp only [hA,hB,iA,iB,hfn,push_cast,↓reduceIte,reduceCtorEq,zB,zE,zA,zS,zL,zD,zM];have hlt:¬lo<hi:=by simpa using h
   have e:lo=r:=by omega
   rw [e]

def u4 (l:List Ky):RV:=.sl 3 (l.map Ky.rv)
def Ky.cs (k:Ky):List AV:=[int .u64 k.c,int .i64 k.v,int .i64 k.d]
theorem a5k (l:List Ky) (k q:Ky) (i:Nat) (hi:i<l.length) (hq:l[i]?=some q) (hl:l.length≤maxLen):a7 P0 159 [int .i64 i,.ptr 1000000 0 0,.ptr 1000001 0 0] [.box [.r (u4 l)],.box k.cs]
  (bl (!kl q k)) [.box [.r (u4 l)],.box k.cs]:=by
 refine ag1 rfl (by simp) ?_
 have hg:(l.map Ky.rv).getD ((i:Int)).toNat (.agg [.v (.int .u64 0),.v (.int .i64 0),.v (.int .i64 0)])=.agg [.v (.int .u64 q.c),.v (.int .i64 q.v),.v (.int .i64 q.d)]:=by
  simp [List.getD,hq,Ky.rv]
 simp only [ad9,u4,Ky.cs,hg,push_cast,↓reduceIte,reduceCtorEq,zB,zE,zA,zS,zL,zD,zM];refine And.intro ⟨by omega,by omega⟩ ?_;refine c8 (ar6 q k) rfl trivial ?_;simp only [push_cast,↓reduceIte,reduceCtorEq,zB,zE,zA,zS,zL,zD,zM];kernel_rfl
structure Plc (l:List Ky) (k:Ky) (r:Nat):Prop where
 le:r≤l.length
 lo:∀(i:Nat) (q:Ky),i<r→l[i]?=some q→kl q k=true
 hi:∀(i:Nat) (q:Ky),r≤i→l[i]?=some q→kl q k=false
theorem a8i (l:List Ky) (k:Ky) (r:Nat) (hp:Plc l k r) (hl:l.length≤maxLen):a7 P0 112 [.r (u4 l),k.av] []
  (.tup [int .i64 r,bl (decide (l[r]?=some k))]) []:=by
 refine akm rfl (by decide) ?_
 have hF:∀i:Nat,i<l.length→a7 P0 159 [int .i64 i,.ptr 1000000 0 0,.ptr 1000001 0 0] [.box [.r (u4 l)],.box k.cs] (bl ((fun i=>match l[i]? with | some q=>!kl q k | none=>true) i)) [.box [.r (u4 l)],.box k.cs]:=fun i hi=>by
  have hq:l[i]?=some l[i]:=by simp [hi]
  simp only [hq];exact a5k l k _ i hi hq hl
 have hS:=arc 159 [.r (u4 l)] k.cs rfl rfl rfl (fun i=>match l[i]? with | some q=>!kl q k | none=>true) l.length r hl hp.le (fun i hi=>by
  have hq:l[i]?=some (l[i]'(by have:=hp.le; omega)):=by simp [show i<l.length by have:=hp.le; omega]
  simp only [hq,hp.lo i _ hi hq]; rfl) (fun i hi hn=>by
  have hq:l[i]?=some l[i]:=by simp [hn]
  simp only [hq,hp.hi i _ hi hq]; rfl) hF
 simp only [ag0,u4,Ky.av,Ky.rv,push_cast,↓reduceIte,reduceCtorEq,zB,zE,zA,zS,zL,zD,zM];refine a5 hS rfl ⟨rfl,rfl,trivial⟩ ?_;obtain ⟨q,hqd⟩:∃q:Ky,q=(l[r]?).getD ⟨0,0,0⟩:=⟨_,rfl⟩
 have hg:(l.map Ky.rv).getD ((r:Int)).toNat (.agg [.v (.int .u64 0),.v (.int .i64 0),.v (.int .i64 0)])=.agg [.v (.int .u64 q.c),.v (.int .i64 q.v),.v (.int .i64 q.d)]:=by
  rw [hqd];rcases hr:l[r]? with _ | q0<;>simp [List.getD,hr,Ky.rv]
 simp only [u4,Ky.cs,hg,push_cast,↓reduceIte,reduceCtorEq,zB,zE,zA,zS,zL,zD,zM];refine ⟨fun h=>⟨by omega,by simpa using h⟩,by kernel_rfl,?_⟩;congr 4;rcases hr:l[r]? with _ | q0
 ·have:¬r<l.length:=fun h=>by simp [h] at hr
  simp [this]
 ·have h1:=(zad.1 hr).1;have h2:q=q0:=by rw [hqd,hr]; rfl
  subst h2;simp [h1];cases q; cases k;simp
  rfl

noncomputable def vr:PC:=
  (.seq (.reg [p_s 4 (.mov (.c (.r (.v (.bool false)))))])
 (.seq (.drw [p_s 5 (.ld (some 3) (.t 1)),p_s 6 (.ld none (.t 2)),p_s 7 (.nck (.t 6)),p_s 8 (.fa 0 (.t 7)),p_s 9 (.ld none (.t 8)),p_m 10 0,p_s 11 (.ia 1 (.sl 3 []) (.t 9) (.t 10)),
 p_s 12 (.ld none (.t 11)),p_s 13 (.ia 3 (.agg [(.v (.int .u64 0)),(.v (.int .i64 0)),(.v (.int .i64 0))]) (.t 12) (o_i 0)),p_s 14 (.ld (some 3) (.t 13)),p_c 15 1 156 [.t 5,.t 14],
 p_m 4 15]
 [[],[],[1],[1,2],[1,2,3],[],[1,2,3,4,5],[1,2,3,4,5,6],[1,2,3,4,5,6,7],[1,2,3,4,5,6,7,8],[0,1,2,3,4,5,6,7,8,9],[0,1,2,3,4,5,6,7,8,9,10]])
 .ret))
theorem acb:Fun P0 158 3 [(4,false,none)] vr:=b5 Go.Proofs.Tryz.func158 rfl (by decide) (by kernel_rfl) (by decide) rfl (by kernel_rfl) (by kernel_rfl) (by decide)
noncomputable def aad:PC:=
  (.seq (.reg [p_a 2 (.box (.t 0)),p_a 3 (.box (.t 1)),p_s 4 (.mov (o_i 0))])
 (.seq (.reg [p_s 6 (.ld none (.t 2)),p_s 7 (.nck (.t 6)),p_s 8 (.fa 0 (.t 7)),p_s 9 (.ld none (.t 8)),p_s 10 (.len false (.t 9)),p_s 11 (.mkf (.func 158) [(.t 3),(.t 2)]),
 p_c 12 1 157 [.t 10,.t 11],p_m 5 12])
 (.seq (.reg [p_m 13 5,p_s 14 (.bin .sub (.t 13) (o_i 1)),p_s 15 (.mm true (.t 14) [(o_i 0)]),p_m 4 15])
 .ret)))
theorem aea:Fun P0 111 2 [(4,false,none)] aad:=b5 Go.Proofs.Tryz.func111 rfl (by decide) (by kernel_rfl) (by decide) rfl (by kernel_rfl) (by kernel_rfl) (by decide)
def p5 (ns:List (List Ky)) (n:Int):List RV:=[.sl 1 (ns.map u4),.v (.int .i64 n)]
theorem a48 (ns:List (List Ky)) (n:Int) (k q:Ky) (x:List Ky) (i:Nat) (hi:i<ns.length) (hx:ns[i]?=some (q::x)) (hl:ns.length≤maxLen) (hl2:(q::x).length≤maxLen) :
  a7 P0 158 [int .i64 i,.ptr 1000000 0 0,.ptr 1000001 0 0] [.box k.cs,.box [.rp (p5 ns n)]] (bl (kl k q)) [.box k.cs,.box [.rp (p5 ns n)]]:=by
 refine acb rfl (by simp) ?_
 have hg:(ns.map u4).getD ((i:Int)).toNat (.sl 3 [])=.sl 3 (q.rv::x.map Ky.rv):=by
  simp [List.getD,hx,u4]
 have hg2:(q.rv::x.map Ky.rv).getD (Int.toNat 0) (.agg [.v (.int .u64 0),.v (.int .i64 0),.v (.int .i64 0)])=.agg [.v (.int .u64 q.c),.v (.int .i64 q.v),.v (.int .i64 q.d)]:=rfl;simp only [vr,p5,Ky.cs,hg,hg2,push_cast,↓reduceIte,reduceCtorEq,zB,zE,zA,zS,zL,zD,zM];refine And.intro ⟨by omega,by omega⟩ (And.intro ⟨by omega,by omega⟩ ?_);refine c8 (ar6 k q) rfl trivial ?_;simp only [push_cast,↓reduceIte,reduceCtorEq,zB,zE,zA,zS,zL,zD,zM];kernel_rfl
structure Nod (ns:List (List Ky)) (k:Ky) (r:Nat):Prop where
 le:r≤ns.length
 len:ns.length≤maxLen
 ne:∀(i:Nat) (l:List Ky),ns[i]?=some l→l≠[]∧l.length≤maxLen
 lo:∀(i:Nat) (q:Ky) (x:List Ky),i<r→ns[i]?=some (q::x)→kl k q=false
 hi:∀(i:Nat) (q:Ky) (x:List Ky),r≤i→ns[i]?=some (q::x)→kl k q=true
def avm (ns:List (List Ky)) (k:Ky) (i:Nat):Bool:=match ns[i]? with
 | some (q::_)=>kl k q
 | _=>true
theorem Nod.at_ {ns:List (List Ky)} {k:Ky} {r:Nat} (h:Nod ns k r) {i:Nat} (hi:i<ns.length):∃q x,ns[i]?=some (q::x)∧(q::x).length≤maxLen:=by
 have hq:ns[i]?=some ns[i]:=by simp [hi]
 obtain ⟨h1,h2⟩:=h.ne i _ hq;rcases hx:ns[i] with _ | ⟨q,x⟩
 ·exact absurd hx h1
 ·rw [hx] at hq h2;exact ⟨q,x,hq,h2⟩
theorem ayj (ns:List (List Ky)) (n:Int) (k:Ky) (r:Nat) (h:Nod ns k r):a7 P0 111 [.rp (p5 ns n),k.av] [] (int .i64 ((r-1:Nat):Int)) []:=by
 refine aea rfl (by decide) ?_
 have hS:=arc 158 k.cs [.rp (p5 ns n)] rfl rfl rfl (avm ns k) ns.length r h.len h.le (fun i hi=>by
  obtain ⟨q,x,h1,_⟩:=h.at_ (i:=i) (by have:=h.le; omega);simp only [avm,h1,h.lo i q x hi h1]) (fun i hi hn=>by
  obtain ⟨q,x,h1,_⟩:=h.at_ hn;simp only [avm,h1,h.hi i q x hi h1]) (fun i hn=>by
  obtain ⟨q,x,h1,h2⟩:=h.at_ hn;simp only [avm,h1]
  exact a48 ns n k q x i hn h1 h.len h2)
 simp only [aad,p5,Ky.av,Ky.rv,push_cast,↓reduceIte,reduceCtorEq,zB,zE,zA,zS,zL,zD,zM];refine a5 hS rfl ⟨rfl,rfl,trivial⟩ ?_;simp only [p5,Ky.cs,push_cast,↓reduceIte,reduceCtorEq,zB,zE,zA,zS,zL,zD,zM];have hm:(ns.length:Int)≤9223372036854775807:=by have:=h.len; simp only [maxLen] at this; omega
 have hle:=h.le;rw [a6 ⟨by omega,by omega⟩,show max ((r:Int)-1) 0=((r-1:Nat):Int) by omega]


section
variable {P:Program} {w:World} {o:Oper} {a:Act} {K:Act→World→Prop} {Q:Exit→Act→World→Prop}
theorem alk {w:World} {g off size m m' c:Nat} {cs:Array Value} {e:TypeId} {fr:Nat×Nat} {news:List Value} (hg:w.heap[g]?=some (.cells cs e fr)) (hn:news.length=m*size)
  (hj:∀(j:Nat) (u:Value),news[j]?=some u→cs[off+j]?=some u):∀W:World,W.heap=w.heap→(Builtin.firstCells size m (.slice (some ⟨g,off,none⟩) m' c)).run P W=.ok news.toArray W:=fun W hW=>by
 refine run_firstCells_some W size m ⟨g,off,none⟩ m' c news hn fun j u hu=>?_;rw [ai];simp only [World.cell?,hW,hg,zbd,Bool.false_eq_true,if_false];exact hj j u hu
theorem ac0 {g:Nat} {old cs:Array Value} {t:TypeId} {fr:Nat×Nat} (hg:w.heap[g]?=some (.cells old t fr)):Keeps (· = g) w (w.setRow g cs):=
  have h:=gw (cs:=cs) hg
  ⟨rfl,rfl,rfl,by simp [World.setRow],fun k hk hn=>setRow_other w g k cs hn⟩
theorem ap6 {w':World} {x:Obj} {I:Nat→Prop} (h:OneMore w w' x):Keeps I w w':=⟨h.os,h.tape,h.output,by rw [h.heap]; simp,fun k hk _=>by rw [h.heap]; simp [Array.getElem?_push,Nat.ne_of_lt hk]⟩
theorem wp_app (x v : Operand) (t u : TypeId) (ho : o.op = .call { callee := .builtin .append, args := #[x, v], argTypes := #[t, u] }) {e d : TypeId} {inf : TypeInfo} {z : Value} {size bytes : Nat} (ht : P.underlying t = some (.slice e)) (hu : P.underlying u = some (.slice d))
    (hi:P.info? e=some inf) (hz:inf.zero=some z) (hzs:z.cells.size=inf.size) (hs:inf.size=size) (hby:inf.bytes=bytes) (g len cap:Nat) (hx:a.eval x=.slice (some ⟨g,0,none⟩) len cap) (hc:0<cap) {cs:Array Value} {e':TypeId} (hg:w.heap[g]?=some (.cells cs e' (0,0)))
    (hsz:cap*size≤cs.size) (hlc:len≤cap) {A2:Option Addr} {m c2:Nat} (hv:a.eval v=.slice A2 m c2) (news:List Value) (hnew:∀W:World,W.heap=w.heap→(Builtin.firstCells size m (.slice A2 m c2)).run P W=.ok news.toArray W)
    (hn:news.length=m*size) (h1:∀u∈news,u.oneCell'=true) (hmax:len+m≤maxLen) (hcap:cap≤maxLen) (hb:(len+m)*bytes≤140737488355328)
    (h:∀(g' cap':Nat) (cs':Array Value) (e2:TypeId) (w':World),(g'=g∨g'=w.heap.size)→0<cap'→len+m≤cap'→cap'≤maxLen→w'.heap[g']?=some (.cells cs' e2 (0,0))→cap'*size≤cs'.size →
      (∀j,j<(len+m)*size→cs'[j]?=(cs.toList.take (len*size)++news)[j]?)→Keeps (· = g) w w'→K (a.put o.dst (.slice (some ⟨g',0,none⟩) (len+m) cap')) w'):o.wp P a w K Q:=by
  subst hs; subst hby;have hlt:len*inf.size≤cs.size:=Nat.le_trans (Nat.mul_le_mul_right _ hlc) hsz;have hol:(cs.toList.take (len*inf.size)).length=len*inf.size:=by simp only [zaq,Array.length_toList]; exact Nat.min_eq_left hlt
  have hold:=alk (P:=P) (off:=0) (size:=inf.size) (m:=len) (m':=len) (c:=cap) (news:=cs.toList.take (len*inf.size)) hg hol (fun j u hu=>by
    rw [zaj] at hu;split at hu
    · simpa using hu
    · cases hu)
  have hrun0:∀r,(Builtin.append_ #[t,u] o.type #[.slice (some ⟨g,0,none⟩) len cap,.slice A2 m c2]).run P w=r→(execOp a.eval o).run P w=r.andThen fun q w'=>.ok (.value q) w':=by
    rintro r rfl;simp [execOp,ho,resolve,invoke,builtin,hx,hv]
  unfold Oper.wp
  rcases run_app (P := P) (w := w) (ty := o.type) (A := some ⟨g, 0, none⟩) (A2 := A2) (len := len) (cap := cap) (m := m) (c2 := c2) (g := g) (cur := cs) (e' := e') (olds := cs.toList.take (len * inf.size)) (news := news) ht hu hi hz hzs hlc (fun _ => ⟨rfl, hg, hsz⟩) (fun _ k _ h => absurd h.2 (Nat.not_lt_zero k))
      hold hol hnew hn h1 hmax hb with ⟨hroom,hr⟩ | ⟨hgrow,K',w',rest,hr,hK1,hK2,hom,hlen⟩
  · rw [hrun0 _ hr,if_pos hc]
    have hfit:len*inf.size+news.length≤cs.toList.length:=by
      rw [hn,← Nat.add_mul]; simp; exact Nat.le_trans (Nat.mul_le_mul_right _ hroom) hsz
    refine h g cap _ e' _ (.inl rfl) hc hroom hcap (setRow_heap w g cs _ e' _ hg) ?_ (fun j hj=>?_) (ac0 hg)
    · simp only [List.size_toArray,i9 hfit,Array.length_toList]; exact hsz
    · rw [List.getElem?_toArray,r7 hfit,hn];rw [Nat.add_mul] at hj;by_cases hj1:len*inf.size≤j
      · rw [if_pos ⟨hj1,hj⟩,List.getElem?_append_right (by rw [hol]; exact hj1),hol]
      · rw [if_neg (fun q=>hj1 q.1),zav (by rw [hol]; omega),zaj,if_pos (by omega)]
  · rw [hrun0 _ hr];refine h w.heap.size K' _ e w' (.inr rfl) (by omega) hK1 hK2 hom.new ?_ (fun j hj=>?_) (ap6 hom)
    · simp only [List.size_toArray,hlen]; exact Nat.le_refl _
    · rw [List.getElem?_toArray,zav];simp only [zae,hol,hn,← Nat.add_mul];exact hj
theorem wp_cpy (x v : Operand) (t u : TypeId) (ho : o.op = .call { callee := .builtin .copy, args := #[x, v], argTypes := #[t, u] }) {e : TypeId} {inf : TypeInfo} {size : Nat} (ht : P.underlying t = some (.slice e))
    (hi:P.info? e=some inf) (hs:inf.size=size) (g d s m:Nat) {cs:Array Value} {e':TypeId} (hg:w.heap[g]?=some (.cells cs e' (0,0))) {D S:Option Addr} {dl dc sl sc:Nat} (hx:a.eval x=.slice D dl dc) (hv:a.eval v=.slice S sl sc)
    (hm:m=Nat.min sl dl) (hpos:0<m→D=some ⟨g,d,none⟩∧S=some ⟨g,s,none⟩) (hd:d+m*size≤cs.size) (hsr:s+m*size≤cs.size) (h1:∀u∈(cs.toList.drop s).take (m*size),u.oneCell'=true)
    (h:∀w',w'.heap[g]?=some (.cells (b7 cs.toList d ((cs.toList.drop s).take (m*size))).toArray e' (0,0))→Keeps (· = g) w w'→K (a.put o.dst (goInt m)) w'):o.wp P a w K Q:=by
  subst hs;unfold Oper.wp
  have hrun0:∀r,(Builtin.copy_ #[t,u] o.type #[.slice D dl dc,.slice S sl sc]).run P w=r→(execOp a.eval o).run P w=r.andThen fun q w'=>.ok (.value q) w':=by
    rintro r rfl;simp [execOp,ho,resolve,invoke,builtin,hx,hv]
  by_cases h0:m=0
  · subst h0
    have hr:(Builtin.copy_ #[t,u] o.type #[.slice D dl dc,.slice S sl sc]).run P w=.ok (goInt 0) w:=by
      have hl:∀(x:Addr),(loadCells x 0).run P w=.ok #[] w:=fun x=>by simpa using run_loadCells_list (P:=P) w x [] (by simp)
      cases D<;>cases S<;>simp [Builtin.copy_,run_underlying ht,Builtin.lenOf,Builtin.firstCells,sizeOf,typeInfo,hi,← hm,storeCells,hl]
    rw [hrun0 _ hr];refine h w ?_ (Keeps.refl _ _);simp [b7,hg]
  · obtain ⟨rfl,rfl⟩:=hpos (by omega);have hln:((cs.toList.drop s).take (m*inf.size)).length=m*inf.size:=by simp; omega
    have hf:=alk (P:=P) (w:=w) (off:=s) (size:=inf.size) (m:=m) (m':=sl) (c:=sc) (news:=(cs.toList.drop s).take (m*inf.size)) hg hln (fun j u hu=>by
      rw [zaj] at hu;split at hu
      · rw [List.getElem?_drop] at hu; simpa using hu
      · cases hu) w rfl
    have hst:=wx (P:=P) g d e' (0,0) ((cs.toList.drop s).take (m*inf.size)) 0 cs w hg (by simp) (by rw [hln]; omega) h1
    have hr:(Builtin.copy_ #[t,u] o.type #[.slice (some ⟨g,d,none⟩) dl dc,.slice (some ⟨g,s,none⟩) sl sc]).run P w=.ok (goInt m) (w.setRow g (b7 cs.toList d ((cs.toList.drop s).take (m*inf.size))).toArray):=by
      simp only [Nat.add_zero] at hst;simp [Builtin.copy_,run_underlying ht,Builtin.lenOf,sizeOf,typeInfo,hi,← hm,hf,hst,b7]
    rw [hrun0 _ hr];exact h _ (setRow_heap w g cs _ e' _ hg) (ac0 hg)
end

def kc (k:Ky):List Value:=[.int .u64 k.c,.int .i64 k.v,.int .i64 k.d]
def flat (l:List Ky):List Value:=l.flatMap kc
theorem ye (l:List Ky):(flat l).length=l.length*3:=by
 induction l with
 | nil=>rfl
 | cons k l ih=>simp only [flat,List.flatMap_cons,zae,zaf] at ih ⊢; rw [ih]; simp [kc]; omega
theorem a1q {l:List Ky} {i j:Nat} {k:Ky} (h:l[i]?=some k) (hj:j<3):(flat l)[i*3+j]?=(kc k)[j]?:=by
 have:∀(l:List Ky) (i:Nat),l[i]?=some k→(flat l)[i*3+j]?=(kc k)[j]?:=fun l=>by
  induction l with
  | nil=>intro i h; simp at h
  | cons q l ih=>
   intro i h;cases i with
   | zero=>
    simp at h;subst h;simp only [flat,List.flatMap_cons];rw [zav (by simp [kc]; omega)];simp
   | succ i=>
    simp at h;simp only [flat,List.flatMap_cons];rw [List.getElem?_append_right (by simp [kc]; omega),← ih i h];congr 1;simp [kc];omega
 exact this l i h
theorem a1p {l:List Ky}:∀u∈flat l,u.oneCell'=true:=fun u hu=>by
 simp only [flat,List.mem_flatMap,kc] at hu;obtain ⟨k,_,hk⟩:=hu;simp at hk;rcases hk with rfl | rfl | rfl<;>rfl
def xu (w:World) (g:Nat) (l:List Ky) (c:Nat):Prop:=∃(cs:Array Value) (e:TypeId),w.heap[g]?=some (.cells cs e (0,0))∧c*3≤cs.size∧(∀(j:Nat) (u:Value),(flat l)[j]?=some u→cs[j]?=some u)∧l.length≤c∧0<c∧c≤maxLen
theorem xu.loc {w w':World} {g c:Nat} {l:List Ky} (h:xu w g l c) (hw:w'.heap[g]?=w.heap[g]?):xu w' g l c:=by
 obtain ⟨cs,e,h1,h2⟩:=h;exact ⟨cs,e,by rw [hw]; exact h1,h2⟩
theorem xu.lt {w:World} {g c:Nat} {l:List Ky} (h:xu w g l c):g<w.heap.size:=by
 obtain ⟨cs,e,h1,h2⟩:=h;exact (zaw.1 h1).1
theorem xu.rel {w:World} {g c:Nat} {l:List Ky} (h:xu w g l c) {R:Nat→Prop} (hR:R g):RelV w R (u4 l) (.slice (some ⟨g,0,none⟩) l.length c):=by
 obtain ⟨cs,e,h1,h2,h3,h4,h5,h6⟩:=h;have key:=RelV.sl (w:=w) (R:=R) 3 (l.map Ky.rv) (some ⟨g,0,none⟩) c (by simpa using h4) h6 g 0 (fun i j=>(cs[i*3+j]?).getD undef) (fun _=>⟨rfl,hR⟩)
 have cell:∀(i:Nat) (x:RV) (j:Nat) (y:RV),(l.map Ky.rv)[i]?=some x→x.cells[j]?=some y→∃u,y=.v u∧cs[i*3+j]?=some u∧u.oneCell'=true:=fun i x j y hi hj=>by
  rw [List.getElem?_map,zbe] at hi;obtain ⟨k,hk,rfl⟩:=hi;have hj3:j<3:=by have:=(zad.1 hj).1; simpa [Ky.rv,RV.cells] using this
  have hf:=a1q hk hj3
  match j,hj3,hj,hf with
  | 0,_,hj,hf=>simp [Ky.rv,RV.cells] at hj; subst hj; exact ⟨_,rfl,h3 _ _ hf,rfl⟩
  | 1,_,hj,hf=>simp [Ky.rv,RV.cells] at hj; subst hj; exact ⟨_,rfl,h3 _ _ hf,rfl⟩
  | 2,_,hj,hf=>simp [Ky.rv,RV.cells] at hj; subst hj; exact ⟨_,rfl,h3 _ _ hf,rfl⟩
 have:=key (fun i x hi=>by
   rw [List.getElem?_map,zbe] at hi;obtain ⟨k,hk,rfl⟩:=hi
   rfl) (fun i x j y hi hj=>by
   obtain ⟨u,rfl,h,h'⟩:=cell i x j y hi hj;simp only [World.cell?,h1,zbd,Bool.false_eq_true,if_false,zaa,h,zax];exact ⟨trivial,h'⟩) (fun i x j y hi hj=>by
   obtain ⟨u,rfl,h,h'⟩:=cell i x j y hi hj;simp only [h,zax]
   exact .v u)
 simpa [u4] using this
def adr (og:Option Nat):Option Addr:=og.map fun g=>⟨g,0,none⟩
structure TL (w:World) (b:Nat) (og:Option Nat) (gs:List Nat) (cap:Nat) (ns:List (List Ky)) (n:Int):Prop where
 hd:∃e,w.heap[b]?=some (.cells #[.slice (adr og) ns.length cap,.int .i64 n] e (0,0))
 le:ns.length≤cap
 mx:cap≤maxLen
 no:og=none→cap=0
 out:∀g,og=some g→0<cap∧∃cs e,w.heap[g]?=some (.cells cs e (0,0))∧cap≤cs.size∧∀(i g':Nat) (l:List Ky),gs[i]?=some g'→ns[i]?=some l→∃c,cs[i]?=some (.slice (some ⟨g',0,none⟩) l.length c)∧xu w g' l c
 len:gs.length=ns.length
 nb:(b::(og.toList++gs)).Nodup
def Ft (b:Nat) (og:Option Nat) (gs:List Nat) (x:Nat):Prop:=x=b∨og=some x∨x∈gs
section
variable {w w':World} {b cap:Nat} {og:Option Nat} {gs:List Nat} {ns:List (List Ky)} {n:Int}
theorem TL.loc (h:TL w b og gs cap ns n) (hw:∀x,Ft b og gs x→w'.heap[x]?=w.heap[x]?):TL w' b og gs cap ns n:=by
 refine ⟨?_,h.le,h.mx,h.no,fun g hg=>?_,h.len,h.nb⟩
 ·obtain ⟨e,he⟩:=h.hd;exact ⟨e,by rw [hw b (.inl rfl)]; exact he⟩
 ·obtain ⟨h0,cs,e,h1,h2,h4⟩:=h.out g hg;refine ⟨h0,cs,e,by rw [hw g (.inr (.inl hg))]; exact h1,h2,fun i g' l hi hl=>?_⟩;obtain ⟨c,h5,h6⟩:=h4 i g' l hi hl;exact ⟨c,h5,h6.loc (hw g' (.inr (.inr (zao hi))))⟩
theorem TL.lt (h:TL w b og gs cap ns n):∀x,Ft b og gs x→x<w.heap.size:=fun x hx=>by
 rcases hx with rfl | hx | hx
 ·obtain ⟨e,he⟩:=h.hd;exact (zaw.1 he).1
 ·obtain ⟨h0,cs,e,h1,_⟩:=h.out x hx;exact (zaw.1 h1).1
 ·obtain ⟨i,hi⟩:=zbf.1 hx;have hin:=(zad.1 hi).1;rw [h.len] at hin;rcases og with _ | g
  ·have:=h.no rfl; have:=h.le; omega
  ·obtain ⟨h0,cs,e,h1,h2,h4⟩:=h.out g rfl;obtain ⟨c,_,h6⟩:=h4 i x ns[i] hi (by simp [hin]);exact h6.lt
theorem TL.rel (h:TL w b og gs cap ns n) {R:Nat→Prop} (hR:∀x,Ft b og gs x→R x):RelV w R (.sl 1 (ns.map u4)) (.slice (adr og) ns.length cap):=by
 rcases og with _ | g
 ·have h0:=h.no rfl;have h1:=h.le;have h2:ns=[]:=List.eq_nil_of_length_eq_zero (by omega);subst h2;subst h0;exact .sl 1 [] none 0 (by simp) (by simp) 0 0 (fun _ _=>undef) (by simp) (by simp) (by simp) (by simp)
 ·obtain ⟨h0,cs,e,h1,h2,h4⟩:=h.out g rfl
  have node:∀(i:Nat) (x:RV),(ns.map u4)[i]?=some x→∃l g' c,ns[i]?=some l∧x=u4 l∧gs[i]?=some g'∧cs[i]?=some (.slice (some ⟨g',0,none⟩) l.length c)∧xu w g' l c:=fun i x hi=>by
   rw [List.getElem?_map,zbe] at hi;obtain ⟨l,hl,rfl⟩:=hi;have hlt:=(zad.1 hl).1;have hg':gs[i]?=some (gs[i]'(by rw [h.len]; exact hlt)):=by simp [h.len,hlt]
   obtain ⟨c,h5,h6⟩:=h4 i _ l hg' hl;exact ⟨l,_,c,hl,rfl,hg',h5,h6⟩
  have key:=RelV.sl (w:=w) (R:=R) 1 (ns.map u4) (some ⟨g,0,none⟩) cap (by simpa using h.le) h.mx g 0 (fun i _=>(cs[i]?).getD undef) (fun _=>⟨rfl,hR g (.inr (.inl rfl))⟩) (fun i x hi=>by
    obtain ⟨l,g',c,_,rfl,_⟩:=node i x hi
    rfl) (fun i x j y hi hj=>by
    obtain ⟨l,g',c,_,rfl,_,h5,_⟩:=node i x hi;have:j=0:=by have:=(zad.1 hj).1; simp [u4,RV.cells] at this; exact this
    subst this;simp only [World.cell?,h1,zbd,Bool.false_eq_true,if_false,zaa,Nat.mul_one,Nat.add_zero,h5,zax];exact ⟨trivial,rfl⟩) (fun i x j y hi hj=>by
    obtain ⟨l,g',c,_,rfl,h7,h5,h6⟩:=node i x hi;have:j=0:=by have:=(zad.1 hj).1; simp [u4,RV.cells] at this; exact this
    subst this;simp [u4,RV.cells] at hj;subst hj;simp only [h5,zax]
    exact h6.rel (hR g' (.inr (.inr (zao h7)))))
  simpa [adr] using key
theorem TL.rp (h:TL w b og gs cap ns n) {R:Nat→Prop} (hR:∀x,Ft b og gs x→R x) :
  ∃g:Nat→Value,∀(j:Nat) (y:RV),(p5 ns n)[j]?=some y→w.cell? ⟨b,0+j,none⟩=some (g j)∧(g j).oneCell'=true∧RelV w R y (g j):=by
 obtain ⟨e,he⟩:=h.hd;refine ⟨fun j=>(#[Value.slice (adr og) ns.length cap,.int .i64 n][j]?).getD undef,fun j y hj=>?_⟩
 match j,hj with
 | 0,hj=>
  simp [p5] at hj;subst hj;refine ⟨by simp [World.cell?,he],rfl,h.rel hR⟩
 | 1,hj=>
  simp [p5] at hj;subst hj;exact ⟨by simp [World.cell?,he],rfl,.v _⟩
 | j+2,hj=>simp [p5] at hj
def fpt (og:Option Nat) (gs:List Nat):Nat→Option Nat
 | 0=>og
 | j+1=>gs[j]?
theorem abd {x:Nat}:(∃j,fpt og gs j=some x)↔(og=some x∨x∈gs):=by
 constructor
 ·rintro ⟨j,hj⟩;cases j with
  | zero=>exact .inl hj
  | succ j=>exact .inr (zao hj)
 ·rintro (h | h)
  ·exact ⟨0,h⟩
  ·obtain ⟨i,hi⟩:=zbf.1 h;exact ⟨i+1,hi⟩
end
def a9r (ns:List (List Ky)) (n:Int):AbsT where
 size:=2
 Q w b φ:=∃og gs cap,TL w b og gs cap ns n∧φ=fpt og gs
 loc:=by
  rintro w w' b φ ⟨og,gs,cap,h,rfl⟩ hb hj;refine ⟨og,gs,cap,h.loc fun x hx=>?_,rfl⟩;rcases hx with rfl | hx
  ·exact hb
  ·obtain ⟨j,hj'⟩:=abd.2 hx;exact hj j x hj'
 root:=by
  rintro w b φ ⟨og,gs,cap,h,rfl⟩;obtain ⟨e,he⟩:=h.hd;exact ⟨_,e,he,rfl⟩
 lt:=by
  rintro w b φ ⟨og,gs,cap,h,rfl⟩ j c hj;exact h.lt c (.inr (abd.1 ⟨j,hj⟩))
 view:=p5 ns n
 rp:=by
  rintro w b φ R ⟨og,gs,cap,h,rfl⟩ hb hj;refine h.rp fun x hx=>?_;rcases hx with rfl | hx
  ·exact hb
  ·obtain ⟨j,hj'⟩:=abd.2 hx;exact hj j x hj'

theorem glT (w:World):Gl P0 w fun _=>False:=gl_none (by kernel_rfl) (fun _=>by kernel_rfl) (fun _=>by kernel_rfl) w
def Ky.val (k:Ky):Value:=.agg #[.int .u64 k.c,.int .i64 k.v,.int .i64 k.d]
theorem Ky.rel {w:World} {R:Nat→Prop} (k:Ky):RelV w R k.rv k.val:=by
 refine .agg _ _ rfl fun i x c hx hc=>?_
 match i,hx,hc with
 | 0,hx,hc=>simp [Ky.val] at hx hc; subst hx; subst hc; exact .v _
 | 1,hx,hc=>simp [Ky.val] at hx hc; subst hx; subst hc; exact .v _
 | 2,hx,hc=>simp [Ky.val] at hx hc; subst hx; subst hc; exact .v _
 | i+3,hx,hc=>simp at hx
theorem a2f {w:World} {x:Nat} (h:x<w.heap.size):as8 w x:=⟨h,fun ⟨id,v,o,h1,_⟩=>by simp [ob0,obs] at h1,trivial⟩
theorem aj3 {w w':World} {I:Nat→Prop} (h:Go.RowKit.Below w.heap.size w w'):Keeps I w w':=⟨h.os,h.tape,h.output,h.size,fun b hb _=>h.block b hb⟩
section
variable {w:World} {b cap:Nat} {og:Option Nat} {gs:List Nat} {ns:List (List Ky)} {n:Int}
theorem ayi (h:TL w b og gs cap ns n) (k:Ky) (r:Nat) (hN:Nod ns k r):Calls P0 111 #[.pointer (some ⟨b,0,none⟩),k.val] w fun e w'=>e=.returned (.int .i64 ((r-1:Nat):Int))∧∀I,Keeps I w w':=by
 obtain ⟨g,hg⟩:=h.rp (R:=as8 w) fun x hx=>a2f (h.lt x hx);refine (vk (ayj ns n k r hN) w (glT w) rfl (rel0_cons (.rp _ b 0 g (a2f (h.lt b (.inl rfl))) hg) (rel0_cons (.r k.rel) rel0_nil))).mono ?_;rintro e w' ⟨c,rfl,hb,ρ',hR⟩;cases hR with
 | r hv=>cases hv; exact ⟨rfl,fun I=>aj3 hb⟩
theorem ay4 {g c:Nat} {l:List Ky} (h:xu w g l c) (k:Ky) (r:Nat) (hP:Plc l k r):Calls P0 112 #[.slice (some ⟨g,0,none⟩) l.length c,k.val] w fun e w'=>
  e=.returned (.tuple #[.int .i64 r,.bool (decide (l[r]?=some k))])∧∀I,Keeps I w w':=by
 have hl:l.length≤maxLen:=by obtain ⟨_,_,_,_,_,h4,_,h6⟩:=h; omega
 refine (vk (a8i l k r hP hl) w (glT w) rfl (rel0_cons (.r (h.rel (a2f h.lt))) (rel0_cons (.r k.rel) rel0_nil))).mono ?_;rintro e w' ⟨c,rfl,hb,ρ',hR⟩;cases hR with
 | tup _ cs hl h=>
  have h0:=h 0 _ (cs[0]'(by rw [hl]; simp)) rfl (by simp [hl]);have h1:=h 1 _ (cs[1]'(by rw [hl]; simp)) rfl (by simp [hl]);refine ⟨?_,fun I=>aj3 hb⟩;congr 2;have inv:∀{v c:Value},RelA w' (c6 (fun _=>True) (ob0 []) ρ' w') (ob0 []) ρ' (.r (.v v)) c→c=v:=fun h=>by cases h with | r h=>cases h; rfl
  have e0:=inv h0;have e1:=inv h1;apply Array.ext (by simp [hl]);intro i h2 h3
  match i,h2,h3 with
  | 0,h2,h3=>simpa using e0
  | 1,h2,h3=>simpa using e1
  | i+2,h2,h3=>rw [hl] at h2; exact absurd (show i+2<2 from h2) (by omega)
end
theorem au8 {f:FuncId} {T T':AbsT} {k:Ky} {res:Value} (hs:T'.size=T.size) (h:∀(w:World) (b:Nat) (φ:Nat→Option Nat),T.Q w b φ→Calls P0 f #[.pointer (some ⟨b,0,none⟩),k.val] w fun e w'=>
  e=.returned res∧∃φ',T'.Q w' b φ'∧Keeps (fun x=>x=b∨∃j,φ j=some x) w w'∧(∀j c,φ' j=some c→(∃j',φ j'=some c)∨w.heap.size≤c)) :
  a7 P0 f [.ptr 1000000 0 0,k.av] [.abs T] (.r (.v res)) [.abs T']:=by
 intro w cargs ρ B hgl hB hM hcs hargs;have hob:ob0 [Ob.abs T] 1000000=some (0,.abs T):=by simp [ob0,obs,upd]
 obtain ⟨b,hρ,hQ⟩:=hM.obj 1000000 0 (.abs T) hob
 have hid:∀(T0:AbsT) id x,ob0 [Ob.abs T0] id=some x→id=1000000∧x=(0,.abs T0):=fun T0 id x hx=>by
  obtain ⟨h1,h2,h3⟩:=rc hx
  have:id-1000000=0:=by
   have:=(zad.1 h2).1;simpa using this
  have hid:id=1000000:=by omega
  subst hid;have hob0:ob0 [Ob.abs T0] 1000000=some (0,.abs T0):=by simp [ob0,obs,upd]
  rw [hob0] at hx;exact ⟨rfl,(Option.some.inj hx).symm⟩
 have hheld:∀x,ek (ob0 [.abs T]) ρ x↔(x=b∨∃j,ρ (.s 1000000 j)=some x):=fun x=>by
  constructor
  ·rintro ⟨id,y,h1,h2⟩;obtain ⟨rfl,rfl⟩:=hid T id _ h1;rcases h2 with h2 | ⟨_,j,h2⟩
   ·rw [hρ] at h2; cases h2; exact .inl rfl
   ·exact .inr ⟨j,h2⟩
  ·rintro (rfl | ⟨j,h2⟩)
   ·exact ⟨1000000,(0,.abs T),hob,.inl hρ⟩
   ·exact ⟨1000000,(0,.abs T),hob,.inr ⟨rfl,j,h2⟩⟩
 have hc:cargs=#[.pointer (some ⟨b,0,none⟩),k.val]:=by
  simp at hcs;apply Array.ext (by simpa using hcs);intro i h1 h2
  match i,h1,h2 with
  | 0,h1,h2=>
   have h0:=hargs 0 _ cargs[0] rfl (by simp [h1]);generalize cargs[0]=c0 at h0;cases h0 with
   | ptr _ _ _ _ hc1 hat=>
    obtain ⟨b',hb',rfl⟩:=hat.live hob;rw [hρ] at hb';cases hb'
    rfl
  | 1,h1,h2=>
   have h0:=hargs 1 _ cargs[1] rfl (by simp [h1]);generalize cargs[1]=c1 at h0;cases h0 with
   | r h0=>
    cases h0 with
    | agg xs cs hl h0=>
     have inv:∀{v c:Value},RelV w (c6 B (ob0 [.abs T]) ρ w) (.v v) c→c=v:=fun h=>by cases h; rfl
     simp only [Ky.val,List.getElem_toArray,List.getElem_cons_succ,List.getElem_cons_zero];congr 1;apply Array.ext (by simpa using hl);intro j g1 g2
     match j,g1,g2 with
     | 0,g1,g2=>exact inv (h0 0 _ cs[0] rfl (by simp [g1]))
     | 1,g1,g2=>exact inv (h0 1 _ cs[1] rfl (by simp [g1]))
     | 2,g1,g2=>exact inv (h0 2 _ cs[2] rfl (by simp [g1]))
     | j+3,g1,g2=>exact absurd (show j+3<3 from g2) (by omega)
  | i+2,h1,h2=>exact absurd (show i+2<2 from h2) (by omega)
 subst hc;refine (h w b _ hQ).mono ?_;rintro e w' ⟨rfl,φ',hQ',hK,hφ⟩;obtain ⟨ρ',h1,h2⟩:∃ρ':Pl→Option Nat,ρ' (.o 1000000)=some b∧∀j,ρ' (.s 1000000 j)=φ' j:=⟨fun | .o i=>if i=1000000 then some b else none | .s i j=>if i=1000000 then φ' j else none,by simp,by simp⟩
 refine ⟨_,ρ',rfl,⟨fun id v o hx=>?_,fun id id' x x' c hx hx' _ _=>?_,⟨hK.os,hK.tape,hK.output,hK.size,fun c hc hn=>hK.block c hc fun hx=>hn ((hheld c).2 hx)⟩,fun id v o c hx hf=>?_,fun id c hp=>?_⟩,.r (.v _)⟩
 ·obtain ⟨rfl,hx⟩:=hid T' id _ hx;cases hx;refine ⟨b,h1,?_⟩;rw [show (fun j=>ρ' (.s 1000000 j))=φ' from funext h2];exact hQ'
 ·rw [(hid T' id _ hx).1,(hid T' id' _ hx').1]
 ·obtain ⟨rfl,hx⟩:=hid T' id _ hx;cases hx;rcases hf with hf | ⟨_,j,hf⟩
  ·rw [h1] at hf; cases hf; exact .inl ((hheld b).2 (.inl rfl))
  ·rw [h2] at hf;rcases hφ j c hf with ⟨j',hj'⟩ | h
   ·exact .inl ((hheld c).2 (.inr ⟨j',hj'⟩))
   ·exact .inr h
 ·simp only [io] at hp;split at hp
  ·rename_i v o hx;split at hp
   ·rename_i ho;obtain ⟨rfl,hx'⟩:=hid T id _ hx;refine ⟨?_,_,by simp [ob0,obs,upd]; rfl,rfl,fun h=>by cases h⟩;rw [h1,← hp,hρ]
   ·cases hp
  ·cases hp

open Go Go.RowKit
set_option maxRecDepth 100000
theorem aey {w:World} {x:Obj} {k:Nat} (h:k<w.heap.size):(w.alloc x).heap[k]?=w.heap[k]?:=by
 show (w.heap.push x)[k]? = _;simp [Array.getElem?_push,Nat.ne_of_lt h]
theorem aez {w:World} {x:Obj} {k:Nat} (h:k=w.heap.size):(w.alloc x).heap[k]?=some x:=by
 subst h;show (w.heap.push x)[w.heap.size]? = _;simp
theorem dq {w:World} {x:Obj} {I:Nat→Prop}:Keeps I w (w.alloc x):=ap6 (q8 x)
theorem Keeps.mono {I J:Nat→Prop} {w w':World} (h:Keeps I w w') (hi:∀x,I x→J x):Keeps J w w':=⟨h.os,h.tape,h.output,h.size,fun b hb hn=>h.block b hb fun hx=>hn (hi b hx)⟩
theorem put0_w {w : World} {b cap : Nat} {og : Option Nat} {gs : List Nat} {n : Int} (h : TL w b og gs cap [] n) (k : Ky) : Calls P0 64 #[.pointer (some ⟨b, 0, none⟩), k.val] w fun e w' => e = .returned (.bool true) ∧
    ∃og' gs' cap',TL w' b og' gs' cap' [[k]] 1∧Keeps (Ft b og gs) w w'∧∀x,Ft b og' gs' x→Ft b og gs x∨w.heap.size≤x:=by
  obtain ⟨e,he⟩:=h.hd;have hlt:=h.lt b (.inl rfl);have hc:w.cell? ⟨b,0,none⟩=some (.slice (adr og) 0 cap):=by simp [World.cell?,he]
  have hc1:w.cell? ⟨b,1,none⟩=some (.int .i64 n):=by simp [World.cell?,he]
  have hf0:w.frozen? ⟨b,0,none⟩=false:=by simp [World.frozen?,he]
  have hf1:w.frozen? ⟨b,1,none⟩=false:=by simp [World.frozen?,he]
  have hb01:b<w.heap.size+1:=by omega
  have hb02:b<w.heap.size+1+1:=by omega
  have hb0:¬b=w.heap.size:=by omega
  have hb1:¬b=w.heap.size+1:=by omega
  have hb2:¬b=w.heap.size+1+1:=by omega
  simp only [Ky.val]
  go_enter Go.Proofs.Tryz.func64,Go.Proofs.Tryz.ntmps64
  go_wp2_with fail
  go_ret
  rw [setCell_eq_setRow w b 0 _ _ _ _ he,setCell_eq_setRow _ b 1 _ _ _ _ (setRow_heap w b _ _ _ _ he),setRow_setRow];generalize hw1:w.setRow b _=w1;have hh:w1.heap[b]?=some (.cells #[.slice (some ⟨w.heap.size+1+1,0,none⟩) 1 1,.int .i64 1] e):=by rw [← hw1]; exact setRow_heap w b _ _ _ _ he
  have hk:Keeps (· = b) w w1:=by rw [← hw1]; exact ac0 he
  have hs:w1.heap.size=w.heap.size:=by rw [← hw1]; simp [World.setRow]
  refine ⟨rfl,some (w.heap.size+1+1),[w.heap.size+1],1,⟨⟨e,?_⟩,by simp,by simp [maxLen],by simp,fun g hg=>?_,rfl,?_⟩,?_,fun x hx=>?_⟩
  · rw [aey (by simp [hs]; omega),aey (by simp [hs]; omega),aey (by simp [hs]; omega),hh]
    rfl
  · cases hg;refine ⟨by omega,_,_,aez (by simp [hs]),by simp,fun i g' l hi hl=>?_⟩;have hi0:i=0:=by have:=(zad.1 hi).1; simp at this; exact this
    subst hi0;simp at hi hl;subst hi; subst hl;refine ⟨1,rfl,_,_,by rw [aey (by simp [hs])]; exact aez (by simp [hs]),by simp,?_,by simp,by simp,by simp [maxLen]⟩;intro j u hj;simpa [flat,kc] using hj
  · simp;omega
  · exact (hk.mono fun x hx=>.inl hx).trans ((dq.trans dq).trans dq)
  · rcases hx with h | h | h
    · exact .inl (.inl h)
    · simp at h; omega
    · simp at h; omega

open Go Go.RowKit
set_option maxRecDepth 100000
section
variable {w:World} {b g cap:Nat} {og:Option Nat} {gs:List Nat} {ns:List (List Ky)} {n:Int}
theorem TL.root (h:TL w b (some g) gs cap ns n):w.cell? ⟨b,0,none⟩=some (.slice (some ⟨g,0,none⟩) ns.length cap)∧w.cell? ⟨b,1,none⟩=some (.int .i64 n)∧w.frozen? ⟨b,0,none⟩=false∧w.frozen? ⟨b,1,none⟩=false∧b<w.heap.size:=by
 obtain ⟨e,he⟩:=h.hd;exact ⟨by simp [World.cell?,he,adr],by simp [World.cell?,he],by simp [World.frozen?,he],by simp [World.frozen?,he],h.lt b (.inl rfl)⟩
theorem TL.some_ (h:TL w b og gs cap ns n) {i:Nat} {l:List Ky} (hl:ns[i]?=some l):∃g,og=some g:=by
 rcases og with _ | g
 ·have:=h.no rfl;have:=h.le;have:=(zad.1 hl).1;omega
 ·exact ⟨g,rfl⟩
theorem TL.node (h:TL w b (some g) gs cap ns n) {i:Nat} {l:List Ky} (hl:ns[i]?=some l):∃g' c,gs[i]?=some g'∧xu w g' l c∧w.cell? ⟨g,i,none⟩=some (.slice (some ⟨g',0,none⟩) l.length c)∧w.frozen? ⟨g,i,none⟩=false:=by
 obtain ⟨h0,cs,e,h1,h2,h4⟩:=h.out g rfl;have hlt:=(zad.1 hl).1;have hg':gs[i]?=some (gs[i]'(by rw [h.len]; exact hlt)):=by simp [h.len,hlt]
 obtain ⟨c,h5,h6⟩:=h4 i _ l hg' hl;exact ⟨_,c,hg',h6,by simp [World.cell?,h1,h5],by simp [World.frozen?,h1]⟩
end
def KB (w:World) (B:Nat) (k:Ky):Prop:=w.heap[B]?=some (.cells #[.int .u64 k.c,.int .i64 k.v,.int .i64 k.d] 120 (0,0))
theorem KB.cells {w:World} {B:Nat} {k:Ky} (h:KB w B k):w.cell? ⟨B,0,none⟩=some (.int .u64 k.c)∧w.cell? ⟨B,1,none⟩=some (.int .i64 k.v)∧w.cell? ⟨B,2,none⟩=some (.int .i64 k.d):=by
 unfold KB at h;exact ⟨by simp [World.cell?,h],by simp [World.cell?,h],by simp [World.cell?,h]⟩
theorem KB.keeps {w w':World} {B:Nat} {k:Ky} {I:Nat→Prop} (h:KB w B k) (hk:Keeps I w w') (hn:¬I B):KB w' B k:=by
 unfold KB at h ⊢;rw [hk.block B (zaw.1 h).1 hn];exact h
theorem TL.keeps {w w':World} {b cap:Nat} {og:Option Nat} {gs:List Nat} {ns:List (List Ky)} {n:Int} {I:Nat→Prop} (h:TL w b og gs cap ns n) (hk:Keeps I w w') (hn:∀x,Ft b og gs x→¬I x):TL w' b og gs cap ns n:=
 h.loc fun x hx=>hk.block x (h.lt x hx) (hn x hx)
theorem a7d {w:World} {b cap:Nat} {og:Option Nat} {gs:List Nat} {ns:List (List Ky)} {n:Int} (h:TL w b og gs cap ns n) (k:Ky) (r s:Nat) (l:List Ky) (hN:Nod ns k r) (hl:ns[r-1]?=some l) (hP:Plc l k s) (hs:l[s]?=some k):Calls P0 64 #[.pointer (some ⟨b,0,none⟩),k.val] w fun e w'=>e=.returned (.bool false) ∧
  TL w' b og gs cap ns n∧∀I,Keeps I w w':=by
 obtain ⟨g,rfl⟩:=h.some_ hl;have hat:r-1<ns.length:=(zad.1 hl).1;generalize hr:r-1=i at *;obtain ⟨c0,c1,f0,f1,hlt⟩:=h.root;have hne:((ns.length:Int) == 0)=false:=by rw [beq_eq_false_iff_ne]; omega
 have hk0:∀x,Keeps (fun _=>False) w (w.alloc x):=fun x=>dq;have i0:(0:Int)≤(i:Int):=by omega
 have i1:(i:Int)<(ns.length:Int):=by omega
 simp only [Ky.val]
 go_enter Go.Proofs.Tryz.func64,Go.Proofs.Tryz.ntmps64
 go_wp2_with fail
 have h1:=h.keeps (hk0 (.cells #[.int .u64 k.c,.int .i64 k.v,.int .i64 k.d] 120)) (fun _ _ q=>q);have b1:KB (w.alloc (.cells #[.int .u64 k.c,.int .i64 k.v,.int .i64 k.d] 120)) w.heap.size k:=aez rfl;refine (ayi h1 k r hN).mono ?_;rintro e w2 ⟨rfl,hK2⟩;rw [hr];have h2:=h1.keeps (hK2 fun _=>False) (fun _ _ q=>q);have b2:=b1.keeps (hK2 fun _=>False) (fun q=>q);obtain ⟨d0,d1,f2,f3,_⟩:=h2.root;obtain ⟨g',c,hg',hrow,d2,f4⟩:=h2.node hl;obtain ⟨k0,k1,k2⟩:=b2.cells
 go_wp2_with fail
 refine (ay4 hrow k s hP).mono ?_;rintro e w3 ⟨rfl,hK3⟩;rw [decide_eq_true hs]
 go_wp2_with fail
 go_ret
 refine ⟨rfl,h2.keeps (hK3 fun _=>False) (fun _ _ q=>q),fun I=>(dq.trans (hK2 I)).trans (hK3 I)⟩

open Go Go.RowKit
theorem aj6 (a b:List Ky):flat (a++b)=flat a++flat b:=by simp [flat]
theorem ay3 (k:Ky) (b:List Ky):flat (k::b)=kc k++flat b:=by simp [flat]
theorem a64 {α:Type} (L:List α) (i:Nat) (a b c:α) (h:i+3≤L.length):((L.set i a).set (i+1) b).set (i+2) c=b7 L i [a,b,c]:=by
 apply zay;intro j;rw [r7 (by simpa using h)];simp only [List.getElem?_set,List.length_set,zaf,List.length_nil];by_cases h0:j=i
 ·subst h0; simp; omega
 by_cases h1:j=i+1
 ·subst h1; simp; omega
 by_cases h2:j=i+2
 ·subst h2; simp; omega
 rw [if_neg (by omega),if_neg (by omega),if_neg (by omega),if_neg (by omega)]
theorem aqb {cs:List Value} {l:List Ky} {k:Ky} {s:Nat} (hs:s≤l.length) (hp:(flat l++kc k) <+: cs) :
  flat (l.take s++k::l.drop s) <+: b7 (b7 cs ((s+1)*3) ((cs.drop (s*3)).take ((l.length-s)*3))) (s*3) (kc k):=by
 obtain ⟨t,rfl⟩:=hp;obtain ⟨A,hA⟩:∃A,A=flat (l.take s):=⟨_,rfl⟩
 obtain ⟨D,hD⟩:∃D,D=flat (l.drop s):=⟨_,rfl⟩
 have hl:flat l=A++D:=by rw [hA,hD,← aj6,List.take_append_drop]
 have lA:A.length=s*3:=by rw [hA,ye,zaq,Nat.min_eq_left hs]
 have lD:D.length=(l.length-s)*3:=by rw [hD,ye,List.length_drop]
 have lk:(kc k).length=3:=rfl;rw [aj6,ay3,← hA,← hD,hl,← lA,← lD,show (s+1)*3=A.length+3 by omega];refine ⟨t,?_⟩;obtain ⟨E,hE⟩:∃E,E=(D++kc k++t).take 3:=⟨_,rfl⟩
 have lE:E.length=3:=by rw [hE]; simp; omega
 have e1:(A++D++kc k++t).take (A.length+3)=A++E:=by
  rw [hE,zag A D,zag A,List.take_length_add_append]
 have e2:((A++D++kc k++t).drop A.length).take D.length=D:=by
  rw [zag A D,zag A,List.drop_left,zag D,List.take_left]
 have e3:(A++D++kc k++t).drop (A.length+3+D.length)=t:=by
  have:A.length+3+D.length=(A++D++kc k).length:=by simp [lk]; omega
  rw [this,List.drop_left]
 have e4:b7 (A++D++kc k++t) (A.length+3) D=A++(E++(D++t)):=by
  unfold b7;rw [e1,e3];simp
 rw [e2,e4];unfold b7
 have e5:(A++(E++(D++t))).drop (A.length+3)=D++t:=by
  have:A.length+3=(A++E).length:=by simp [lE]
  rw [this,← zag,List.drop_left]
 rw [List.take_left,lk,e5];simp
theorem a7e {cs2:Array Value} {X:List Value} (h:∀j,j<X.length→cs2[j]?=X[j]?) (hl:X.length≤cs2.size):X <+: cs2.toList:=by
 rw [List.prefix_iff_eq_take];apply zay;intro j;rw [zaj];by_cases hj:j<X.length
 ·rw [if_pos hj,← h j hj];simp
 ·rw [if_neg hj];simp;omega
theorem tg {w w':World} {x:Nat} (h:w'.heap[x]?=w.heap[x]?) (o:Nat):w'.cell? ⟨x,o,none⟩=w.cell? ⟨x,o,none⟩:=by simp only [World.cell?,h]
theorem adk {w w':World} {x:Nat} (h:w'.heap[x]?=w.heap[x]?) (o:Nat):w'.frozen? ⟨x,o,none⟩=w.frozen? ⟨x,o,none⟩:=by simp only [World.frozen?,h]
theorem ao8 {w:World} {g o:Nat} {cs:Array Value} {e:TypeId} {fr:Nat×Nat} (h:w.heap[g]?=some (.cells cs e fr)) (ho:o<cs.size):∃v,w.cell? ⟨g,o,none⟩=some v:=⟨cs[o],by simp [World.cell?,h,ho]⟩
theorem ahz {w:World} {g o:Nat} {cs:Array Value} {e:TypeId} (h:w.heap[g]?=some (.cells cs e (0,0))):w.frozen? ⟨g,o,none⟩=false:=by simp [World.frozen?,h]
theorem a2n {w:World} {x:Obj}:(w.alloc x).heap.size=w.heap.size+1:=by simp
theorem la {w:World} {g o:Nat} {cs:Array Value} {e:TypeId} {fr:Nat×Nat} {v:Value} (h:w.heap[g]?=some (.cells cs e fr)):(w.setCell ⟨g,o,none⟩ v).heap[g]?=some (.cells (cs.setIfInBounds o v) e fr):=by
 rw [setCell_eq_setRow w g o cs e fr v h];exact setRow_heap w g _ _ _ _ h
theorem gm {w:World} {g o x:Nat} {cs:Array Value} {e:TypeId} {fr:Nat×Nat} {v:Value} (h:w.heap[g]?=some (.cells cs e fr)) (hx:x≠g):(w.setCell ⟨g,o,none⟩ v).heap[x]?=w.heap[x]?:=by
 rw [setCell_eq_setRow w g o cs e fr v h];exact setRow_other w g x _ hx
theorem go {w:World} {g o:Nat} {cs:Array Value} {e:TypeId} {fr:Nat×Nat} {v:Value} {I:Nat→Prop} (h:w.heap[g]?=some (.cells cs e fr)) (hI:I g):Keeps I w (w.setCell ⟨g,o,none⟩ v):=by
 rw [setCell_eq_setRow w g o cs e fr v h];have hk:=ac0 (cs:=cs.setIfInBounds o v) h;exact ⟨hk.os,hk.tape,hk.output,hk.size,fun b hb hn=>hk.block b hb fun q=>hn (q▸hI)⟩
theorem ap7 {w w':World} {I:Nat→Prop} (h:Keeps (fun x=>I x∨w.heap.size≤x) w w'):Keeps I w w':=⟨h.os,h.tape,h.output,h.size,fun b hb hn=>h.block b hb fun q=>by rcases q with q | q; exact hn q; omega⟩
theorem a0y {cs:Array Value} {A:List Value} (hf:∀(j:Nat) (u:Value),A[j]?=some u→cs[j]?=some u):cs.toList.take A.length=A:=by
 apply zay;intro j;rw [zaj];by_cases hj:j<A.length
 ·have hq:A[j]?=some A[j]:=by simp [hj]
  rw [if_pos hj,hq,← hf j _ hq];simp
 ·rw [if_neg hj,eq_comm,List.getElem?_eq_none_iff];omega
theorem a4y {cs cs2:Array Value} {A B:List Value} {N:Nat} (hN:A.length=N) (hf:∀(j:Nat) (u:Value),A[j]?=some u→cs[j]?=some u) (h:∀j,j<N+B.length→cs2[j]?=(cs.toList.take N++B)[j]?) (hl:N+B.length≤cs2.size):(A++B) <+: cs2.toList:=by
 subst hN;rw [a0y hf] at h;exact a7e (fun j hj=>h j (by simpa using hj)) (by simpa using hl)
theorem a33 {L X:List Value} (hp:X <+: L) (h1:∀u∈X,u.oneCell'=true) {a m:Nat} (h:a+m≤X.length):∀u∈(L.drop a).take m,u.oneCell'=true:=fun u hu=>by
 obtain ⟨t,rfl⟩:=hp;obtain ⟨j,hj⟩:=zbf.1 hu;rw [zaj] at hj;split at hj
 ·rw [List.getElem?_drop,zav (by omega)] at hj;exact h1 u (zao hj)
 ·cases hj
section
variable {w w':World} {b g cap:Nat} {gs:List Nat} {ns:List (List Ky)} {n n':Int}
theorem TL.put (h:TL w b (some g) gs cap ns n) {i:Nat} (hi:i<ns.length) {g2 c2:Nat} {l':List Ky} (hb:∃e,w'.heap[b]?=some (.cells #[.slice (some ⟨g,0,none⟩) ns.length cap,.int .i64 n'] e (0,0)))
  (hg:∃cs e,w.heap[g]?=some (.cells cs e (0,0))∧w'.heap[g]?=some (.cells (cs.setIfInBounds i (.slice (some ⟨g2,0,none⟩) l'.length c2)) e (0,0))) (hrow:xu w' g2 l' c2)
  (ho:∀(j x:Nat),j≠i→gs[j]?=some x→w'.heap[x]?=w.heap[x]?) (hg2:gs[i]?=some g2∨(g2≠b∧g2≠g∧g2∉gs)):TL w' b (some g) (gs.set i g2) cap (ns.set i l') n':=by
 obtain ⟨h0,cs,e,h1,h2,h4⟩:=h.out g rfl;obtain ⟨cs',e',q1,q2⟩:=hg;rw [h1] at q1;cases q1;refine ⟨?_,by simpa using h.le,h.mx,by simp,fun g0 hg0=>?_,by simp [h.len],?_⟩
 ·obtain ⟨e,he⟩:=hb;exact ⟨e,by rw [he]; simp [adr]⟩
 ·cases hg0;refine ⟨h0,_,_,q2,by simpa using h2,fun j x l hj hl=>?_⟩
  ·rw [List.getElem?_set] at hj hl;by_cases hij:i=j
   ·subst hij;simp [h.len,hi] at hj hl;subst hj; subst hl;refine ⟨c2,?_,hrow⟩;have:i<cs.size:=by have:=h.le; omega
    simp [this]
   ·rw [if_neg hij] at hj hl;obtain ⟨c,h5,h6⟩:=h4 j x l hj hl;refine ⟨c,?_,h6.loc (ho j x (Ne.symm hij) hj)⟩;rw [Array.getElem?_setIfInBounds,if_neg hij];exact h5
 ·have hnd:=h.nb;simp only [Option.toList_some,List.cons_append,List.nil_append] at hnd ⊢;rcases hg2 with hg2 | ⟨p1,p2,p3⟩
  ·have:gs.set i g2=gs:=by
    apply zay;intro j;rw [List.getElem?_set];split
    ·rename_i hij; subst hij; rw [hg2]; simp; exact (zad.1 hg2).1
    ·rfl
   rw [this];exact hnd
  ·simp only [List.nodup_cons,List.mem_cons,not_or] at hnd ⊢;obtain ⟨⟨a1,a2⟩,a3,a4⟩:=hnd;refine ⟨⟨a1,fun hm=>?_⟩,fun hm=>?_,?_⟩
   ·rcases List.mem_or_eq_of_mem_set hm with hm | hm
    ·exact a2 hm
    ·exact p1 hm.symm
   ·rcases List.mem_or_eq_of_mem_set hm with hm | hm
    ·exact a3 hm
    ·exact p2 hm.symm
   ·rw [List.Nodup,List.pairwise_iff_getElem] at a4 ⊢;intro x y hx hy hxy;rw [List.length_set] at hx hy;simp only [List.getElem_set];have nm:∀z (hz:z<gs.length),gs[z]≠g2:=fun z hz q=>p3 (q▸List.getElem_mem hz);split
    ·rw [if_neg (by omega)];exact fun q=>nm y hy q.symm
    ·split
     ·exact nm x hx
     ·exact a4 x y hx hy hxy
end

end Go.Ev

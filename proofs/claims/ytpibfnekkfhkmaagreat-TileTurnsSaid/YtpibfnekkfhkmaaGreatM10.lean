import Derived.Sort.AssemblyPlain
import Derived.WalkKit
import Derived.Test.YtpibfnekkfhkmaaGreatChecked
import Derived.KernelRfl
import Derived.Test.YtpibfnekkfhkmaaGreatM9
open Nat renaming reduceBEq → zB, reduceEqDiff → zE, reduceAdd → zA, reduceSub → zS, reduceLT → zL, reduceLeDiff → zD, reduceMul → zM
open Go.Proofs.Tryz renaming prog → P0
open Nat renaming zero_add → zaa, le_refl → zak, zero_mul → zam, mul_one → zat, pow_le_pow_right → zbm, mul_le_mul_right → zbn
open Int renaming toNat_natCast → zab, toNat_zero → zac, reduceToNat → zad, toNat_natCast_add_one → zae, toNat → zas, tmod_eq_emod_of_nonneg → zbc, tdiv_eq_ediv_of_nonneg → zbp
open BitVec renaming ofInt → zaf, toNat_ofInt → zbk
open List renaming length_append → zah, take → zai, take_of_length_le → zaj, map → zan, take_length → zao, mem_map → zap, getD_eq_getElem?_getD → zaq, length_map → zar, getElem?_map → zau, drop → zav, length_cons → zaw, append_assoc → zax, length_drop → zay, length → zaz, take_add_one → zba, flatMap_append → zbb, mem_append → zbd, length_singleton → zbe, getElem?_of_mem → zbf, eq_nil_of_length_eq_zero → zbh, getElem?_append_left → zbi, mem_of_getElem? → zbj, drop_eq_getElem_cons → zbl, take_succ_eq_append_getElem → zbo
open UInt8 renaming ofNat → zal
open Option renaming map_map → zbg
namespace Go.Ev
set_option maxRecDepth 100000
open Go
set_option linter.unusedSectionVars false
set_option linter.unnecessarySimpa false
open Go.Sort (swp insInner insOuter insertionSort ltInt)
set_option linter.unusedSimpArgs false
set_option linter.unusedVariables false
noncomputable def wg:PC:=
  (.seq (.reg [p_s 2 (.mov (.c (.r (.v (.bool false)))))])
 (.seq (.reg [p_m 3 0,p_m 4 0,p_s 5 (.bin .neq (.t 3) (.t 4)),p_m 2 5])
 .ret))
theorem acj:Fun P0 241 1 [(2,false,none)] wg:=b5 Go.Proofs.Tryz.func241 rfl (by decide) (by kernel_rfl) (by decide) rfl (by kernel_rfl) (by kernel_rfl) (by decide)
noncomputable def yw:PC:=
  (.seq (.reg [p_s 4 (.mov (.c (.r (.v (.bool false)))))])
 (.seq (.reg [p_m 5 0,p_c 6 1 241 [.t 5],p_m 7 6,p_g 8 7 true (.mov (.t 1)),⟨(some 9),(some (7,true)),2,.call 241 [(.t 8)]⟩,p_g 10 7 true (.un .not (.t 9)),p_s 11 (.pick (.t 7) (.t 10) (.c (.r (.v (.bool false))))),
 p_m 12 11,p_g 13 12 false (.mov (.t 0)),p_g 14 12 false (.mov (.t 1)),p_g 15 12 false (.bin .lss (.t 13) (.t 14)),p_s 16 (.pick (.t 12) (.c (.r (.v (.bool true)))) (.t 15)),
 p_m 4 16])
 .ret))
theorem adp:Fun P0 210 2 [(4,false,none)] yw:=b5 Go.Proofs.Tryz.func210 rfl (by decide) (by kernel_rfl) (by decide) rfl (by kernel_rfl) (by kernel_rfl) (by decide)
noncomputable def r6:PC:=
  (.seq (.reg [p_m 8 1,p_s 9 (.bin .add (.t 8) (o_i 1)),p_m 6 9])
 (.block 0 (.loop (.seq (.seq (.reg [p_m 10 6,p_m 11 2,p_s 12 (.bin .lss (.t 10) (.t 11))])
 (.cond (.t 12)
 .skip
 (.exit 0)))
 (.seq (.block 1 (.seq (.reg [p_m 15 6,p_m 7 15])
 (.block 2 (.loop (.seq (.seq (.drw [p_m 16 7,p_m 17 1,p_s 18 (.bin .gtr (.t 16) (.t 17)),p_m 19 18,p_g 20 19 true (.mov (.t 0)),p_g 21 19 true (.mov (.t 7)),p_g 22 19 true (.ia 1 (.v (.int .u64 0)) (.t 20) (.t 21)),
 p_g 23 19 true (.ld none (.t 22)),p_g 24 19 true (.mov (.t 0)),p_g 25 19 true (.mov (.t 7)),p_g 26 19 true (.bin .sub (.t 25) (o_i 1)),p_g 27 19 true (.ia 1 (.v (.int .u64 0)) (.t 24) (.t 26)),
 p_g 28 19 true (.ld none (.t 27)),⟨(some 29),(some (19,true)),1,.call 210 [(.t 23),(.t 28)]⟩,p_s 30 (.pick (.t 19) (.t 29) (.c (.r (.v (.bool false)))))]
 [[],[],[0,1],[0,1,2],[0,1,2,3],[0,1,2,3],[0,1,2,3,4,5],[0,1,2,3,4,5,6],[0,1,2,3],[0,1,2,3],[0,1,2,3,9],[0,1,2,3,8,9,10],[0,1,2,3,8,9,10,11],[0,1,2,3,4,5,6,7,8,9,10,11,12],[0,1,2,3,4,5,6,7,8,9,10,11,12,13]])
 (.cond (.t 30)
 .skip
 (.exit 2)))
 (.seq (.block 3 (.drw [p_m 33 0,p_m 34 7,p_m 35 0,p_m 36 7,p_s 37 (.bin .sub (.t 36) (o_i 1)),p_m 38 0,p_m 39 7,p_s 40 (.bin .sub (.t 39) (o_i 1)),p_s 41 (.ia 1 (.v (.int .u64 0)) (.t 38) (.t 40)),
 p_s 42 (.ld none (.t 41)),p_m 43 0,p_m 44 7,p_s 45 (.ia 1 (.v (.int .u64 0)) (.t 43) (.t 44)),p_s 46 (.ld none (.t 45)),p_s 47 (.ia 1 (.v (.int .u64 0)) (.t 33) (.t 34)),
 ⟨none,none,0,.act (.st 1 (.t 47) (.t 42))⟩,p_s 48 (.ia 1 (.v (.int .u64 0)) (.t 35) (.t 37)),⟨none,none,0,.act (.st 1 (.t 48) (.t 46))⟩]
 [[],[],[],[],[3],[],[],[6],[5,6,7],[5,6,7,8],[],[],[10,11],[10,11,12],[0,1,5,6,7,8,9,10,11,12,13],[0,1,5,6,7,8,9,10,11,12,13,14],[0,1,2,3,4,5,6,7,8,9,10,11,12,13,14,15],[0,1,2,3,4,5,6,7,8,9,10,11,12,13,14,15,16]]))
 (.reg [p_m 31 7,p_s 32 (.bin .sub (.t 31) (o_i 1)),p_m 7 32])))))))
 (.reg [p_m 13 6,p_s 14 (.bin .add (.t 13) (o_i 1)),p_m 6 14]))))))
theorem z5:Fun P0 204 3 [] r6:=b5 Go.Proofs.Tryz.func204 rfl (by decide) (by kernel_rfl) (by decide) rfl (by kernel_rfl) (by kernel_rfl) (by decide)
def bu (d:Array Int):List AV:=d.toList.map fun n=>AV.r (.v (.int .u64 n))
def bc (d:Array Int) (m:Nat):List AV:=bu d++List.replicate m .undef
def bO (d:Array Int) (m:Nat):Ob:=.box (bc d m)
theorem ahy:∀(xs:List AV),(∀x∈xs,o9 x=[])→i7 xs=[]
 | [],_=>rfl
 | x::xs,h=>by rw [i7,h x (by simp),ahy xs fun y hy=>h y (by simp [hy])]; rfl
theorem t9 (d:Array Int) (m:Nat):i7 (bc d m)=[]:=ahy _ fun x hx=>by
 rcases zbd.1 hx with hx | hx
 ·obtain ⟨n,_,rfl⟩:=zap.1 hx
  rfl
 ·rw [(List.mem_replicate.1 hx).2]; rfl
theorem bj (F:Ren) (d:Array Int) (m:Nat):imL F (bc d m)=bc d m:=mq F _ (t9 d m)
theorem ail (d:Array Int):(bu d).length=d.size:=by simp [bu]
theorem bk (d:Array Int) (m:Nat):(bc d m).length=d.size+m:=by simp [bc,ail]
theorem vm {d:Array Int} {m i:Nat} (h:i<d.size) (z:AV):(bc d m).getD i z=.r (.v (.int .u64 d[i]!)):=by
 unfold bc;rw [zaq,zbi (by rw [ail]; exact h)];simp [bu,h]
theorem azq {d:Array Int} {m i:Nat} (h:i<d.size) (x:Int):zai i (bc d m)++[AV.r (.v (.int .u64 x))]++zav (i+1) (bc d m)=bc (d.setIfInBounds i x) m:=by
 unfold bc;have e:bu (d.setIfInBounds i x)=(bu d).set i (.r (.v (.int .u64 x))):=by simp [bu,List.map_set]
 rw [e,List.take_append_of_le_length (by rw [ail]; omega),List.drop_append_of_le_length (by rw [ail]; omega),List.set_eq_take_append_cons_drop,if_pos (by rw [ail]; exact h)];simp
theorem a0g (d:Array Int) (i j:Nat):(swp d i j).size=d.size:=by simp [swp]
theorem a97 (x:Int):a7 P0 241 [int .u64 x] [] (bl false) []:=by
 refine acj rfl (by decide) ?_;have h:(x != x)=false:=by simp
 simp only [wg,h,push_cast,↓reduceIte,reduceCtorEq,zB,zE,zA,zS,zL,zD,zM]
theorem ba2 (x y:Int):a7 P0 210 [int .u64 x,int .u64 y] [] (bl (ltInt x y)) []:=by
 refine adp rfl (by decide) ?_;simp only [yw,push_cast,↓reduceIte,reduceCtorEq,zB,zE,zA,zS,zL,zD,zM];refine a5 (a97 x) rfl trivial ?_;simp only [push_cast,↓reduceIte,reduceCtorEq,zB,zE,zA,zS,zL,zD,zM]
 rfl
theorem bak (d:Array Int) (a b:Nat) (hab:a≤b) (hb:b≤d.size) (hn:d.size≤100000) (m:Nat):a7 P0 204 [.own 1000000 0 0 d.size,int .i64 a,int .i64 b] [bO d m] (.tup []) [bO (insertionSort ltInt d a b) m]:=by
 refine z5 rfl (by simp) ?_;have w0:IntKind.i64.wrap ((a:Int)+1)=(a:Int)+1:=a6 (by omega);simp only [r6,bO,bk,t9,bj,w0,push_cast,↓reduceIte,reduceCtorEq,zB,zE,zA,zS,zL,zD,zM];generalize hN:d.size=n at *
 refine run_loop [(6,false),(0,false),(1,false),(2,false)] (fun vs pos los=>∃(i:Nat) (e:Array Int),a+1≤i∧i≤100002∧e.size=n∧insertionSort ltInt d a b=insOuter ltInt a b i e∧vs=[int .i64 i,.own 1000000 0 0 n,int .i64 a,int .i64 b]∧pos=[bO e m]∧los=[])
  (fun vs _ _=>match vs with | .r (.v (.int _ j))::_=>(b-j).toNat | _=>0) rfl ?_ ?_
 ·simp only [bO,bk,t9,bj,push_cast,↓reduceIte,reduceCtorEq,zB,zE,zA,zS,zL,zD,zM];exact ⟨a+1,d,by omega,by omega,hN,rfl,rfl,rfl⟩
 ·rintro vs pos los ⟨i,e,hi,hi2,he,hE,rfl,rfl,rfl⟩;simp only [bO,bk,t9,bj,push_cast,↓reduceIte,reduceCtorEq,zB,zE,zA,zS,zL,zD,zM];refine b6 (fun h=>?_) (fun h=>?_)
  ·have h':i<b:=by
    simp at h;omega
   have w1:IntKind.i64.wrap ((i:Int)+1)=(i:Int)+1:=a6 (by omega);simp only [push_cast,↓reduceIte,reduceCtorEq,zB,zE,zA,zS,zL,zD,zM]
   refine run_loop [(6,false),(7,false),(0,false),(1,false),(2,false)] (fun vs pos los=>∃(j:Nat) (f:Array Int),j≤i∧f.size=n∧insInner ltInt a i e=insInner ltInt a j f∧vs=[int .i64 i,int .i64 j,.own 1000000 0 0 n,int .i64 a,int .i64 b]∧pos=[bO f m]∧los=[])
    (fun vs _ _=>match vs with | _ :: .r (.v (.int _ j))::_=>j.toNat | _=>0) rfl ?_ ?_
   ·simp only [bO,bk,t9,bj,push_cast,↓reduceIte,reduceCtorEq,zB,zE,zA,zS,zL,zD,zM];exact ⟨i,e,by omega,he,rfl,rfl,rfl⟩
   ·rintro vs pos los ⟨j,f,hj,hf,hF,rfl,rfl,rfl⟩;by_cases hja:j≤a
    ·have g0:decide ((j:Int)>a)=false:=by simp; omega
     simp only [bO,bk,t9,bj,g0,w1,push_cast,↓reduceIte,reduceCtorEq,zB,zE,zA,zS,zL,zD,zM]
     repeat refine And.intro (by first | decide | omega | exact fun _=>by decide | (simp +contextual; done) | kernel_rfl) ?_
     refine ⟨⟨i+1,f,by omega,by omega,hf,?_,(by first | rfl | exact ⟨rfl,rfl⟩ | exact ⟨rfl,rfl,rfl⟩)⟩,by omega⟩;rw [hE,insOuter,if_pos h',hF];congr 1;cases j with
     | zero=>rfl
     | succ k=>rw [insInner,if_neg (by simp; omega)]
    ·obtain ⟨k,rfl⟩:∃k,j=k+1:=⟨j-1,by omega⟩
     have g0:decide ((k:Int)+1>a)=true:=by simp; omega
     have wk:IntKind.i64.wrap ((k:Int)+1-1)=(k:Int):=by rw [a6 (by omega)]; omega
     have k1:k<f.size:=by omega
     have k2:k+1<f.size:=by omega
     simp only [bO,bk,t9,bj,g0,wk,vm (m:=m) k1,vm (m:=m) k2,zab,zae,zaa,push_cast,↓reduceIte,reduceCtorEq,zB,zE,zA,zS,zL,zD,zM]
     repeat refine And.intro (by first | decide | omega | exact fun _=>by decide | (simp +contextual; done) | kernel_rfl) ?_
     refine c8 (ba2 f[k+1]! f[k]!) rfl trivial ?_;simp only [bO,bk,t9,bj,g0,wk,vm (m:=m) k1,vm (m:=m) k2,zab,zae,zaa,push_cast,↓reduceIte,reduceCtorEq,zB,zE,zA,zS,zL,zD,zM];refine ⟨by kernel_rfl,?_⟩;refine b6 (fun hc=>?_) (fun hc=>?_)
     ·have k3:k<(f.setIfInBounds (k+1) f[k]!).size:=by simpa using k1
      simp only [bO,bk,t9,bj,g0,wk,vm (m:=m) k1,vm (m:=m) k2,vm (m:=m) k3,azq (m:=m) k2,azq (m:=m) k3,zab,zae,zaa,push_cast,↓reduceIte,reduceCtorEq,zB,zE,zA,zS,zL,zD,zM]
      repeat refine And.intro (by first | decide | omega | exact fun _=>by decide | (simp +contextual; done) | kernel_rfl) ?_
      refine ⟨⟨k,swp f (k+1) k,by omega,by rw [a0g]; exact hf,?_,(by first | rfl | exact ⟨rfl,rfl⟩ | exact ⟨rfl,rfl,rfl⟩)⟩,by omega⟩;rw [hF,insInner,if_pos];simp [hc];omega
     ·simp only [bO,bk,t9,bj,g0,wk,w1,vm (m:=m) k1,vm (m:=m) k2,zab,zae,zaa,push_cast,↓reduceIte,reduceCtorEq,zB,zE,zA,zS,zL,zD,zM];refine ⟨⟨i+1,f,by omega,by omega,hf,?_,(by first | rfl | exact ⟨rfl,rfl⟩ | exact ⟨rfl,rfl,rfl⟩)⟩,by omega⟩;rw [hE,insOuter,if_pos h',hF,insInner,if_neg];simp [hc]
  ·have h':¬i<b:=by
    simp at h;omega
   simp only [t9,bj,push_cast,↓reduceIte,reduceCtorEq,zB,zE,zA,zS,zL,zD,zM];rw [hE,insOuter,if_neg h']

open Go.Sort (swp ltInt bitsLen pdq sort Below insertionSort)
noncomputable def y7:PC:=
  (.seq (.reg [p_s 8 (.mov (.c (.r (.v (.bool true)))))])
 (.seq (.reg [p_s 9 (.mov (.c (.r (.v (.bool true)))))])
 (.block 0 (.loop (.block 1 (.seq (.reg [p_m 19 2,p_m 20 1,p_s 21 (.bin .sub (.t 19) (.t 20)),p_m 10 21])
 (.seq (.seq (.reg [p_m 22 10,p_s 23 (.bin .leq (.t 22) (o_i 12))])
 (.cond (.t 23)
 (.seq (.reg [p_m 24 0,p_m 25 1,p_m 26 2,p_c 27 1 204 [.t 24,.t 25,.t 26]])
 .ret)
 .skip))
 (.seq (.seq (.reg [p_m 28 3,p_s 29 (.bin .eql (.t 28) (o_i 0))])
 (.cond (.t 29)
 (.seq (.reg [p_m 30 0,p_m 31 1,p_m 32 2,p_c 33 2 205 [.t 30,.t 31,.t 32]])
 .ret)
 .skip))
 (.seq (.seq (.reg [p_m 34 8,p_s 35 (.un .not (.t 34))])
 (.cond (.t 35)
 (.seq (.reg [p_m 36 0,p_m 37 1,p_m 38 2,p_c 39 3 206 [.t 36,.t 37,.t 38]])
 (.reg [p_m 40 3,p_s 41 (.bin .sub (.t 40) (o_i 1)),p_m 3 41]))
 .skip))
 (.seq (.reg [p_m 43 0,p_m 44 1,p_m 45 2,p_c 46 4 207 [.t 43,.t 44,.t 45],p_m 42 46,p_s 47 (.ext (.t 42) 0),p_s 48 (.ext (.t 42) 1),p_m 11 47,p_m 12 48])
 (.seq (.seq (.reg [p_m 49 12,p_s 50 (.bin .eql (.t 49) (o_i 2))])
 (.cond (.t 50)
 (.seq (.reg [p_m 51 0,p_m 52 1,p_m 53 2,p_c 54 5 208 [.t 51,.t 52,.t 53]])
 (.seq (.reg [p_m 55 2,p_s 56 (.bin .sub (.t 55) (o_i 1)),p_m 57 11,p_m 58 1,p_s 59 (.bin .sub (.t 57) (.t 58)),p_s 60 (.bin .sub (.t 56) (.t 59)),p_m 11 60])
 (.reg [p_s 12 (.mov (o_i 1))])))
 .skip))
 (.seq (.seq (.reg [p_m 61 8,p_m 62 61,p_g 63 62 true (.mov (.t 9)),p_s 64 (.pick (.t 62) (.t 63) (.c (.r (.v (.bool false))))),p_m 65 64,p_g 66 65 true (.mov (.t 12)),p_g 67 65 true (.bin .eql (.t 66) (o_i 1)),
 p_s 68 (.pick (.t 65) (.t 67) (.c (.r (.v (.bool false)))))])
 (.cond (.t 68)
 (.seq (.reg [p_m 69 0,p_m 70 1,p_m 71 2,p_c 72 6 209 [.t 69,.t 70,.t 71]])
 (.cond (.t 72)
 .ret
 .skip))
 .skip))
 (.seq (.seq (.drw [p_m 73 1,p_s 74 (.bin .gtr (.t 73) (o_i 0)),p_m 75 74,p_g 76 75 true (.mov (.t 0)),p_g 77 75 true (.mov (.t 1)),p_g 78 75 true (.bin .sub (.t 77) (o_i 1)),
 p_g 79 75 true (.ia 1 (.v (.int .u64 0)) (.t 76) (.t 78)),p_g 80 75 true (.ld none (.t 79)),p_g 81 75 true (.mov (.t 0)),p_g 82 75 true (.mov (.t 11)),p_g 83 75 true (.ia 1 (.v (.int .u64 0)) (.t 81) (.t 82)),
 p_g 84 75 true (.ld none (.t 83)),⟨(some 85),(some (75,true)),7,.call 210 [(.t 80),(.t 84)]⟩,p_g 86 75 true (.un .not (.t 85)),p_s 87 (.pick (.t 75) (.t 86) (.c (.r (.v (.bool false)))))]
 [[],[0],[0,1],[0,1,2],[0,1,2],[0,1,2,4],[0,1,2,3,4,5],[0,1,2,3,4,5,6],[0,1,2],[0,1,2],[0,1,2,8,9],[0,1,2,8,9,10],[0,1,2,3,4,5,6,7,8,9,10,11],[0,1,2,3,4,5,6,7,8,9,10,11,12],[0,1,2,3,4,5,6,7,8,9,10,11,12,13]])
 (.cond (.t 87)
 (.seq (.reg [p_m 88 0,p_m 89 1,p_m 90 2,p_m 91 11,p_c 92 8 211 [.t 88,.t 89,.t 90,.t 91],p_m 13 92])
 (.seq (.reg [p_m 93 13,p_m 1 93])
 (.exit 1)))
 .skip))
 (.seq (.reg [p_m 95 0,p_m 96 1,p_m 97 2,p_m 98 11,p_c 99 9 212 [.t 95,.t 96,.t 97,.t 98],p_m 94 99,p_s 100 (.ext (.t 94) 0),p_s 101 (.ext (.t 94) 1),p_m 14 100,p_m 15 101])
 (.seq (.reg [p_m 102 15,p_m 9 102])
 (.seq (.reg [p_m 103 14,p_m 104 1,p_s 105 (.bin .sub (.t 103) (.t 104)),p_m 106 2,p_m 107 14,p_s 108 (.bin .sub (.t 106) (.t 107)),p_m 16 105,p_m 17 108])
 (.seq (.reg [p_m 109 10,p_s 110 (.bin .quo (.t 109) (o_i 8)),p_m 18 110])
 (.seq (.reg [p_m 111 16,p_m 112 17,p_s 113 (.bin .lss (.t 111) (.t 112))])
 (.cond (.t 113)
 (.seq (.reg [p_m 114 16,p_m 115 18,p_s 116 (.bin .geq (.t 114) (.t 115)),p_m 8 116])
 (.seq (.reg [p_m 117 0,p_m 118 1,p_m 119 14,p_m 120 3,p_c 121 10 168 [.t 117,.t 118,.t 119,.t 120]])
 (.reg [p_m 122 14,p_s 123 (.bin .add (.t 122) (o_i 1)),p_m 1 123])))
 (.seq (.reg [p_m 124 17,p_m 125 18,p_s 126 (.bin .geq (.t 124) (.t 125)),p_m 8 126])
 (.seq (.reg [p_m 127 0,p_m 128 14,p_s 129 (.bin .add (.t 128) (o_i 1)),p_m 130 2,p_m 131 3,p_c 132 11 168 [.t 127,.t 129,.t 130,.t 131]])
 (.reg [p_m 133 14,p_m 2 133]))))))))))))))))))))))
theorem bn:Fun P0 168 4 [] y7:=b5 Go.Proofs.Tryz.func168 rfl (by decide) (by kernel_rfl) (by decide) rfl (by kernel_rfl) (by kernel_rfl) (by decide)
noncomputable def au:PC:=
  (.seq (.reg [p_m 3 0,p_s 4 (.len false (.t 3)),p_m 2 4])
 (.reg [p_m 5 0,p_m 6 2,p_m 7 2,p_s 8 (.conv .u64 (.t 7)),p_c 9 1 169 [.t 8],p_c 10 2 168 [(.t 5),(o_i 0),(.t 6),(.t 9)]]))
theorem dn:Fun P0 119 1 [] au:=b5 Go.Proofs.Tryz.func119 rfl (by decide) (by kernel_rfl) (by decide) rfl (by kernel_rfl) (by kernel_rfl) (by decide)
theorem apj {x:Int} (h:0≤x∧x<18446744073709551616):IntKind.u64.wrap x=x:=by rw [IntKind.wrap_u64]; omega
theorem a5b (n:Nat) (hn:n<64):a7 P0 214 [int .u64 n] [] (int .i64 (bitsLen n)) []:=by
 refine aai rfl (by decide) ?_;have g1:decide ((n:Int)≥4294967296)=false:=by simp; omega
 have g2:decide ((n:Int)≥65536)=false:=by simp; omega
 have g3:decide ((n:Int)≥256)=false:=by simp; omega
 have w:IntKind.u8.wrap (n:Int)=n:=by simp [IntKind.wrap,IntKind.bits,IntKind.signed]; omega
 simp only [zx,g1,g2,g3,w,zab,push_cast,↓reduceIte,reduceCtorEq,zB,zE,zA,zS,zL,zD,zM];refine ⟨⟨by omega,(show (n:Int)<((256:Nat):Int) by omega)⟩,?_⟩;refine congrArg (fun z=>AV.r (.v (.int .i64 z))) ?_;clear g1 g2 g3 w
 revert n
 decide +kernel
theorem azr (n:Nat) (hn:n<64):a7 P0 169 [int .u64 n] [] (int .i64 (bitsLen n)) []:=by
 refine ac9 rfl (by decide) ?_;have w:IntKind.u64.wrap (n:Int)=n:=apj (by omega);simp only [adv,w,push_cast,↓reduceIte,reduceCtorEq,zB,zE,zA,zS,zL,zD,zM];refine a5 (a5b n hn) rfl trivial ?_;simp only [push_cast,↓reduceIte,reduceCtorEq,zB,zE,zA,zS,zL,zD,zM]
theorem a2o {m:Nat} {f g:Array Int} (h:g.size=f.size):ak [bO f m] [bO g m]:=⟨by rw [bk,bk,h],trivial⟩
theorem ax7 {e:Array Int} {a b limit:Nat} {wb wp:Bool} (h:b-a≤12):pdq ltInt e a b limit wb wp=insertionSort ltInt e a b:=by rw [pdq,if_pos h]
theorem a90 (m:Nat) (d:Array Int) (hn:d.size≤12) (limit:Nat) (hlim:limit≤100) :
  a7 P0 168 [.own 1000000 0 0 d.size,int .i64 0,int .i64 d.size,int .i64 limit] [bO d m] (.tup []) [bO (pdq ltInt d 0 d.size limit true true) m]:=by
 refine bn rfl (by simp) ?_;rw [ax7 (by omega)];simp only [y7,bO,bk,t9,bj,zab,zae,zaa,push_cast,↓reduceIte,reduceCtorEq,zB,zE,zA,zS,zL,zD,zM]
 repeat refine And.intro (by first | decide | omega | exact fun _=>by decide | (simp +contextual; done) | kernel_rfl) ?_
 refine run_loop [(8,false),(9,false),(0,false),(1,false),(2,false),(3,false)] (fun vs pos los=>vs=[bl true,bl true,.own 1000000 0 0 d.size,int .i64 0,int .i64 d.size,int .i64 limit]∧pos=[bO d m]∧los=[]) (fun _ _ _=>0) rfl ?_ ?_
 ·simp only [bO,t9,bj,push_cast,↓reduceIte,reduceCtorEq,zB,zE,zA,zS,zL,zD,zM]
 ·rintro vs pos los ⟨rfl,rfl,rfl⟩;have w0:IntKind.i64.wrap ((d.size:Int)-0)=(d.size:Int):=by rw [a6 (by omega)]; omega
  have d0:decide ((d.size:Int)≤12)=true:=decide_eq_true (by omega);simp only [bO,bk,t9,bj,w0,d0,zab,zae,zaa,push_cast,↓reduceIte,reduceCtorEq,zB,zE,zA,zS,zL,zD,zM];have ht:=bak d 0 d.size (by omega) (by omega) (by omega) m;refine a5 ht rfl (a2o (Go.Sort.insertionSort_holds Go.Sort.swo_ltInt d 0 d.size (by omega) (by omega)).1.1) ?_;simp only [bO,bk,t9,bj,zab,zae,zaa,push_cast,↓reduceIte,reduceCtorEq,zB,zE,zA,zS,zL,zD,zM]
def ub (ws:List Int):List Int:=ws.mergeSort (fun x y=>decide (x≤y))
def ll (ws:List Int):List RV:=ws.map fun n=>RV.v (.int .u64 n)
def q7 (ws:List Int):Ob:=.row 1 (.v (.int .u64 0)) true true (ll ws)
theorem akw (ws:List Int):(ub ws).length=ws.length:=List.length_mergeSort ..
theorem asx (ws:List Int) (m:Nat):bv (ws.map fun n=>Value.int .u64 n) m=bc ws.toArray m:=by
 simp [bv,bc,bu,Function.comp_def]
theorem ww (ws:List Int):(ll ws).length=ws.length:=by simp [ll]
theorem a30 (d:Array Int) (hn:d.size<13) (m:Nat):a7 P0 119 [.own 1000000 0 0 d.size] [bO d m] (.tup []) [bO (sort ltInt d) m]:=by
 refine dn rfl (by simp) ?_;have hb:bitsLen d.size≤6:=(Go.Sort.bitsLen_le_iff d.size 6).2 (by omega);have w:IntKind.u64.wrap (d.size:Int)=d.size:=apj (by omega);simp only [au,bO,bk,t9,bj,w,zab,zae,zaa,push_cast,↓reduceIte,reduceCtorEq,zB,zE,zA,zS,zL,zD,zM];refine a5 (azr d.size (by omega)) rfl trivial ?_;simp only [bO,bk,t9,bj,w,zab,zae,zaa,push_cast,↓reduceIte,reduceCtorEq,zB,zE,zA,zS,zL,zD,zM];have ht:=a90 m d (by omega) (bitsLen d.size) (by omega);refine a5 ht rfl (a2o (Go.Sort.pdq_sorts ltInt Go.Sort.swo_ltInt d 0 d.size _ true true (by omega) (by omega) (.inl rfl)).1.1) ?_;simp only [bO,bk,t9,bj,w,zab,zae,zaa,push_cast,↓reduceIte,reduceCtorEq,zB,zE,zA,zS,zL,zD,zM]
 rfl
def vu (ws:List Int):List Value:=ws.map fun n=>Value.int .u64 n
theorem aw0 (ws:List Int):(vu ws).length=ws.length:=by simp [vu]
theorem awz (ws:List Int):(vu ws).map RV.v=ll ws:=by simp [vu,ll,Function.comp_def]
theorem a61 (ws:List Int) (hn:ws.length<13) (m:Nat):a7 P0 119 [.own 1000000 0 0 ws.length] [.box (bv (vu ws) m)] (.tup []) [.box (bv (vu (ub ws)) m)]:=by
 have:=a30 ws.toArray (by simpa using hn) m;unfold vu;rw [asx,asx]
 have e:(ub ws).toArray=sort ltInt ws.toArray:=by
  have:=Go.Sort.sortInt ws;unfold ub;rw [← this]
 rw [e];simpa [bO] using this
theorem a9w (ws ws':List Int) (h:ws'.length=ws.length) (m:Nat):ak [.box (bv (vu ws) m)] [.box (bv (vu ws') m)]:=⟨by simp [bv,aw0,h],trivial⟩
theorem ahx (xs:List Value) (m:Nat):i7 (bv xs m)=[]:=ahy _ fun x hx=>by
 rcases zbd.1 hx with hx | hx
 ·obtain ⟨n,_,rfl⟩:=zap.1 hx
  rfl
 ·rw [(List.mem_replicate.1 hx).2]; rfl
theorem asf (F:Ren) (xs:List Value) (m:Nat):imL F (bv xs m)=bv xs m:=mq F _ (ahx xs m)
theorem a5c:a7 P0 204 [.r (.sl 1 []),int .i64 0,int .i64 0] [] (.tup []) []:=by
 refine z5 rfl (by decide) ?_;have g:decide (IntKind.i64.wrap (0+1)<0)=false:=by decide
 simp only [r6,push_cast,↓reduceIte,reduceCtorEq,zB,zE,zA,zS,zL,zD,zM];refine run_loop [(6,false),(2,false)] (fun vs pos los=>vs=[int .i64 (IntKind.i64.wrap (0+1)),int .i64 0]∧pos=[]∧los=[]) (fun _ _ _=>0) rfl ?_ ?_
 ·simp only [push_cast,↓reduceIte,reduceCtorEq,zB,zE,zA,zS,zL,zD,zM]
 ·rintro vs pos los ⟨rfl,rfl,rfl⟩;simp only [g,push_cast,↓reduceIte,reduceCtorEq,zB,zE,zA,zS,zL,zD,zM]
theorem a42:a7 P0 168 [.r (.sl 1 []),int .i64 0,int .i64 0,int .i64 0] [] (.tup []) []:=by
 refine bn rfl (by decide) ?_;have g:decide ((0:Int)≤12)=true:=by decide
 have w:IntKind.i64.wrap (0-0)=0:=rfl;simp only [y7,push_cast,↓reduceIte,reduceCtorEq,zB,zE,zA,zS,zL,zD,zM];refine run_loop [(8,false),(9,false),(0,false),(1,false),(2,false),(3,false)] (fun vs pos los=>vs=[bl true,bl true,.r (.sl 1 []),int .i64 0,int .i64 0,int .i64 0]∧pos=[]∧los=[]) (fun _ _ _=>0) rfl ?_ ?_
 ·simp only [push_cast,↓reduceIte,reduceCtorEq,zB,zE,zA,zS,zL,zD,zM]
 ·rintro vs pos los ⟨rfl,rfl,rfl⟩;simp only [w,g,push_cast,↓reduceIte,reduceCtorEq,zB,zE,zA,zS,zL,zD,zM];refine a5 a5c rfl trivial ?_;simp only [push_cast,↓reduceIte,reduceCtorEq,zB,zE,zA,zS,zL,zD,zM]
theorem a0i:a7 P0 119 [.r (.sl 1 [])] [] (.tup []) []:=by
 refine dn rfl (by decide) ?_;simp only [au,push_cast,↓reduceIte,reduceCtorEq,zB,zE,zA,zS,zL,zD,zM];refine a5 (azr 0 (by decide)) rfl trivial ?_;simp only [push_cast,↓reduceIte,reduceCtorEq,zB,zE,zA,zS,zL,zD,zM];refine a5 a42 rfl trivial ?_;simp only [push_cast,↓reduceIte,reduceCtorEq,zB,zE,zA,zS,zL,zD,zM]

noncomputable def z8:PC:=
  (.seq (.reg [p_s 4 (.mov (.c (.nils 1 (.v (.int .u64 0)))))])
 (.seq (.seq (.reg [p_m 7 1,p_s 8 (.bin .lss (.t 7) (o_i 0)),p_m 9 8,p_g 10 9 false (.mov (.t 1)),p_g 11 9 false (.bin .geq (.t 10) (o_i 13)),p_s 12 (.pick (.t 9) (.c (.r (.v (.bool true)))) (.t 11))])
 (.cond (.t 12)
 (.seq (.reg [p_s 4 (.mov (.c (.nils 1 (.v (.int .u64 0)))))])
 .ret)
 .skip))
 (.seq (.reg [p_s 5 (.mov (.c (.nils 1 (.v (.int .u64 0)))))])
 (.seq (.seq (.reg [p_m 13 0,p_m 14 1,p_s 15 (.nck (.t 13)),p_s 16 (.fa 2 (.t 15)),p_s 17 (.iaa 13 1 (.t 16) (.t 14)),p_s 18 (.ld none (.t 17)),p_a 19 (.rng (.t 18))])
 (.block 0 (.loop (.seq (.reg [⟨(some 20),none,0,.nxt (.t 19)⟩,p_s 21 (.ext (.t 20) 0)])
 (.seq (.cond (.t 21)
 .skip
 (.exit 0))
 (.block 1 (.seq (.reg [p_s 22 (.ent (.t 19)),p_s 23 (.ext (.t 22) 0),p_m 6 23])
 (.reg [p_m 24 5,p_m 25 6,p_a 26 (.bsl 1 (.v (.int .u64 0)) [(.t 25)]),p_a 27 (.app 1 (.v (.int .u64 0)) 8 (.t 24) (.t 26)),p_m 5 27]))))))))
 (.seq (.reg [p_m 28 5,p_c 29 1 119 [.t 28]])
 (.seq (.reg [p_m 30 5,p_m 4 30])
 .ret))))))
theorem abl:Fun P0 69 2 [(4,false,none)] z8:=b5 Go.Proofs.Tryz.func69 rfl (by decide) (by kernel_rfl) (by decide) rfl (by kernel_rfl) (by kernel_rfl) (by decide)
def kI (e:MapEntry):Int:=match e.key with | .int _ n=>n | _=>0
def KeysU (es:List MapEntry) (c:Nat):Prop:=(∀e∈es,e.key=.int .u64 (kI e))∧(es.map (·.born)).Nodup∧∀e∈es,e.born<c
theorem a5s {f:Nat→Nat} {es:List MapEntry} {c:Nat} (h:CM f es c):KeysU es c:=by
 obtain ⟨ws,h1,h2,h3⟩:=h.ex;refine ⟨fun e he=>?_,h1.nd,h1.lt⟩;have:(e.key,e.val)∈ws.map cnE:=by rw [← h1.kv]; exact zap.2 ⟨e,he,rfl⟩
 obtain ⟨a,_,ha⟩:=zap.1 this;simp only [ent,Prod.mk.injEq] at ha;simp [kI,← ha.1]
theorem aot {es:List MapEntry} {seen:List Nat} {e:MapEntry} (he:e∈ae es seen):(ae es (seen++[e.born])).length<(ae es seen).length:=by
 have e1:ae es (seen++[e.born])=(ae es seen).filter fun x=>!(x.born == e.born):=by
  unfold ae;rw [List.filter_filter];apply List.filter_congr;intro x _;simp only [List.contains_eq_mem,zbd,List.mem_singleton,Bool.decide_or,Bool.not_or,Bool.and_comm];by_cases hx:x.born=e.born<;>simp [hx]
 rw [e1]
 have:((ae es seen).filter fun x=>!(x.born == e.born)).length<(ae es seen).length:=by
  rw [List.length_filter_lt_length_iff_exists];exact ⟨e,he,by simp⟩
 exact this
structure Vis (es V:List MapEntry) (seen:List Nat):Prop where
 s:seen=V.map (·.born)
 sub:∀e∈V,e∈es
 nd:seen.Nodup
 b:V.length+(ae es seen).length≤es.length
theorem a3k (es:List MapEntry):Vis es [] []:=⟨rfl,by simp,by simp,by simp only [List.length_nil,zaa]; exact List.length_filter_le ..⟩
theorem Vis.add {es V:List MapEntry} {seen:List Nat} (h:Vis es V seen) {e:MapEntry} (he:e∈ae es seen):Vis es (V++[e]) (seen++[e.born]):=by
 obtain ⟨h1,h2⟩:=List.mem_filter.1 he;refine ⟨by rw [h.s]; simp,fun x hx=>?_,?_,by have:=h.b; have:=aot he; simp only [zah,zbe]; omega⟩
 ·rcases zbd.1 hx with hx | hx
  ·exact h.sub x hx
  ·simp at hx; subst hx; exact h1
 ·rw [List.nodup_append];refine ⟨h.nd,by simp,fun a ha b hb=>?_⟩;simp at hb;subst hb;rintro rfl;simp at h2;exact h2 ha
theorem Vis.all {es V:List MapEntry} {seen:List Nat} (h:Vis es V seen) (hnd:(es.map (·.born)).Nodup) (h0:ae es seen=[]):V.Perm es:=by
 have hV:V.Nodup:=by
  have:=h.nd;rw [h.s] at this;exact (List.pairwise_map.1 this).imp fun {a b} hab e=>hab (by rw [e])
 have hE:es.Nodup:=(List.pairwise_map.1 hnd).imp fun {a b} hab e=>hab (by rw [e]);refine (List.perm_ext_iff_of_nodup hV hE).2 fun x=>⟨h.sub x,fun hx=>?_⟩
 have:¬x∈ae es seen:=by rw [h0]; simp
 unfold ae at this;rw [List.mem_filter,h.s] at this;simp only [hx,true_and,Bool.not_eq_true',List.contains_eq_mem,decide_eq_false_iff_not,Classical.not_not,zap] at this;obtain ⟨y,hy,e⟩:=this;have hye:=h.sub y hy;obtain ⟨i,hi⟩:=zbf hx;obtain ⟨j,hj⟩:=zbf hye;have:=anb hnd (i:=i) (j:=j) (x:=x.born) (by simp [hi]) (by simp [hj,e]);subst this;rw [hi] at hj;cases hj;exact hy
theorem aqg {es:List MapEntry} (hnd:(es.map (·.born)).Nodup) {e:MapEntry} (he:e∈es) (seen:List Nat):asq es (seen++[e.born])=some e:=by
 unfold asq;simp only [List.getLast?_append,List.getLast?_singleton,Option.some_or];cases hf:es.find? fun x=>x.born == e.born with
 | none=>
  have:=List.find?_eq_none.1 hf e he;simp at this
 | some y=>
  have hy:=List.mem_of_find?_eq_some hf;have hb:=List.find?_some hf;simp at hb;obtain ⟨i,hi⟩:=zbf he;obtain ⟨j,hj⟩:=zbf hy;have:=anb hnd (i:=i) (j:=j) (x:=e.born) (by simp [hi]) (by simp [hj,hb]);subst this;rw [hi] at hj;exact hj.symm
theorem apm {a b:List Int} (h:a.Perm b):ub a=ub b:=by
 have h1:(ub a).Perm (ub b):=((List.mergeSort_perm a _).trans h).trans (List.mergeSort_perm b _).symm;have tr:∀x y z:Int,decide (x≤y)=true→decide (y≤z)=true→decide (x≤z)=true:=by simp; omega
 have tot:∀x y:Int,(decide (x≤y)||decide (y≤x))=true:=by simp; omega
 have s1:=List.pairwise_mergeSort tr tot a;have s2:=List.pairwise_mergeSort tr tot b;refine List.Perm.eq_of_pairwise (le:=fun x y=>decide (x≤y)=true) (fun x y _ _ h1 h2=>by simp at h1 h2; omega) s1 s2 h1
theorem a5x {args:List AV} {po:List Ob} {D:AV→List Ob→Prop} (hal:args.length=2) (hpo:po.length≤1000)
  (h:run P0 po.length (apf po.length [(4,false,none)] D) [.c z8] ⟨km 0 args,ob0 po⟩):ai5 P0 69 args po D:=
 agz (fn:=Go.Proofs.Tryz.f69) (c:=(Go.Proofs.Tryz.f69.body).getD .skip) (pc:=z8) (rs:=[(4,false,none)]) Go.Proofs.Tryz.func69 rfl (by decide) (by kernel_rfl) (by rw [hal]; decide) rfl (by kernel_rfl) (by kernel_rfl) (by decide) hpo (as6 h)
theorem a3u (V:List MapEntry) (x:Int):zai V.length (ll (V.map kI))++[RV.v (.int .u64 x)]=ll (V.map kI++[x]):=by
 rw [zaj (by simp [ll])];simp [ll]
section
variable {es:List MapEntry} {c:Nat} {ns:List (List Ky)} {ce:Nat→List MapEntry} {cc:Nat→Nat}
set_option maxHeartbeats 40000000 in
theorem cells_some {r : Nat} (hr : r < 13) {E : List MapEntry} {C : Nat} (eE : ce r = E) (eC : cc r = C) (h : KeysU E C) (hn : E.length < 13) (hne : E ≠ []) :
    ai5 P0 69 [.ptr 1000000 0 0,int .i64 r] (stOs es c ns ce cc) fun v os=>∃m,v=.own 1000016 0 0 E.length∧os=stOs es c ns ce cc++[.box (bv (vu (ub (E.map kI))) m)]:=by
  refine a5x rfl (by simp [stOs]) ?_;have g1:decide ((r:Int)<0)=false:=by simp
  have g2:decide ((r:Int)≥13)=false:=by simp; omega
  obtain ⟨K,hK⟩:∃K,ub (E.map kI)=K:=⟨_,rfl⟩
  rw [hK];obtain ⟨M,hM⟩:∃M,1000003+r=M:=⟨_,rfl⟩
  simp only [z8,stOs,g1,g2,push_cast,↓reduceIte,reduceCtorEq,zB,zE,zA,zS,zL,zD,zM]
  rcases (show r=0∨r=1∨r=2∨r=3∨r=4∨r=5∨r=6∨r=7∨r=8∨r=9∨r=10∨r=11∨r=12 by omega) with rfl | rfl | rfl | rfl | rfl | rfl | rfl | rfl | rfl | rfl | rfl | rfl | rfl<;>(
    simp only [Nat.reduceAdd] at hM;simp only [eE,eC,zac,zad,push_cast,↓reduceIte,reduceCtorEq,zB,zE,zA,zS,zL,zD,zM]
    repeat refine And.intro (by first | decide | omega | exact fun _=>by decide | (simp +contextual; done) | kernel_rfl) ?_
    refine run_loop [(5, false), (19, false)] (fun vs pos los => ∃ (V : List MapEntry) (seen : List Nat), Vis E V seen ∧ pos = stOs es c ns ce cc ∧ ∃ st, C ≤ st ∧
        (V=[]∧vs=[.nils 1 (.v (.int .u64 0)),.ptr 2000000 0 0]∧los=[.iter (.mp M 0) C seen st] ∨
         V≠[]∧vs=[.own 2000000 0 0 V.length,.ptr 2000001 0 0]∧los=[q7 (V.map kI),.iter (.mp M 0) C seen st]))
      (fun _ _ los=>match los with | [.iter _ _ seen _]=>(ae E seen).length | [_,.iter _ _ seen _]=>(ae E seen).length | _=>0) rfl ?_ ?_
    · simp only [stOs,eE,eC,← hM,push_cast,↓reduceIte,reduceCtorEq,zB,zE,zA,zS,zL,zD,zM];exact ⟨[],[],a3k _,C,zak _,by simp⟩
    · rintro vs pos los ⟨V,seen,hV,rfl,st,hst,⟨h0,rfl,rfl⟩ | ⟨h0,rfl,rfl⟩⟩
      · subst h0;simp only [stOs,eE,eC,← hM,push_cast,↓reduceIte,reduceCtorEq,zB,zE,zA,zS,zL,zD,zM];have hs:seen=[]:=hV.s;refine arr h.2.2 hst (fun hl=>?_) (fun en hen=>?_)
        · exfalso;rw [hs] at hl;unfold ae at hl;simp at hl;exact hne (List.eq_nil_iff_forall_not_mem.2 fun x hx=>by simpa using hl x hx)
        · have hk:en.key=.int .u64 (kI en):=h.1 en ((hV.add hen).sub en (by simp));have hE:=aqg h.2.1 ((hV.add hen).sub en (by simp)) seen;simp only [hk,hE,Option.isSome_some,push_cast,↓reduceIte,reduceCtorEq,zB,zE,zA,zS,zL,zD,zM]
          repeat refine And.intro (by first | decide | omega | exact fun _=>by decide | (simp +contextual; done) | kernel_rfl) ?_
          exact ⟨⟨[en],_,hV.add hen,C,zak _,.inr ⟨by simp,rfl,rfl⟩⟩,aot hen⟩
      · simp only [stOs,eE,eC,← hM,push_cast,↓reduceIte,reduceCtorEq,zB,zE,zA,zS,zL,zD,zM];refine arr h.2.2 hst (fun hl=>?_) (fun en hen=>?_)
        · simp only [q7,ll,push_cast,↓reduceIte,reduceCtorEq,zB,zE,zA,zS,zL,zD,zM];have hP:=hV.all h.2.1 hl;have hlen:=hP.length_eq;refine azp 2000000 0 (.v (.int .u64 0)) (vu (V.map kI)) (by rw [awz]; rfl) (by simpa [vu] using h0) (fun m=>?_);rw [show zan (fun x=>AV.r (RV.v x)) (vu (V.map kI))++List.replicate m AV.undef=bv (vu (V.map kI)) m from rfl];have ht:=a61 (V.map kI) (by simp; omega) m;rw [apm (hP.map kI),hK] at ht;simp only [zar] at ht;simp only [q7,ll,ahx,asf,push_cast,↓reduceIte,reduceCtorEq,zB,zE,zA,zS,zL,zD,zM];refine a5 ht rfl (a9w _ _ (by rw [← hK,akw,zar,zar,hlen]) m) ?_;simp only [q7,ll,ahx,asf,hlen,push_cast,↓reduceIte,reduceCtorEq,zB,zE,zA,zS,zL,zD,zM];exact ⟨m,by simp⟩
        · have hk:en.key=.int .u64 (kI en):=h.1 en ((hV.add hen).sub en (by simp));have hE:=aqg h.2.1 ((hV.add hen).sub en (by simp)) seen;have hvl:=(hV.add hen).b;simp only [zah,zbe] at hvl;have hmx:=d5;simp only [hk,hE,Option.isSome_some,q7,a3u,push_cast,↓reduceIte,reduceCtorEq,zB,zE,zA,zS,zL,zD,zM]
          repeat refine And.intro (by first | decide | omega | exact fun _=>by decide | (simp +contextual; done) | kernel_rfl) ?_
          exact ⟨⟨V++[en],_,hV.add hen,C,zak _,.inr ⟨by simp,by simp,by simp [ll]⟩⟩,aot hen⟩)
set_option maxHeartbeats 40000000 in
theorem awd {r:Nat} (hr:r<13) (h0:ce r=[]) :
  a7 P0 69 [.ptr 1000000 0 0,int .i64 r] (stOs es c ns ce cc) (.nils 1 (.v (.int .u64 0))) (stOs es c ns ce cc):=by
 refine abl rfl (by simp [stOs]) ?_;have g1:decide ((r:Int)<0)=false:=by simp
 have g2:decide ((r:Int)≥13)=false:=by simp; omega
 obtain ⟨M,hM⟩:∃M,1000003+r=M:=⟨_,rfl⟩
 obtain ⟨C,eC⟩:∃C,cc r=C:=⟨_,rfl⟩
 simp only [z8,stOs,g1,g2,push_cast,↓reduceIte,reduceCtorEq,zB,zE,zA,zS,zL,zD,zM]
 rcases (show r=0∨r=1∨r=2∨r=3∨r=4∨r=5∨r=6∨r=7∨r=8∨r=9∨r=10∨r=11∨r=12 by omega) with rfl | rfl | rfl | rfl | rfl | rfl | rfl | rfl | rfl | rfl | rfl | rfl | rfl<;>(
  simp only [Nat.reduceAdd] at hM;simp only [h0,eC,zac,zad,push_cast,↓reduceIte,reduceCtorEq,zB,zE,zA,zS,zL,zD,zM]
  repeat refine And.intro (by first | decide | omega | exact fun _=>by decide | (simp +contextual; done) | kernel_rfl) ?_
  refine run_loop [(5,false),(19,false)] (fun vs pos los=>vs=[.nils 1 (.v (.int .u64 0)),.ptr 2000000 0 0]∧pos=stOs es c ns ce cc∧los=[.iter (.mp M 0) C [] C])
   (fun _ _ _=>0) rfl ?_ ?_
  ·simp only [stOs,h0,eC,← hM,push_cast,↓reduceIte,reduceCtorEq,zB,zE,zA,zS,zL,zD,zM]
  ·rintro vs pos los ⟨rfl,rfl,rfl⟩;simp only [stOs,h0,eC,← hM,push_cast,↓reduceIte,reduceCtorEq,zB,zE,zA,zS,zL,zD,zM];refine arr (by simp) (zak _) (fun hl=>?_) (fun en hen=>?_)
   ·simp only [push_cast,↓reduceIte,reduceCtorEq,zB,zE,zA,zS,zL,zD,zM];refine a5 a0i rfl trivial ?_;simp only [push_cast,↓reduceIte,reduceCtorEq,zB,zE,zA,zS,zL,zD,zM]
   ·simp [ae] at hen)
end

def dd:List Nat→List Nat
 | []=>[]
 | a::l=>if a∈dd l then dd l else a::dd l
theorem ant {w:Nat}:∀{l:List Nat},w∈dd l↔w∈l
 | []=>by simp [dd]
 | a::l=>by
  rw [dd];split
  ·rename_i h;rw [ant,List.mem_cons];constructor
   ·exact .inr
   ·rintro (rfl | h2)
    ·exact ant.1 h
    ·exact h2
  ·rw [List.mem_cons,List.mem_cons,ant]
theorem alp:∀(l:List Nat),(dd l).Nodup
 | []=>by simp [dd]
 | a::l=>by
  rw [dd];split
  ·exact alp l
  ·rename_i h;exact List.nodup_cons.2 ⟨h,alp l⟩
theorem aze:∀(l:List Nat),(dd l).length≤l.length
 | []=>by simp [dd]
 | a::l=>by
  have:=aze l;rw [dd];split<;>simp<;>omega
def ad4 (L:List Pt) (r:Nat):List Nat:=dd (L.map (·.w r))
theorem alz {L:List Pt} {r w:Nat}:w∈ad4 L r↔∃p∈L,p.w r=w:=by unfold ad4; rw [ant,zap]
def asI (ws:List Nat):List Int:=ws.map fun n:Nat=>(n:Int)
def x8 (L:List Pt) (r:Nat):List Int:=ub (asI (ad4 L r))
theorem asu {L:List Pt} {r:Nat} {es:List MapEntry} {c:Nat} (h:CM (cnt L r) es c):(es.map kI).Perm (asI (ad4 L r)):=by
 obtain ⟨ws,h1,h2,h3⟩:=h.ex
 have e:es.map kI=asI (ws.map (·.1)):=by
  have:=congrArg (zan fun q:Value×Value=>match q.1 with | .int _ n=>n | _=>(0:Int)) h1.kv;simp only [List.map_map,Function.comp_def,ent] at this;unfold asI;rw [List.map_map];exact this
 rw [e];refine List.Perm.map _ ((List.perm_ext_iff_of_nodup h2 (alp _)).2 fun w=>?_);rw [show dd (L.map (·.w r))=ad4 L r from rfl,alz,zap];constructor
 ·rintro ⟨a,ha,rfl⟩;have:=((h3 a.1 a.2).1 ha).2;unfold cnt at this;rw [List.countP_pos_iff] at this;obtain ⟨p,hp,e⟩:=this;exact ⟨p,hp,by simpa using e⟩
 ·rintro ⟨p,hp,rfl⟩;refine ⟨(p.w r,_),(h3 _ _).2 ⟨rfl,?_⟩,rfl⟩;unfold cnt;rw [List.countP_pos_iff];exact ⟨p,hp,by simp⟩
theorem aa2 (L:List Pt) (r:Nat):(x8 L r).length≤L.length:=by
 unfold x8 asI;rw [akw,zar];exact Nat.le_trans (aze _) (by simp)
theorem a8t {L:List Pt} {r:Nat} {es:List MapEntry} {c:Nat} (h:CM (cnt L r) es c):es.length=(x8 L r).length:=by
 have:=(asu h).length_eq;unfold x8;rw [akw,← this,zar]
section
variable {L:List Pt} {es:List MapEntry} {c:Nat} {ns:List (List Ky)} {ce:Nat→List MapEntry} {cc:Nat→Nat}
theorem a15 (h:StL L es c ns ce cc) (hl:L.length<13) (r:Nat) (hr:r<13) :
  a7 P0 69 [.ptr 1000000 0 0,int .i64 r] (stOs es c ns ce cc) (.own 1000016 0 0 (x8 L r).length) (stOs es c ns ce cc++[q7 (x8 L r)]):=by
 have hcm:=h.cm r hr;have hK:=a5s hcm;have hlen:=a8t hcm;have hle:=aa2 L r;have hsrt:ub ((ce r).map kI)=x8 L r:=apm (asu hcm);have hs:∀o∈stOs es c ns ce cc,imO (md 16) o=o:=(SF L).shut ⟨es,c,ns,ce,cc,h,rfl⟩;by_cases hne:ce r=[]
 ·have h0:x8 L r=[]:=List.length_eq_zero_iff.1 (by rw [← hlen,hne]; rfl);rw [h0];have key:=awd (es:=es) (c:=c) (ns:=ns) (cc:=cc) hr hne;exact a49 (os:=stOs es c ns ce cc) (by simp [stOs]) hs key
 ·have key:=cells_some (es:=es) (c:=c) (ns:=ns) hr rfl rfl hK (by omega) hne;rw [hsrt,hlen] at key
  have:=a9p (os:=stOs es c ns ce cc) (ys:=vu (x8 L r)) (z:=.v (.int .u64 0)) (aw0 _) (by simp [stOs]) hs (fun y hy=>by
   obtain ⟨n,_,rfl⟩:=zap.1 hy
   rfl) key
  rw [awz] at this;exact this
end
theorem a5w (L:List Pt) (hl:L.length<13) (r:Nat) (hr:r<13):a7 P0 69 [.ptr 1000000 0 0,int .i64 r] [.abs (sT L)] (.own 1000001 0 0 (x8 L r).length) [.abs (sT L),q7 (x8 L r)]:=
 a03 (F:=SF L) (F':=SF L) rfl (ex:=[q7 (x8 L r)]) (fun os h=>by
  obtain ⟨es,c,ns,ce,cc,h,rfl⟩:=h;exact ⟨_,⟨_,_,_,_,_,h,rfl⟩,a15 h hl r hr⟩) rfl (by
  intro o ho;simp at ho;subst ho;intro x hx;obtain ⟨n,_,rfl⟩:=zap.1 hx
  trivial) (by simp [v8])

noncomputable def af4:PC:=
  (.seq (.reg [p_a 2 (.box (.t 0)),p_s 4 (.mov (.c (.nils 1 (.v (.int .u64 0))))),p_s 5 (.mov (o_i 0))])
 (.seq (.seq (.reg [p_s 13 (.ld (some 4) (.t 2)),p_c 14 1 66 [.t 13],p_m 6 14])
 (.seq (.reg [p_m 15 6,p_s 16 (.bin .neq (.t 15) (o_i 0))])
 (.cond (.t 16)
 (.seq (.reg [p_m 17 6,p_s 4 (.mov (.c (.nils 1 (.v (.int .u64 0))))),p_m 5 17])
 .ret)
 .skip)))
 (.seq (.reg [p_s 18 (.ld (some 4) (.t 2)),p_c 19 2 67 [.t 18],p_s 20 (.mkf (.func 68) [(.t 19)] 1),p_m 7 20])
 (.seq (.reg [p_s 8 (.mov (.c (.nils 1 (.v (.int .u64 0)))))])
 (.seq (.seq (.reg [p_m 21 1,p_s 22 (.fa 3 (.t 2)),p_s 23 (.ld none (.t 22)),p_c 24 3 69 [.t 21,.t 23],p_s 25 (.len false (.t 24)),p_s 26 (.mov (o_i 0))])
 (.block 0 (.loop (.seq (.reg [p_s 27 (.bin .lss (.t 26) (.t 25))])
 (.seq (.cond (.t 27)
 .skip
 (.exit 0))
 (.seq (.block 1 (.seq (.reg [p_s 28 (.ia 1 (.v (.int .u64 0)) (.t 24) (.t 26)),p_s 29 (.ld none (.t 28)),p_m 10 29])
 (.seq (.reg [p_m 31 10,p_c 32 4 70 [.t 31],p_m 30 32,p_s 33 (.ext (.t 30) 0),p_s 34 (.ext (.t 30) 1),p_a 11 (.new [(.r (.v (.int .i64 0))),(.r (.v (.int .i64 0))),(.r (.v (.int .i64 0)))]),
 ⟨none,none,0,.act (.st 3 (.t 11) (.t 33))⟩,p_m 12 34])
 (.seq (.reg [p_m 35 7,p_s 36 (.ld (some 3) (.t 11)),⟨(some 37),none,5,.callv (.t 35) [(.t 36)]⟩])
 (.cond (.t 37)
 (.reg [p_m 38 8,p_m 39 10,p_a 40 (.bsl 1 (.v (.int .u64 0)) [(.t 39)]),p_a 41 (.app 1 (.v (.int .u64 0)) 8 (.t 38) (.t 40)),p_m 8 41])
 .skip)))))
 (.reg [p_s 42 (.bin .add (.t 26) (o_i 1)),p_m 26 42])))))))
 (.seq (.reg [p_m 43 8,p_m 4 43,p_s 5 (.mov (o_i 0))])
 .ret))))))
theorem ai8:Fun P0 37 2 [(4,false,none),(5,false,none)] af4:=b5 Go.Proofs.Tryz.func37 rfl (by decide) (by kernel_rfl) (by decide) rfl (by kernel_rfl) (by kernel_rfl) (by decide)
def tw (t:Til) (n:Int):Bool:=tch (r9 n.toNat t.r.toNat) t.r.toNat (2^(30-t.z).toNat) t.x t.y
def z9 (L:List Pt) (t:Til):List Int:=(x8 L t.r.toNat).filter (tw t)
theorem anz {L:List Pt} {r i:Nat} {n:Int} (h:(x8 L r)[i]?=some n):∃p∈L,n=((p.w r:Nat):Int):=by
 have h1:=zbj h;unfold x8 ub at h1;rw [List.mem_mergeSort] at h1;obtain ⟨w,hw,rfl⟩:=zap.1 h1;obtain ⟨p,hp,e⟩:=alz.1 hw;exact ⟨p,hp,by rw [e]⟩
theorem yn {ws:List Int} {i:Nat} {n:Int} (h:ws[i]?=some n) (z:RV):(ll ws).getD ((i:Int)).toNat z=.v (.int .u64 n):=by
 simp [List.getD,ll,h]
theorem aap {ws:List Int} {i:Nat} {n:Int} (h:ws[i]?=some n) (z:RV):(ll ws).getD (0+((i:Int)).toNat) z=.v (.int .u64 n):=by rw [zaa]; exact yn h z
theorem ajr {C:List Int} {f:Int→Bool} {i:Nat} {n:Int} (h:C[i]?=some n):(C.take (i+1)).filter f=(C.take i).filter f++(if f n then [n] else []):=by
 rw [zba,h,List.filter_append];simp only [Option.toList_some,List.filter_cons,List.filter_nil]
set_option maxHeartbeats 4000000 in
theorem vcells_t (L : List Pt) (hL : L.length < 13) (hok : ∀ p ∈ L, p.ok) (t : Til) (ht : t.ok) (hti : tis t = true) (hf : fine t = false) {res : AV} {ro : List Ob}
    (hres:(z9 L t=[]∧res=.tup [.nils 1 (.v (.int .u64 0)),int .i64 0]∧ro=[.abs (sT L)])∨(z9 L t≠[]∧res=.tup [.own 1000001 0 0 (z9 L t).length,int .i64 0]∧ro=[.abs (sT L),q7 (z9 L t)])) :
    a7 P0 37 [t.v,.ptr 1000000 0 0] [.abs (sT L)] res ro:=by
  refine ai8 rfl (by simp) ?_;have hb:0≤t.z∧t.z≤18∧0≤t.r∧t.r≤12∧0≤t.x∧t.x<2^t.z.toNat∧0≤t.y∧t.y<2^t.z.toNat:=by simpa [tis] using hti
  have hO:=a7p t ht;rw [hti,hf] at hO;simp only [if_true,Bool.false_eq_true,if_false] at hO;have f0:((0:Int) != 0)=false:=rfl;simp only [af4,Til.v,push_cast,↓reduceIte,reduceCtorEq,zB,zE,zA,zS,zL,zD,zM];refine a9 (as':=[t.v]) rfl ?_;refine a5 hO rfl trivial ?_;simp only [f0,push_cast,↓reduceIte,reduceCtorEq,zB,zE,zA,zS,zL,zD,zM];refine a9 (as':=[t.v]) rfl ?_;refine a5 (ask t hti) rfl trivial ?_;simp only [bxv,push_cast,↓reduceIte,reduceCtorEq,zB,zE,zA,zS,zL,zD,zM];obtain ⟨R,hR⟩:∃R:Nat,t.r=R:=⟨t.r.toNat,by omega⟩
  have hca:=a5w L hL R (by omega);rw [hR];have hcl:=aa2 L R;have hCat:=fun i n h=>anz (L:=L) (r:=R) (i:=i) (n:=n) h;have hsh:z9 L t=(x8 L R).filter (tw t):=by unfold z9; rw [hR,zab]
  rw [hsh] at hres;generalize x8 L R=C at *;refine a5 hca rfl ⟨rfl,trivial⟩ ?_;simp only [q7,push_cast,↓reduceIte,reduceCtorEq,zB,zE,zA,zS,zL,zD,zM];obtain ⟨BX,hBX⟩:∃BX,bxv (t.x*2^(30-t.z).toNat) (t.y*2^(30-t.z).toNat) ((t.x+1)*2^(30-t.z).toNat) ((t.y+1)*2^(30-t.z).toNat)=.r BX:=⟨_,rfl⟩
  have hfn:uu P0 68=true:=rfl;have hmx:=d5;have hin:=aec hti;have hs2:=aa9 (show 0≤t.z∧t.z≤18 by omega)
  have hfts:∀p∈L,a7 P0 68 [.r BX,cel R (r9 (p.w R) R)] [] (bl (tw t ((p.w R:Nat):Int))) []:=fun p hp=>by
    have hpo:=hok p hp;have hk:=xe p.x p.y R hpo.2.1.1 hpo.2.1.2 (by omega);obtain ⟨c1,c2,c3,c4⟩:=yi R _ hk;have hwe:p.w R=s9 R (c9 p.x p.y R):=rfl;have hz:r9 (p.w R) R=c9 p.x p.y R:=by rw [hwe,c3]
    have hl:=avy p.x p.y R (by omega)
    have:=ano (c9 p.x p.y R) (R:Int) (by omega) (by rw [zab]; exact hk) (t.x*2^(30-t.z).toNat) (t.y*2^(30-t.z).toNat) ((t.x+1)*2^(30-t.z).toNat) ((t.y+1)*2^(30-t.z).toNat)
      (by rw [zab]; exact aas (by omega) hpo.2.1 hl) ⟨hin.1.1,by rw [Int.add_mul]; omega,hin.1.2⟩ ⟨hin.2.1,by rw [Int.add_mul]; omega,hin.2.2⟩
    rw [hBX] at this
    have e:tw t ((p.w R:Nat):Int)=tt (c9 p.x p.y R) R (3*(t.x*2^(30-t.z).toNat)) (3*(t.y*2^(30-t.z).toNat)) (3*((t.x+1)*2^(30-t.z).toNat)) (3*((t.y+1)*2^(30-t.z).toNat)):=by
      unfold tw tch;rw [zab,hR,zab,hz]
    rw [e,hz];rw [zab] at this;exact this
  refine run_loop [(26, false), (25, false), (24, false), (7, false), (8, false)] (fun vs pos los => ∃ i : Nat, i ≤ C.length ∧ pos = [.abs (sT L)] ∧
      ((C.take i).filter (tw t)=[]∧vs=[int .i64 i,int .i64 C.length,.own 2000000 0 0 C.length,.fn (.func 68) [.r BX] 1,.nils 1 (.v (.int .u64 0))]∧los=[q7 C] ∨
       (C.take i).filter (tw t)≠[]∧vs=[int .i64 i,int .i64 C.length,.own 2000000 0 0 C.length,.fn (.func 68) [.r BX] 1,.own 2000001 0 0 ((C.take i).filter (tw t)).length]∧los=[q7 C,q7 ((C.take i).filter (tw t))]))
    (fun vs _ _=>match vs with | .r (.v (.int _ j))::_=>(C.length-j).toNat | _=>0) rfl ?_ ?_
  · unfold bxv at hBX;cases hBX;simp only [q7,push_cast,↓reduceIte,reduceCtorEq,zB,zE,zA,zS,zL,zD,zM];exact ⟨0,by omega,by simp⟩
  · rintro vs pos los ⟨i,hi,rfl,⟨h0,rfl,rfl⟩ | ⟨h0,rfl,rfl⟩⟩
    · have hFl:True:=trivial;simp only [q7,push_cast,↓reduceIte,reduceCtorEq,zB,zE,zA,zS,zL,zD,zM];refine b6 (fun h=>?_) (fun h=>?_)
      · have hi':i<C.length:=by simpa using h
        obtain ⟨n,hn⟩:∃n,C[i]?=some n:=⟨C[i],by simp [hi']⟩
        obtain ⟨p,hp,rfl⟩:=hCat i n hn;have hpo:=hok p hp;have hwr:=Pt.w_res hpo (show R<13 by omega);have hic:=aoz (p.w R) hwr.2.2 hwr.1;rw [hwr.2.1] at hic;have wk:IntKind.i64.wrap ((i:Int)+1)=(i:Int)+1:=a6 (by omega);have hft:=hfts p hp;have htk:=ajr (f:=tw t) hn;simp only [yn hn,aap hn,q7,ww,hfn,push_cast,↓reduceIte,reduceCtorEq,zB,zE,zA,zS,zL,zD,zM]
        repeat refine And.intro (by first | decide | omega | exact fun _=>by decide | (simp +contextual; done) | kernel_rfl) ?_
        refine a5 hic rfl trivial ?_;simp only [cel,hfn,q7,push_cast,↓reduceIte,reduceCtorEq,zB,zE,zA,zS,zL,zD,zM];refine a9 (as':=[.r BX,cel R (r9 (p.w R) R)]) rfl ?_;refine a5 hft rfl trivial ?_;simp only [q7,push_cast,↓reduceIte,reduceCtorEq,zB,zE,zA,zS,zL,zD,zM];refine b6 (fun hc=>?_) (fun hc=>?_)
        · rw [if_pos hc] at htk;simp only [wk,q7,ww,push_cast,↓reduceIte,reduceCtorEq,zB,zE,zA,zS,zL,zD,zM]
          repeat refine And.intro (by first | decide | omega | exact fun _=>by decide | (simp +contextual; done) | kernel_rfl) ?_
          exact ⟨⟨i+1,by omega,.inr ⟨by rw [htk]; simp,by rw [htk,h0]; rfl,by rw [htk,h0]; rfl⟩⟩,by omega⟩
        · rw [if_neg (by rw [hc]; simp)] at htk;simp only [wk,q7,ww,push_cast,↓reduceIte,reduceCtorEq,zB,zE,zA,zS,zL,zD,zM];exact ⟨⟨i+1,by omega,.inl ⟨by rw [htk,h0]; rfl,by simp⟩⟩,by omega⟩
      · have hi2:i=C.length:=by
          have:¬i<C.length:=by simpa using h
          omega
        rw [hi2,zao] at h0;rcases hres with ⟨g0,rfl,rfl⟩ | ⟨g0,rfl,rfl⟩
        · simp only [push_cast,↓reduceIte,reduceCtorEq,zB,zE,zA,zS,zL,zD,zM]
        · exact absurd h0 g0
    · have hFl:((C.take i).filter (tw t)).length≤50:=Nat.le_trans (List.length_filter_le ..) (by simp; omega);simp only [q7,push_cast,↓reduceIte,reduceCtorEq,zB,zE,zA,zS,zL,zD,zM];refine b6 (fun h=>?_) (fun h=>?_)
      · have hi':i<C.length:=by simpa using h
        obtain ⟨n,hn⟩:∃n,C[i]?=some n:=⟨C[i],by simp [hi']⟩
        obtain ⟨p,hp,rfl⟩:=hCat i n hn;have hpo:=hok p hp;have hwr:=Pt.w_res hpo (show R<13 by omega);have hic:=aoz (p.w R) hwr.2.2 hwr.1;rw [hwr.2.1] at hic;have wk:IntKind.i64.wrap ((i:Int)+1)=(i:Int)+1:=a6 (by omega);have hft:=hfts p hp;have htk:=ajr (f:=tw t) hn;simp only [yn hn,aap hn,q7,ww,hfn,push_cast,↓reduceIte,reduceCtorEq,zB,zE,zA,zS,zL,zD,zM]
        repeat refine And.intro (by first | decide | omega | exact fun _=>by decide | (simp +contextual; done) | kernel_rfl) ?_
        refine a5 hic rfl trivial ?_;simp only [cel,hfn,q7,push_cast,↓reduceIte,reduceCtorEq,zB,zE,zA,zS,zL,zD,zM];refine a9 (as':=[.r BX,cel R (r9 (p.w R) R)]) rfl ?_;refine a5 hft rfl trivial ?_;simp only [q7,push_cast,↓reduceIte,reduceCtorEq,zB,zE,zA,zS,zL,zD,zM];refine b6 (fun hc=>?_) (fun hc=>?_)
        · rw [if_pos hc] at htk;simp only [wk,q7,ww,push_cast,↓reduceIte,reduceCtorEq,zB,zE,zA,zS,zL,zD,zM]
          repeat refine And.intro (by first | decide | omega | exact fun _=>by decide | (simp +contextual; done) | kernel_rfl) ?_
          exact ⟨⟨i+1,by omega,.inr ⟨by rw [htk]; simp,by rw [htk]; simp,by rw [htk]; simp only [ll,q7,List.map_append]; rw [zaj (by simp)]; rfl⟩⟩,by omega⟩
        · rw [if_neg (by rw [hc]; simp)] at htk;simp only [wk,q7,ww,push_cast,↓reduceIte,reduceCtorEq,zB,zE,zA,zS,zL,zD,zM];exact ⟨⟨i+1,by omega,.inr ⟨by rw [htk]; simpa using h0,by rw [htk]; simp,by rw [htk]; simp [ll]⟩⟩,by omega⟩
      · have hi2:i=C.length:=by
          have:¬i<C.length:=by simpa using h
          omega
        rw [hi2,zao] at h0;rw [hi2,zao];rcases hres with ⟨g0,rfl,rfl⟩ | ⟨g0,rfl,rfl⟩
        · exact absurd g0 h0
        · simp only [q7,push_cast,↓reduceIte,reduceCtorEq,zB,zE,zA,zS,zL,zD,zM]

def a10 (x:Int) (S:List Int):Nat:=(S.takeWhile fun y=>decide (y<x)).length
def ba3 (x:Int) (S:List Int):List Int:=if S[a10 x S]?=some x then S else S.take (a10 x S)++x::S.drop (a10 x S)
def bbg (ws:List Int):List Int:=ws.foldl (fun S x=>ba3 x S) []
def Up (S:List Int):Prop:=S.Pairwise (· < ·)

section
variable {P:Program} {f:FuncId}
theorem a09 {args:List AV} {po os:List Ob} {sz:Nat} {z:RV} {y:Value} (hpo:po.length≤os.length) (hsh:∀o∈os,imO (md os.length) o=o)
  (h:a7 P f args po (.tup [.nils sz z,.r (.v y)]) os):a7 P f args po (.tup [.own (1000000+os.length) 0 0 0,.r (.v y)]) (os++[.row sz z true true []]):=by
 intro w cargs ρ B hgl hB hM hcs hargs;refine (h w cargs ρ B hgl hB hM hcs hargs).mono ?_;rintro e w' ⟨c,ρ',rfl,hM',hr⟩
 obtain ⟨cs,rfl,hcl,hcr⟩:∃cs:Array Value,c=.tuple cs∧cs.size=2∧∀(i:Nat) (x:AV) (d:Value),([.nils sz z,.r (.v y)]:List AV)[i]?=some x→cs[i]?=some d→RelA w' (c6 B (ob0 os) ρ' w') (ob0 os) ρ' x d:=by
  cases hr with
  | tup _ cs hl h=>exact ⟨cs,rfl,hl,h⟩
 have hin:∀(x:Ob) (i:Nat) (o:Ob),os[i]?=some o→ob0 (os++[x]) (1000000+i)=some (0,o):=fun x i o ho=>d6 (by rw [zbi (List.getElem?_eq_some_iff.1 ho).1]; exact ho);have hla:∀x:Ob,ob0 (os++[x]) (1000000+os.length)=some (0,x):=fun x=>d6 (by simp)
 have hat:∀(y:Ob) (id:Nat) (x:Nat×Ob),ob0 (os++[y]) id=some x→(∃i o,i<os.length∧id=1000000+i∧os[i]?=some o∧x=(0,o))∨(id=1000000+os.length∧x=(0,y)):=fun y id x hx=>by
  obtain ⟨i,hi,rfl,ho,hv⟩:=u3 hx;by_cases hlt:i<os.length
  ·rw [zbi hlt] at ho;exact .inl ⟨i,x.2,hlt,rfl,ho,by rw [← hv]⟩
  ·have:i=os.length:=by simp at hi; omega
   subst this;rw [List.getElem?_append_right (zak _)] at ho;simp at ho;exact .inr ⟨rfl,by rw [ho,← hv]⟩
 obtain ⟨ρ2,r1,r2,r3,r4⟩:∃ρ2:Pl→Option Nat,(∀i,i<os.length→ρ2 (.o (1000000+i))=ρ' (.o (1000000+i)))∧(∀i j,i<os.length→ρ2 (.s (1000000+i) j)=ρ' (.s (1000000+i) j))∧ρ2 (.o (1000000+os.length))=none∧(∀j,ρ2 (.s (1000000+os.length) j)=none):=
  ⟨fun | .o i=>if i=1000000+os.length then none else ρ' (.o i) | .s i j=>if i=1000000+os.length then none else ρ' (.s i j),fun i hi=>by simp only; rw [if_neg (by omega)],fun i j hi=>by simp only; rw [if_neg (by omega)],by simp,by simp⟩
 have hft:∀(id:Nat) (x:Nat×Ob) (b:Nat),ob0 (os++[Ob.row sz z true true []]) id=some x→foot ρ2 id x.2 b→ob0 os id=some x∧foot ρ' id x.2 b:=fun id x b hx hf=>by
  rcases hat _ id x hx with ⟨i,o,hi,rfl,ho,rfl⟩ | ⟨rfl,rfl⟩
  ·refine ⟨d6 ho,?_⟩;rcases hf with q | ⟨ha,j,q⟩
   ·exact .inl (by rw [← r1 i hi]; exact q)
   ·exact .inr ⟨ha,j,by rw [← r2 i j hi]; exact q⟩
  ·rcases hf with q | ⟨ha,j,q⟩
   ·rw [r3] at q; cases q
   ·cases ha
 have hfree:∀c,c6 B (ob0 os) ρ' w' c→c6 B (ob0 (os++[Ob.row sz z true true []])) ρ2 w' c:=fun c hc=>⟨hc.1,fun ⟨id,v,o,g1,g2,g3⟩=>by
  obtain ⟨q1,q2⟩:=hft id _ c g1 g3
  exact hc.2.1 ⟨id,v,o,q1,g2,q2⟩,hc.2.2⟩
 have hF:aac (ob0 os) (ob0 (os++[Ob.row sz z true true []])) ρ' ρ2 (md os.length):=fun id ver j u hf=>by
  unfold md at hf;split at hf
  ·rename_i hc;cases hf;obtain ⟨rfl,hc1,hc2⟩:=hc;obtain ⟨q,rfl⟩:∃q,id=1000000+q:=⟨id-1000000,by omega⟩
   have hq:os[q]?=some (os[q]'(by omega)):=by simp [show q<os.length by omega]
   exact ⟨_,_,d6 hq,hin _ q _ hq,r1 q (by omega),p4.refl _⟩
  ·cases hf
 refine ⟨_,ρ2,rfl,⟨fun id v o hx=>?_,fun id id' x x' b hx hx' hf hf'=>?_,hM'.keeps,fun id v o b hx hf=>?_,fun id b hp=>?_⟩,?_⟩
 ·rcases hat _ id _ hx with ⟨i,o',hi,rfl,ho,hx2⟩ | ⟨rfl,hx2⟩
  ·cases hx2;have:=(hM'.obj (1000000+i) 0 o (d6 ho)).im hfree hF (i:=1000000+i) (r1 i hi) (fun j=>r2 i j hi)
   rwa [hsh o (zbj ho)] at this
  ·cases hx2;exact .inl ⟨rfl,r3,rfl⟩
 ·obtain ⟨q1,q2⟩:=hft id x b hx hf;obtain ⟨q1',q2'⟩:=hft id' x' b hx' hf';exact hM'.inj id id' x x' b q1 q1' q2 q2'
 ·obtain ⟨q1,q2⟩:=hft id _ b hx hf;exact hM'.own id v o b q1 q2
 ·obtain ⟨q1,o,q2,q3⟩:=hM'.pin id b hp;obtain ⟨i,hi,rfl,ho,_⟩:=u3 q2;exact ⟨by rw [r1 i hi]; exact q1,o,hin _ i o ho,q3⟩
 ·refine .tup _ cs hcl fun i x d hx hd=>?_
  match i,hx with
  | 0,hx=>
   simp at hx;subst hx;have h0:=hcr 0 _ d rfl hd;cases h0;exact .own _ _ _ _ _ rfl ⟨0,_,hla _,zak _,fun _=>⟨none,0,rfl,zak _,by simp,by simp,by simp⟩⟩
  | 1,hx=>
   simp at hx;subst hx;have h0:=hcr 1 _ d rfl hd;cases h0 with
   | r h0=>exact .r (h0.mono fun b hb=>⟨hfree b hb,rfl⟩)
end
theorem az7 (L:List Pt) (hL:L.length<13) (hok:∀p∈L,p.ok) (t:Til) (ht:t.ok) (hti:tis t=true) (hf:fine t=false) :
  a7 P0 37 [t.v,.ptr 1000000 0 0] [.abs (sT L)] (.tup [.own 1000001 0 0 (z9 L t).length,int .i64 0]) [.abs (sT L),q7 (z9 L t)]:=by
 by_cases h:z9 L t=[]
 ·have:=a09 (os:=[.abs (sT L)]) (by simp) (by simp [imO]) (vcells_t L hL hok t ht hti hf (.inl ⟨h,rfl,rfl⟩));rw [h];exact this
 ·exact vcells_t L hL hok t ht hti hf (.inr ⟨h,rfl,rfl⟩)


open Go.RowKit
def zig (n:Int):Int:=if 0≤n then 2*n else -2*n-1
theorem aqy (x:BitVec 64):(x ^^^ zaf 64 18446744073709551615).toNat=18446744073709551615-x.toNat:=by
 have h:zaf 64 18446744073709551615=BitVec.allOnes 64:=by decide
 rw [h,BitVec.xor_allOnes,BitVec.toNat_not]
theorem az4 (n:Int) (h1:-9223372036854775808≤n) (h2:n≤9223372036854775807) :
  bits BinOp.xor IntKind.u64 (IntKind.u64.wrap (wrap64 (n*2))) (IntKind.u64.wrap (n/9223372036854775808))=zig n:=by
 have e:IntKind.u64.wrap (wrap64 (n*2))=(n*2)%18446744073709551616:=by
  rw [IntKind.wrap_u64]; unfold wrap64; omega
 rw [e];unfold zig;by_cases h:0≤n
 ·have e2:n/9223372036854775808=0:=by omega
  rw [e2,if_pos h,u64_xor _ _ (by omega) (by omega) (by decide) (by decide)];have e3:(IntKind.u64.wrap 0).toNat=0:=by decide
  rw [e3,Nat.xor_zero];omega
 ·have e2:n/9223372036854775808=-1:=by omega
  have e3:IntKind.u64.wrap (-1)=18446744073709551615:=by decide
  rw [e2,if_neg h,e3];show IntKind.u64.wrap ((zaf 64 _ ^^^ zaf 64 18446744073709551615).toNat:Int) = _;rw [aqy,zbk,IntKind.wrap_u64];omega
def zf:Nat→Nat→List UInt8
 | 0,_=>[]
 | f+1,n=>if n<128 then [zal n] else zal (n%128+128)::zf f (n/128)
def o4 (n:Nat):List UInt8:=zf 10 n
theorem az8 (f:Nat):∀n,(zf f n).length≤f:=by
 induction f with
 | zero=>intro n; exact zak _
 | succ f ih=>
  intro n;rw [zf];split
  ·simp
  ·have:=ih (n/128); simp; omega
theorem p9 (n:Nat):(o4 n).length≤10:=az8 10 n
theorem abh {f n:Nat} (h:127<n) (hf:n<128^f):∃f',f=f'+1∧1≤f'∧n/128<128^f'∧zf f n=zal (n%128+128)::zf f' (n/128):=by
 match f with
 | 0=>simp at hf; omega
 | f'+1=>
  refine ⟨f',rfl,?_,?_,?_⟩
  ·match f' with
   | 0=>simp at hf; omega
   | k+1=>omega
  ·rw [Nat.pow_succ] at hf;omega
  ·rw [zf,if_neg (by omega)]
theorem tm {f n:Nat} (h:n≤127) (hf:1≤f):zf f n=[zal n]:=by
 match f with
 | f'+1=>rw [zf,if_pos (by omega)]
def er:Nat→Nat→List UInt8→Nat×Nat
 | _,_,[]=>(0,0)
 | i,n,c::t=>
  if (i=9∧1<c.toNat)∨(0<i∧c.toNat=0) then (0,0)
  else if c.toNat<128 then (n+c.toNat%128*2^(7*i),i+1) else er (i+1) (n+c.toNat%128*2^(7*i)) t
def take (l:List UInt8):Nat×Nat:=er 0 0 l
theorem au9 (k m:Nat) (bs:List UInt8) (h:bs.length≤k):er k m (bs.drop k)=(0,0):=by
 rw [List.drop_eq_nil_of_le h]; rfl
theorem a0f {k m b:Nat} {bs:List UInt8} (h:k<bs.length) (hb:bs[k].toNat=b) (hc:(k=9∧1<b)∨(0<k∧b=0)):er k m (bs.drop k)=(0,0):=by
 rw [zbl h,er,hb,if_pos hc]
theorem aw8 {k m b:Nat} {bs:List UInt8} (h:k<bs.length) (hb:bs[k].toNat=b) (hc:¬((k=9∧1<b)∨(0<k∧b=0))) (h2:b<128) :
  er k m (bs.drop k)=(m+b%128*2^(7*k),k+1):=by
 rw [zbl h,er,hb,if_neg hc,if_pos h2]
theorem a0e {k m b:Nat} {bs:List UInt8} (h:k<bs.length) (hb:bs[k].toNat=b) (hc:¬((k=9∧1<b)∨(0<k∧b=0))) (h2:¬b<128) :
  er k m (bs.drop k)=er (k+1) (m+b%128*2^(7*k)) (bs.drop (k+1)):=by
 rw [zbl h,er,hb,if_neg hc,if_neg h2]
theorem aw7 {k m b:Nat} (hk:k≤9) (hm:m<2^(7*k)) (hb:b<256) (h9:k=9→b≤1) :
  bits BinOp.or IntKind.u64 (m:Int) (IntKind.u64.wrap (IntKind.u64.wrap (bits BinOp.and IntKind.u8 (b:Int) 127)*2^(7*k)))=((m+b%128*2^(7*k):Nat):Int):=by
 have e1:bits BinOp.and IntKind.u8 (b:Int) 127=((b%128:Nat):Int):=by
  have:=u8_and_nat b 127 hb (by decide);rw [nat_mask7] at this;exact this
 have hp:2^(7*k)≤2^63:=zbm (by decide) (by omega)
 have hq:b%128*2^(7*k)≤2^63:=by
  by_cases h:k=9
  ·have:=h9 h;exact Nat.le_trans (zbn _ (show b%128≤1 by omega)) (by omega)
  ·have h8:2^(7*k)≤2^56:=zbm (by decide) (by omega);exact Nat.le_trans (Nat.mul_le_mul (show b%128≤127 by omega) h8) (by decide)
 have e2:IntKind.u64.wrap ((b%128:Nat):Int)=((b%128:Nat):Int):=by rw [IntKind.wrap_u64]; omega
 have e3:IntKind.u64.wrap (((b%128:Nat):Int)*2^(7*k))=((b%128*2^(7*k):Nat):Int):=by
  have e4:((b%128:Nat):Int)*2^(7*k)=((b%128*2^(7*k):Nat):Int):=by simp
  rw [e4,IntKind.wrap_u64];generalize b%128*2^(7*k)=x at *;omega
 rw [e1,e2,e3,u64_or_nat _ _ (by omega) (by omega)];congr 1;rw [Nat.or_comm,nat_join (7*k) _ _ (Nat.mul_mod_left _ _) hm,Nat.add_comm]
theorem ag6 {k m b:Nat} (hm:m<2^(7*k)):m+b%128*2^(7*k)<2^(7*(k+1)):=by
 have h:b%128*2^(7*k)≤127*2^(7*k):=zbn _ (by omega);rw [show 7*(k+1)=7*k+7 from by omega,Nat.pow_add];omega
theorem ata:∀(l:List UInt8) (i n:Nat),i≤9→n<2^(7*i)→(er i n l).1<18446744073709551616∧(er i n l).2≤10∧((er i n l).2=0∨(er i n l).2≤i+l.length):=by
 intro l
 induction l with
 | nil=>intro i n _ _; simp [er]
 | cons c t ih=>
  intro i n hi hn;have hc:=c.toNat_lt;rw [er];split
  ·simp
  ·rename_i h1;split
   ·rename_i h2;refine ⟨?_,by simp; omega,by simp⟩;have:=ag6 (k:=i) (m:=n) (b:=c.toNat) hn;by_cases h9:i=9
    ·subst h9;have h3:c.toNat≤1:=by omega
     have h4:c.toNat%128*2^(7*9)≤1*2^(7*9):=zbn _ (by omega);simp only at h4 ⊢;omega
    ·have:2^(7*(i+1))≤2^63:=zbm (by decide) (by omega);simp only;omega
   ·rename_i h2;have h9:i≠9:=by omega
    obtain ⟨a,b,d⟩:=ih (i+1) _ (by omega) (ag6 (k:=i) (m:=n) (b:=c.toNat) hn);refine ⟨a,b,?_⟩;simp only [zaw];omega
theorem ep (l:List UInt8):(take l).1<18446744073709551616∧(take l).2≤10∧(take l).2≤l.length:=by
 obtain ⟨a,b,c⟩:=ata l 0 0 (by omega) (by decide);unfold take;exact ⟨a,b,by omega⟩
abbrev Fld:=Nat×Nat×Nat×List UInt8
def ei (l:List UInt8):Option (Fld×Nat):=
 if (take l).2=0∨(take l).1/8<1∨1000<(take l).1/8 then none
 else if (take (l.drop (take l).2)).2=0 then none
 else if (take l).1%8=0 then some (((take l).1/8,0,(take (l.drop (take l).2)).1,[]),(take l).2+(take (l.drop (take l).2)).2)
 else if (take l).1%8=2∧(take (l.drop (take l).2)).1≤l.length-(take l).2-(take (l.drop (take l).2)).2 then
  some (((take l).1/8,2,0,(l.drop ((take l).2+(take (l.drop (take l).2)).2)).take (take (l.drop (take l).2)).1),(take l).2+(take (l.drop (take l).2)).2+(take (l.drop (take l).2)).1)
 else none
def jg:Nat→List UInt8→Option (List Nat)
 | _,[]=>some []
 | 0,_::_=>none
 | f+1,c::l=>if (take (c::l)).2=0 then none else (jg f ((c::l).drop (take (c::l)).2)).map ((take (c::l)).1 :: ·)
def tl (l:List UInt8):Option (List Nat):=jg l.length l
def jq:Nat→List UInt8→Option (List Fld)
 | _,[]=>some []
 | 0,_::_=>none
 | f+1,c::l=>match ei (c::l) with
  | none=>none
  | some (x,k)=>(jq f ((c::l).drop k)).map (x :: ·)
def fg (l:List UInt8):Option (List Fld):=jq l.length l
theorem acn (f:Nat):jg f []=some []:=by cases f<;>rfl
theorem akl {f:Nat} {l:List UInt8} (h:0<l.length) (h2:(take l).2=0):jg f l=none:=by
 match f,l,h with
 | 0,c::l,_=>rfl
 | f+1,c::l,_=>rw [jg,if_pos h2]
theorem akk {f n k:Nat} {l:List UInt8} (h:0<l.length) (hf:l.length≤f) (h1:take l=(n,k)) (h2:k≠0):∃f',f=f'+1∧jg f l=(jg f' (l.drop k)).map (n :: ·):=by
 match f,l,h with
 | 0,c::l,_=>simp at hf
 | f+1,c::l,_=>exact ⟨f,rfl,by rw [jg,h1,if_neg h2]⟩
theorem acu (f:Nat):jq f []=some []:=by cases f<;>rfl
theorem ak1 {f:Nat} {l:List UInt8} (h:0<l.length) (h2:ei l=none):jq f l=none:=by
 match f,l,h with
 | 0,c::l,_=>rfl
 | f+1,c::l,_=>rw [jq,h2]
theorem ak0 {f k:Nat} {x:Fld} {l:List UInt8} (h:0<l.length) (hf:l.length≤f) (h1:ei l=some (x,k)):∃f',f=f'+1∧jq f l=(jq f' (l.drop k)).map (x :: ·):=by
 match f,l,h with
 | 0,c::l,_=>simp at hf
 | f+1,c::l,_=>exact ⟨f,rfl,by rw [jq,h1]⟩
theorem afb {l:List UInt8} {x:Fld} {k:Nat} (h:ei l=some (x,k)):2≤k∧k≤l.length:=by
 obtain ⟨_,_,t3⟩:=ep l;obtain ⟨_,_,s3⟩:=ep (l.drop (take l).2);rw [zay] at s3;unfold ei at h;split at h
 ·cases h
 ·split at h
  ·cases h
  ·split at h
   ·simp only [Option.some.injEq,Prod.mk.injEq] at h;omega
   ·split at h
    ·simp only [Option.some.injEq,Prod.mk.injEq] at h;omega
    ·cases h

open Go.RowKit
def a8e:Nat→Nat→Nat
 | 0,_=>0
 | f+1,m=>if m=0 then 0 else 1+a8e f (m/128)

noncomputable def apy:PC:=
  (.seq (.reg [p_s 2 (.mov (.c (.r (.v (.bool false)))))])
 (.seq (.reg [p_m 3 0,p_s 4 (.bin .geq (.t 3) (o_i 1)),p_m 5 4,p_g 6 5 true (.mov (.t 0)),p_g 7 5 true (.bin .leq (.t 6) (o_i 1000)),p_s 8 (.pick (.t 5) (.t 7) (.c (.r (.v (.bool false))))),
 p_m 2 8])
 .ret))
theorem aqp:Fun P0 102 1 [(2,false,none)] apy:=b5 Go.Proofs.Tryz.func102 rfl (by decide) (by kernel_rfl) (by decide) rfl (by kernel_rfl) (by kernel_rfl) (by decide)
noncomputable def amt:PC:=
  (.seq (.reg [p_s 2 (.mov (.c (.r (.v (.pointer none)))))])
 (.seq (.reg [p_a 3 (.bsl 1 (.v (.int .u8 0)) []),p_m 4 0,p_a 5 (.app 1 (.v (.int .u8 0)) 1 (.t 3) (.t 4)),p_s 6 (.build [(.nils 1 (.v (.int .u8 0)))] [(0,1,(.t 5))]),p_a 7 (.box (.t 6)),
 p_m 2 7])
 .ret))
theorem aog:Fun P0 101 1 [(2,false,none)] amt:=b5 Go.Proofs.Tryz.func101 rfl (by decide) (by kernel_rfl) (by decide) rfl (by kernel_rfl) (by kernel_rfl) (by decide)
noncomputable def pq:PC:=
  (.seq (.block 0 (.loop (.seq (.seq (.reg [p_m 4 1,p_s 5 (.bin .gtr (.t 4) (.c (.r (.v (.int .u64 127)))))])
 (.cond (.t 5)
 .skip
 (.exit 0)))
 (.block 1 (.seq (.reg [p_m 6 0,p_m 7 0,p_s 8 (.nck (.t 7)),p_s 9 (.fa 0 (.t 8)),p_s 10 (.ld none (.t 9)),p_m 11 1,p_s 12 (.bin .and (.t 11) (.c (.r (.v (.int .u64 127))))),p_s 13 (.conv .u8 (.t 12)),
 p_s 14 (.bin .or (.t 13) (.c (.r (.v (.int .u8 128))))),p_a 15 (.bsl 1 (.v (.int .u8 0)) [(.t 14)]),p_a 16 (.app 1 (.v (.int .u8 0)) 1 (.t 10) (.t 15)),p_s 17 (.nck (.t 6)),
 p_s 18 (.fa 0 (.t 17)),⟨none,none,0,.act (.st 1 (.t 18) (.t 16))⟩])
 (.reg [p_m 19 1,p_s 20 (.bin .shr (.t 19) (.c (.r (.v (.int .u64 7))))),p_m 1 20]))))))
 (.reg [p_m 21 0,p_m 22 0,p_s 23 (.nck (.t 22)),p_s 24 (.fa 0 (.t 23)),p_s 25 (.ld none (.t 24)),p_m 26 1,p_s 27 (.conv .u8 (.t 26)),p_a 28 (.bsl 1 (.v (.int .u8 0)) [(.t 27)]),
 p_a 29 (.app 1 (.v (.int .u8 0)) 1 (.t 25) (.t 28)),p_s 30 (.nck (.t 21)),p_s 31 (.fa 0 (.t 30)),⟨none,none,0,.act (.st 1 (.t 31) (.t 29))⟩]))
theorem sr:Fun P0 103 2 [] pq:=b5 Go.Proofs.Tryz.func103 rfl (by decide) (by kernel_rfl) (by decide) rfl (by kernel_rfl) (by kernel_rfl) (by decide)
noncomputable def amv:PC:=
  (.seq (.reg [p_s 2 (.mov (.c (.r (.v (.int .u64 0)))))])
 (.seq (.reg [p_m 3 0,p_s 4 (.bin .shl (.t 3) (.c (.r (.v (.int .u64 1))))),p_s 5 (.conv .u64 (.t 4)),p_m 6 0,p_s 7 (.bin .shr (.t 6) (.c (.r (.v (.int .u64 63))))),p_s 8 (.conv .u64 (.t 7)),
 p_s 9 (.bin .xor (.t 5) (.t 8)),p_m 2 9])
 .ret))
theorem aoi:Fun P0 31 1 [(2,false,none)] amv:=b5 Go.Proofs.Tryz.func31 rfl (by decide) (by kernel_rfl) (by decide) rfl (by kernel_rfl) (by kernel_rfl) (by decide)
noncomputable def amw:PC:=
  (.seq (.reg [p_s 2 (.mov (o_i 0))])
 (.seq (.reg [p_m 3 0,p_s 4 (.bin .shr (.t 3) (.c (.r (.v (.int .u64 1))))),p_s 5 (.conv .i64 (.t 4)),p_m 6 0,p_s 7 (.bin .and (.t 6) (.c (.r (.v (.int .u64 1))))),p_s 8 (.conv .i64 (.t 7)),
 p_s 9 (.un .neg (.t 8)),p_s 10 (.bin .xor (.t 5) (.t 9)),p_m 2 10])
 .ret))
theorem aoj:Fun P0 33 1 [(2,false,none)] amw:=b5 Go.Proofs.Tryz.func33 rfl (by decide) (by kernel_rfl) (by decide) rfl (by kernel_rfl) (by kernel_rfl) (by decide)
noncomputable def am0:PC:=
  (.seq (.reg [p_s 6 (.mov (.c (.nils 1 (.v (.int .u8 0)))))])
 (.seq (.reg [p_m 9 0,p_c 10 1 101 [.t 9],p_m 7 10])
 (.seq (.seq (.reg [p_m 11 1,p_c 12 2 102 [.t 11]])
 (.cond (.t 12)
 (.seq (.reg [p_m 13 7,p_s 14 (.mkf (.func 103) [(.t 13)] 1),p_m 8 14])
 (.seq (.reg [p_m 15 8,p_m 16 1,p_s 17 (.conv .u64 (.t 16)),p_s 18 (.bin .mul (.t 17) (.c (.r (.v (.int .u64 8))))),⟨(some 19),none,3,.callv (.t 15) [(.t 18)]⟩])
 (.reg [p_m 20 8,p_m 21 2,⟨(some 22),none,4,.callv (.t 20) [(.t 21)]⟩])))
 .skip))
 (.seq (.reg [p_m 23 7,p_s 24 (.nck (.t 23)),p_s 25 (.fa 0 (.t 24)),p_s 26 (.ld none (.t 25)),p_m 6 26])
 .ret))))
theorem aok:Fun P0 55 3 [(6,false,none)] am0:=b5 Go.Proofs.Tryz.func55 rfl (by decide) (by kernel_rfl) (by decide) rfl (by kernel_rfl) (by kernel_rfl) (by decide)
noncomputable def ahm:PC:=
  (.seq (.reg [p_s 6 (.mov (.c (.nils 1 (.v (.int .u8 0)))))])
 (.seq (.reg [p_m 9 0,p_c 10 1 101 [.t 9],p_m 7 10])
 (.seq (.seq (.reg [p_m 11 1,p_c 12 2 102 [.t 11]])
 (.cond (.t 12)
 (.seq (.reg [p_m 13 7,p_s 14 (.mkf (.func 103) [(.t 13)] 1),p_m 8 14])
 (.seq (.reg [p_m 15 8,p_m 16 1,p_s 17 (.conv .u64 (.t 16)),p_s 18 (.bin .mul (.t 17) (.c (.r (.v (.int .u64 8))))),p_s 19 (.bin .add (.t 18) (.c (.r (.v (.int .u64 2))))),
 ⟨(some 20),none,3,.callv (.t 15) [(.t 19)]⟩])
 (.seq (.reg [p_m 21 8,p_m 22 2,p_s 23 (.len false (.t 22)),p_s 24 (.conv .u64 (.t 23)),⟨(some 25),none,4,.callv (.t 21) [(.t 24)]⟩])
 (.reg [p_m 26 7,p_m 27 7,p_s 28 (.nck (.t 27)),p_s 29 (.fa 0 (.t 28)),p_s 30 (.ld none (.t 29)),p_m 31 2,p_a 32 (.app 1 (.v (.int .u8 0)) 1 (.t 30) (.t 31)),p_s 33 (.nck (.t 26)),
 p_s 34 (.fa 0 (.t 33)),⟨none,none,0,.act (.st 1 (.t 34) (.t 32))⟩]))))
 .skip))
 (.seq (.reg [p_m 35 7,p_s 36 (.nck (.t 35)),p_s 37 (.fa 0 (.t 36)),p_s 38 (.ld none (.t 37)),p_m 6 38])
 .ret))))
theorem ak5:Fun P0 79 3 [(6,false,none)] ahm:=b5 Go.Proofs.Tryz.func79 rfl (by decide) (by kernel_rfl) (by decide) rfl (by kernel_rfl) (by kernel_rfl) (by decide)
noncomputable def aj0:PC:=
  (.seq (.reg [p_s 6 (.mov (.c (.nils 1 (.v (.int .u8 0)))))])
 (.seq (.reg [p_s 10 (.build [(.nils 1 (.v (.int .u8 0)))] []),p_a 11 (.box (.t 10)),p_m 7 11])
 (.seq (.seq (.reg [p_m 12 2,p_s 13 (.len false (.t 12)),p_s 14 (.mov (o_i 0))])
 (.block 0 (.loop (.seq (.reg [p_s 15 (.bin .lss (.t 14) (.t 13))])
 (.seq (.cond (.t 15)
 .skip
 (.exit 0))
 (.seq (.block 1 (.seq (.reg [p_s 16 (.ia 1 (.v (.int .u64 0)) (.t 12) (.t 14)),p_s 17 (.ld none (.t 16)),p_m 9 17])
 (.reg [p_m 18 7,p_m 19 9,p_c 20 1 103 [.t 18,.t 19]])))
 (.reg [p_s 21 (.bin .add (.t 14) (o_i 1)),p_m 14 21])))))))
 (.seq (.reg [p_m 22 0,p_m 23 1,p_m 24 7,p_s 25 (.nck (.t 24)),p_s 26 (.fa 0 (.t 25)),p_s 27 (.ld none (.t 26)),p_c 28 2 79 [.t 22,.t 23,.t 27],p_m 6 28])
 .ret))))
theorem amz:Fun P0 56 3 [(6,false,none)] aj0:=b5 Go.Proofs.Tryz.func56 rfl (by decide) (by kernel_rfl) (by decide) rfl (by kernel_rfl) (by kernel_rfl) (by decide)
noncomputable def ajx:PC:=
  (.seq (.reg [p_s 2 (.mov (.c (.r (.v (.int .u64 0))))),p_s 3 (.mov (o_i 0))])
 (.seq (.reg [p_s 4 (.mov (.c (.r (.v (.int .u64 0)))))])
 (.seq (.seq (.reg [p_m 7 0,p_s 8 (.len false (.t 7)),p_s 9 (.mov (o_i 0))])
 (.block 0 (.loop (.seq (.reg [p_s 10 (.bin .lss (.t 9) (.t 8))])
 (.seq (.cond (.t 10)
 .skip
 (.exit 0))
 (.seq (.block 1 (.seq (.reg [p_m 11 9,p_s 12 (.ia 1 (.v (.int .u8 0)) (.t 7) (.t 9)),p_s 13 (.ld none (.t 12)),p_m 5 11,p_m 6 13])
 (.seq (.seq (.reg [p_m 14 5,p_s 15 (.bin .eql (.t 14) (o_i 9)),p_m 16 15,p_g 17 16 true (.mov (.t 6)),p_g 18 16 true (.bin .gtr (.t 17) (.c (.r (.v (.int .u8 1))))),p_s 19 (.pick (.t 16) (.t 18) (.c (.r (.v (.bool false))))),
 p_m 20 19,p_g 21 20 false (.mov (.t 5)),p_g 22 20 false (.bin .gtr (.t 21) (o_i 0)),p_g 23 20 false (.mov (.t 22)),p_g 24 23 true (.mov (.t 6)),p_g 25 23 true (.bin .eql (.t 24) (.c (.r (.v (.int .u8 0))))),
 p_g 26 20 false (.pick (.t 23) (.t 25) (.c (.r (.v (.bool false))))),p_s 27 (.pick (.t 20) (.c (.r (.v (.bool true)))) (.t 26))])
 (.cond (.t 27)
 (.seq (.reg [p_s 2 (.mov (.c (.r (.v (.int .u64 0))))),p_s 3 (.mov (o_i 0))])
 .ret)
 .skip))
 (.seq (.reg [p_m 28 4,p_m 29 6,p_s 30 (.bin .and (.t 29) (.c (.r (.v (.int .u8 127))))),p_s 31 (.conv .u64 (.t 30)),p_m 32 5,p_s 33 (.bin .mul (o_i 7) (.t 32)),p_s 34 (.conv .u64 (.t 33)),
 p_s 35 (.bin .shl (.t 31) (.t 34)),p_s 36 (.bin .or (.t 28) (.t 35)),p_m 4 36])
 (.seq (.reg [p_m 37 6,p_s 38 (.bin .lss (.t 37) (.c (.r (.v (.int .u8 128)))))])
 (.cond (.t 38)
 (.seq (.reg [p_m 39 4,p_m 40 5,p_s 41 (.bin .add (.t 40) (o_i 1)),p_m 2 39,p_m 3 41])
 .ret)
 .skip))))))
 (.reg [p_s 42 (.bin .add (.t 9) (o_i 1)),p_m 9 42])))))))
 (.seq (.reg [p_s 2 (.mov (.c (.r (.v (.int .u64 0))))),p_s 3 (.mov (o_i 0))])
 .ret))))
theorem ams:Fun P0 189 1 [(2,false,none),(3,false,none)] ajx:=b5 Go.Proofs.Tryz.func189 rfl (by decide) (by kernel_rfl) (by decide) rfl (by kernel_rfl) (by kernel_rfl) (by decide)
noncomputable def ajy:PC:=
  (.seq (.reg [p_s 2 (.mov (.c (.nils 1 (.v (.int .u64 0))))),p_s 3 (.mov (o_i 0))])
 (.seq (.reg [p_s 4 (.mov (.c (.nils 1 (.v (.int .u64 0)))))])
 (.seq (.block 0 (.loop (.seq (.seq (.reg [p_m 7 0,p_s 8 (.len false (.t 7)),p_s 9 (.bin .gtr (.t 8) (o_i 0))])
 (.cond (.t 9)
 .skip
 (.exit 0)))
 (.block 1 (.seq (.reg [p_m 11 0,p_c 12 1 189 [.t 11],p_m 10 12,p_s 13 (.ext (.t 10) 0),p_s 14 (.ext (.t 10) 1),p_m 5 13,p_m 6 14])
 (.seq (.seq (.reg [p_m 15 6,p_s 16 (.bin .eql (.t 15) (o_i 0))])
 (.cond (.t 16)
 (.seq (.reg [p_s 2 (.mov (.c (.nils 1 (.v (.int .u64 0))))),p_s 3 (.mov (o_i 10))])
 .ret)
 .skip))
 (.seq (.reg [p_m 17 4,p_m 18 5,p_a 19 (.bsl 1 (.v (.int .u64 0)) [(.t 18)]),p_a 20 (.app 1 (.v (.int .u64 0)) 8 (.t 17) (.t 19)),p_m 4 20])
 (.reg [p_m 21 0,p_m 22 6,p_s 23 (.sll 1 (.t 21) (some (.t 22)) none none),p_m 0 23]))))))))
 (.seq (.reg [p_m 24 4,p_m 2 24,p_s 3 (.mov (o_i 0))])
 .ret))))
theorem amx:Fun P0 148 1 [(2,false,none),(3,false,none)] ajy:=b5 Go.Proofs.Tryz.func148 rfl (by decide) (by kernel_rfl) (by decide) rfl (by kernel_rfl) (by kernel_rfl) (by decide)
noncomputable def amu:PC:=
  (.seq (.reg [p_a 2 (.new [(.r (.v (.int .i64 0))),(.r (.v (.int .i64 0))),(.r (.v (.int .u64 0))),(.nils 1 (.v (.int .u8 0)))]),p_s 3 (.mov (o_i 0))])
 (.seq (.reg [p_m 10 0,p_c 11 1 189 [.t 10],p_m 9 11,p_s 12 (.ext (.t 9) 0),p_s 13 (.ext (.t 9) 1),p_m 4 12,p_m 5 13])
 (.seq (.reg [p_m 14 4,p_s 15 (.bin .rem (.t 14) (.c (.r (.v (.int .u64 8))))),p_s 16 (.conv .i64 (.t 15)),p_s 17 (.build [(.r (.v (.int .i64 0))),(.r (.v (.int .i64 0))),(.r (.v (.int .u64 0))),(.nils 1 (.v (.int .u8 0)))] [(1,1,(.t 16))]),
 p_a 6 (.new [(.r (.v (.int .i64 0))),(.r (.v (.int .i64 0))),(.r (.v (.int .u64 0))),(.nils 1 (.v (.int .u8 0)))]),⟨none,none,0,.act (.st 4 (.t 6) (.t 17))⟩])
 (.seq (.seq (.reg [p_m 18 5,p_s 19 (.bin .eql (.t 18) (o_i 0)),p_m 20 19,p_g 21 20 false (.mov (.t 4)),p_g 22 20 false (.bin .quo (.t 21) (.c (.r (.v (.int .u64 8))))),p_g 23 20 false (.bin .lss (.t 22) (.c (.r (.v (.int .u64 1))))),
 p_s 24 (.pick (.t 20) (.c (.r (.v (.bool true)))) (.t 23)),p_m 25 24,p_g 26 25 false (.mov (.t 4)),p_g 27 25 false (.bin .quo (.t 26) (.c (.r (.v (.int .u64 8))))),
 p_g 28 25 false (.bin .gtr (.t 27) (.c (.r (.v (.int .u64 1000))))),p_s 29 (.pick (.t 25) (.c (.r (.v (.bool true)))) (.t 28))])
 (.cond (.t 29)
 (.seq (.reg [p_s 30 (.build [(.r (.v (.int .i64 0))),(.r (.v (.int .i64 0))),(.r (.v (.int .u64 0))),(.nils 1 (.v (.int .u8 0)))] []),⟨none,none,0,.act (.st 4 (.t 2) (.t 30))⟩,
 p_s 3 (.mov (o_i 0))])
 .ret)
 .skip))
 (.seq (.reg [p_m 31 4,p_s 32 (.bin .quo (.t 31) (.c (.r (.v (.int .u64 8))))),p_s 33 (.conv .i64 (.t 32)),p_s 34 (.fa 0 (.t 6)),⟨none,none,0,.act (.st 1 (.t 34) (.t 33))⟩])
 (.seq (.reg [p_m 36 0,p_m 37 5,p_s 38 (.sll 1 (.t 36) (some (.t 37)) none none),p_c 39 2 189 [.t 38],p_m 35 39,p_s 40 (.ext (.t 35) 0),p_s 41 (.ext (.t 35) 1),p_m 7 40,
 p_m 8 41])
 (.seq (.block 0 (.seq (.reg [p_m 43 8,p_s 44 (.bin .eql (.t 43) (o_i 0)),p_m 42 44])
 (.cond (.t 42)
 .skip
 (.seq (.reg [p_s 46 (.fa 1 (.t 6)),p_s 47 (.ld none (.t 46)),p_s 48 (.bin .eql (.t 47) (o_i 0)),p_m 45 48])
 (.cond (.t 45)
 (.seq (.reg [p_m 49 7,p_s 50 (.fa 2 (.t 6)),⟨none,none,0,.act (.st 1 (.t 50) (.t 49))⟩])
 (.seq (.reg [p_s 51 (.ld (some 4) (.t 6)),p_m 52 5,p_m 53 8,p_s 54 (.bin .add (.t 52) (.t 53)),⟨none,none,0,.act (.st 4 (.t 2) (.t 51))⟩,p_m 3 54])
 .ret))
 (.seq (.reg [p_s 56 (.fa 1 (.t 6)),p_s 57 (.ld none (.t 56)),p_s 58 (.bin .eql (.t 57) (o_i 2)),p_m 59 58,p_g 60 59 true (.mov (.t 7)),p_g 61 59 true (.mov (.t 0)),p_g 62 59 true (.len false (.t 61)),
 p_g 63 59 true (.mov (.t 5)),p_g 64 59 true (.bin .sub (.t 62) (.t 63)),p_g 65 59 true (.mov (.t 8)),p_g 66 59 true (.bin .sub (.t 64) (.t 65)),p_g 67 59 true (.conv .u64 (.t 66)),
 p_g 68 59 true (.bin .leq (.t 60) (.t 67)),p_s 69 (.pick (.t 59) (.t 68) (.c (.r (.v (.bool false))))),p_m 55 69])
 (.cond (.t 55)
 (.seq (.reg [p_a 70 (.bsl 1 (.v (.int .u8 0)) []),p_m 71 0,p_m 72 5,p_m 73 8,p_s 74 (.bin .add (.t 72) (.t 73)),p_m 75 5,p_m 76 8,p_s 77 (.bin .add (.t 75) (.t 76)),p_m 78 7,
 p_s 79 (.conv .i64 (.t 78)),p_s 80 (.bin .add (.t 77) (.t 79)),p_s 81 (.sll 1 (.t 71) (some (.t 74)) (some (.t 80)) none),p_a 82 (.app 1 (.v (.int .u8 0)) 1 (.t 70) (.t 81)),
 p_s 83 (.fa 3 (.t 6)),⟨none,none,0,.act (.st 1 (.t 83) (.t 82))⟩])
 (.seq (.reg [p_s 84 (.ld (some 4) (.t 6)),p_m 85 5,p_m 86 8,p_s 87 (.bin .add (.t 85) (.t 86)),p_m 88 7,p_s 89 (.conv .i64 (.t 88)),p_s 90 (.bin .add (.t 87) (.t 89)),
 ⟨none,none,0,.act (.st 4 (.t 2) (.t 84))⟩,p_m 3 90])
 .ret))
 .skip)))))))
 (.seq (.reg [p_s 91 (.build [(.r (.v (.int .i64 0))),(.r (.v (.int .i64 0))),(.r (.v (.int .u64 0))),(.nils 1 (.v (.int .u8 0)))] []),⟨none,none,0,.act (.st 4 (.t 2) (.t 91))⟩,
 p_s 3 (.mov (o_i 0))])
 .ret))))))))
theorem aoh:Fun P0 147 1 [(2,false,some (92,(some 4))),(3,false,none)] amu:=b5 Go.Proofs.Tryz.func147 rfl (by decide) (by kernel_rfl) (by decide) rfl (by kernel_rfl) (by kernel_rfl) (by decide)
noncomputable def ajz:PC:=
  (.seq (.reg [p_s 2 (.mov (.c (.nils 4 (.agg [(.v (.int .i64 0)),(.v (.int .i64 0)),(.v (.int .u64 0)),(.sl 1 [])])))),p_s 3 (.mov (o_i 0))])
 (.seq (.reg [p_s 4 (.mov (.c (.nils 4 (.agg [(.v (.int .i64 0)),(.v (.int .i64 0)),(.v (.int .u64 0)),(.sl 1 [])]))))])
 (.seq (.block 0 (.loop (.seq (.seq (.reg [p_m 7 0,p_s 8 (.len false (.t 7)),p_s 9 (.bin .gtr (.t 8) (o_i 0))])
 (.cond (.t 9)
 .skip
 (.exit 0)))
 (.block 1 (.seq (.reg [p_m 11 0,p_c 12 1 147 [.t 11],p_m 10 12,p_s 13 (.ext (.t 10) 0),p_s 14 (.ext (.t 10) 1),p_a 5 (.new [(.r (.v (.int .i64 0))),(.r (.v (.int .i64 0))),(.r (.v (.int .u64 0))),(.nils 1 (.v (.int .u8 0)))]),
 ⟨none,none,0,.act (.st 4 (.t 5) (.t 13))⟩,p_m 6 14])
 (.seq (.seq (.reg [p_m 15 6,p_s 16 (.bin .eql (.t 15) (o_i 0))])
 (.cond (.t 16)
 (.seq (.reg [p_s 2 (.mov (.c (.nils 4 (.agg [(.v (.int .i64 0)),(.v (.int .i64 0)),(.v (.int .u64 0)),(.sl 1 [])])))),p_s 3 (.mov (o_i 10))])
 .ret)
 .skip))
 (.seq (.reg [p_m 17 4,p_s 18 (.ld (some 4) (.t 5)),p_a 19 (.bsl 4 (.agg [(.v (.int .i64 0)),(.v (.int .i64 0)),(.v (.int .u64 0)),(.sl 1 [])]) [(.t 18)]),p_a 20 (.app 4 (.agg [(.v (.int .i64 0)),(.v (.int .i64 0)),(.v (.int .u64 0)),(.sl 1 [])]) 48 (.t 17) (.t 19)),
 p_m 4 20])
 (.reg [p_m 21 0,p_m 22 6,p_s 23 (.sll 1 (.t 21) (some (.t 22)) none none),p_m 0 23]))))))))
 (.seq (.reg [p_m 24 4,p_m 2 24,p_s 3 (.mov (o_i 0))])
 .ret))))
theorem amy:Fun P0 89 1 [(2,false,none),(3,false,none)] ajz:=b5 Go.Proofs.Tryz.func89 rfl (by decide) (by kernel_rfl) (by decide) rfl (by kernel_rfl) (by kernel_rfl) (by decide)
def okB (f:Int):Bool:=decide (1≤f∧f≤1000)
theorem a28 (f:Int):a7 P0 102 [int .i64 f] [] (bl (okB f)) []:=by
 refine aqp rfl (by decide) ?_;simp only [apy,push_cast,↓reduceIte,reduceCtorEq,zB,zE,zA,zS,zL,zD,zM]
 repeat refine And.intro (by simp +contextual) ?_
 refine jd ?_;simp [okB]
theorem a2z (l:List UInt8) (hl:l.length≤140737488355328):a7 P0 101 [sb l] [] (.ptr 1000000 0 0) [.box [.own 1000001 0 0 l.length],jp l]:=by
 refine aog rfl (by decide) ?_;simp only [amt,push_cast,↓reduceIte,reduceCtorEq,zB,zE,zA,zS,zL,zD,zM];have:=d5;refine ⟨by simp,by omega,by rw [zaa]⟩
theorem a92:∀x:Fin 128,(zaf 8 (x.val:Int) ||| zaf 8 128).toNat=x.val+128:=by decide +kernel
theorem ahs (U:Int) (h0:0≤U) (h1:U<18446744073709551616) :
  RV.v (.int .u8 (IntKind.u8.wrap ((zaf IntKind.u8.bits (IntKind.u8.wrap (IntKind.u64.wrap ((zaf IntKind.u64.bits U &&& zaf IntKind.u64.bits 127).toNat))) ||| zaf IntKind.u8.bits 128).toNat)))=by8 (zal (U.toNat%128+128)):=by
 rw [af1 U 127 7 (by decide) (by decide) h0 h1,IntKind.wrap_u8 (U%2^7)];have e:U%2^7%256=((U.toNat%128:Nat):Int):=by omega
 have:=a92 ⟨U.toNat%128,Nat.mod_lt _ (by decide)⟩;simp only at this;rw [e,show IntKind.u8.bits=8 from rfl,this,IntKind.wrap_u8];simp only [by8];congr 2
theorem yq (U:Int) (h0:0≤U) (h1:U≤127):RV.v (.int .u8 (IntKind.u8.wrap U))=by8 (zal U.toNat):=by
 rw [IntKind.wrap_u8];simp only [by8];congr 2;simp;omega
theorem wvar_t (l : List UInt8) (n : Int) (n0 : 0 ≤ n) (hn : n < 18446744073709551616) (hl : l.length ≤ 140000000000000) :
    a7 P0 103 [.ptr 1000000 0 0,int .u64 n] [.box [.own 1000001 0 0 l.length],jp l] (.tup []) [.box [.own 1000001 0 0 (l++o4 n.toNat).length],jp (l++o4 n.toNat)]:=by
  refine sr rfl (by simp) ?_;simp only [pq,push_cast,↓reduceIte,reduceCtorEq,zB,zE,zA,zS,zL,zD,zM];have hmax:=d5
  refine run_loop [(0,false),(1,false)] (fun vs pos los=>∃(U:Int) (f:Nat) (r:List UInt8),0≤U∧U<18446744073709551616∧1≤f∧f≤10∧U.toNat<128^f∧r++zf f U.toNat=l++o4 n.toNat ∧
    vs=[.ptr 1000000 0 0,int .u64 U]∧pos=[.box [.own 1000001 0 0 r.length],jp r]∧los=[])
    (fun vs _ _=>match vs with | [_,.r (.v (.int _ j))]=>j.toNat | _=>0) rfl ?_ ?_
  · simp only [push_cast,↓reduceIte,reduceCtorEq,zB,zE,zA,zS,zL,zD,zM];exact ⟨n,10,l,n0,hn,by decide,by decide,by omega,rfl,rfl,rfl⟩
  · rintro vs pos los ⟨U,f,r,U0,U1,f1,f10,Uf,hr,rfl,rfl,rfl⟩
    have hrl:r.length≤l.length+10:=by
      have h1:=congrArg zaz hr;have h2:=p9 n.toNat;rw [zah,zah] at h1;omega
    simp only [push_cast,↓reduceIte,reduceCtorEq,zB,zE,zA,zS,zL,zD,zM];refine b6 (fun h=>?_) (fun h=>?_)
    · have h1:127<U:=by simpa using h
      obtain ⟨f',rfl,hf',hUf,hv⟩:=abh (f:=f) (n:=U.toNat) (by omega) Uf;have hs:U.fdiv (2^min (zas 7) IntKind.u64.bits)=U/128:=air U 7 (by decide);have hU:(U/128).toNat=U.toNat/128:=by omega
      simp only [hs,push_cast,↓reduceIte,reduceCtorEq,zB,zE,zA,zS,zL,zD,zM];rw [ahs U U0 U1];refine ⟨by simp,by omega,by omega,⟨U/128,f',r++[zal (U.toNat%128+128)],by omega,by omega,hf',by omega,by rw [hU]; exact hUf,?_,rfl,by simp⟩,by omega⟩;rw [← hr,hv,hU,zax]; rfl
    · have h1 : U ≤ 127 := by have : ¬ (U > 127) := by simpa using h
                              omega
      have hv:=tm (f:=f) (n:=U.toNat) (by omega) f1;rw [hv] at hr;simp only [← hr,push_cast,↓reduceIte,reduceCtorEq,zB,zE,zA,zS,zL,zD,zM];rw [yq U U0 h1]
      have e:r.length+1=l.length+(o4 n.toNat).length:=by
        have:=congrArg zaz hr;simpa using this
      refine ⟨by simp,by omega,?_⟩;rw [e];simp

open Go Go.RowKit
theorem wvarN_t (n : Int) (n0 : 0 ≤ n) (hn : n < 18446744073709551616) :
    a7 P0 103 [.ptr 1000000 0 0,int .u64 n] [.box [.nils 1 (.v (.int .u8 0))]] (.tup []) [.box [.own 1000001 0 0 (o4 n.toNat).length],jp (o4 n.toNat)]:=by
  refine sr rfl (by simp) ?_;simp only [pq,push_cast,↓reduceIte,reduceCtorEq,zB,zE,zA,zS,zL,zD,zM];have hmax:=d5
  refine run_loop [(0,false),(1,false)] (fun vs pos los=>∃(U:Int) (f:Nat) (r:List UInt8),0≤U∧U<18446744073709551616∧1≤f∧f≤10∧U.toNat<128^f∧r++zf f U.toNat=o4 n.toNat ∧
    vs=[.ptr 1000000 0 0,int .u64 U]∧((r=[]∧pos=[.box [.nils 1 (.v (.int .u8 0))]]∧los=[])∨(pos=[.box [.own 2000000 0 0 r.length]]∧los=[jp r])))
    (fun vs _ _=>match vs with | [_,.r (.v (.int _ j))]=>j.toNat | _=>0) rfl ?_ ?_
  · simp only [push_cast,↓reduceIte,reduceCtorEq,zB,zE,zA,zS,zL,zD,zM];exact ⟨n,10,[],n0,hn,by decide,by decide,by omega,rfl,rfl,.inl rfl⟩
  · rintro vs pos los ⟨U,f,r,U0,U1,f1,f10,Uf,hr,rfl,hc⟩
    have hrl:r.length≤10:=by
      have h1:=congrArg zaz hr;have h2:=p9 n.toNat;rw [zah] at h1;omega
    have hs:U.fdiv (2^min (zas 7) IntKind.u64.bits)=U/128:=air U 7 (by decide);have hU:(U/128).toNat=U.toNat/128:=by omega
    rcases hc with ⟨rfl,rfl,rfl⟩ | ⟨rfl,rfl⟩
    · simp only [push_cast,↓reduceIte,reduceCtorEq,zB,zE,zA,zS,zL,zD,zM];refine b6 (fun h=>?_) (fun h=>?_)
      · have h1:127<U:=by simpa using h
        obtain ⟨f',rfl,hf',hUf,hv⟩:=abh (f:=f) (n:=U.toNat) (by omega) Uf;simp only [hs,push_cast,↓reduceIte,reduceCtorEq,zB,zE,zA,zS,zL,zD,zM];rw [ahs U U0 U1];refine ⟨by simp,by omega,by omega,⟨U/128,f',[zal (U.toNat%128+128)],by omega,by omega,hf',by omega,by rw [hU]; exact hUf,?_,rfl,.inr ⟨rfl,rfl⟩⟩,by omega⟩;rw [← hr,hv,hU]; rfl
      · have h1 : U ≤ 127 := by have : ¬ (U > 127) := by simpa using h
                                omega
        have hv:=tm (f:=f) (n:=U.toNat) (by omega) f1;rw [hv] at hr;simp only [← hr,push_cast,↓reduceIte,reduceCtorEq,zB,zE,zA,zS,zL,zD,zM];rw [yq U U0 h1];refine ⟨by simp,by omega,?_⟩;simp
    · simp only [push_cast,↓reduceIte,reduceCtorEq,zB,zE,zA,zS,zL,zD,zM];refine b6 (fun h=>?_) (fun h=>?_)
      · have h1:127<U:=by simpa using h
        obtain ⟨f',rfl,hf',hUf,hv⟩:=abh (f:=f) (n:=U.toNat) (by omega) Uf;simp only [hs,push_cast,↓reduceIte,reduceCtorEq,zB,zE,zA,zS,zL,zD,zM];rw [ahs U U0 U1];refine ⟨by simp,by omega,by omega,⟨U/128,f',r++[zal (U.toNat%128+128)],by omega,by omega,hf',by omega,by rw [hU]; exact hUf,?_,rfl,.inr ⟨by simp,by simp⟩⟩,by omega⟩;rw [← hr,hv,hU,zax]; rfl
      · have h1 : U ≤ 127 := by have : ¬ (U > 127) := by simpa using h
                                omega
        have hv:=tm (f:=f) (n:=U.toNat) (by omega) f1;rw [hv] at hr;simp only [← hr,push_cast,↓reduceIte,reduceCtorEq,zB,zE,zA,zS,zL,zD,zM];rw [yq U U0 h1];refine ⟨by simp,by omega,?_⟩;simp
theorem a6j (n:Int) (hn:in64 n):IntKind.u64.wrap ((zaf IntKind.u64.bits (IntKind.u64.wrap (IntKind.i64.wrap (n*2))) ^^^ zaf IntKind.u64.bits (IntKind.u64.wrap (n/9223372036854775808))).toNat)=zig n:=by
 have:=az4 n hn.1 hn.2;rw [show wrap64 (n*2)=IntKind.i64.wrap (n*2) by rw [IntKind.wrap_i64]; unfold wrap64; omega] at this;exact this
theorem aly (n:Int) (hn:in64 n):a7 P0 31 [int .i64 n] [] (int .u64 (zig n)) []:=by
 refine aoi rfl (by decide) ?_;simp only [amv,push_cast,↓reduceIte,reduceCtorEq,zB,zE,zA,zS,zL,zD,zM];have e1:n.fdiv (2^min (zas 63) IntKind.i64.bits)=n/9223372036854775808:=a2p n 63 (by decide);have e2:n*2^min (zas 1) IntKind.i64.bits=n*2:=rfl;refine ⟨by decide,by decide,?_⟩;rw [e1,e2,a6j n hn]
def v5 (f n:Int):List UInt8:=if okB f then o4 (f*8).toNat++o4 n.toNat else []
def zag (n:Int):Int:=if n%2=0 then n/2 else -(n/2)-1
theorem a6k (n:Int) (h0:0≤n) (h1:n<18446744073709551616):IntKind.i64.wrap ((zaf IntKind.i64.bits (IntKind.i64.wrap (n/2)) ^^^ zaf IntKind.i64.bits (IntKind.i64.wrap (0-IntKind.i64.wrap (n%2)))).toNat)=zag n:=by
 rw [show IntKind.i64.bits=64 from rfl,a6 (x:=n/2) (by omega),a6 (x:=n%2) (by omega),a6 (x:=0-n%2) (by omega)];unfold zag;split
 ·rename_i h;rw [h,show (0:Int)-0=0 by omega,show zaf 64 0=0#64 from rfl,BitVec.xor_zero,zbk,IntKind.wrap_i64];omega
 ·rename_i h;rw [show n%2=1 by omega,show zaf 64 (0-1)=zaf 64 18446744073709551615 by decide,aqy,zbk,IntKind.wrap_i64];omega
theorem a2k (n:Int) (h0:0≤n) (h1:n<18446744073709551616):a7 P0 33 [int .u64 n] [] (int .i64 (zag n)) []:=by
 refine aoj rfl (by decide) ?_;simp only [amw,push_cast,↓reduceIte,reduceCtorEq,zB,zE,zA,zS,zL,zD,zM];have e1:n.fdiv (2^min (zas 1) IntKind.u64.bits)=n/2:=air n 1 (by decide);have e2:=af1 n 1 1 (by decide) (by decide) h0 h1;rw [show (2:Int)^1=2 from rfl] at e2;refine ⟨by decide,?_⟩;rw [e1,e2,a6k n h0 h1]
theorem aip (n:Int):zag (zig n)=n:=by unfold zag zig; split<;>split<;>omega
theorem aqx (n:Int) (h0:0≤n) (h1:n<18446744073709551616):in64 (zag n):=by unfold zag in64; split<;>omega
theorem am3 (l:List UInt8) (f n:Int) (hf:in64 f) (n0:0≤n) (hn:n<18446744073709551616) (hl:l.length≤130000000000000) :
  a7 P0 55 [sb l,int .i64 f,int .u64 n] [] (.own 1000000 0 0 (l++v5 f n).length) [jp (l++v5 f n)]:=by
 refine aok rfl (by decide) ?_;simp only [am0,push_cast,↓reduceIte,reduceCtorEq,zB,zE,zA,zS,zL,zD,zM];refine a5 (a2z l (by omega)) rfl trivial ?_;simp only [push_cast,↓reduceIte,reduceCtorEq,zB,zE,zA,zS,zL,zD,zM];refine a5 (a28 f) rfl trivial ?_;cases hk:okB f with
 | false=>
  simp only [v5,hk,push_cast,↓reduceIte,reduceCtorEq,zB,zE,zA,zS,zL,zD,zM];rw [Nat.add_zero]
 | true=>
  have h1:1≤f∧f≤1000:=by simpa [okB] using hk
  have e1:IntKind.u64.wrap f=f:=by rw [IntKind.wrap_u64]; omega
  have e2:IntKind.u64.wrap (f*8)=f*8:=by rw [IntKind.wrap_u64]; omega
  simp only [v5,hk,e1,e2,push_cast,↓reduceIte,reduceCtorEq,zB,zE,zA,zS,zL,zD,zM];refine ⟨by kernel_rfl,?_⟩;refine a5 (wvar_t l (f*8) (by omega) (by omega) (by omega)) rfl ⟨rfl,trivial⟩ ?_;have h2:=p9 (f*8).toNat;have h3:(l++o4 (f*8).toNat).length≤140000000000000:=by rw [zah]; omega
  generalize hm:l++o4 (f*8).toNat=m at h3;simp only [hk,e1,e2,push_cast,↓reduceIte,reduceCtorEq,zB,zE,zA,zS,zL,zD,zM];refine ⟨by kernel_rfl,?_⟩;refine a5 (wvar_t m n n0 hn (by omega)) rfl ⟨rfl,trivial⟩ ?_;rw [← hm,zax];simp only [push_cast,↓reduceIte,reduceCtorEq,zB,zE,zA,zS,zL,zD,zM]
def m7 (f:Int) (x:List UInt8):List UInt8:=if okB f then o4 (f*8+2).toNat++(o4 x.length++x) else []
theorem xm (l:List UInt8) (f:Int) (x:List UInt8) (hf:in64 f) (hx:x.length≤1000000000000) (hl:l.length≤130000000000000) :
  a7 P0 79 [sb l,int .i64 f,sb x] [] (.own 1000000 0 0 (l++m7 f x).length) [jp (l++m7 f x)]:=by
 refine ak5 rfl (by decide) ?_;simp only [ahm,push_cast,↓reduceIte,reduceCtorEq,zB,zE,zA,zS,zL,zD,zM];refine a5 (a2z l (by omega)) rfl trivial ?_;simp only [push_cast,↓reduceIte,reduceCtorEq,zB,zE,zA,zS,zL,zD,zM];refine a5 (a28 f) rfl trivial ?_;have hmax:=d5;cases hk:okB f with
 | false=>
  simp only [m7,hk,push_cast,↓reduceIte,reduceCtorEq,zB,zE,zA,zS,zL,zD,zM];rw [Nat.add_zero]
 | true=>
  have h1:1≤f∧f≤1000:=by simpa [okB] using hk
  have e1:IntKind.u64.wrap f=f:=by rw [IntKind.wrap_u64]; omega
  have e2:IntKind.u64.wrap (f*8)=f*8:=by rw [IntKind.wrap_u64]; omega
  have e3:IntKind.u64.wrap (f*8+2)=f*8+2:=by rw [IntKind.wrap_u64]; omega
  obtain ⟨X,hX,X0,X1⟩:∃X:Int,X=x.length∧0≤X∧X≤1000000000000:=⟨_,rfl,by omega,by omega⟩
  have e4:IntKind.u64.wrap X=X:=by rw [IntKind.wrap_u64]; omega
  have eX:o4 x.length=o4 X.toNat:=by rw [hX]; rfl
  simp only [m7,hk,e1,e2,e3,eX,← hX,push_cast,↓reduceIte,reduceCtorEq,zB,zE,zA,zS,zL,zD,zM];refine ⟨by kernel_rfl,?_⟩;refine a5 (wvar_t l (f*8+2) (by omega) (by omega) (by omega)) rfl ⟨rfl,trivial⟩ ?_;have h2:=p9 (f*8+2).toNat;have h3:(l++o4 (f*8+2).toNat).length≤130000000000010:=by rw [zah]; omega
  rw [← zax l];generalize hm:l++o4 (f*8+2).toNat=m at h3;have hm':=congrArg zaz hm;rw [zah] at hm';clear hm;simp only [hk,e1,e2,e4,← hX,push_cast,↓reduceIte,reduceCtorEq,zB,zE,zA,zS,zL,zD,zM];refine ⟨by kernel_rfl,?_⟩;refine a5 (wvar_t m X X0 (by omega) (by omega)) rfl ⟨rfl,trivial⟩ ?_;have h4:=p9 X.toNat;have h5:(m++o4 X.toNat).length≤130000000000020:=by rw [zah]; omega
  rw [← zax m];generalize hm2:m++o4 X.toNat=m2 at h5;have hm2':=congrArg zaz hm2;rw [zah] at hm2';clear hm2;simp only [← hX,push_cast,↓reduceIte,reduceCtorEq,zB,zE,zA,zS,zL,zD,zM];refine ⟨by omega,?_⟩;simp;omega
theorem pack_t (l : List UInt8) (f : Int) (ns : List Int) (hf : in64 f) (hn : ∀ n ∈ ns, 0 ≤ n ∧ n < 18446744073709551616) (hns : ns.length ≤ 1000000000) (hl : l.length ≤ 130000000000000) :
    a7 P0 56 [sb l,int .i64 f,.r (.sl 1 (ns.map fun n=>.v (.int .u64 n)))] [] (.own 1000000 0 0 (l++m7 f (ns.flatMap fun n=>o4 n.toNat)).length) [jp (l++m7 f (ns.flatMap fun n=>o4 n.toNat))]:=by
  refine amz rfl (by decide) ?_;simp only [aj0,push_cast,↓reduceIte,reduceCtorEq,zB,zE,zA,zS,zL,zD,zM];have hmax:=d5;obtain ⟨N,hN,N0,N1⟩:∃N:Int,N=ns.length∧0≤N∧N≤1000000000:=⟨_,rfl,by omega,by omega⟩
  simp only [← hN]
  have hlen:∀i:Nat,((ns.take i).flatMap fun n=>o4 n.toNat).length≤10*i:=fun i=>by
    induction i with
    | zero=>simp
    | succ i ih=>
      rw [zba,zbb,zah]
      have:((ns[i]?.toList).flatMap fun n=>o4 n.toNat).length≤10:=by
        cases ns[i]? with
        | none=>simp
        | some n=>simpa using p9 n.toNat
      omega
  refine run_loop [(0,false),(1,false),(7,false),(12,false),(13,false),(14,false)] (fun vs pos los=>∃(i:Int) (r:List UInt8),0≤i∧i≤N∧r=(ns.take i.toNat).flatMap (fun n=>o4 n.toNat) ∧
    vs=[sb l,int .i64 f,.ptr 2000000 0 0,.r (.sl 1 (ns.map fun n=>.v (.int .u64 n))),int .i64 N,int .i64 i]∧pos=[] ∧
    ((r=[]∧los=[.box [.nils 1 (.v (.int .u8 0))]])∨los=[.box [.own 2000001 0 0 r.length],jp r]))
    (fun vs _ _=>match vs with | [_,_,_,_,_,.r (.v (.int _ j))]=>(N-j).toNat | _=>0) rfl ?_ ?_
  · simp only [push_cast,↓reduceIte,reduceCtorEq,zB,zE,zA,zS,zL,zD,zM];exact ⟨0,[],by omega,by omega,rfl,rfl,.inl rfl⟩
  · rintro vs pos los ⟨i,r,i0,iN,hr,rfl,rfl,hc⟩;have hrl:=hlen i.toNat;rw [← hr] at hrl;rcases hc with ⟨rfl,rfl⟩ | rfl
    · simp only [push_cast,↓reduceIte,reduceCtorEq,zB,zE,zA,zS,zL,zD,zM];refine b6 (fun h=>?_) (fun h=>?_)
      · have hi:i<N:=by simpa using h
        have hin:i.toNat<ns.length:=by omega
        have hb:=hn _ (List.getElem_mem hin);have hg:(zan (fun n=>RV.v (.int .u64 n)) ns).getD i.toNat (.v (.int .u64 0))=.v (.int .u64 ns[i.toNat]):=by simp [List.getD,hin]
        have w4:IntKind.i64.wrap (i+1)=i+1:=a6 (by omega);simp only [hg,← hN,push_cast,↓reduceIte,reduceCtorEq,zB,zE,zA,zS,zL,zD,zM];refine ⟨⟨i0,hi⟩,?_⟩;refine a5 (wvarN_t _ hb.1 hb.2) rfl ⟨rfl,trivial⟩ ?_;simp only [w4,push_cast,↓reduceIte,reduceCtorEq,zB,zE,zA,zS,zL,zD,zM];refine ⟨⟨i+1,o4 (ns[i.toNat]).toNat,by omega,by omega,?_,rfl,.inr rfl⟩,by omega⟩;rw [show (i+1).toNat=i.toNat+1 by omega,zbo hin,zbb,← hr];simp
      · have hi : i = N := by have : ¬ i < N := by simpa using h
                              omega
        rw [hi,show N.toNat=ns.length by omega,zao] at hr;simp only [push_cast,↓reduceIte,reduceCtorEq,zB,zE,zA,zS,zL,zD,zM];refine a9 (as':=[sb l,int .i64 f,sb []]) rfl ?_;refine a5 (xm l f [] hf (by simp) hl) rfl trivial ?_;rw [← hr];simp only [push_cast,↓reduceIte,reduceCtorEq,zB,zE,zA,zS,zL,zD,zM]
    · simp only [push_cast,↓reduceIte,reduceCtorEq,zB,zE,zA,zS,zL,zD,zM];refine b6 (fun h=>?_) (fun h=>?_)
      · have hi:i<N:=by simpa using h
        have hin:i.toNat<ns.length:=by omega
        have hb:=hn _ (List.getElem_mem hin);have hg:(zan (fun n=>RV.v (.int .u64 n)) ns).getD i.toNat (.v (.int .u64 0))=.v (.int .u64 ns[i.toNat]):=by simp [List.getD,hin]
        have w4:IntKind.i64.wrap (i+1)=i+1:=a6 (by omega);simp only [hg,← hN,push_cast,↓reduceIte,reduceCtorEq,zB,zE,zA,zS,zL,zD,zM];refine ⟨⟨i0,hi⟩,?_⟩;refine a5 (wvar_t r _ hb.1 hb.2 (by omega)) rfl ⟨rfl,trivial⟩ ?_;generalize hq:r++o4 (ns[i.toNat]).toNat=q;simp only [w4,push_cast,↓reduceIte,reduceCtorEq,zB,zE,zA,zS,zL,zD,zM];refine ⟨⟨i+1,q,by omega,by omega,?_,rfl,.inr rfl⟩,by omega⟩;rw [show (i+1).toNat=i.toNat+1 by omega,zbo hin,zbb,← hr,← hq];simp
      · have hi : i = N := by have : ¬ i < N := by simpa using h
                              omega
        rw [hi,show N.toNat=ns.length by omega,zao] at hr;simp only [← hr,push_cast,↓reduceIte,reduceCtorEq,zB,zE,zA,zS,zL,zD,zM];refine f6 ?_;simp only [push_cast,↓reduceIte,reduceCtorEq,zB,zE,zA,zS,zL,zD,zM];refine a9 (as':=[sb l,int .i64 f,sb r]) rfl ?_;refine a5 (xm l f r hf (by omega) hl) rfl trivial ?_;simp only [push_cast,↓reduceIte,reduceCtorEq,zB,zE,zA,zS,zL,zD,zM]

open Go Go.RowKit
theorem a9t {U i C:Int} {m k b:Nat} (hU:U=m) (hi:i=k) (hC:C=b) (hk:k≤9) (hm:m<2^(7*k)) (hb:b<256) (h9:k=9→b≤1) :
  IntKind.u64.wrap ((zaf IntKind.u64.bits U ||| zaf IntKind.u64.bits (IntKind.u64.wrap (IntKind.u64.wrap (IntKind.u8.wrap ((zaf IntKind.u8.bits C &&& zaf IntKind.u8.bits 127).toNat))*2^min (IntKind.u64.wrap (IntKind.i64.wrap (7*i))).toNat IntKind.u64.bits))).toNat)=((m+b%128*2^(7*k):Nat):Int):=by
 have e1:IntKind.i64.wrap (7*i)=7*i:=a6 (by omega);have e2:IntKind.u64.wrap (7*i)=7*i:=by rw [IntKind.wrap_u64]; omega
 rw [e1,e2,show (7*i).toNat=7*k by omega,show min (7*k) IntKind.u64.bits=7*k from Nat.min_eq_left (by simp [IntKind.bits]; omega),hU,hC];exact aw7 hk hm hb h9
theorem a1o (l:List UInt8) (i:Nat) (z:RV) (hi:i<l.length):(zan by8 l).getD i z=.v (.int .u8 (l[i].toNat:Int)):=by
 simp [List.getD,hi,by8]
theorem amb (l:List UInt8) (hl:l.length≤140737488355328):a7 P0 189 [sb l] [] (.tup [int .u64 (take l).1,int .i64 (take l).2]) []:=by
 refine ams rfl (by decide) ?_;obtain ⟨N,hN,N0,N1⟩:∃N:Int,N=l.length∧0≤N∧N≤140737488355328:=⟨_,rfl,by omega,by omega⟩
 simp only [ajx,← hN,push_cast,↓reduceIte,reduceCtorEq,zB,zE,zA,zS,zL,zD,zM]
 refine run_loop [(4,false),(7,false),(8,false),(9,false)] (fun vs pos los=>∃(i U:Int) (k m:Nat),i=k∧U=m∧k≤l.length∧k≤9∧m<2^(7*k)∧take l=er k m (l.drop k) ∧
  vs=[int .u64 U,sb l,int .i64 N,int .i64 i]∧pos=[]∧los=[])
  (fun vs _ _=>match vs with | [_,_,_,.r (.v (.int _ j))]=>(N-j).toNat | _=>0) rfl ?_ ?_
 ·simp only [push_cast,↓reduceIte,reduceCtorEq,zB,zE,zA,zS,zL,zD,zM];exact ⟨0,0,0,0,rfl,rfl,by omega,by omega,by decide,rfl,rfl⟩
 ·rintro vs pos los ⟨i,U,k,m,hik,hUm,hkl,hk9,hm,ht,rfl,rfl,rfl⟩;simp only [push_cast,↓reduceIte,reduceCtorEq,zB,zE,zA,zS,zL,zD,zM];refine b6 (fun h=>?_) (fun h=>?_)
  ·have hi:i<N:=by simpa using h
   have hin:k<l.length:=by omega
   have hit:i.toNat=k:=by omega
   obtain ⟨b,hb⟩:∃b,l[k].toNat=b:=⟨_,rfl⟩
   have hb2:b<256:=by rw [← hb]; exact l[k].toNat_lt
   obtain ⟨C,hC⟩:∃C:Int,C=b:=⟨_,rfl⟩
   have hg:(zan by8 l).getD i.toNat (.v (.int .u8 0))=.v (.int .u8 C):=by
    rw [hit,a1o l k _ hin,hC,hb]
   have w4:IntKind.i64.wrap (i+1)=i+1:=a6 (by omega);simp only [hg,push_cast,↓reduceIte,reduceCtorEq,zB,zE,zA,zS,zL,zD,zM];refine ⟨⟨by omega,by omega⟩,?_⟩
   repeat refine And.intro (by by_cases c1:i=9<;>by_cases c2:C>1<;>by_cases c3:i>0<;>by_cases c4:C=0<;>simp [c1,c2,c3,c4]<;>omega) ?_
   refine b6 (fun h2=>?_) (fun h2=>?_)
   ·have hc:(k=9∧1<b)∨(0<k∧b=0):=by
     by_cases c1:i=9<;>by_cases c2:C>1<;>by_cases c3:i>0<;>by_cases c4:C=0<;>simp [c1,c2,c3,c4] at h2<;>omega
    simp only [push_cast,↓reduceIte,reduceCtorEq,zB,zE,zA,zS,zL,zD,zM];rw [ht,a0f hin hb hc]
    rfl
   ·have hc:¬((k=9∧1<b)∨(0<k∧b=0)):=by
     intro hc;by_cases c1:i=9<;>by_cases c2:C>1<;>by_cases c3:i>0<;>by_cases c4:C=0<;>simp [c1,c2,c3,c4] at h2<;>omega
    have hv:=a9t hUm hik hC hk9 hm hb2 (fun h9=>by omega);have hml:=ag6 (b:=b) hm;have hw7:0≤IntKind.u64.wrap (IntKind.i64.wrap (7*i)):=by rw [IntKind.wrap_u64]; omega
    generalize hm':m+b%128*2^(7*k)=m' at hv hml;generalize hV:((m':Nat):Int)=V at hv;simp only [hv,push_cast,↓reduceIte,reduceCtorEq,zB,zE,zA,zS,zL,zD,zM];by_cases c1:C<128
    ·have g1:decide (C<128)=true:=by simp [c1]
     simp only [g1,w4,push_cast,↓reduceIte,reduceCtorEq,zB,zE,zA,zS,zL,zD,zM];refine ⟨hw7,?_⟩;rw [ht,aw8 hin hb hc (by omega),hm'];refine congrArg AV.tup ?_;rw [← hV,show i+1=((k+1:Nat):Int) by omega]
    ·have g1:decide (C<128)=false:=by simp; omega
     simp only [g1,w4,push_cast,↓reduceIte,reduceCtorEq,zB,zE,zA,zS,zL,zD,zM];refine ⟨hw7,⟨i+1,V,k+1,m',by omega,by omega,by omega,by omega,hml,?_,rfl⟩,by omega⟩;rw [ht,a0e hin hb hc (by omega),hm']
  ·have hi:¬i<N:=by simpa using h
   simp only [push_cast,↓reduceIte,reduceCtorEq,zB,zE,zA,zS,zL,zD,zM];rw [ht,au9 k m l (by omega)]
   rfl
theorem yj {x:Int} {n:Nat} (h:x=n):x.toNat=n:=by omega
def s6 (ns:List Nat):List RV:=ns.map fun n:Nat=>RV.v (.int .u64 (n:Int))
abbrev avd (ns:List Nat):Ob:=.row 1 (.v (.int .u64 0)) true true (s6 ns)
def al3:Option (List Nat)→AV
 | none=>.tup [.nils 1 (.v (.int .u64 0)),int .i64 10]
 | some []=>.tup [.nils 1 (.v (.int .u64 0)),int .i64 0]
 | some (n::ns)=>.tup [.own 1000000 0 0 (n::ns).length,int .i64 0]
def al4:Option (List Nat)→List Ob
 | none=>[]
 | some []=>[]
 | some (n::ns)=>[avd (n::ns)]
theorem ayg (ns:List Nat) (n:Nat):s6 ns++[.v (.int .u64 (n:Int))]=s6 (ns++[n]):=by simp [s6]
theorem afc (ns:List Nat):(s6 ns).length=ns.length:=by simp [s6]
theorem apk (ns:List Nat):zai ns.length (s6 ns)=s6 ns:=zaj (by rw [afc]; exact zak _)
theorem aby (l:List UInt8) (k:Nat):zav k (zan by8 l)=zan by8 (l.drop k):=by rw [List.map_drop]
theorem a6n (l:List UInt8) (hl:l.length≤1000000000):a7 P0 148 [sb l] [] (al3 (tl l)) (al4 (tl l)):=by
  refine amx rfl (by decide) ?_;simp only [ajy,push_cast,↓reduceIte,reduceCtorEq,zB,zE,zA,zS,zL,zD,zM];have hmax:=d5
  refine run_loop [(0,false),(4,false)] (fun vs pos los=>∃(r:List UInt8) (f:Nat) (ns:List Nat),r.length≤f∧r.length+ns.length≤l.length∧tl l=(jg f r).map (ns ++ ·)∧pos=[] ∧
    ((ns=[]∧vs=[sb r,.nils 1 (.v (.int .u64 0))]∧los=[])∨(ns≠[]∧vs=[sb r,.own 2000000 0 0 ns.length]∧los=[avd ns])))
    (fun vs _ _=>match vs with | .r (.sl _ xs)::_=>xs.length | _=>0) rfl ?_ ?_
  · simp only [push_cast,↓reduceIte,reduceCtorEq,zB,zE,zA,zS,zL,zD,zM];refine ⟨l,l.length,[],zak _,by simp,?_,.inl ⟨rfl,rfl⟩⟩;show jg l.length l = _;cases jg l.length l<;>simp
  · rintro vs pos los ⟨r,f,ns,hf,hlen,hv,rfl,hc⟩;obtain ⟨R,hR,R0⟩:∃R:Int,R=r.length∧0≤R:=⟨_,rfl,by omega⟩
    have hb:=ep r;obtain ⟨U,hU⟩:∃U:Int,U=(take r).1:=⟨_,rfl⟩
    obtain ⟨K,hK⟩:∃K:Int,K=(take r).2:=⟨_,rfl⟩
    have hdr:zav (take r).2 (zai R.toNat (bys r))=bys (r.drop (take r).2):=by
      rw [zaj (by simp; omega)];exact aby r _
    have hdl:(r.drop (take r).2).length=r.length-(take r).2:=zay;have hsnoc:s6 ns++[.v (.int .u64 U)]=s6 (ns++[(take r).1]):=by rw [hU]; exact ayg _ _
    rcases hc with ⟨rfl,rfl,rfl⟩ | ⟨hns,rfl,rfl⟩
    · simp only [← hR,push_cast,↓reduceIte,reduceCtorEq,zB,zE,zA,zS,zL,zD,zM];refine b6 (fun h=>?_) (fun h=>?_)
      · have hr0 : 0 < r.length := by have : R > 0 := by simpa using h
                                      omega
        simp only [← hR,push_cast,↓reduceIte,reduceCtorEq,zB,zE,zA,zS,zL,zD,zM];refine a5 (amb r (by omega)) rfl trivial ?_;rw [← hU,← hK];simp only [← hR,push_cast,↓reduceIte,reduceCtorEq,zB,zE,zA,zS,zL,zD,zM];by_cases k0:K=0
        · have g0:(K == 0)=true:=by simp [k0]
          simp only [g0,push_cast,↓reduceIte,reduceCtorEq,zB,zE,zA,zS,zL,zD,zM];rw [hv,akl hr0 (by omega)];exact ⟨rfl,rfl⟩
        · have g0:(K == 0)=false:=by simp [k0]
          obtain ⟨f',hf',hv'⟩:=akk (n:=(take r).1) (k:=(take r).2) hr0 hf rfl (by omega);simp only [g0,← hR,aby,yj hK,push_cast,↓reduceIte,reduceCtorEq,zB,zE,zA,zS,zL,zD,zM];rw [hdr];refine ⟨by simp,by omega,⟨by omega,by omega,by omega⟩,⟨r.drop (take r).2,f',[(take r).1],by omega,by simp only [zaw,List.length_nil] at hlen ⊢; omega,?_,.inr ⟨by simp,rfl,by rw [hU]; rfl⟩⟩,by simp only [zar]; omega⟩;rw [hv,hv',zbg];congr 1
      · have hr0:r=[]:=by
          have:¬R>0:=by simpa using h
          exact zbh (by omega)
        simp only [push_cast,↓reduceIte,reduceCtorEq,zB,zE,zA,zS,zL,zD,zM];rw [hv,hr0,acn];exact ⟨rfl,rfl⟩
    · simp only [← hR,push_cast,↓reduceIte,reduceCtorEq,zB,zE,zA,zS,zL,zD,zM]
      have hout:∀m:List Nat,m≠[]→al3 (some m)=.tup [.own 1000000 0 0 m.length,int .i64 0]∧al4 (some m)=[avd m]:=fun m hm=>by
        cases m with
        | nil=>exact absurd rfl hm
        | cons=>exact ⟨rfl,rfl⟩
      refine b6 (fun h=>?_) (fun h=>?_)
      · have hr0 : 0 < r.length := by have : R > 0 := by simpa using h
                                      omega
        simp only [← hR,push_cast,↓reduceIte,reduceCtorEq,zB,zE,zA,zS,zL,zD,zM];refine a5 (amb r (by omega)) rfl trivial ?_;rw [← hU,← hK];simp only [← hR,push_cast,↓reduceIte,reduceCtorEq,zB,zE,zA,zS,zL,zD,zM];by_cases k0:K=0
        · have g0:(K == 0)=true:=by simp [k0]
          simp only [g0,push_cast,↓reduceIte,reduceCtorEq,zB,zE,zA,zS,zL,zD,zM];rw [hv,akl hr0 (by omega)];exact ⟨rfl,rfl⟩
        · have g0:(K == 0)=false:=by simp [k0]
          obtain ⟨f',hf',hv'⟩:=akk (n:=(take r).1) (k:=(take r).2) hr0 hf rfl (by omega);simp only [g0,← hR,aby,yj hK,apk,push_cast,↓reduceIte,reduceCtorEq,zB,zE,zA,zS,zL,zD,zM];rw [hdr,hsnoc];refine ⟨by simp,by omega,⟨by omega,by omega,by omega⟩,⟨r.drop (take r).2,f',ns++[(take r).1],by omega,by rw [zah,hdl,zbe]; omega,?_,.inr ⟨by simp,by simp,rfl⟩⟩,by simp only [zar]; omega⟩;rw [hv,hv',zbg];congr 1;funext x;simp
      · have hr0:r=[]:=by
          have:¬R>0:=by simpa using h
          exact zbh (by omega)
        simp only [push_cast,↓reduceIte,reduceCtorEq,zB,zE,zA,zS,zL,zD,zM];rw [hv,hr0,acn,Option.map_some,List.append_nil,(hout ns hns).1,(hout ns hns).2];exact ⟨rfl,rfl⟩

open Go Go.RowKit
theorem a34 (l:List UInt8) (a n:Nat):zav a (zai (a+n) (bys l))=bys ((l.drop a).take n):=by
 show zav a (zai (a+n) (zan by8 l))=zan by8 ((l.drop a).take n);rw [List.drop_take,← List.map_drop,← List.map_take,Nat.add_sub_cancel_left]
def pw (x:Fld):RV:=.agg [.v (.int .i64 (x.1:Nat)),.v (.int .i64 (x.2.1:Nat)),.v (.int .u64 (x.2.2.1:Nat)),.sl 1 (bys x.2.2.2)]
def aho:Option (Fld×Nat)→AV
 | none=>.tup [.r (pw (0,0,0,[])),int .i64 0]
 | some (x,k)=>.tup [.r (pw x),int .i64 (k:Nat)]
theorem acx:AV.tup [.r (.agg [.v (.int .i64 0),.v (.int .i64 0),.v (.int .u64 0),.sl 1 []]),.r (.v (.int .i64 0))]=aho none:=rfl
theorem ap1 {a b c k:Int} {x:Fld} {n:Nat} {d:List RV} (ha:a=(x.1:Nat)) (hb:b=(x.2.1:Nat)) (hc:c=(x.2.2.1:Nat)) (hd:d=bys x.2.2.2) (hk:k=(n:Nat)) :
  AV.tup [.r (.agg [.v (.int .i64 a),.v (.int .i64 b),.v (.int .u64 c),.sl 1 d]),.r (.v (.int .i64 k))]=aho (some (x,n)):=by
 rw [ha,hb,hc,hd,hk]; rfl
theorem a20 (l:List UInt8) (hl:l.length≤1000000000):a7 P0 147 [sb l] [] (aho (ei l)) []:=by
 refine aoh rfl (by decide) ?_;have hmax:=d5;obtain ⟨R,hR,R0⟩:∃R:Int,R=l.length∧0≤R:=⟨_,rfl,by omega⟩
 obtain ⟨ht1,ht2,ht3⟩:=ep l;obtain ⟨T,hT⟩:∃U:Int,U=(take l).1:=⟨_,rfl⟩
 obtain ⟨K,hK⟩:∃K:Int,K=(take l).2:=⟨_,rfl⟩
 have m8:IntKind.i64.wrap (T.tmod 8)=T%8:=by rw [zbc (by omega)]; exact a6 (by omega)
 have d8:IntKind.u64.wrap (T.tdiv 8)=T/8:=by rw [zbp (by omega),IntKind.wrap_u64]; omega
 have d8i:IntKind.i64.wrap (T/8)=T/8:=a6 (by omega);simp only [amu,push_cast,↓reduceIte,reduceCtorEq,zB,zE,zA,zS,zL,zD,zM];refine a5 (amb l (by omega)) rfl trivial ?_;rw [← hT,← hK];simp only [m8,d8,push_cast,↓reduceIte,reduceCtorEq,zB,zE,zA,zS,zL,zD,zM]
 repeat refine And.intro (by by_cases c1:K=0<;>by_cases c2:T/8<1<;>by_cases c3:T/8>1000<;>simp [c1,c2,c3]<;>omega) ?_
 refine b6 (fun h=>?_) (fun h=>?_)
 ·have hc:(take l).2=0∨(take l).1/8<1∨1000<(take l).1/8:=by
   by_cases c1:K=0<;>by_cases c2:T/8<1<;>by_cases c3:T/8>1000<;>simp [c1,c2,c3] at h<;>omega
  have hone:ei l=none:=if_pos hc;simp only [push_cast,↓reduceIte,reduceCtorEq,zB,zE,zA,zS,zL,zD,zM];rw [hone];exact acx
 ·have hc:¬((take l).2=0∨(take l).1/8<1∨1000<(take l).1/8):=by
   intro hc;by_cases c1:K=0<;>by_cases c2:T/8<1<;>by_cases c3:T/8>1000<;>simp [c1,c2,c3] at h<;>omega
  have hdr:zav K.toNat (zai R.toNat (bys l))=bys (l.drop (take l).2):=by
   rw [zaj (by simp; omega),yj hK];exact aby l _
  obtain ⟨hn1,hn2,hn3⟩:=ep (l.drop (take l).2);have hdl:(l.drop (take l).2).length=l.length-(take l).2:=zay;obtain ⟨U,hU⟩:∃U:Int,U=(take (l.drop (take l).2)).1:=⟨_,rfl⟩
  obtain ⟨J,hJ⟩:∃U:Int,U=(take (l.drop (take l).2)).2:=⟨_,rfl⟩
  have hkj:IntKind.i64.wrap (K+J)=K+J:=a6 (by omega);simp only [m8,d8,d8i,← hR,push_cast,↓reduceIte,reduceCtorEq,zB,zE,zA,zS,zL,zD,zM];rw [hdr];refine ⟨by omega,⟨by omega,by omega,by omega⟩,?_⟩;refine a5 (amb (l.drop (take l).2) (by omega)) rfl trivial ?_;rw [← hU,← hJ];simp only [m8,d8,d8i,push_cast,↓reduceIte,reduceCtorEq,zB,zE,zA,zS,zL,zD,zM];by_cases j0:J=0
  ·have g:(J == 0)=true:=by simp [j0]
   have hone:ei l=none:=by
    rw [ei,if_neg hc,if_pos (by omega)]
   simp only [g,push_cast,↓reduceIte,reduceCtorEq,zB,zE,zA,zS,zL,zD,zM];rw [hone];exact acx
  ·have g:(J == 0)=false:=by simp [j0]
   simp only [g,push_cast,↓reduceIte,reduceCtorEq,zB,zE,zA,zS,zL,zD,zM];by_cases t0:T%8=0
   ·have g2:(T%8 == 0)=true:=by simp [t0]
    have hone:ei l=some (((take l).1/8,0,(take (l.drop (take l).2)).1,[]),(take l).2+(take (l.drop (take l).2)).2):=by
     rw [ei,if_neg hc,if_neg (by omega),if_pos (by omega)]
    simp only [g2,hkj,push_cast,↓reduceIte,reduceCtorEq,zB,zE,zA,zS,zL,zD,zM];rw [hone];exact ap1 (by dsimp only; omega) (by dsimp only; omega) (by dsimp only; omega) rfl (by omega)
   ·have g2:(T%8 == 0)=false:=by simp [t0]
    simp only [g2,push_cast,↓reduceIte,reduceCtorEq,zB,zE,zA,zS,zL,zD,zM];by_cases t2:T%8=2
    ·have g3:(T%8 == 2)=true:=by simp [t2]
     have wR:IntKind.u64.wrap (IntKind.i64.wrap (IntKind.i64.wrap (R-K)-J))=R-K-J:=by
      rw [a6 (x:=R-K) (by omega),a6 (x:=R-K-J) (by omega),IntKind.wrap_u64]; omega
     simp only [g3,← hR,push_cast,↓reduceIte,reduceCtorEq,zB,zE,zA,zS,zL,zD,zM];rw [wR];by_cases un:U≤R-K-J
     ·have g4:decide (U≤R-K-J)=true:=by simp [un]
      have wU:IntKind.i64.wrap U=U:=a6 (by omega);have wS:IntKind.i64.wrap (K+J+U)=K+J+U:=a6 (by omega)
      have hone:ei l=some (((take l).1/8,2,0,(l.drop ((take l).2+(take (l.drop (take l).2)).2)).take (take (l.drop (take l).2)).1),(take l).2+(take (l.drop (take l).2)).2+(take (l.drop (take l).2)).1):=by
       rw [ei,if_neg hc,if_neg (by omega),if_neg (by omega),if_pos ⟨by omega,by omega⟩]
      simp only [g4,hkj,wU,wS,← hR,push_cast,↓reduceIte,reduceCtorEq,zB,zE,zA,zS,zL,zD,zM]
      have hseg:zav (K+J).toNat (zai (K+J+U).toNat (bys l))=bys ((l.drop ((take l).2+(take (l.drop (take l).2)).2)).take (take (l.drop (take l).2)).1):=by
       rw [show (K+J+U).toNat=(take l).2+(take (l.drop (take l).2)).2+(take (l.drop (take l).2)).1 by omega,show (K+J).toNat=(take l).2+(take (l.drop (take l).2)).2 by omega,a34]
      have hsl:(bys ((l.drop ((take l).2+(take (l.drop (take l).2)).2)).take (take (l.drop (take l).2)).1)).length≤1000000000:=by
       rw [zar,List.length_take,zay]; omega
      rw [hone,hseg]
      have hfin:∀s:List RV,s=bys ((l.drop ((take l).2+(take (l.drop (take l).2)).2)).take (take (l.drop (take l).2)).1)→AV.tup [.r (.agg [.v (.int .i64 (T/8)),.v (.int .i64 (T%8)),.v (.int .u64 0),.sl 1 s]),.r (.v (.int .i64 (K+J+U)))]=aho (some (((take l).1/8,2,0,(l.drop ((take l).2+(take (l.drop (take l).2)).2)).take (take (l.drop (take l).2)).1),(take l).2+(take (l.drop (take l).2)).2+(take (l.drop (take l).2)).1)):=
       fun s hs=>ap1 (by dsimp only; omega) (by dsimp only; omega) rfl hs (by omega)
      generalize hsg:bys ((l.drop ((take l).2+(take (l.drop (take l).2)).2)).take (take (l.drop (take l).2)).1)=sg at hsl hfin;refine ⟨by simp,⟨by omega,by omega,by omega,by omega⟩,⟨by omega,by omega⟩,?_⟩;refine hfin _ ?_;rw [zaa,zao]
     ·have g4:decide (U≤R-K-J)=false:=by simp; omega
      have hone:ei l=none:=by
       rw [ei,if_neg hc,if_neg (by omega),if_neg (by omega),if_neg (by omega)]
      simp only [g4,push_cast,↓reduceIte,reduceCtorEq,zB,zE,zA,zS,zL,zD,zM];rw [hone];exact acx
    ·have g3:(T%8 == 2)=false:=by simp [t2]
     have hone:ei l=none:=by
      rw [ei,if_neg hc,if_neg (by omega),if_neg (by omega),if_neg (by omega)]
     simp only [g3,push_cast,↓reduceIte,reduceCtorEq,zB,zE,zA,zS,zL,zD,zM];rw [hone];exact acx

open Go Go.RowKit
abbrev ave (fs:List Fld):Ob:=.row 4 (.agg [.v (.int .i64 0),.v (.int .i64 0),.v (.int .u64 0),.sl 1 []]) true true (fs.map pw)
abbrev aru:AV:=.nils 4 (.agg [.v (.int .i64 0),.v (.int .i64 0),.v (.int .u64 0),.sl 1 []])
def xz:Option (List Fld)→AV
 | none=>.tup [aru,int .i64 10]
 | some []=>.tup [aru,int .i64 0]
 | some (n::ns)=>.tup [.own 1000000 0 0 (n::ns).length,int .i64 0]
def acs:Option (List Fld)→List Ob
 | none=>[]
 | some []=>[]
 | some (n::ns)=>[ave (n::ns)]
theorem az {m:List Fld} (hm:m≠[]):xz (some m)=.tup [.own 1000000 0 0 m.length,int .i64 0]∧acs (some m)=[ave m]:=by
 cases m with
 | nil=>exact absurd rfl hm
 | cons=>exact ⟨rfl,rfl⟩
theorem amn (l:List UInt8) (hl:l.length≤100000000):a7 P0 89 [sb l] [] (xz (fg l)) (acs (fg l)):=by
  refine amy rfl (by decide) ?_;simp only [ajz,push_cast,↓reduceIte,reduceCtorEq,zB,zE,zA,zS,zL,zD,zM];have hmax:=d5
  refine run_loop [(0,false),(4,false)] (fun vs pos los=>∃(r:List UInt8) (f:Nat) (ns:List Fld),r.length≤f∧r.length+ns.length≤l.length∧fg l=(jq f r).map (ns ++ ·)∧pos=[] ∧
    ((ns=[]∧vs=[sb r,aru]∧los=[])∨(ns≠[]∧vs=[sb r,.own 2000000 0 0 ns.length]∧los=[ave ns])))
    (fun vs _ _=>match vs with | .r (.sl _ xs)::_=>xs.length | _=>0) rfl ?_ ?_
  · simp only [push_cast,↓reduceIte,reduceCtorEq,zB,zE,zA,zS,zL,zD,zM];refine ⟨l,l.length,[],zak _,by simp,?_,.inl ⟨rfl,rfl⟩⟩;show jq l.length l = _;cases jq l.length l<;>simp
  · rintro vs pos los ⟨r,f,ns,hf,hlen,hv,rfl,hc⟩;obtain ⟨R,hR,R0⟩:∃R:Int,R=r.length∧0≤R:=⟨_,rfl,by omega⟩
    have hdr:∀k:Nat,zav k (zai R.toNat (bys r))=bys (r.drop k):=fun k=>by
      rw [zaj (by simp; omega)];exact aby r _
    have hdl:∀k:Nat,(r.drop k).length=r.length-k:=fun k=>zay;rcases hc with ⟨rfl,rfl,rfl⟩ | ⟨hns,rfl,rfl⟩
    · simp only [← hR,push_cast,↓reduceIte,reduceCtorEq,zB,zE,zA,zS,zL,zD,zM];refine b6 (fun h=>?_) (fun h=>?_)
      · have hr0 : 0 < r.length := by have : R > 0 := by simpa using h
                                      omega
        simp only [← hR,push_cast,↓reduceIte,reduceCtorEq,zB,zE,zA,zS,zL,zD,zM];refine a5 (a20 r (by omega)) rfl trivial ?_;cases ho:ei r with
        | none=>
          simp only [aho,pw,push_cast,↓reduceIte,reduceCtorEq,zB,zE,zA,zS,zL,zD,zM];rw [hv,ak1 hr0 ho];exact ⟨rfl,rfl⟩
        | some p=>
          obtain ⟨x,k⟩:=p;have hb:=afb ho;obtain ⟨K,hK⟩:∃K:Int,K=k:=⟨_,rfl⟩
          have g0:(K == 0)=false:=by rw [beq_eq_false_iff_ne]; omega
          obtain ⟨f',hf',hv'⟩:=ak0 hr0 hf ho;have hdk:=hdl k;simp only [aho,← hK,g0,← hR,pw,push_cast,↓reduceIte,reduceCtorEq,zB,zE,zA,zS,zL,zD,zM];rw [hdr,yj hK];refine ⟨by simp,by omega,⟨by omega,by omega,by omega⟩,⟨r.drop k,f',[x],by omega,by simp only [zaw,List.length_nil] at hlen ⊢; omega,?_,.inr ⟨by simp,rfl,rfl⟩⟩,by simp only [zar]; omega⟩;rw [hv,hv',zbg];congr 1
      · have hr0:r=[]:=by
          have:¬R>0:=by simpa using h
          exact zbh (by omega)
        simp only [push_cast,↓reduceIte,reduceCtorEq,zB,zE,zA,zS,zL,zD,zM];rw [hv,hr0,acu];exact ⟨rfl,rfl⟩
    · simp only [← hR,push_cast,↓reduceIte,reduceCtorEq,zB,zE,zA,zS,zL,zD,zM];refine b6 (fun h=>?_) (fun h=>?_)
      · have hr0 : 0 < r.length := by have : R > 0 := by simpa using h
                                      omega
        simp only [← hR,push_cast,↓reduceIte,reduceCtorEq,zB,zE,zA,zS,zL,zD,zM];refine a5 (a20 r (by omega)) rfl trivial ?_;cases ho:ei r with
        | none=>
          simp only [aho,pw,push_cast,↓reduceIte,reduceCtorEq,zB,zE,zA,zS,zL,zD,zM];rw [hv,ak1 hr0 ho];exact ⟨rfl,rfl⟩
        | some p=>
          obtain ⟨x,k⟩:=p;have hb:=afb ho;obtain ⟨K,hK⟩:∃K:Int,K=k:=⟨_,rfl⟩
          have g0:(K == 0)=false:=by rw [beq_eq_false_iff_ne]; omega
          obtain ⟨f',hf',hv'⟩:=ak0 hr0 hf ho;have hdk:=hdl k;have hx:pw x=.agg [.v (.int .i64 (x.1:Nat)),.v (.int .i64 (x.2.1:Nat)),.v (.int .u64 (x.2.2.1:Nat)),.sl 1 (bys x.2.2.2)]:=rfl;simp only [aho,← hK,g0,← hR,hx,ag5,push_cast,↓reduceIte,reduceCtorEq,zB,zE,zA,zS,zL,zD,zM];rw [hdr,yj hK];refine ⟨by simp,by omega,⟨by omega,by omega,by omega⟩,⟨r.drop k,f',ns++[x],by omega,by rw [zah,hdk,zbe]; omega,?_,.inr ⟨by simp,by simp,by simp [pw]⟩⟩,by simp only [zar]; omega⟩;rw [hv,hv',zbg];congr 1;funext y;simp
      · have hr0:r=[]:=by
          have:¬R>0:=by simpa using h
          exact zbh (by omega)
        simp only [push_cast,↓reduceIte,reduceCtorEq,zB,zE,zA,zS,zL,zD,zM];rw [hv,hr0,acu,Option.map_some,List.append_nil,(az hns).1,(az hns).2];exact ⟨rfl,rfl⟩

open Go Go.RowKit
noncomputable def zc:PC:=
  (.seq (.reg [p_s 2 (.mov (.c (.r (.v (.string ⟨#[]⟩)))))])
 (.seq (.reg [p_s 3 (.mov (.c (.nils 1 (.v (.int .u8 0)))))])
 (.seq (.block 0 (.loop (.seq (.seq (.reg [p_m 4 0,p_s 5 (.bin .gtr (.t 4) (.c (.r (.v (.int .u64 127)))))])
 (.cond (.t 5)
 .skip
 (.exit 0)))
 (.block 1 (.seq (.reg [p_m 6 3,p_m 7 0,p_s 8 (.conv .u8 (.t 7)),p_s 9 (.bin .or (.t 8) (.c (.r (.v (.int .u8 128))))),p_a 10 (.bsl 1 (.v (.int .u8 0)) [(.t 9)]),p_a 11 (.app 1 (.v (.int .u8 0)) 1 (.t 6) (.t 10)),
 p_m 3 11])
 (.reg [p_m 12 0,p_s 13 (.bin .shr (.t 12) (.c (.r (.v (.int .u64 7))))),p_m 0 13]))))))
 (.seq (.reg [p_m 14 3,p_m 15 0,p_s 16 (.conv .u8 (.t 15)),p_a 17 (.bsl 1 (.v (.int .u8 0)) [(.t 16)]),p_a 18 (.app 1 (.v (.int .u8 0)) 1 (.t 14) (.t 17)),p_s 19 (.toStr (.t 18)),
 p_m 2 19])
 .ret))))
theorem ady:Fun P0 105 1 [(2,false,none)] zc:=b5 Go.Proofs.Tryz.func105 rfl (by decide) (by kernel_rfl) (by decide) rfl (by kernel_rfl) (by kernel_rfl) (by decide)
noncomputable def za:PC:=
  (.seq (.reg [p_s 2 (.mov (.c (.r (.v (.int .u64 0)))))])
 (.seq (.reg [p_m 3 0,p_s 4 (.conv .u64 (.t 3)),p_s 5 (.bin .shl (.t 4) (.c (.r (.v (.int .u64 1))))),p_m 6 0,p_s 7 (.bin .shr (.t 6) (.c (.r (.v (.int .u64 63))))),p_s 8 (.conv .u64 (.t 7)),
 p_s 9 (.bin .xor (.t 5) (.t 8)),p_m 2 9])
 .ret))
theorem adw:Fun P0 34 1 [(2,false,none)] za:=b5 Go.Proofs.Tryz.func34 rfl (by decide) (by kernel_rfl) (by decide) rfl (by kernel_rfl) (by kernel_rfl) (by decide)
noncomputable def qp:PC:=
  (.seq (.reg [p_s 2 (.mov (.c (.r (.v (.bool false)))))])
 (.seq (.reg [p_m 3 0,p_s 4 (.bin .geq (.t 3) (o_i 1)),p_m 5 4,p_g 6 5 true (.mov (.t 0)),p_g 7 5 true (.bin .leq (.t 6) (o_i 1000)),p_s 8 (.pick (.t 5) (.t 7) (.c (.r (.v (.bool false))))),
 p_m 2 8])
 .ret))
theorem aaa:Fun P0 104 1 [(2,false,none)] qp:=b5 Go.Proofs.Tryz.func104 rfl (by decide) (by kernel_rfl) (by decide) rfl (by kernel_rfl) (by kernel_rfl) (by decide)
noncomputable def zd:PC:=
  (.seq (.reg [p_s 4 (.mov (.c (.r (.v (.string ⟨#[]⟩)))))])
 (.seq (.seq (.reg [p_m 5 0,p_c 6 1 104 [.t 5],p_s 7 (.un .not (.t 6))])
 (.cond (.t 7)
 (.seq (.reg [p_s 4 (.mov (.c (.r (.v (.string ⟨#[]⟩)))))])
 .ret)
 .skip))
 (.seq (.reg [p_m 8 0,p_s 9 (.bin .mul (o_i 8) (.t 8)),p_s 10 (.conv .u64 (.t 9)),p_c 11 2 105 [.t 10],p_m 12 1,p_c 13 3 105 [.t 12],p_s 14 (.bin .add (.t 11) (.t 13)),
 p_m 4 14])
 .ret)))
theorem adz:Fun P0 57 2 [(4,false,none)] zd:=b5 Go.Proofs.Tryz.func57 rfl (by decide) (by kernel_rfl) (by decide) rfl (by kernel_rfl) (by kernel_rfl) (by decide)
noncomputable def vn:PC:=
  (.seq (.reg [p_s 4 (.mov (.c (.r (.v (.string ⟨#[]⟩)))))])
 (.seq (.seq (.reg [p_m 5 0,p_c 6 1 104 [.t 5],p_s 7 (.un .not (.t 6))])
 (.cond (.t 7)
 (.seq (.reg [p_s 4 (.mov (.c (.r (.v (.string ⟨#[]⟩)))))])
 .ret)
 .skip))
 (.seq (.reg [p_m 8 0,p_s 9 (.bin .mul (o_i 8) (.t 8)),p_s 10 (.bin .add (.t 9) (o_i 2)),p_s 11 (.conv .u64 (.t 10)),p_c 12 2 105 [.t 11],p_m 13 1,p_s 14 (.len true (.t 13)),
 p_s 15 (.conv .u64 (.t 14)),p_c 16 3 105 [.t 15],p_s 17 (.bin .add (.t 12) (.t 16)),p_m 18 1,p_s 19 (.bin .add (.t 17) (.t 18)),p_m 4 19])
 .ret)))
theorem ab9:Fun P0 88 2 [(4,false,none)] vn:=b5 Go.Proofs.Tryz.func88 rfl (by decide) (by kernel_rfl) (by decide) rfl (by kernel_rfl) (by kernel_rfl) (by decide)
noncomputable def wh:PC:=
  (.seq (.reg [p_s 4 (.mov (.c (.r (.v (.string ⟨#[]⟩)))))])
 (.seq (.reg [p_s 5 (.mov (.c (.r (.v (.string ⟨#[]⟩)))))])
 (.seq (.seq (.reg [p_s 6 (.mov (o_i 0))])
 (.block 0 (.loop (.seq (.seq (.reg [p_m 7 6,p_m 8 1,p_s 9 (.len false (.t 8)),p_s 10 (.bin .lss (.t 7) (.t 9))])
 (.cond (.t 10)
 .skip
 (.exit 0)))
 (.seq (.block 1 (.reg [p_m 13 5,p_m 14 1,p_m 15 6,p_s 16 (.ia 1 (.v (.int .u64 0)) (.t 14) (.t 15)),p_s 17 (.ld none (.t 16)),p_c 18 1 105 [.t 17],p_s 19 (.bin .add (.t 13) (.t 18)),
 p_m 5 19]))
 (.reg [p_m 11 6,p_s 12 (.bin .add (.t 11) (o_i 1)),p_m 6 12]))))))
 (.seq (.reg [p_m 20 0,p_m 21 5,p_c 22 2 88 [.t 20,.t 21],p_m 4 22])
 .ret))))
theorem acl:Fun P0 58 2 [(4,false,none)] wh:=b5 Go.Proofs.Tryz.func58 rfl (by decide) (by kernel_rfl) (by decide) rfl (by kernel_rfl) (by kernel_rfl) (by decide)
noncomputable def ze:PC:=
  (.seq (.reg [p_s 4 (.mov (.c (.r (.v (.bool false)))))])
 (.seq (.seq (.reg [p_m 6 0,p_s 7 (.len false (.t 6)),p_m 8 1,p_s 9 (.len false (.t 8)),p_s 10 (.bin .neq (.t 7) (.t 9))])
 (.cond (.t 10)
 (.seq (.reg [p_s 4 (.mov (.c (.r (.v (.bool false)))))])
 .ret)
 .skip))
 (.seq (.seq (.reg [p_s 5 (.mov (o_i 0))])
 (.block 0 (.loop (.seq (.seq (.reg [p_m 11 5,p_m 12 0,p_s 13 (.len false (.t 12)),p_s 14 (.bin .lss (.t 11) (.t 13))])
 (.cond (.t 14)
 .skip
 (.exit 0)))
 (.seq (.block 1 (.seq (.drw [p_m 17 0,p_m 18 5,p_s 19 (.ia 1 (.v (.int .u64 0)) (.t 17) (.t 18)),p_s 20 (.ld none (.t 19)),p_m 21 1,p_m 22 5,p_s 23 (.ia 1 (.v (.int .u64 0)) (.t 21) (.t 22)),
 p_s 24 (.ld none (.t 23)),p_s 25 (.bin .neq (.t 20) (.t 24))]
 [[],[],[0,1],[0,1,2],[],[],[4,5],[4,5,6],[0,1,2,3,4,5,6,7]])
 (.cond (.t 25)
 (.seq (.reg [p_s 4 (.mov (.c (.r (.v (.bool false)))))])
 .ret)
 .skip)))
 (.reg [p_m 15 5,p_s 16 (.bin .add (.t 15) (o_i 1)),p_m 5 16]))))))
 (.seq (.reg [p_s 4 (.mov (.c (.r (.v (.bool true)))))])
 .ret))))
theorem ad0:Fun P0 13 2 [(4,false,none)] ze:=b5 Go.Proofs.Tryz.func13 rfl (by decide) (by kernel_rfl) (by decide) rfl (by kernel_rfl) (by kernel_rfl) (by decide)
theorem a91:∀x:Fin 256,(zaf 8 (x.val:Int) ||| zaf 8 128).toNat=x.val%128+128:=by decide +kernel
theorem aj2 (U:Int) (h0:0≤U) (h1:U<18446744073709551616) :
  RV.v (.int .u8 (IntKind.u8.wrap ((zaf IntKind.u8.bits (IntKind.u8.wrap U) ||| zaf IntKind.u8.bits 128).toNat)))=by8 (zal (U.toNat%128+128)):=by
 have e:IntKind.u8.wrap U=((U.toNat%256:Nat):Int):=by rw [IntKind.wrap_u8]; omega
 have:=a91 ⟨U.toNat%256,Nat.mod_lt _ (by decide)⟩;simp only at this;rw [e,show IntKind.u8.bits=8 from rfl,this,IntKind.wrap_u8];simp only [by8];congr 2;rw [UInt8.toNat_ofNat'];omega
theorem aw4 (r:List UInt8) (c:UInt8):zai (r.length+1) (bys r++[by8 c])=bys (r++[c]):=by
 rw [zaj (by simp)]; simp
theorem ahd (n:Int) (n0:0≤n) (hn:n<18446744073709551616):a7 P0 105 [int .u64 n] [] (abj (lu (o4 n.toNat))) []:=by
  refine ady rfl (by decide) ?_;simp only [zc,push_cast,↓reduceIte,reduceCtorEq,zB,zE,zA,zS,zL,zD,zM];have hmax:=d5
  refine run_loop [(0,false),(3,false)] (fun vs pos los=>∃(U:Int) (f:Nat) (r:List UInt8),0≤U∧U<18446744073709551616∧1≤f∧f≤10∧U.toNat<128^f∧r++zf f U.toNat=o4 n.toNat∧pos=[] ∧
    ((r=[]∧vs=[int .u64 U,.nils 1 (.v (.int .u8 0))]∧los=[])∨(vs=[int .u64 U,.own 2000000 0 0 r.length]∧los=[jp r])))
    (fun vs _ _=>match vs with | .r (.v (.int _ j))::_=>j.toNat | _=>0) rfl ?_ ?_
  · simp only [push_cast,↓reduceIte,reduceCtorEq,zB,zE,zA,zS,zL,zD,zM];exact ⟨n,10,[],n0,hn,by decide,by decide,by omega,rfl,.inl ⟨rfl,rfl⟩⟩
  · rintro vs pos los ⟨U,f,r,U0,U1,f1,f10,Uf,hr,rfl,hc⟩
    have hrl:r.length≤10:=by
      have h1:=congrArg zaz hr;have h2:=p9 n.toNat;rw [zah] at h1;omega
    have hs:U.fdiv (2^min (zas 7) IntKind.u64.bits)=U/128:=air U 7 (by decide);have hU:(U/128).toNat=U.toNat/128:=by omega
    rcases hc with ⟨rfl,rfl,rfl⟩ | ⟨rfl,rfl⟩
    · simp only [push_cast,↓reduceIte,reduceCtorEq,zB,zE,zA,zS,zL,zD,zM];refine b6 (fun h=>?_) (fun h=>?_)
      · have h1:127<U:=by simpa using h
        obtain ⟨f',rfl,hf',hUf,hv⟩:=abh (f:=f) (n:=U.toNat) (by omega) Uf;simp only [hs,push_cast,↓reduceIte,reduceCtorEq,zB,zE,zA,zS,zL,zD,zM];rw [aj2 U U0 U1];refine ⟨by simp,by omega,by omega,⟨U/128,f',[zal (U.toNat%128+128)],by omega,by omega,hf',by omega,by rw [hU]; exact hUf,?_,.inr ⟨rfl,rfl⟩⟩,by omega⟩;rw [← hr,hv,hU]; rfl
      · have h1 : U ≤ 127 := by have : ¬ (U > 127) := by simpa using h
                                omega
        have hv:=tm (f:=f) (n:=U.toNat) (by omega) f1;rw [hv] at hr;simp only [push_cast,↓reduceIte,reduceCtorEq,zB,zE,zA,zS,zL,zD,zM];rw [yq U U0 h1,an6,an7,← hr];refine ⟨by simp,by omega,rfl,rfl⟩
    · simp only [push_cast,↓reduceIte,reduceCtorEq,zB,zE,zA,zS,zL,zD,zM];refine b6 (fun h=>?_) (fun h=>?_)
      · have h1:127<U:=by simpa using h
        obtain ⟨f',rfl,hf',hUf,hv⟩:=abh (f:=f) (n:=U.toNat) (by omega) Uf;simp only [hs,push_cast,↓reduceIte,reduceCtorEq,zB,zE,zA,zS,zL,zD,zM];rw [aj2 U U0 U1];refine ⟨by simp,by omega,by omega,⟨U/128,f',r++[zal (U.toNat%128+128)],by omega,by omega,hf',by omega,by rw [hU]; exact hUf,?_,.inr ⟨by simp,by simp⟩⟩,by omega⟩;rw [← hr,hv,hU,zax]; rfl
      · have h1 : U ≤ 127 := by have : ¬ (U > 127) := by simpa using h
                                omega
        have hv:=tm (f:=f) (n:=U.toNat) (by omega) f1;rw [hv] at hr;simp only [push_cast,↓reduceIte,reduceCtorEq,zB,zE,zA,zS,zL,zD,zM];rw [yq U U0 h1,aw4,aa4,adu,← hr];refine ⟨by simp,by omega,rfl,rfl⟩

open Go Go.RowKit
theorem ami (n:Int) (hn:in64 n):a7 P0 34 [int .i64 n] [] (int .u64 (zig n)) []:=by
 refine adw rfl (by decide) ?_;simp only [za,push_cast,↓reduceIte,reduceCtorEq,zB,zE,zA,zS,zL,zD,zM];have e1:n.fdiv (2^min (zas 63) IntKind.i64.bits)=n/9223372036854775808:=a2p n 63 (by decide)
 have e2:IntKind.u64.wrap (IntKind.u64.wrap n*2^min (zas 1) IntKind.u64.bits)=IntKind.u64.wrap (IntKind.i64.wrap (n*2)):=by
  rw [show (2:Int)^min (zas 1) IntKind.u64.bits=2 from rfl,IntKind.wrap_u64,IntKind.wrap_u64,IntKind.wrap_u64,IntKind.wrap_i64];omega
 refine ⟨by decide,by decide,?_⟩;rw [e1,e2,a6j n hn]
theorem aml (f:Int):a7 P0 104 [int .i64 f] [] (bl (okB f)) []:=by
 refine aaa rfl (by decide) ?_;simp only [qp,push_cast,↓reduceIte,reduceCtorEq,zB,zE,zA,zS,zL,zD,zM]
 repeat refine And.intro (by simp +contextual) ?_
 refine jd ?_;simp [okB]
theorem axo (f n:Int) (hf:in64 f) (n0:0≤n) (hn:n<18446744073709551616):a7 P0 57 [int .i64 f,int .u64 n] [] (abj (lu (v5 f n))) []:=by
 refine adz rfl (by decide) ?_;simp only [zd,push_cast,↓reduceIte,reduceCtorEq,zB,zE,zA,zS,zL,zD,zM];refine a5 (aml f) rfl trivial ?_;cases hk:okB f with
 | false=>
  simp only [v5,hk,push_cast,↓reduceIte,reduceCtorEq,zB,zE,zA,zS,zL,zD,zM]
  rfl
 | true=>
  have h1:1≤f∧f≤1000:=by simpa [okB] using hk
  have e1:IntKind.u64.wrap (IntKind.i64.wrap (8*f))=f*8:=by rw [a6 (x:=8*f) (by omega),IntKind.wrap_u64]; omega
  have l1:=p9 (f*8).toNat;have l2:=p9 n.toNat;simp only [v5,hk,e1,push_cast,↓reduceIte,reduceCtorEq,zB,zE,zA,zS,zL,zD,zM];refine a5 (ahd (f*8) (by omega) (by omega)) rfl trivial ?_;simp only [push_cast,↓reduceIte,reduceCtorEq,zB,zE,zA,zS,zL,zD,zM];refine a5 (ahd n n0 hn) rfl trivial ?_;simp only [je,rz,push_cast,↓reduceIte,reduceCtorEq,zB,zE,zA,zS,zL,zD,zM];omega
theorem a0s (f:Int) (x:List UInt8) (hf:in64 f) (hx:x.length≤1000000000000):a7 P0 88 [int .i64 f,abj (lu x)] [] (abj (lu (m7 f x))) []:=by
 refine ab9 rfl (by decide) ?_;simp only [vn,push_cast,↓reduceIte,reduceCtorEq,zB,zE,zA,zS,zL,zD,zM];refine a5 (aml f) rfl trivial ?_;cases hk:okB f with
 | false=>
  simp only [m7,hk,push_cast,↓reduceIte,reduceCtorEq,zB,zE,zA,zS,zL,zD,zM]
  rfl
 | true=>
  have h1:1≤f∧f≤1000:=by simpa [okB] using hk
  have e1:IntKind.u64.wrap (IntKind.i64.wrap (IntKind.i64.wrap (8*f)+2))=f*8+2:=by rw [a6 (x:=8*f) (by omega),a6 (x:=8*f+2) (by omega),IntKind.wrap_u64]; omega
  obtain ⟨X,hX,X0,X1⟩:∃X:Int,X=x.length∧0≤X∧X≤1000000000000:=⟨_,rfl,by omega,by omega⟩
  have e4:IntKind.u64.wrap X=X:=by rw [IntKind.wrap_u64]; omega
  have eX:o4 x.length=o4 X.toNat:=by rw [hX]; rfl
  have l1:=p9 (f*8+2).toNat;have l2:=p9 X.toNat;simp only [m7,hk,e1,eX,← hX,push_cast,↓reduceIte,reduceCtorEq,zB,zE,zA,zS,zL,zD,zM];refine a5 (ahd (f*8+2) (by omega) (by omega)) rfl trivial ?_;simp only [je,← hX,e4,push_cast,↓reduceIte,reduceCtorEq,zB,zE,zA,zS,zL,zD,zM];refine a5 (ahd X (by omega) (by omega)) rfl trivial ?_;simp only [je,rz,zax,push_cast,↓reduceIte,reduceCtorEq,zB,zE,zA,zS,zL,zD,zM];exact ⟨by omega,by omega⟩
theorem rpack_t (f : Int) (ns : List Int) (hf : in64 f) (hn : ∀ n ∈ ns, 0 ≤ n ∧ n < 18446744073709551616) (hns : ns.length ≤ 1000000000) :
    a7 P0 58 [int .i64 f,.r (.sl 1 (ns.map fun n=>.v (.int .u64 n)))] [] (abj (lu (m7 f (ns.flatMap fun n=>o4 n.toNat)))) []:=by
  refine acl rfl (by decide) ?_;obtain ⟨N,hN,N0,N1⟩:∃N:Int,N=ns.length∧0≤N∧N≤1000000000:=⟨_,rfl,by omega,by omega⟩
  simp only [wh,← hN,push_cast,↓reduceIte,reduceCtorEq,zB,zE,zA,zS,zL,zD,zM]
  have hlen:∀i:Nat,((ns.take i).flatMap fun n=>o4 n.toNat).length≤10*i:=fun i=>by
    induction i with
    | zero=>simp
    | succ i ih=>
      rw [zba,zbb,zah]
      have:((ns[i]?.toList).flatMap fun n=>o4 n.toNat).length≤10:=by
        cases ns[i]? with
        | none=>simp
        | some n=>simpa using p9 n.toNat
      omega
  refine run_loop [(0,false),(1,false),(5,false),(6,false)] (fun vs pos los=>∃(i:Int) (r:List UInt8),0≤i∧i≤N∧r=(ns.take i.toNat).flatMap (fun n=>o4 n.toNat) ∧
    vs=[int .i64 f,.r (.sl 1 (ns.map fun n=>.v (.int .u64 n))),abj (lu r),int .i64 i]∧pos=[]∧los=[])
    (fun vs _ _=>match vs with | [_,_,_,.r (.v (.int _ j))]=>(N-j).toNat | _=>0) rfl ?_ ?_
  · simp only [push_cast,↓reduceIte,reduceCtorEq,zB,zE,zA,zS,zL,zD,zM];exact ⟨0,[],by omega,by omega,rfl,rfl⟩
  · rintro vs pos los ⟨i,r,i0,iN,hr,rfl,rfl,rfl⟩;have hrl:=hlen i.toNat;rw [← hr] at hrl;simp only [← hN,push_cast,↓reduceIte,reduceCtorEq,zB,zE,zA,zS,zL,zD,zM];refine b6 (fun h=>?_) (fun h=>?_)
    · have hi:i<N:=by simpa using h
      have hin:i.toNat<ns.length:=by omega
      have hb:=hn _ (List.getElem_mem hin);have hg:(zan (fun n=>RV.v (.int .u64 n)) ns).getD i.toNat (.v (.int .u64 0))=.v (.int .u64 ns[i.toNat]):=by simp [List.getD,hin]
      have w4:IntKind.i64.wrap (i+1)=i+1:=a6 (by omega);have hv:=p9 (ns[i.toNat]).toNat;simp only [hg,← hN,push_cast,↓reduceIte,reduceCtorEq,zB,zE,zA,zS,zL,zD,zM];refine ⟨⟨i0,hi⟩,?_⟩;refine a5 (ahd _ hb.1 hb.2) rfl trivial ?_;simp only [w4,je,rz,push_cast,↓reduceIte,reduceCtorEq,zB,zE,zA,zS,zL,zD,zM];refine ⟨by omega,⟨i+1,r++o4 (ns[i.toNat]).toNat,by omega,by omega,?_,rfl⟩,by omega⟩;rw [show (i+1).toNat=i.toNat+1 by omega,zbo hin,zbb,← hr];simp
    · have hi : i = N := by have : ¬ i < N := by simpa using h
                            omega
      rw [hi,show N.toNat=ns.length by omega,zao] at hr;simp only [push_cast,↓reduceIte,reduceCtorEq,zB,zE,zA,zS,zL,zD,zM];refine a5 (a0s f r hf (by omega)) rfl trivial ?_;simp only [← hr,push_cast,↓reduceIte,reduceCtorEq,zB,zE,zA,zS,zL,zD,zM]

open Go Go.RowKit
theorem ayx (ns:List Nat) (i:Nat) (z:RV) (hi:i<ns.length):(s6 ns).getD i z=.v (.int .u64 (ns[i]:Nat)):=by
 simp [s6,List.getD,hi]
theorem a4p (ns:List Nat) (hl:ns.length≤1000000000000):a7 P0 13 [.r (.sl 1 (s6 ns)),.r (.sl 1 (s6 ns))] [] (bl true) []:=by
 refine ad0 rfl (by decide) ?_;obtain ⟨L,hL,L0⟩:∃L:Int,L=ns.length∧0≤L:=⟨_,rfl,by omega⟩
 simp only [ze,afc,← hL,bne_self_eq_false,push_cast,↓reduceIte,reduceCtorEq,zB,zE,zA,zS,zL,zD,zM]
 refine run_loop [(0,false),(1,false),(5,false)] (fun vs pos los=>∃A:Int,0≤A∧A≤L∧vs=[.r (.sl 1 (s6 ns)),.r (.sl 1 (s6 ns)),int .i64 A]∧pos=[]∧los=[])
  (fun vs _ _=>match vs with | [_,_,.r (.v (.int _ j))]=>(L-j).toNat | _=>0) rfl ?_ ?_
 ·simp only [push_cast,↓reduceIte,reduceCtorEq,zB,zE,zA,zS,zL,zD,zM];exact ⟨0,by omega,by omega,rfl⟩
 ·rintro vs pos los ⟨A,A0,A1,rfl,rfl,rfl⟩;simp only [afc,← hL,push_cast,↓reduceIte,reduceCtorEq,zB,zE,zA,zS,zL,zD,zM];refine b6 (fun h=>?_) (fun h=>?_)
  ·have h:A<L:=by simpa using h
   have hin:A.toNat<ns.length:=by omega
   have wk:IntKind.i64.wrap (A+1)=A+1:=a6 (by omega);simp only [ayx ns A.toNat _ hin,afc,← hL,wk,bne_self_eq_false,push_cast,↓reduceIte,reduceCtorEq,zB,zE,zA,zS,zL,zD,zM];exact ⟨⟨A0,h⟩,⟨A0,h⟩,(by kernel_rfl),⟨A+1,by omega,by omega,rfl⟩,by omega⟩
  ·simp only [push_cast,↓reduceIte,reduceCtorEq,zB,zE,zA,zS,zL,zD,zM]

open Go Go.RowKit

open Go Go.RowKit
theorem gt (G n:Int):(v5 G n).length≤20:=by
 unfold v5; split
 ·have:=p9 (G*8).toNat; have:=p9 n.toNat; rw [zah]; omega
 ·simp
theorem pb (G:Int) (y:List UInt8):(m7 G y).length≤20+y.length:=by
 unfold m7; split
 ·have:=p9 (G*8+2).toNat; have:=p9 y.length; rw [zah,zah]; omega
 ·simp
theorem ay1 (ns:List Int):(ns.flatMap fun n=>o4 n.toNat).length≤10*ns.length:=by
 induction ns with
 | nil=>simp
 | cons m ns ih=>
  have:=p9 m.toNat;rw [List.flatMap_cons,zah,zaw]; omega
theorem api:∀(f:Nat) (l:List UInt8) (m:List Nat),l.length≤f→jg f l=some m→m.length≤l.length
 | f,[],m,_,h=>by
  rw [acn] at h;cases h; simp
 | 0,_::_,m,hf,h=>by simp at hf
 | f+1,c::l,m,hf,h=>by
  have hb:=ep (c::l);by_cases h0:(take (c::l)).2=0
  ·rw [akl (by simp) h0] at h; cases h
  ·obtain ⟨f',hf',hv⟩:=akk (f:=f+1) (n:=(take (c::l)).1) (k:=(take (c::l)).2) (l:=c::l) (by simp) hf rfl h0;rw [hv] at h;obtain ⟨m',hm',rfl⟩:=Option.map_eq_some_iff.1 h;have hd:((c::l).drop (take (c::l)).2).length=(c::l).length-(take (c::l)).2:=zay;have e:f'=f:=by omega
   subst e;have:=api f' ((c::l).drop (take (c::l)).2) m' (by omega) hm';simp only [zaw] at *;omega
theorem aw1 {l:List UInt8} {m:List Nat} (h:tl l=some m):m.length≤l.length:=api _ l m (zak _) h
theorem apr:∀(f:Nat) (l:List UInt8) (m:List Fld),l.length≤f→jq f l=some m→m.length≤l.length
 | f,[],m,_,h=>by
  rw [acu] at h;cases h; simp
 | 0,_::_,m,hf,h=>by simp at hf
 | f+1,c::l,m,hf,h=>by
  cases ho:ei (c::l) with
  | none=>rw [ak1 (by simp) ho] at h; cases h
  | some p=>
   obtain ⟨x,k⟩:=p;have hb:=afb ho;obtain ⟨f',hf',hv⟩:=ak0 (f:=f+1) (by simp) hf ho;rw [hv] at h;obtain ⟨m',hm',rfl⟩:=Option.map_eq_some_iff.1 h;have hd:((c::l).drop k).length=(c::l).length-k:=zay;have e:f'=f:=by omega
   subst e;have:=apr f' ((c::l).drop k) m' (by omega) hm';simp only [zaw] at *;omega
theorem yp {l:List UInt8} {m:List Fld} (h:fg l=some m):m.length≤l.length:=apr _ l m (zak _) h

noncomputable def zg:PC:=
  (.seq (.reg [p_s 2 (.mov (.c (.nils 1 (.v (.int .u64 0)))))])
 (.seq (.seq (.reg [p_m 6 0,p_s 7 (.len false (.t 6)),p_s 8 (.bin .lss (.t 7) (o_i 3))])
 (.cond (.t 8)
 (.seq (.reg [p_s 2 (.mov (.c (.nils 1 (.v (.int .u64 0)))))])
 .ret)
 .skip))
 (.seq (.drw [p_m 9 0,p_s 10 (.ia 2 (.agg [(.v (.int .i64 0)),(.v (.int .i64 0))]) (.t 9) (o_i 0)),p_s 11 (.iaa 2 1 (.t 10) (o_i 0)),p_s 12 (.ld none (.t 11)),p_c 13 1 31 [.t 12],
 p_m 14 0,p_s 15 (.ia 2 (.agg [(.v (.int .i64 0)),(.v (.int .i64 0))]) (.t 14) (o_i 0)),p_s 16 (.iaa 2 1 (.t 15) (o_i 1)),p_s 17 (.ld none (.t 16)),p_c 18 2 31 [.t 17],
 p_m 19 0,p_s 20 (.len false (.t 19)),p_s 21 (.bin .sub (.t 20) (o_i 1)),p_s 22 (.bin .mul (o_i 8) (.t 21)),p_s 23 (.bin .add (.t 22) (o_i 2)),p_s 24 (.conv .u64 (.t 23)),
 p_a 25 (.bsl 1 (.v (.int .u64 0)) [(.c (.r (.v (.int .u64 9)))),(.t 13),(.t 18),(.t 24)]),p_m 3 25]
 [[],[0],[0,1],[0,1,2],[0,1,2,3],[],[5],[5,6],[5,6,7],[0,1,2,3,4,5,6,7,8],[],[10],[10,11],[10,11,12],[10,11,12,13],[10,11,12,13,14],[0,1,2,3,4,5,6,7,8,9,10,11,12,13,14,15],[0,1,2,3,4,5,6,7,8,9,10,11,12,13,14,15,16]])
 (.seq (.seq (.reg [p_m 26 0,p_s 27 (.sll 2 (.t 26) (some (o_i 1)) none none),p_s 28 (.len false (.t 27)),p_s 29 (.mov (o_i 0))])
 (.block 0 (.loop (.seq (.reg [p_s 30 (.bin .lss (.t 29) (.t 28))])
 (.seq (.cond (.t 30)
 .skip
 (.exit 0))
 (.seq (.block 1 (.seq (.reg [p_m 31 29,p_s 32 (.ia 2 (.agg [(.v (.int .i64 0)),(.v (.int .i64 0))]) (.t 27) (.t 29)),p_s 33 (.ld (some 2) (.t 32)),p_a 5 (.new [(.r (.v (.int .i64 0))),(.r (.v (.int .i64 0)))]),
 p_m 4 31,⟨none,none,0,.act (.st 2 (.t 5) (.t 33))⟩])
 (.drw [p_m 34 3,p_s 35 (.iaa 2 1 (.t 5) (o_i 0)),p_s 36 (.ld none (.t 35)),p_m 37 0,p_m 38 4,p_s 39 (.ia 2 (.agg [(.v (.int .i64 0)),(.v (.int .i64 0))]) (.t 37) (.t 38)),
 p_s 40 (.iaa 2 1 (.t 39) (o_i 0)),p_s 41 (.ld none (.t 40)),p_s 42 (.bin .sub (.t 36) (.t 41)),p_c 43 3 31 [.t 42],p_s 44 (.iaa 2 1 (.t 5) (o_i 1)),p_s 45 (.ld none (.t 44)),
 p_m 46 0,p_m 47 4,p_s 48 (.ia 2 (.agg [(.v (.int .i64 0)),(.v (.int .i64 0))]) (.t 46) (.t 47)),p_s 49 (.iaa 2 1 (.t 48) (o_i 1)),p_s 50 (.ld none (.t 49)),
 p_s 51 (.bin .sub (.t 45) (.t 50)),p_c 52 4 31 [.t 51],p_a 53 (.bsl 1 (.v (.int .u64 0)) [(.t 43),(.t 52)]),p_a 54 (.app 1 (.v (.int .u64 0)) 8 (.t 34) (.t 53)),
 p_m 3 54]
 [[],[],[1],[],[],[3,4],[3,4,5],[3,4,5,6],[1,2,3,4,5,6,7],[1,2,3,4,5,6,7,8],[],[10],[],[],[12,13],[12,13,14],[12,13,14,15],[10,11,12,13,14,15,16],[1,2,3,4,5,6,7,8,9,10,11,12,13,14,15,16,17],[1,2,3,4,5,6,7,8,9,10,11,12,13,14,15,16,17,18],[0,1,2,3,4,5,6,7,8,9,10,11,12,13,14,15,16,17,18,19],[0,1,2,3,4,5,6,7,8,9,10,11,12,13,14,15,16,17,18,19,20]])))
 (.reg [p_s 55 (.bin .add (.t 29) (o_i 1)),p_m 29 55])))))))
 (.seq (.reg [p_m 56 3,p_a 57 (.bsl 1 (.v (.int .u64 0)) [(.c (.r (.v (.int .u64 15))))]),p_a 58 (.app 1 (.v (.int .u64 0)) 8 (.t 56) (.t 57)),p_m 2 58])
 .ret)))))
theorem aaf:Fun P0 10 1 [(2,false,none)] zg:=b5 Go.Proofs.Tryz.func10 rfl (by decide) (by kernel_rfl) (by decide) rfl (by kernel_rfl) (by kernel_rfl) (by decide)
def aam (p q:P2):List Int:=[zig (IntKind.i64.wrap (q.1-p.1)),zig (IntKind.i64.wrap (q.2-p.2))]
def j6:P2→List P2→List Int
 | _,[]=>[]
 | p,q::r=>aam p q++j6 q r
def d9:List P2→List Int
 | []=>[]
 | p::r=>if r.length<2 then [] else [9,zig p.1,zig p.2,8*(r.length:Int)+2]++j6 p r++[15]
def i64P (l:List P2):Prop:=∀p∈l,in64 p.1∧in64 p.2
def b8 (l:List Int):List RV:=l.map fun n=>.v (.int .u64 n)
abbrev jo (l:List Int):Ob:=.row 1 (.v (.int .u64 0)) true true (b8 l)
theorem agp (n:Int) (h:in64 n):0≤zig n∧zig n<18446744073709551616:=by unfold zig in64 at *; split<;>omega
theorem adc:∀(r:List P2) (p q o:P2) (i:Nat),r[i]?=some q→(p::r)[i]?=some o→j6 p (r.take (i+1))=j6 p (r.take i)++aam o q
 | [],p,q,o,i,h,_=>by simp at h
 | a::r,p,q,o,0,h,g=>by
  simp at h g;subst h; subst g;simp [j6]
 | a::r,p,q,o,i+1,h,g=>by
  have ih:=adc r a q o i (by simpa using h) (by simpa using g);rw [List.take_succ_cons,List.take_succ_cons,j6,j6,ih,zax]
theorem ck:∀(r:List P2) (p:P2),(j6 p r).length=2*r.length
 | [],p=>rfl
 | a::r,p=>by
  rw [j6,zah,ck r a];simp [aam];omega
set_option maxHeartbeats 1000000 in
theorem ae4 (ring:List P2) (hl:ring.length≤100000) (h:i64P ring) (h3:3≤ring.length):a7 P0 10 [a8 ring] [] (.own 1000000 0 0 (d9 ring).length) [jo (d9 ring)]:=by
 refine aaf rfl (by decide) ?_;have hmx:=d5
 obtain ⟨p,r,rfl⟩:∃p r,ring=p::r:=by
  cases ring with
  | nil=>simp at h3
  | cons p r=>exact ⟨p,r,rfl⟩
 simp only [zaw] at h3 hl;have d0:decide (((r.length:Nat):Int)+1<3)=false:=decide_eq_false (by omega);have z1:=aly p.1 (h p (by simp)).1;have z2:=aly p.2 (h p (by simp)).2;simp only [zg,a8,ptR,pnt,d0,zac,zaa,zam,zab,zae,zaa,push_cast,↓reduceIte,reduceCtorEq,zB,zE,zA,zS,zL,zD,zM];refine And.intro ⟨by omega,by omega⟩ (And.intro ⟨by omega,by omega⟩ ?_);refine c8 z1 rfl trivial ?_
 have wl:IntKind.u64.wrap (IntKind.i64.wrap (IntKind.i64.wrap (8*IntKind.i64.wrap ((r.length:Int)+1-1))+2))=8*(r.length:Int)+2:=by
  rw [a6 (x:=(r.length:Int)+1-1) (by omega),a6 (x:=8*((r.length:Int)+1-1)) (by omega),a6 (x:=8*((r.length:Int)+1-1)+2) (by omega),IntKind.wrap_u64];omega
 simp only [a8,ptR,pnt,zac,zad,zaa,zam,zat,zab,zae,zaa,push_cast,↓reduceIte,reduceCtorEq,zB,zE,zA,zS,zL,zD,zM];refine And.intro ⟨by omega,by omega⟩ (And.intro ⟨by omega,by omega⟩ ?_);refine c8 z2 rfl trivial ?_;simp only [a8,ptR,pnt,wl,zac,zad,zaa,zam,zat,zab,zae,zaa,push_cast,↓reduceIte,reduceCtorEq,zB,zE,zA,zS,zL,zD,zM];refine And.intro (by simp) (And.intro (by kernel_rfl) ?_);refine And.intro ⟨by omega,by omega,by omega⟩ ?_;obtain ⟨H,hH⟩:∃H:List Int,H=[9,zig p.1,zig p.2,8*(r.length:Int)+2]:=⟨_,rfl⟩
 refine run_loop [(29,false),(28,false),(27,false),(0,false),(3,false)] (fun vs pos los=>∃i:Nat,i≤r.length∧vs=[int .i64 i,int .i64 r.length,a8 r,a8 (p::r),.own 2000000 0 0 (H++j6 p (r.take i)).length]∧pos=[]∧los=[jo (H++j6 p (r.take i))])
  (fun vs _ _=>match vs with | .r (.v (.int _ a))::_=>(r.length-a).toNat | _=>0) rfl ?_ ?_
 ·simp only [a8,ptR,pnt,push_cast,↓reduceIte,reduceCtorEq,zB,zE,zA,zS,zL,zD,zM];refine ⟨0,by omega,?_,?_⟩
  ·rw [hH]; rfl
  ·rw [hH]; rfl
 ·rintro vs pos los ⟨i,hi,rfl,rfl,rfl⟩;simp only [a8,push_cast,↓reduceIte,reduceCtorEq,zB,zE,zA,zS,zL,zD,zM];refine b6 (fun hd=>?_) (fun hd=>?_)
  ·have hi2:i<r.length:=by simpa using hd
   obtain ⟨q,hq⟩:∃q,r[i]?=some q:=⟨r[i],by simp [hi2]⟩
   obtain ⟨o,ho⟩:∃o,(p::r)[i]?=some o:=⟨(p::r)[i]'(by simp; omega),by simp [show i<r.length+1 by omega]⟩
   have wi:IntKind.i64.wrap ((i:Int)+1)=(i:Int)+1:=a6 (by omega)
   have g1:∀z,(r.map ptR).getD i z=.agg [.v (.int .i64 q.1),.v (.int .i64 q.2)]:=fun z=>by
    rw [zaq,zau,hq]; rfl
   have g2:∀z,(ptR p::r.map ptR).getD i z=.agg [.v (.int .i64 o.1),.v (.int .i64 o.2)]:=fun z=>by
    rw [← List.map_cons];rw [zaq,zau,ho]; rfl
   have y1:=aly (IntKind.i64.wrap (q.1-o.1)) (se _);have y2:=aly (IntKind.i64.wrap (q.2-o.2)) (se _);simp only [a8,g1,g2,wi,zac,zad,zaa,zam,zat,zab,zae,zaa,push_cast,↓reduceIte,reduceCtorEq,zB,zE,zA,zS,zL,zD,zM]
   repeat refine And.intro ⟨by omega,by omega⟩ ?_
   refine c8 y1 rfl trivial ?_;simp only [a8,g1,g2,wi,zac,zad,zaa,zam,zat,zab,zae,zaa,push_cast,↓reduceIte,reduceCtorEq,zB,zE,zA,zS,zL,zD,zM]
   repeat refine And.intro ⟨by omega,by omega⟩ ?_
   refine c8 y2 rfl trivial ?_;simp only [a8,g1,g2,wi,zac,zad,zaa,zam,zat,zab,zae,zaa,push_cast,↓reduceIte,reduceCtorEq,zB,zE,zA,zS,zL,zD,zM];have hsl:=ck (r.take i) p;have hHl:H.length=4:=by rw [hH]; rfl
   rw [List.length_take,Nat.min_eq_left hi] at hsl;have hsu:=adc r p q o i hq ho;have htk:zai (H.length+(j6 p (r.take i)).length) (b8 (H++j6 p (r.take i)))=b8 (H++j6 p (r.take i)):=zaj (by simp [b8]);rw [htk];refine And.intro (by simp) (And.intro ⟨by omega,by omega⟩ (And.intro (by kernel_rfl) ?_));refine ⟨⟨i+1,by omega,?_,?_⟩,by omega⟩
   ·rw [hsu]; simp [aam]; omega
   ·rw [hsu]; simp [b8,aam]
  ·have hi2:i=r.length:=by
    have:¬i<r.length:=by simpa using hd
    omega
   simp only [a8,push_cast,↓reduceIte,reduceCtorEq,zB,zE,zA,zS,zL,zD,zM];subst hi2;have hsl:=ck r p;have hHl:H.length=4:=by rw [hH]; rfl
   have hC:d9 (p::r)=H++j6 p r++[15]:=by rw [d9,if_neg (by omega),hH]
   rw [zao];have htk:zai (H.length+(j6 p r).length) (b8 (H++j6 p r))=b8 (H++j6 p r):=zaj (by simp [b8]);rw [htk,hC];refine ⟨by simp,⟨by omega,by omega⟩,?_,?_⟩
   ·simp; omega
   ·simp [b8]
theorem agy (ring:List P2) (h3:ring.length<3):a7 P0 10 [a8 ring] [] (.nils 1 (.v (.int .u64 0))) []:=by
 refine aaf rfl (by decide) ?_;have d0:decide (((ring.length:Nat):Int)<3)=true:=decide_eq_true (by omega);simp only [zg,a8,d0,push_cast,↓reduceIte,reduceCtorEq,zB,zE,zA,zS,zL,zD,zM]

noncomputable def kn:PC:=
  (.seq (.reg [p_s 2 (.mov (.c (.nils 1 (.v (.int .u64 0)))))])
 (.seq (.seq (.reg [p_m 5 0,p_s 6 (.len false (.t 5)),p_s 7 (.bin .lss (.t 6) (o_i 3))])
 (.cond (.t 7)
 (.seq (.reg [p_s 2 (.mov (.c (.nils 1 (.v (.int .u64 0)))))])
 .ret)
 .skip))
 (.seq (.drw [p_m 8 0,p_s 9 (.ia 2 (.agg [(.v (.int .i64 0)),(.v (.int .i64 0))]) (.t 8) (o_i 0)),p_s 10 (.iaa 2 1 (.t 9) (o_i 0)),p_s 11 (.ld none (.t 10)),p_c 12 1 34 [.t 11],
 p_m 13 0,p_s 14 (.ia 2 (.agg [(.v (.int .i64 0)),(.v (.int .i64 0))]) (.t 13) (o_i 0)),p_s 15 (.iaa 2 1 (.t 14) (o_i 1)),p_s 16 (.ld none (.t 15)),p_c 17 2 34 [.t 16],
 p_m 18 0,p_s 19 (.len false (.t 18)),p_s 20 (.bin .sub (.t 19) (o_i 1)),p_s 21 (.bin .mul (o_i 8) (.t 20)),p_s 22 (.bin .add (.t 21) (o_i 2)),p_s 23 (.conv .u64 (.t 22)),
 p_a 24 (.bsl 1 (.v (.int .u64 0)) [(.c (.r (.v (.int .u64 9)))),(.t 12),(.t 17),(.t 23)]),p_m 3 24]
 [[],[0],[0,1],[0,1,2],[0,1,2,3],[],[5],[5,6],[5,6,7],[0,1,2,3,4,5,6,7,8],[],[10],[10,11],[10,11,12],[10,11,12,13],[10,11,12,13,14],[0,1,2,3,4,5,6,7,8,9,10,11,12,13,14,15],[0,1,2,3,4,5,6,7,8,9,10,11,12,13,14,15,16]])
 (.seq (.seq (.reg [p_s 4 (.mov (o_i 1))])
 (.block 0 (.loop (.seq (.seq (.reg [p_m 25 4,p_m 26 0,p_s 27 (.len false (.t 26)),p_s 28 (.bin .lss (.t 25) (.t 27))])
 (.cond (.t 28)
 .skip
 (.exit 0)))
 (.seq (.block 1 (.drw [p_m 31 3,p_m 32 0,p_m 33 4,p_s 34 (.ia 2 (.agg [(.v (.int .i64 0)),(.v (.int .i64 0))]) (.t 32) (.t 33)),p_s 35 (.iaa 2 1 (.t 34) (o_i 0)),p_s 36 (.ld none (.t 35)),
 p_m 37 0,p_m 38 4,p_s 39 (.bin .sub (.t 38) (o_i 1)),p_s 40 (.ia 2 (.agg [(.v (.int .i64 0)),(.v (.int .i64 0))]) (.t 37) (.t 39)),p_s 41 (.iaa 2 1 (.t 40) (o_i 0)),
 p_s 42 (.ld none (.t 41)),p_s 43 (.bin .sub (.t 36) (.t 42)),p_c 44 3 34 [.t 43],p_m 45 0,p_m 46 4,p_s 47 (.ia 2 (.agg [(.v (.int .i64 0)),(.v (.int .i64 0))]) (.t 45) (.t 46)),
 p_s 48 (.iaa 2 1 (.t 47) (o_i 1)),p_s 49 (.ld none (.t 48)),p_m 50 0,p_m 51 4,p_s 52 (.bin .sub (.t 51) (o_i 1)),p_s 53 (.ia 2 (.agg [(.v (.int .i64 0)),(.v (.int .i64 0))]) (.t 50) (.t 52)),
 p_s 54 (.iaa 2 1 (.t 53) (o_i 1)),p_s 55 (.ld none (.t 54)),p_s 56 (.bin .sub (.t 49) (.t 55)),p_c 57 4 34 [.t 56],p_a 58 (.bsl 1 (.v (.int .u64 0)) [(.t 44),(.t 57)]),
 p_a 59 (.app 1 (.v (.int .u64 0)) 8 (.t 31) (.t 58)),p_m 3 59]
 [[],[],[],[1,2],[1,2,3],[1,2,3,4],[],[],[7],[6,7,8],[6,7,8,9],[6,7,8,9,10],[1,2,3,4,5,6,7,8,9,10,11],[1,2,3,4,5,6,7,8,9,10,11,12],[],[],[14,15],[14,15,16],[14,15,16,17],[],[],[20],[19,20,21],[19,20,21,22],[19,20,21,22,23],[14,15,16,17,18,19,20,21,22,23,24],[1,2,3,4,5,6,7,8,9,10,11,12,13,14,15,16,17,18,19,20,21,22,23,24,25],[1,2,3,4,5,6,7,8,9,10,11,12,13,14,15,16,17,18,19,20,21,22,23,24,25,26],[0,1,2,3,4,5,6,7,8,9,10,11,12,13,14,15,16,17,18,19,20,21,22,23,24,25,26,27],[0,1,2,3,4,5,6,7,8,9,10,11,12,13,14,15,16,17,18,19,20,21,22,23,24,25,26,27,28]]))
 (.reg [p_m 29 4,p_s 30 (.bin .add (.t 29) (o_i 1)),p_m 4 30]))))))
 (.seq (.reg [p_m 60 3,p_a 61 (.bsl 1 (.v (.int .u64 0)) [(.c (.r (.v (.int .u64 15))))]),p_a 62 (.app 1 (.v (.int .u64 0)) 8 (.t 60) (.t 61)),p_m 2 62])
 .ret)))))
theorem my:Fun P0 14 1 [(2,false,none)] kn:=b5 Go.Proofs.Tryz.func14 rfl (by decide) (by kernel_rfl) (by decide) rfl (by kernel_rfl) (by kernel_rfl) (by decide)
noncomputable def ig:PC:=
  (.seq (.reg [p_s 4 (.mov (.c (.r (.v (.bool false)))))])
 (.seq (.seq (.reg [p_m 6 0,p_s 7 (.len false (.t 6)),p_m 8 1,p_s 9 (.len false (.t 8)),p_s 10 (.bin .neq (.t 7) (.t 9))])
 (.cond (.t 10)
 (.seq (.reg [p_s 4 (.mov (.c (.r (.v (.bool false)))))])
 .ret)
 .skip))
 (.seq (.seq (.reg [p_s 5 (.mov (o_i 0))])
 (.block 0 (.loop (.seq (.seq (.reg [p_m 11 5,p_m 12 0,p_s 13 (.len false (.t 12)),p_s 14 (.bin .lss (.t 11) (.t 13))])
 (.cond (.t 14)
 .skip
 (.exit 0)))
 (.seq (.block 1 (.seq (.drw [p_m 17 0,p_m 18 5,p_s 19 (.ia 2 (.agg [(.v (.int .i64 0)),(.v (.int .i64 0))]) (.t 17) (.t 18)),p_s 20 (.ld (some 2) (.t 19)),p_m 21 1,p_m 22 5,p_s 23 (.ia 2 (.agg [(.v (.int .i64 0)),(.v (.int .i64 0))]) (.t 21) (.t 22)),
 p_s 24 (.ld (some 2) (.t 23)),p_s 25 (.eqa true [0,0] (.t 20) (.t 24))]
 [[],[],[0,1],[0,1,2],[],[],[4,5],[4,5,6],[0,1,2,3,4,5,6,7]])
 (.cond (.t 25)
 (.seq (.reg [p_s 4 (.mov (.c (.r (.v (.bool false)))))])
 .ret)
 .skip)))
 (.reg [p_m 15 5,p_s 16 (.bin .add (.t 15) (o_i 1)),p_m 5 16]))))))
 (.seq (.reg [p_s 4 (.mov (.c (.r (.v (.bool true)))))])
 .ret))))
theorem zy:Fun P0 15 2 [(4,false,none)] ig:=b5 Go.Proofs.Tryz.func15 rfl (by decide) (by kernel_rfl) (by decide) rfl (by kernel_rfl) (by kernel_rfl) (by decide)
theorem apo (ring:List P2) (h3:ring.length<3):a7 P0 14 [a8 ring] [] (.nils 1 (.v (.int .u64 0))) []:=by
 refine my rfl (by decide) ?_;have d0:decide (((ring.length:Nat):Int)<3)=true:=decide_eq_true (by omega);simp only [kn,a8,d0,push_cast,↓reduceIte,reduceCtorEq,zB,zE,zA,zS,zL,zD,zM]
theorem ad8 (a b:List P2) (ha:a.length≤1000000) (hb:b.length≤1000000):a7 P0 15 [a8 a,a8 b] [] (bl (decide (a=b))) []:=by
 refine zy rfl (by decide) ?_;by_cases hL:a.length=b.length
 ·have n0:(((a.length:Nat):Int) != (b.length:Int))=false:=by rw [hL]; simp
  simp only [ig,a8,n0,push_cast,↓reduceIte,reduceCtorEq,zB,zE,zA,zS,zL,zD,zM]
  refine run_loop [(5,false),(0,false),(1,false)] (fun vs pos los=>∃i:Nat,i≤a.length∧a.take i=b.take i∧vs=[int .i64 i,a8 a,a8 b]∧pos=[]∧los=[])
   (fun vs _ _=>match vs with | .r (.v (.int _ n))::_=>(a.length-n).toNat | _=>0) rfl ?_ ?_
  ·simp only [a8,push_cast,↓reduceIte,reduceCtorEq,zB,zE,zA,zS,zL,zD,zM];exact ⟨0,by omega,rfl,rfl⟩
  ·rintro vs pos los ⟨i,hi,hab,rfl,rfl,rfl⟩;simp only [a8,push_cast,↓reduceIte,reduceCtorEq,zB,zE,zA,zS,zL,zD,zM];refine b6 (fun hd=>?_) (fun hd=>?_)
   ·have hi2:i<a.length:=by simpa using hd
    obtain ⟨q,hq⟩:∃q,a[i]?=some q:=⟨a[i],by simp [hi2]⟩
    obtain ⟨o,ho⟩:∃o,b[i]?=some o:=⟨b[i]'(by omega),by simp [hL▸hi2]⟩
    have wi:IntKind.i64.wrap ((i:Int)+1)=(i:Int)+1:=a6 (by omega)
    have g1:∀z,(a.map ptR).getD i z=.agg [.v (.int .i64 q.1),.v (.int .i64 q.2)]:=fun z=>by
     rw [zaq,zau,hq]; rfl
    have g2:∀z,(b.map ptR).getD i z=.agg [.v (.int .i64 o.1),.v (.int .i64 o.2)]:=fun z=>by
     rw [zaq,zau,ho]; rfl
    have he:=av7 q o;simp only [a8,g1,g2,wi,zac,zad,zaa,zab,zae,zaa,push_cast,↓reduceIte,reduceCtorEq,zB,zE,zA,zS,zL,zD,zM];refine And.intro ⟨by omega,by omega⟩ (And.intro ⟨by omega,by omega⟩ (And.intro (by kernel_rfl) ?_));by_cases hqo:q=o
    ·subst hqo;have he2:(q.1 == q.1&&q.2 == q.2)=true:=by simp
     simp only [he2,wi,a8,push_cast,↓reduceIte,reduceCtorEq,zB,zE,zA,zS,zL,zD,zM];refine ⟨⟨i+1,by omega,?_,by simp⟩,by omega⟩;rw [zba,zba,hab,hq,ho]
    ·have he2:(q.1 == o.1&&q.2 == o.2)=false:=he.trans (decide_eq_false hqo);have hne:decide (a=b)=false:=decide_eq_false (fun h=>hqo (by rw [h,ho] at hq; exact (Option.some.inj hq).symm));simp only [he2,hne,push_cast,↓reduceIte,reduceCtorEq,zB,zE,zA,zS,zL,zD,zM]
   ·have hi2:i=a.length:=by
     have:¬i<a.length:=by simpa using hd
     omega
    have hE:decide (a=b)=true:=decide_eq_true (by rw [hi2,zao,hL,zao] at hab; exact hab);simp only [hE,push_cast,↓reduceIte,reduceCtorEq,zB,zE,zA,zS,zL,zD,zM]
 ·have n0:(((a.length:Nat):Int) != (b.length:Int))=true:=by simp; omega
  have hE:decide (a=b)=false:=decide_eq_false (fun h=>hL (by rw [h]));simp only [ig,a8,n0,hE,push_cast,↓reduceIte,reduceCtorEq,zB,zE,zA,zS,zL,zD,zM]

noncomputable def zb:PC:=
  (.seq (.reg [p_s 2 (.mov (o_i 0))])
 (.seq (.reg [p_m 3 0,p_s 4 (.bin .shr (.t 3) (.c (.r (.v (.int .u64 1))))),p_s 5 (.conv .i64 (.t 4)),p_m 6 0,p_s 7 (.bin .and (.t 6) (.c (.r (.v (.int .u64 1))))),p_s 8 (.conv .i64 (.t 7)),
 p_s 9 (.un .neg (.t 8)),p_s 10 (.bin .xor (.t 5) (.t 9)),p_m 2 10])
 .ret))
theorem adx:Fun P0 35 1 [(2,false,none)] zb:=b5 Go.Proofs.Tryz.func35 rfl (by decide) (by kernel_rfl) (by decide) rfl (by kernel_rfl) (by kernel_rfl) (by decide)
theorem a7b (n:Int) (h0:0≤n) (h1:n<18446744073709551616):a7 P0 35 [int .u64 n] [] (int .i64 (zag n)) []:=by
 refine adx rfl (by decide) ?_;simp only [zb,push_cast,↓reduceIte,reduceCtorEq,zB,zE,zA,zS,zL,zD,zM];have e1:n.fdiv (2^min (zas 1) IntKind.u64.bits)=n/2:=air n 1 (by decide);have e2:=af1 n 1 1 (by decide) (by decide) h0 h1;rw [show (2:Int)^1=2 from rfl] at e2;refine ⟨by decide,?_⟩;rw [e1,e2,a6k n h0 h1]
set_option maxHeartbeats 1000000 in
theorem ari (ring:List P2) (hl:ring.length≤100000) (h:i64P ring) (h3:3≤ring.length):a7 P0 14 [a8 ring] [] (.own 1000000 0 0 (d9 ring).length) [jo (d9 ring)]:=by
 refine my rfl (by decide) ?_;have hmx:=d5
 obtain ⟨p,r,rfl⟩:∃p r,ring=p::r:=by
  cases ring with
  | nil=>simp at h3
  | cons p r=>exact ⟨p,r,rfl⟩
 simp only [zaw] at h3 hl;have d0:decide (((r.length:Nat):Int)+1<3)=false:=decide_eq_false (by omega);have z1:=ami p.1 (h p (by simp)).1;have z2:=ami p.2 (h p (by simp)).2;simp only [kn,a8,ptR,pnt,d0,zac,zaa,zam,zab,zae,zaa,push_cast,↓reduceIte,reduceCtorEq,zB,zE,zA,zS,zL,zD,zM];refine And.intro ⟨by omega,by omega⟩ (And.intro ⟨by omega,by omega⟩ ?_);refine c8 z1 rfl trivial ?_
 have wl:IntKind.u64.wrap (IntKind.i64.wrap (IntKind.i64.wrap (8*IntKind.i64.wrap ((r.length:Int)+1-1))+2))=8*(r.length:Int)+2:=by
  rw [a6 (x:=(r.length:Int)+1-1) (by omega),a6 (x:=8*((r.length:Int)+1-1)) (by omega),a6 (x:=8*((r.length:Int)+1-1)+2) (by omega),IntKind.wrap_u64];omega
 simp only [a8,ptR,pnt,zac,zad,zaa,zam,zat,zab,zae,zaa,push_cast,↓reduceIte,reduceCtorEq,zB,zE,zA,zS,zL,zD,zM];refine And.intro ⟨by omega,by omega⟩ (And.intro ⟨by omega,by omega⟩ ?_);refine c8 z2 rfl trivial ?_;simp only [a8,ptR,pnt,wl,zac,zad,zaa,zam,zat,zab,zae,zaa,push_cast,↓reduceIte,reduceCtorEq,zB,zE,zA,zS,zL,zD,zM];refine And.intro (by simp) (And.intro (by kernel_rfl) ?_);obtain ⟨H,hH⟩:∃H:List Int,H=[9,zig p.1,zig p.2,8*(r.length:Int)+2]:=⟨_,rfl⟩
 refine run_loop [(4,false),(0,false),(3,false)] (fun vs pos los=>∃i:Nat,i≤r.length∧vs=[int .i64 ((i:Int)+1),a8 (p::r),.own 2000000 0 0 (H++j6 p (r.take i)).length]∧pos=[]∧los=[jo (H++j6 p (r.take i))])
  (fun vs _ _=>match vs with | .r (.v (.int _ a))::_=>(r.length+1-a).toNat | _=>0) rfl ?_ ?_
 ·simp only [a8,ptR,pnt,push_cast,↓reduceIte,reduceCtorEq,zB,zE,zA,zS,zL,zD,zM];refine ⟨0,by omega,?_,?_⟩
  ·rw [hH]; rfl
  ·rw [hH]; rfl
 ·rintro vs pos los ⟨i,hi,rfl,rfl,rfl⟩;simp only [a8,push_cast,↓reduceIte,reduceCtorEq,zB,zE,zA,zS,zL,zD,zM];refine b6 (fun hd=>?_) (fun hd=>?_)
  ·have hi2:i<r.length:=by have:=of_decide_eq_true hd; omega
   obtain ⟨q,hq⟩:∃q,r[i]?=some q:=⟨r[i],by simp [hi2]⟩
   obtain ⟨o,ho⟩:∃o,(p::r)[i]?=some o:=⟨(p::r)[i]'(by simp; omega),by simp [show i<r.length+1 by omega]⟩
   have wi:IntKind.i64.wrap ((i:Int)+1+1)=(i:Int)+1+1:=a6 (by omega);have wj:IntKind.i64.wrap ((i:Int)+1-1)=(i:Int):=by rw [a6 (by omega)]; omega
   have g1:∀z,(ptR p::r.map ptR).getD (i+1) z=.agg [.v (.int .i64 q.1),.v (.int .i64 q.2)]:=fun z=>by
    rw [List.getD_cons_succ,zaq,zau,hq]; rfl
   have g2:∀z,(ptR p::r.map ptR).getD i z=.agg [.v (.int .i64 o.1),.v (.int .i64 o.2)]:=fun z=>by
    rw [← List.map_cons];rw [zaq,zau,ho]; rfl
   have y1:=ami (IntKind.i64.wrap (q.1-o.1)) (se _);have y2:=ami (IntKind.i64.wrap (q.2-o.2)) (se _);simp only [a8,g1,g2,wi,wj,zac,zad,zaa,zam,zat,zab,zae,zaa,push_cast,↓reduceIte,reduceCtorEq,zB,zE,zA,zS,zL,zD,zM]
   repeat refine And.intro ⟨by omega,by omega⟩ ?_
   refine c8 y1 rfl trivial ?_;simp only [a8,g1,g2,wi,wj,zac,zad,zaa,zam,zat,zab,zae,zaa,push_cast,↓reduceIte,reduceCtorEq,zB,zE,zA,zS,zL,zD,zM]
   repeat refine And.intro ⟨by omega,by omega⟩ ?_
   refine c8 y2 rfl trivial ?_;simp only [a8,g1,g2,wi,wj,zac,zad,zaa,zam,zat,zab,zae,zaa,push_cast,↓reduceIte,reduceCtorEq,zB,zE,zA,zS,zL,zD,zM];have hsl:=ck (r.take i) p;have hHl:H.length=4:=by rw [hH]; rfl
   rw [List.length_take,Nat.min_eq_left hi] at hsl;have hsu:=adc r p q o i hq ho;have htk:zai (H.length+(j6 p (r.take i)).length) (b8 (H++j6 p (r.take i)))=b8 (H++j6 p (r.take i)):=zaj (by simp [b8]);rw [htk];refine And.intro (by simp) (And.intro ⟨by omega,by omega⟩ (And.intro (by kernel_rfl) ?_));refine ⟨⟨i+1,by omega,?_,?_⟩,by omega⟩
   ·rw [hsu]; simp [aam,List.map_cons]; omega
   ·rw [hsu]; simp [b8,aam]
  ·have hi2:i=r.length:=by
    have:=of_decide_eq_false hd;omega
   simp only [a8,push_cast,↓reduceIte,reduceCtorEq,zB,zE,zA,zS,zL,zD,zM];subst hi2;have hsl:=ck r p;have hHl:H.length=4:=by rw [hH]; rfl
   have hC:d9 (p::r)=H++j6 p r++[15]:=by rw [d9,if_neg (by omega),hH]
   rw [zao];have htk:zai (H.length+(j6 p r).length) (b8 (H++j6 p r))=b8 (H++j6 p r):=zaj (by simp [b8]);rw [htk,hC];refine ⟨by simp,⟨by omega,by omega⟩,?_,?_⟩
   ·simp; omega
   ·simp [b8]

noncomputable def tu:PC:=
  (.seq (.reg [p_s 2 (.mov (.c (.nils 2 (.agg [(.v (.int .i64 0)),(.v (.int .i64 0))])))),p_s 3 (.mov (.c (.r (.v (.bool false)))))])
 (.seq (.seq (.reg [p_m 7 0,p_s 8 (.len false (.t 7)),p_s 9 (.bin .lss (.t 8) (o_i 9)),p_m 10 9,p_g 11 10 false (.mov (.t 0)),p_g 12 10 false (.ia 1 (.v (.int .u64 0)) (.t 11) (o_i 0)),
 p_g 13 10 false (.ld none (.t 12)),p_g 14 10 false (.bin .neq (.t 13) (.c (.r (.v (.int .u64 9))))),p_s 15 (.pick (.t 10) (.c (.r (.v (.bool true)))) (.t 14)),
 p_m 16 15,p_g 17 16 false (.mov (.t 0)),p_g 18 16 false (.mov (.t 0)),p_g 19 16 false (.len false (.t 18)),p_g 20 16 false (.bin .sub (.t 19) (o_i 1)),p_g 21 16 false (.ia 1 (.v (.int .u64 0)) (.t 17) (.t 20)),
 p_g 22 16 false (.ld none (.t 21)),p_g 23 16 false (.bin .neq (.t 22) (.c (.r (.v (.int .u64 15))))),p_s 24 (.pick (.t 16) (.c (.r (.v (.bool true)))) (.t 23)),
 p_m 25 24,p_g 26 25 false (.mov (.t 0)),p_g 27 25 false (.ia 1 (.v (.int .u64 0)) (.t 26) (o_i 3)),p_g 28 25 false (.ld none (.t 27)),p_g 29 25 false (.mov (.t 0)),
 p_g 30 25 false (.len false (.t 29)),p_g 31 25 false (.bin .sub (.t 30) (o_i 4)),p_g 32 25 false (.bin .sub (.t 31) (o_i 1)),p_g 33 25 false (.bin .quo (.t 32) (o_i 2)),
 p_g 34 25 false (.bin .mul (o_i 8) (.t 33)),p_g 35 25 false (.bin .add (.t 34) (o_i 2)),p_g 36 25 false (.conv .u64 (.t 35)),p_g 37 25 false (.bin .neq (.t 28) (.t 36)),
 p_s 38 (.pick (.t 25) (.c (.r (.v (.bool true)))) (.t 37)),p_m 39 38,p_g 40 39 false (.mov (.t 0)),p_g 41 39 false (.len false (.t 40)),p_g 42 39 false (.bin .sub (.t 41) (o_i 4)),
 p_g 43 39 false (.bin .sub (.t 42) (o_i 1)),p_g 44 39 false (.bin .rem (.t 43) (o_i 2)),p_g 45 39 false (.bin .neq (.t 44) (o_i 0)),p_s 46 (.pick (.t 39) (.c (.r (.v (.bool true)))) (.t 45))])
 (.cond (.t 46)
 (.seq (.reg [p_s 2 (.mov (.c (.nils 2 (.agg [(.v (.int .i64 0)),(.v (.int .i64 0))])))),p_s 3 (.mov (.c (.r (.v (.bool false)))))])
 .ret)
 .skip))
 (.seq (.drw [p_m 47 0,p_s 48 (.ia 1 (.v (.int .u64 0)) (.t 47) (o_i 1)),p_s 49 (.ld none (.t 48)),p_c 50 1 33 [.t 49],p_m 51 0,p_s 52 (.ia 1 (.v (.int .u64 0)) (.t 51) (o_i 2)),
 p_s 53 (.ld none (.t 52)),p_c 54 2 33 [.t 53],p_s 55 (.build [(.r (.v (.int .i64 0))),(.r (.v (.int .i64 0)))] [(0,1,(.t 50)),(1,1,(.t 54))]),p_a 4 (.new [(.r (.v (.int .i64 0))),(.r (.v (.int .i64 0)))]),
 ⟨none,none,0,.act (.st 2 (.t 4) (.t 55))⟩]
 [[],[0],[0,1],[0,1,2],[],[4],[4,5],[0,1,2,3,4,5,6],[0,1,2,3,4,5,6,7],[],[0,1,2,3,4,5,6,7,8,9]])
 (.seq (.reg [p_s 56 (.ld (some 2) (.t 4)),p_a 57 (.bsl 2 (.agg [(.v (.int .i64 0)),(.v (.int .i64 0))]) [(.t 56)]),p_m 5 57])
 (.seq (.seq (.reg [p_s 6 (.mov (o_i 4))])
 (.block 0 (.loop (.seq (.seq (.reg [p_m 58 6,p_s 59 (.bin .add (.t 58) (o_i 1)),p_m 60 0,p_s 61 (.len false (.t 60)),p_s 62 (.bin .lss (.t 59) (.t 61))])
 (.cond (.t 62)
 .skip
 (.exit 0)))
 (.seq (.block 1 (.seq (.drw [p_s 65 (.iaa 2 1 (.t 4) (o_i 0)),p_s 66 (.ld none (.t 65)),p_m 67 0,p_m 68 6,p_s 69 (.ia 1 (.v (.int .u64 0)) (.t 67) (.t 68)),p_s 70 (.ld none (.t 69)),p_c 71 3 33 [.t 70],
 p_s 72 (.bin .add (.t 66) (.t 71)),p_s 73 (.iaa 2 1 (.t 4) (o_i 0)),⟨none,none,0,.act (.st 1 (.t 73) (.t 72))⟩]
 [[],[0],[],[],[2,3],[2,3,4],[2,3,4,5],[0,1,2,3,4,5,6],[0,1,2,3,4,5,6,7],[0,1,2,3,4,5,6,7,8]])
 (.seq (.drw [p_s 74 (.iaa 2 1 (.t 4) (o_i 1)),p_s 75 (.ld none (.t 74)),p_m 76 0,p_m 77 6,p_s 78 (.bin .add (.t 77) (o_i 1)),p_s 79 (.ia 1 (.v (.int .u64 0)) (.t 76) (.t 78)),
 p_s 80 (.ld none (.t 79)),p_c 81 4 33 [.t 80],p_s 82 (.bin .add (.t 75) (.t 81)),p_s 83 (.iaa 2 1 (.t 4) (o_i 1)),⟨none,none,0,.act (.st 1 (.t 83) (.t 82))⟩]
 [[],[0],[],[],[3],[2,3,4],[2,3,4,5],[2,3,4,5,6],[0,1,2,3,4,5,6,7],[0,1,2,3,4,5,6,7,8],[0,1,2,3,4,5,6,7,8,9]])
 (.reg [p_m 84 5,p_s 85 (.ld (some 2) (.t 4)),p_a 86 (.bsl 2 (.agg [(.v (.int .i64 0)),(.v (.int .i64 0))]) [(.t 85)]),p_a 87 (.app 2 (.agg [(.v (.int .i64 0)),(.v (.int .i64 0))]) 16 (.t 84) (.t 86)),
 p_m 5 87]))))
 (.reg [p_m 63 6,p_s 64 (.bin .add (.t 63) (o_i 2)),p_m 6 64]))))))
 (.seq (.reg [p_m 88 5,p_m 2 88,p_s 3 (.mov (.c (.r (.v (.bool true)))))])
 .ret))))))
theorem akr:Fun P0 12 1 [(2,false,none),(3,false,none)] tu:=b5 Go.Proofs.Tryz.func12 rfl (by decide) (by kernel_rfl) (by decide) rfl (by kernel_rfl) (by kernel_rfl) (by decide)
noncomputable def eg:PC:=
  (.seq (.reg [p_s 2 (.mov (.c (.nils 2 (.agg [(.v (.int .i64 0)),(.v (.int .i64 0))])))),p_s 3 (.mov (.c (.r (.v (.bool false)))))])
 (.seq (.reg [p_m 8 0,p_s 9 (.len false (.t 8)),p_m 4 9])
 (.seq (.seq (.reg [p_m 10 4,p_s 11 (.bin .lss (.t 10) (o_i 9)),p_m 12 11,p_g 13 12 false (.mov (.t 4)),p_g 14 12 false (.bin .rem (.t 13) (o_i 2)),p_g 15 12 false (.bin .eql (.t 14) (o_i 0)),
 p_s 16 (.pick (.t 12) (.c (.r (.v (.bool true)))) (.t 15)),p_m 17 16,p_g 18 17 false (.mov (.t 0)),p_g 19 17 false (.ia 1 (.v (.int .u64 0)) (.t 18) (o_i 0)),
 p_g 20 17 false (.ld none (.t 19)),p_g 21 17 false (.bin .neq (.t 20) (.c (.r (.v (.int .u64 9))))),p_s 22 (.pick (.t 17) (.c (.r (.v (.bool true)))) (.t 21)),
 p_m 23 22,p_g 24 23 false (.mov (.t 0)),p_g 25 23 false (.mov (.t 4)),p_g 26 23 false (.bin .sub (.t 25) (o_i 1)),p_g 27 23 false (.ia 1 (.v (.int .u64 0)) (.t 24) (.t 26)),
 p_g 28 23 false (.ld none (.t 27)),p_g 29 23 false (.bin .neq (.t 28) (.c (.r (.v (.int .u64 15))))),p_s 30 (.pick (.t 23) (.c (.r (.v (.bool true)))) (.t 29)),
 p_m 31 30,p_g 32 31 false (.mov (.t 0)),p_g 33 31 false (.ia 1 (.v (.int .u64 0)) (.t 32) (o_i 3)),p_g 34 31 false (.ld none (.t 33)),p_g 35 31 false (.mov (.t 4)),
 p_g 36 31 false (.bin .sub (.t 35) (o_i 5)),p_g 37 31 false (.bin .quo (.t 36) (o_i 2)),p_g 38 31 false (.bin .mul (o_i 8) (.t 37)),p_g 39 31 false (.bin .add (.t 38) (o_i 2)),
 p_g 40 31 false (.conv .u64 (.t 39)),p_g 41 31 false (.bin .neq (.t 34) (.t 40)),p_s 42 (.pick (.t 31) (.c (.r (.v (.bool true)))) (.t 41))])
 (.cond (.t 42)
 (.seq (.reg [p_s 2 (.mov (.c (.nils 2 (.agg [(.v (.int .i64 0)),(.v (.int .i64 0))])))),p_s 3 (.mov (.c (.r (.v (.bool false)))))])
 .ret)
 .skip))
 (.seq (.drw [p_m 43 0,p_s 44 (.ia 1 (.v (.int .u64 0)) (.t 43) (o_i 1)),p_s 45 (.ld none (.t 44)),p_c 46 1 35 [.t 45],p_m 47 0,p_s 48 (.ia 1 (.v (.int .u64 0)) (.t 47) (o_i 2)),
 p_s 49 (.ld none (.t 48)),p_c 50 2 35 [.t 49],p_s 51 (.build [(.r (.v (.int .i64 0))),(.r (.v (.int .i64 0)))] [(0,1,(.t 46)),(1,1,(.t 50))]),p_a 52 (.bsl 2 (.agg [(.v (.int .i64 0)),(.v (.int .i64 0))]) [(.t 51)]),
 p_m 5 52]
 [[],[0],[0,1],[0,1,2],[],[4],[4,5],[0,1,2,3,4,5,6],[0,1,2,3,4,5,6,7],[0,1,2,3,4,5,6,7,8],[0,1,2,3,4,5,6,7,8,9]])
 (.seq (.seq (.reg [p_s 6 (.mov (o_i 4))])
 (.block 0 (.loop (.seq (.seq (.reg [p_m 53 6,p_m 54 4,p_s 55 (.bin .sub (.t 54) (o_i 1)),p_s 56 (.bin .lss (.t 53) (.t 55))])
 (.cond (.t 56)
 .skip
 (.exit 0)))
 (.seq (.block 1 (.seq (.reg [p_m 59 5,p_m 60 5,p_s 61 (.len false (.t 60)),p_s 62 (.bin .sub (.t 61) (o_i 1)),p_s 63 (.ia 2 (.agg [(.v (.int .i64 0)),(.v (.int .i64 0))]) (.t 59) (.t 62)),
 p_s 64 (.ld (some 2) (.t 63)),p_a 7 (.new [(.r (.v (.int .i64 0))),(.r (.v (.int .i64 0)))]),⟨none,none,0,.act (.st 2 (.t 7) (.t 64))⟩])
 (.drw [p_m 65 5,p_s 66 (.iaa 2 1 (.t 7) (o_i 0)),p_s 67 (.ld none (.t 66)),p_m 68 0,p_m 69 6,p_s 70 (.ia 1 (.v (.int .u64 0)) (.t 68) (.t 69)),p_s 71 (.ld none (.t 70)),
 p_c 72 3 35 [.t 71],p_s 73 (.bin .add (.t 67) (.t 72)),p_s 74 (.iaa 2 1 (.t 7) (o_i 1)),p_s 75 (.ld none (.t 74)),p_m 76 0,p_m 77 6,p_s 78 (.bin .add (.t 77) (o_i 1)),
 p_s 79 (.ia 1 (.v (.int .u64 0)) (.t 76) (.t 78)),p_s 80 (.ld none (.t 79)),p_c 81 4 35 [.t 80],p_s 82 (.bin .add (.t 75) (.t 81)),p_s 83 (.build [(.r (.v (.int .i64 0))),(.r (.v (.int .i64 0)))] [(0,1,(.t 73)),(1,1,(.t 82))]),
 p_a 84 (.bsl 2 (.agg [(.v (.int .i64 0)),(.v (.int .i64 0))]) [(.t 83)]),p_a 85 (.app 2 (.agg [(.v (.int .i64 0)),(.v (.int .i64 0))]) 16 (.t 65) (.t 84)),p_m 5 85]
 [[],[],[1],[],[],[3,4],[3,4,5],[3,4,5,6],[1,2,3,4,5,6,7],[],[9],[],[],[12],[11,12,13],[11,12,13,14],[3,4,5,6,7,11,12,13,14,15],[3,4,5,6,7,9,10,11,12,13,14,15,16],[1,2,3,4,5,6,7,8,9,10,11,12,13,14,15,16,17],[1,2,3,4,5,6,7,8,9,10,11,12,13,14,15,16,17,18],[0,1,2,3,4,5,6,7,8,9,10,11,12,13,14,15,16,17,18,19],[0,1,2,3,4,5,6,7,8,9,10,11,12,13,14,15,16,17,18,19,20]])))
 (.reg [p_m 57 6,p_s 58 (.bin .add (.t 57) (o_i 2)),p_m 6 58]))))))
 (.seq (.reg [p_m 86 5,p_m 2 86,p_s 3 (.mov (.c (.r (.v (.bool true)))))])
 .ret))))))
theorem ack:Fun P0 16 1 [(2,false,none),(3,false,none)] eg:=b5 Go.Proofs.Tryz.func16 rfl (by decide) (by kernel_rfl) (by decide) rfl (by kernel_rfl) (by kernel_rfl) (by decide)
def v4 (l:List Int):Bool:=decide (9≤l.length)&&(l.length%2 == 1&&(l.getD 0 0 == 9&&(l.getD (l.length-1) 0 == 15&&l.getD 3 0 == 8*(((l.length:Int)-5)/2)+2)))
def oy (l:List Int):Nat→P2
 | 0=>(zag (l.getD 1 0),zag (l.getD 2 0))
 | j+1=>(IntKind.i64.wrap ((oy l j).1+zag (l.getD (4+2*j) 0)),IntKind.i64.wrap ((oy l j).2+zag (l.getD (5+2*j) 0)))
def u5 (l:List Int) (n:Nat):List P2:=(List.range n).map (oy l)
theorem akc (l:List Int) (n:Nat):u5 l (n+1)=u5 l n++[oy l n]:=by simp [u5,List.range_succ]
def t8 (l:List Int):List P2:=if v4 l then u5 l ((l.length-5)/2+1) else []
def u64L (l:List Int):Prop:=∀n∈l,0≤n∧n<18446744073709551616
theorem n8 (l:List Int) (i:Nat):(b8 l).getD i (.v (.int .u64 0))=.v (.int .u64 (l.getD i 0)):=by
 simp only [b8,zaq,zau];cases l[i]? <;> rfl
theorem sh {l:List Int} (h:u64L l) (i:Nat):0≤l.getD i 0∧l.getD i 0<18446744073709551616:=by
 rw [zaq];cases e:l[i]? with
 | none=>simp
 | some x=>exact h x (zbj e)
theorem au2 {l:List Int} (h:u64L l) (i:Nat):a7 P0 33 [int .u64 (l.getD i 0)] [] (int .i64 (zag (l.getD i 0))) []:=a2k _ (sh h i).1 (sh h i).2
theorem aqr {l:List Int} (h:u64L l) (i:Nat):a7 P0 35 [int .u64 (l.getD i 0)] [] (int .i64 (zag (l.getD i 0))) []:=a7b _ (sh h i).1 (sh h i).2
set_option maxHeartbeats 1000000 in
theorem tring_t (l : List Int) (hl : l.length ≤ 1000000) (h : u64L l) {res : AV} {ro : List Ob}
    (hres:(v4 l=false∧res=.tup [.nils 2 (pnt 0 0),bl false]∧ro=[])∨(v4 l=true∧res=.tup [.own 1000000 0 0 (t8 l).length,bl true]∧ro=[g7 (t8 l)])) :
    a7 P0 12 [.r (.sl 1 (b8 l))] [] res ro:=by
  refine akr rfl (by decide) ?_;have hmx:=d5;have hnl:(b8 l).length=l.length:=by simp [b8]
  by_cases h9:l.length<9
  · have d0:decide (((l.length:Nat):Int)<9)=true:=decide_eq_true (by omega);have hc:v4 l=false:=by simp [v4]; omega
    rcases hres with ⟨_,rfl,rfl⟩ | ⟨h,_⟩
    · simp only [tu,hnl,d0,pnt,n8,push_cast,↓reduceIte,reduceCtorEq,zB,zE,zA,zS,zL,zD,zM]
    · rw [hc] at h; cases h
  · obtain ⟨N,hN,hN1,hN2⟩:∃N:Int,((l.length:Nat):Int)=N∧9≤N∧N≤1000000:=⟨_,rfl,by omega,by omega⟩
    have d0:decide (N<9)=false:=decide_eq_false (by omega);have gn:(N-1).toNat=l.length-1:=by omega
    have w1:IntKind.i64.wrap (N-1)=N-1:=a6 (by omega);have w2:IntKind.i64.wrap (N-4)=N-4:=a6 (by omega);have w3:IntKind.i64.wrap (N-4-1)=N-5:=by rw [a6 (by omega)]; omega
    obtain ⟨K,hK⟩:∃K:Int,(N-5)/2=K:=⟨_,rfl⟩
    have w4:(N-5).tdiv 2=K:=by rw [zbp (by omega),hK]
    have w5:IntKind.u64.wrap (IntKind.i64.wrap (IntKind.i64.wrap (8*IntKind.i64.wrap K)+2))=8*K+2:=by
      rw [a6 (x:=K) (by omega),a6 (x:=8*K) (by omega),a6 (x:=8*K+2) (by omega),IntKind.wrap_u64];omega
    have hc:v4 l=(!(l.getD 0 0 != 9)&&(!(l.getD (l.length-1) 0 != 15)&&(!(l.getD 3 0 != 8*K+2) && !((N-5).tmod 2 != 0)))):=by
      unfold v4;have t1:decide (9≤l.length)=true:=decide_eq_true (by omega)
      have t2:(l.length%2 == 1)=!((N-5).tmod 2 != 0):=by
        rw [zbc (by omega),Bool.eq_iff_iff];simp;omega
      rw [hN,hK,t1,t2];simp only [bne];generalize (l.getD 0 0 == 9)=A;generalize (l.getD (l.length-1) 0 == 15)=B;generalize (l.getD 3 0 == 8*K+2)=C;generalize ((N-5).tmod 2 == 0)=D;cases A<;>cases B<;>cases C<;>cases D<;>rfl
    cases hcc:v4 l with
    | false=>
      rw [hcc] at hc hres;rcases hres with ⟨_,rfl,rfl⟩ | ⟨h,_⟩
      · cases e0:(l.getD 0 0 != 9)<;>cases e1:(l.getD (l.length-1) 0 != 15)<;>cases e2:(l.getD 3 0 != 8*K+2)<;>cases e3:((N-5).tmod 2 != 0) <;>
          first
          | (rw [e0,e1,e2,e3] at hc; cases hc; done)
          | (simp only [tu,hnl,hN,d0,gn,n8,w1,w2,w3,w4,w5,e0,e1,e2,e3,pnt,zac,zad,zaa,push_cast,↓reduceIte,reduceCtorEq,zB,zE,zA,zS,zL,zD,zM]
             first | done | omega | (refine ⟨by omega,?_⟩; simp; try omega))
      · cases h
    | true=>
      rw [hcc] at hc hres;have hc2:=hc.symm;simp only [Bool.and_eq_true,Bool.not_eq_true'] at hc2;obtain ⟨e0,e1,e2,e3⟩:=hc2;rcases hres with ⟨h,_⟩ | ⟨_,rfl,rfl⟩
      · cases h
      simp only [tu,hnl,hN,d0,gn,n8,w1,w2,w3,w4,w5,e0,e1,e2,e3,pnt,zac,zad,zaa,push_cast,↓reduceIte,reduceCtorEq,zB,zE,zA,zS,zL,zD,zM]
      repeat refine And.intro (by omega) ?_
      refine c8 (au2 h 1) rfl trivial ?_;simp only [hnl,hN,n8,zac,zad,zaa,push_cast,↓reduceIte,reduceCtorEq,zB,zE,zA,zS,zL,zD,zM]
      repeat refine And.intro (by omega) ?_
      refine c8 (au2 h 2) rfl trivial ?_;simp only [hnl,hN,n8,pnt,zac,zad,zaa,push_cast,↓reduceIte,reduceCtorEq,zB,zE,zA,zS,zL,zD,zM];refine And.intro (by kernel_rfl) (And.intro (by simp) ?_);obtain ⟨J,hJ⟩:∃J,(l.length-5)/2=J:=⟨_,rfl⟩
      have hodd:(N-5)%2=0:=by
        rw [zbc (by omega)] at e3;simpa using e3
      have hJN:N=2*J+5:=by omega
      have hres:t8 l=u5 l (J+1):=by rw [t8,if_pos hcc,hJ]
      rw [hres];clear e0 e1 e2 e3 hc w1 w2 w3 w4 w5 gn d0
      refine run_loop [(6,false),(0,false),(4,false),(5,false)] (fun vs pos los=>∃j:Nat,j≤J∧vs=[int .i64 (4+2*(j:Int)),.r (.sl 1 (b8 l)),.ptr 2000000 0 0,.own 2000001 0 0 (j+1)]∧pos=[]∧los=[.box [int .i64 (oy l j).1,int .i64 (oy l j).2],g7 (u5 l (j+1))])
        (fun vs _ _=>match vs with | .r (.v (.int _ a))::_=>(N-a).toNat | _=>0) rfl ?_ ?_
      · simp only [g7,pnt,push_cast,↓reduceIte,reduceCtorEq,zB,zE,zA,zS,zL,zD,zM];exact ⟨0,by omega,rfl,rfl⟩
      · rintro vs pos los ⟨j,hj,rfl,rfl,rfl⟩;have w1:IntKind.i64.wrap (4+2*(j:Int)+1)=5+2*(j:Int):=by rw [a6 (by omega)]; omega
        have w2:IntKind.i64.wrap (4+2*(j:Int)+2)=4+2*((j+1:Nat):Int):=by rw [a6 (by omega)]; omega
        have n1:(4+2*(j:Int)).toNat=4+2*j:=by omega
        have n2:(5+2*(j:Int)).toNat=5+2*j:=by omega
        have hcl:(u5 l (j+1)).length=j+1:=by simp [u5]
        simp only [hnl,hN,w1,g7,pnt,push_cast,↓reduceIte,reduceCtorEq,zB,zE,zA,zS,zL,zD,zM];refine b6 (fun hd=>?_) (fun hd=>?_)
        · have hd:=of_decide_eq_true hd;simp only [hnl,hN,w1,n1,n2,n8,g7,pnt,zac,zad,zaa,push_cast,↓reduceIte,reduceCtorEq,zB,zE,zA,zS,zL,zD,zM]
          repeat refine And.intro (by omega) ?_
          refine c8 (au2 h (4+2*j)) rfl trivial ?_;simp only [hnl,hN,w1,n1,n2,n8,g7,pnt,zac,zad,zaa,push_cast,↓reduceIte,reduceCtorEq,zB,zE,zA,zS,zL,zD,zM]
          repeat refine And.intro (by first | omega | kernel_rfl) ?_
          refine c8 (au2 h (5+2*j)) rfl trivial ?_;simp only [hnl,hN,w1,n1,n2,n8,g7,pnt,zac,zad,zaa,push_cast,↓reduceIte,reduceCtorEq,zB,zE,zA,zS,zL,zD,zM];refine And.intro (by omega) (And.intro (by kernel_rfl) (And.intro (by simp) (And.intro ⟨by omega,by omega⟩ ?_)));rw [w2];refine ⟨⟨j+1,by omega,rfl,?_⟩,by omega⟩;have htk:zai (j+1) ((u5 l (j+1)).map ptR)=(u5 l (j+1)).map ptR:=zaj (by simp [hcl]);rw [htk,akc l (j+1),List.map_append]
          rfl
        · have hd:=of_decide_eq_false hd;have hjJ:j=J:=by omega
          subst hjJ;simp only [hnl,hN,hcl,g7,pnt,push_cast,↓reduceIte,reduceCtorEq,zB,zE,zA,zS,zL,zD,zM]
set_option maxHeartbeats 1000000 in
theorem rring_t (l : List Int) (hl : l.length ≤ 1000000) (h : u64L l) {res : AV} {ro : List Ob}
    (hres:(v4 l=false∧res=.tup [.nils 2 (pnt 0 0),bl false]∧ro=[])∨(v4 l=true∧res=.tup [.own 1000000 0 0 (t8 l).length,bl true]∧ro=[g7 (t8 l)])) :
    a7 P0 16 [.r (.sl 1 (b8 l))] [] res ro:=by
  refine ack rfl (by decide) ?_;have hmx:=d5;have hnl:(b8 l).length=l.length:=by simp [b8]
  by_cases h9:l.length<9
  · have d0:decide (((l.length:Nat):Int)<9)=true:=decide_eq_true (by omega);have hc:v4 l=false:=by simp [v4]; omega
    rcases hres with ⟨_,rfl,rfl⟩ | ⟨h,_⟩
    · simp only [eg,hnl,d0,pnt,n8,push_cast,↓reduceIte,reduceCtorEq,zB,zE,zA,zS,zL,zD,zM]
    · rw [hc] at h; cases h
  · obtain ⟨N,hN,hN1,hN2⟩:∃N:Int,((l.length:Nat):Int)=N∧9≤N∧N≤1000000:=⟨_,rfl,by omega,by omega⟩
    have d0:decide (N<9)=false:=decide_eq_false (by omega);have gn:(N-1).toNat=l.length-1:=by omega
    have w1:IntKind.i64.wrap (N-1)=N-1:=a6 (by omega);have w3:IntKind.i64.wrap (N-5)=N-5:=a6 (by omega);obtain ⟨K,hK⟩:∃K:Int,(N-5)/2=K:=⟨_,rfl⟩
    have w4:(N-5).tdiv 2=K:=by rw [zbp (by omega),hK]
    have w5:IntKind.u64.wrap (IntKind.i64.wrap (IntKind.i64.wrap (8*IntKind.i64.wrap K)+2))=8*K+2:=by
      rw [a6 (x:=K) (by omega),a6 (x:=8*K) (by omega),a6 (x:=8*K+2) (by omega),IntKind.wrap_u64];omega
    have hc:v4 l=(!(l.getD 0 0 != 9)&&(!(l.getD (l.length-1) 0 != 15)&&(!(l.getD 3 0 != 8*K+2) && !(N.tmod 2 == 0)))):=by
      unfold v4;have t1:decide (9≤l.length)=true:=decide_eq_true (by omega)
      have t2:(l.length%2 == 1)=!(N.tmod 2 == 0):=by
        rw [zbc (by omega),Bool.eq_iff_iff];simp;omega
      rw [hN,hK,t1,t2];simp only [bne];generalize (l.getD 0 0 == 9)=A;generalize (l.getD (l.length-1) 0 == 15)=B;generalize (l.getD 3 0 == 8*K+2)=C;generalize (N.tmod 2 == 0)=D;cases A<;>cases B<;>cases C<;>cases D<;>rfl
    cases hcc:v4 l with
    | false=>
      rw [hcc] at hc hres;rcases hres with ⟨_,rfl,rfl⟩ | ⟨h,_⟩
      · cases e0:(l.getD 0 0 != 9)<;>cases e1:(l.getD (l.length-1) 0 != 15)<;>cases e2:(l.getD 3 0 != 8*K+2)<;>cases e3:(N.tmod 2 == 0) <;>
          first
          | (rw [e0,e1,e2,e3] at hc; cases hc; done)
          | (simp only [eg,hnl,hN,d0,gn,n8,w1,w3,w4,w5,e0,e1,e2,e3,pnt,zac,zad,zaa,push_cast,↓reduceIte,reduceCtorEq,zB,zE,zA,zS,zL,zD,zM]
             first | done | omega | (refine ⟨by omega,?_⟩; simp; try omega))
      · cases h
    | true=>
      rw [hcc] at hc hres;have hc2:=hc.symm;simp only [Bool.and_eq_true,Bool.not_eq_true'] at hc2;obtain ⟨e0,e1,e2,e3⟩:=hc2;rcases hres with ⟨h,_⟩ | ⟨_,rfl,rfl⟩
      · cases h
      simp only [eg,hnl,hN,d0,gn,n8,w1,w3,w4,w5,e0,e1,e2,e3,pnt,zac,zad,zaa,push_cast,↓reduceIte,reduceCtorEq,zB,zE,zA,zS,zL,zD,zM]
      repeat refine And.intro (by omega) ?_
      refine c8 (aqr h 1) rfl trivial ?_;simp only [hnl,hN,n8,zac,zad,zaa,push_cast,↓reduceIte,reduceCtorEq,zB,zE,zA,zS,zL,zD,zM]
      repeat refine And.intro (by omega) ?_
      refine c8 (aqr h 2) rfl trivial ?_;simp only [hnl,hN,n8,pnt,zac,zad,zaa,push_cast,↓reduceIte,reduceCtorEq,zB,zE,zA,zS,zL,zD,zM];refine And.intro (by simp) (And.intro (by kernel_rfl) ?_);obtain ⟨J,hJ⟩:∃J,(l.length-5)/2=J:=⟨_,rfl⟩
      have hodd:N%2=1:=by
        rw [zbc (by omega)] at e3;have:=beq_eq_false_iff_ne.1 e3;omega
      have hJN:N=2*J+5:=by omega
      have hres:t8 l=u5 l (J+1):=by rw [t8,if_pos hcc,hJ]
      rw [hres];clear e0 e1 e2 e3 hc w3 w4 w5 gn d0
      refine run_loop [(6,false),(0,false),(4,false),(5,false)] (fun vs pos los=>∃j:Nat,j≤J∧vs=[int .i64 (4+2*(j:Int)),.r (.sl 1 (b8 l)),int .i64 N,.own 2000000 0 0 (j+1)]∧pos=[]∧los=[g7 (u5 l (j+1))])
        (fun vs _ _=>match vs with | .r (.v (.int _ a))::_=>(N-a).toNat | _=>0) rfl ?_ ?_
      · simp only [g7,pnt,push_cast,↓reduceIte,reduceCtorEq,zB,zE,zA,zS,zL,zD,zM];exact ⟨0,by omega,rfl,rfl⟩
      · rintro vs pos los ⟨j,hj,rfl,rfl,rfl⟩;have v1:IntKind.i64.wrap (4+2*(j:Int)+1)=5+2*(j:Int):=by rw [a6 (by omega)]; omega
        have v2:IntKind.i64.wrap (4+2*(j:Int)+2)=4+2*((j+1:Nat):Int):=by rw [a6 (by omega)]; omega
        have v3:IntKind.i64.wrap ((j:Int)+1-1)=(j:Int):=by rw [a6 (by omega)]; omega
        have n1:(4+2*(j:Int)).toNat=4+2*j:=by omega
        have n2:(5+2*(j:Int)).toNat=5+2*j:=by omega
        have hcl:(u5 l (j+1)).length=j+1:=by simp [u5]
        have hg:∀z,((u5 l (j+1)).map ptR).getD j z=.agg [.v (.int .i64 (oy l j).1),.v (.int .i64 (oy l j).2)]:=fun z=>by
          rw [zaq,zau,u5,zau,List.getElem?_range (by omega)]; rfl
        simp only [hnl,hN,w1,v1,g7,pnt,push_cast,↓reduceIte,reduceCtorEq,zB,zE,zA,zS,zL,zD,zM];refine b6 (fun hd=>?_) (fun hd=>?_)
        · have hd:=of_decide_eq_true hd;simp only [hnl,hN,v1,v3,n1,n2,hg,n8,g7,pnt,zac,zad,zaa,zab,zae,zaa,push_cast,↓reduceIte,reduceCtorEq,zB,zE,zA,zS,zL,zD,zM]
          repeat refine And.intro (by first | omega | kernel_rfl) ?_
          refine c8 (aqr h (4+2*j)) rfl trivial ?_;simp only [hnl,hN,v1,v3,n1,n2,hg,n8,g7,pnt,zac,zad,zaa,zab,zae,zaa,push_cast,↓reduceIte,reduceCtorEq,zB,zE,zA,zS,zL,zD,zM]
          repeat refine And.intro (by first | omega | kernel_rfl) ?_
          refine c8 (aqr h (5+2*j)) rfl trivial ?_;simp only [hnl,hN,v1,v3,n1,n2,hg,n8,g7,pnt,zac,zad,zaa,zab,zae,zaa,push_cast,↓reduceIte,reduceCtorEq,zB,zE,zA,zS,zL,zD,zM];refine And.intro (by simp) (And.intro ⟨by omega,by omega⟩ (And.intro (by kernel_rfl) ?_));rw [v2];refine ⟨⟨j+1,by omega,rfl,?_⟩,by omega⟩;have htk:zai (j+1) ((u5 l (j+1)).map ptR)=(u5 l (j+1)).map ptR:=zaj (by simp [hcl]);rw [htk,akc l (j+1),List.map_append]
          rfl
        · have hd:=of_decide_eq_false hd;have hjJ:j=J:=by omega
          subst hjJ;simp only [hnl,hN,hcl,g7,pnt,push_cast,↓reduceIte,reduceCtorEq,zB,zE,zA,zS,zL,zD,zM]

end Go.Ev

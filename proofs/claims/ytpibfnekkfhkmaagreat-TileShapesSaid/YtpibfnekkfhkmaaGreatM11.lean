import Derived.Test.YtpibfnekkfhkmaaGreatM10
open Nat renaming reduceBEq → zB, reduceEqDiff → zE, reduceAdd → zA, reduceSub → zS, reduceLT → zL, reduceLeDiff → zD, reduceMul → zM
open Go.Proofs.Tryz renaming prog → P0
open List renaming take_of_length_le → zaa, take → zac, getD_eq_getElem?_getD → zah, length_append → zai, length_cons → zam, mem_map → zao, getElem?_map → zap, append_assoc → zar, range → zas, range_succ → zat, getElem?_eq_getElem → zau, getElem?_eq_none → zav, length_map → zaw, mem_append → zax, mem_cons → zay, nil_append → zaz, mem_of_getElem? → zba, map_cons → zbb, length_eq_zero_iff → zbc, mem_singleton → zbd, take_add_one → zbe, length_nil → zbf, drop_length → zbg, getElem?_range → zbh
open Nat renaming zero_add → zab, add_zero → zaq
open Int renaming toNat_zero → zad, natCast_zero → zae, toNat_natCast → zaf, toNat_natCast_add_one → zaj, toNat_one → zak, reduceToNat → zal, natCast_one → zan
namespace Go.Ev
set_option maxRecDepth 100000
open Go
set_option linter.unusedSectionVars false
set_option linter.unnecessarySimpa false
set_option linter.unusedSimpArgs false
set_option linter.unusedVariables false
noncomputable def aco:PC:=
  (.seq (.reg [p_a 3 (.box (.t 0)),p_s 6 (.mov (.c (.nils 1 (.v (.int .u8 0)))))])
 (.seq (.reg [p_m 11 2,p_s 12 (.mm true (.t 11) [(o_i 0)]),p_s 13 (.conv .u64 (.t 12)),p_m 7 13])
 (.seq (.reg [p_s 8 (.mov (.c (.nils 1 (.v (.int .u64 0)))))])
 (.seq (.seq (.reg [p_s 14 (.mov (.c (.r (.v (.int .u64 0)))))])
 (.block 0 (.loop (.seq (.reg [p_s 15 (.bin .lss (.t 14) (.c (.r (.v (.int .u64 4)))))])
 (.seq (.cond (.t 15)
 .skip
 (.exit 0))
 (.seq (.block 1 (.seq (.reg [p_m 16 14,p_m 9 16])
 (.reg [p_m 17 8,p_m 18 9,p_m 19 7,p_m 20 9,p_s 21 (.bin .add (.t 19) (.t 20)),p_a 22 (.bsl 1 (.v (.int .u64 0)) [(.t 18),(.t 21)]),p_a 23 (.app 1 (.v (.int .u64 0)) 8 (.t 17) (.t 22)),
 p_m 8 23])))
 (.reg [p_s 24 (.bin .add (.t 14) (.c (.r (.v (.int .u64 1))))),p_m 14 24])))))))
 (.seq (.reg [p_s 25 (.fa 0 (.t 3)),p_s 26 (.ld none (.t 25)),p_c 27 1 55 [(.c (.nils 1 (.v (.int .u8 0)))),(o_i 1),(.t 26)],p_m 10 27])
 (.seq (.reg [p_m 28 10,p_m 29 8,p_c 30 2 56 [(.t 28),(o_i 2),(.t 29)],p_m 10 30])
 (.seq (.reg [p_m 31 10,p_c 32 3 55 [(.t 31),(o_i 3),(.c (.r (.v (.int .u64 3))))],p_m 10 32])
 (.seq (.reg [p_m 33 10,p_m 34 1,p_c 35 4 10 [.t 34],p_c 36 5 56 [(.t 33),(o_i 4),(.t 35)],p_m 6 36])
 .ret))))))))
theorem ago:Fun P0 28 3 [(6,false,none)] aco:=b5 Go.Proofs.Tryz.func28 rfl (by decide) (by kernel_rfl) (by decide) rfl (by kernel_rfl) (by kernel_rfl) (by decide)
noncomputable def qr:PC:=
  (.seq (.reg [p_s 6 (.mov (.c (.r (.v (.string ⟨#[]⟩)))))])
 (.seq (.reg [p_m 8 2,p_s 9 (.mm true (.t 8) [(o_i 0)]),p_s 10 (.conv .u64 (.t 9)),p_m 7 10])
 (.seq (.reg [p_m 11 0,p_c 12 1 57 [(o_i 1),(.t 11)],p_m 13 7,p_m 14 7,p_s 15 (.bin .add (.t 14) (.c (.r (.v (.int .u64 1))))),p_m 16 7,p_s 17 (.bin .add (.t 16) (.c (.r (.v (.int .u64 2))))),
 p_m 18 7,p_s 19 (.bin .add (.t 18) (.c (.r (.v (.int .u64 3))))),p_a 20 (.bsl 1 (.v (.int .u64 0)) [(.c (.r (.v (.int .u64 0)))),(.t 13),(.c (.r (.v (.int .u64 1)))),(.t 15),(.c (.r (.v (.int .u64 2)))),(.t 17),(.c (.r (.v (.int .u64 3)))),(.t 19)]),
 p_c 21 2 58 [(o_i 2),(.t 20)],p_s 22 (.bin .add (.t 12) (.t 21)),p_c 23 3 57 [(o_i 3),(.c (.r (.v (.int .u64 3))))],p_s 24 (.bin .add (.t 22) (.t 23)),p_m 25 1,
 p_c 26 4 14 [.t 25],p_c 27 5 58 [(o_i 4),(.t 26)],p_s 28 (.bin .add (.t 24) (.t 27)),p_m 6 28])
 .ret)))
theorem aab:Fun P0 29 3 [(6,false,none)] qr:=b5 Go.Proofs.Tryz.func29 rfl (by decide) (by kernel_rfl) (by decide) rfl (by kernel_rfl) (by kernel_rfl) (by decide)
def dk (k:Int):List Int:=[0,k,1,k+1,2,k+2,3,k+3]
def ip (f:Int) (ns:List Int):List UInt8:=m7 f (ns.flatMap fun n=>o4 n.toNat)
def ir (w n:Int) (ring:List P2):List UInt8:=v5 1 w++ip 2 (dk (max n 0))++v5 3 3++ip 4 (d9 ring)
theorem amc:∀(r:List P2) (p:P2),u64L (j6 p r)
 | [],p=>fun n hn=>by simp [j6] at hn
 | q::r,p=>fun n hn=>by
  rw [j6,zax] at hn;rcases hn with hn | hn
  ·simp only [aam,zay,List.not_mem_nil,or_false] at hn;rcases hn with rfl | rfl
   ·exact agp _ (se _)
   ·exact agp _ (se _)
  ·exact amc r q n hn
theorem ac5 (ring:List P2) (hl:ring.length≤100000) (h:i64P ring):u64L (d9 ring):=fun n hn=>by
 cases ring with
 | nil=>simp [d9] at hn
 | cons p r=>
  rw [d9] at hn;split at hn
  ·simp at hn
  ·simp only [zax,zay,List.not_mem_nil,or_false] at hn;simp only [zam] at hl;have hp:=h p (by simp);rcases hn with ((rfl | rfl | rfl | rfl) | hn) | rfl
   ·omega
   ·exact agp _ hp.1
   ·exact agp _ hp.2
   ·omega
   ·exact amc _ _ _ hn
   ·omega
theorem ac6 (ring:List P2):(d9 ring).length≤2*ring.length+3:=by
 cases ring with
 | nil=>simp [d9]
 | cons p r=>
  rw [d9];split
  ·simp
  ·have:=ck r p;simp [this];omega
theorem ql {ring:List P2} (h:ring.length<3):d9 ring=[]:=by
 cases ring with
 | nil=>rfl
 | cons p r=>rw [d9,if_pos (by rw [zam] at h; omega)]
theorem ss (f:Int) (ns:List Int):(ip f ns).length≤20+10*ns.length:=by
 have h1:=pb f (ns.flatMap fun n=>o4 n.toNat);have h2:=ay1 ns;unfold ip;omega
theorem ah6 (w n:Int) (ring:List P2):(ir w n ring).length≤300+20*ring.length:=by
 have h1:=gt 1 w;have h2:=ss 2 (dk (max n 0));have h3:=gt 3 3;have h4:=ss 4 (d9 ring);have h5:=ac6 ring;have h6:(dk (max n 0)).length=8:=rfl;simp only [ir,zai];omega
theorem aq8 {k:Int} (h:0≤k∧k≤9223372036854775807):u64L (dk k):=fun n hn=>by
 simp only [dk,zay,List.not_mem_nil,or_false] at hn;omega
def ae5 (w a b c d:Int):AV:=.r (.agg [.v (.int .u64 w),.v (.int .i64 a),.v (.int .i64 b),.v (.int .i64 c),.v (.int .i64 d)])
def zh (k:Int) (i:Nat):List Int:=(zas i).flatMap fun j:Nat=>[(j:Int),k+j]
theorem ag7 (k:Int) (i:Nat):zh k (i+1)=zh k i++[(i:Int),k+i]:=by simp [zh,zat]
theorem aq7 (k:Int):∀i,(zh k i).length=2*i
 | 0=>rfl
 | i+1=>by rw [ag7,zai,aq7 k i]; simp; omega
theorem a6w (k:Int):zh k 4=dk k:=by simp [zh,dk,zat]
set_option maxHeartbeats 1000000 in
theorem tfeat_t (w a b c d n : Int) (ring : List P2) (hw : 0 ≤ w ∧ w < 18446744073709551616) (hn : in64 n) (hl : ring.length ≤ 100000) (h : i64P ring) :
    a7 P0 28 [ae5 w a b c d,a8 ring,int .i64 n] [] (.own 1000000 0 0 (ir w n ring).length) [jp (ir w n ring)]:=by
  refine ago rfl (by decide) ?_;have hmx:=d5;have hn':-9223372036854775808≤n∧n≤9223372036854775807:=hn;obtain ⟨K,hK,hK1⟩:∃K,max n 0=K∧0≤K∧K≤9223372036854775807:=⟨_,rfl,by omega,by omega⟩
  have wK:IntKind.u64.wrap K=K:=by rw [IntKind.wrap_u64]; omega
  have l1:=gt 1 w;have l2:=ss 2 (dk K);have l3:=gt 3 3;have l4:=ss 4 (d9 ring);have l5:=ac6 ring;have l6:(dk K).length=8:=rfl;have hT:=aq8 hK1;have hC:=ac5 ring hl h;have hF:ir w n ring=v5 1 w++ip 2 (dk K)++v5 3 3++ip 4 (d9 ring):=by rw [ir,hK]
  obtain ⟨B1,hB1⟩:∃B,v5 1 w=B:=⟨_,rfl⟩
  obtain ⟨B2,hB2⟩:∃B,B1++ip 2 (dk K)=B:=⟨_,rfl⟩
  obtain ⟨B3,hB3⟩:∃B,B2++v5 3 3=B:=⟨_,rfl⟩
  obtain ⟨B4,hB4⟩:∃B,B3++ip 4 (d9 ring)=B:=⟨_,rfl⟩
  have m2:=congrArg List.length hB2;have m3:=congrArg List.length hB3;rw [zai] at m2 m3;rw [hB1] at l1;have t1:=am3 [] 1 w (by decide) hw.1 hw.2 (by simp);rw [zaz,hB1] at t1;have t2:=pack_t B1 2 (dk K) (by decide) hT (by rw [l6]; decide) (by omega);rw [show m7 2 ((dk K).flatMap fun n=>o4 n.toNat)=ip 2 (dk K) from rfl,hB2] at t2;have t3:=am3 B2 3 3 (by decide) (by decide) (by decide) (by omega);rw [hB3] at t3;have t4:=pack_t B3 4 (d9 ring) (by decide) hC (by omega) (by omega);rw [show m7 4 ((d9 ring).flatMap fun n=>o4 n.toNat)=ip 4 (d9 ring) from rfl,hB4] at t4;rw [hF,hB1,hB2,hB3,hB4];clear hB1 hB2 hB3 hB4 hF;simp only [aco,ae5,a8,hK,wK,push_cast,↓reduceIte,reduceCtorEq,zB,zE,zA,zS,zL,zD,zM]
  refine run_loop [(14, false), (7, false), (8, false), (1, false), (3, false)] (fun vs pos los => ∃ i : Nat, i ≤ 4 ∧ pos = [] ∧
      (i=0∧vs=[int .u64 i,int .u64 K,.nils 1 (.v (.int .u64 0)),a8 ring,.ptr 2000000 0 0]∧los=[.box [int .u64 w,int .i64 a,int .i64 b,int .i64 c,int .i64 d]] ∨
       0<i∧vs=[int .u64 i,int .u64 K,.own 2000000 0 0 (zh K i).length,a8 ring,.ptr 2000001 0 0]∧los=[jo (zh K i),.box [int .u64 w,int .i64 a,int .i64 b,int .i64 c,int .i64 d]]))
    (fun vs _ _=>match vs with | .r (.v (.int _ a))::_=>(4-a).toNat | _=>0) rfl ?_ ?_
  · simp only [a8,push_cast,↓reduceIte,reduceCtorEq,zB,zE,zA,zS,zL,zD,zM];exact ⟨0,by omega,by simp⟩
  · rintro vs pos los ⟨i,hi,rfl,⟨h0,rfl,rfl⟩ | ⟨h0,rfl,rfl⟩⟩
    · subst h0;have wk:IntKind.u64.wrap (K+0)=K:=by rw [IntKind.wrap_u64]; omega
      have w1:IntKind.u64.wrap (0+1)=1:=rfl;have d4:decide ((0:Int)<4)=true:=rfl;simp only [a8,wk,w1,d4,zae,push_cast,↓reduceIte,reduceCtorEq,zB,zE,zA,zS,zL,zD,zM];exact ⟨by simp,by omega,⟨1,by omega,.inr ⟨by omega,rfl,by simp [zh,b8,jo]⟩⟩,by decide⟩
    · have wk:IntKind.u64.wrap (K+i)=K+i:=by rw [IntKind.wrap_u64]; omega
      have w1:IntKind.u64.wrap ((i:Int)+1)=i+1:=by rw [IntKind.wrap_u64]; omega
      simp only [a8,wk,w1,push_cast,↓reduceIte,reduceCtorEq,zB,zE,zA,zS,zL,zD,zM];refine b6 (fun hd=>?_) (fun hd=>?_)
      · have hd:=of_decide_eq_true hd;simp only [a8,wk,w1,push_cast,↓reduceIte,reduceCtorEq,zB,zE,zA,zS,zL,zD,zM];have htl:=aq7 K i;have htk:zac (zh K i).length (b8 (zh K i))=b8 (zh K i):=zaa (by simp [b8]);rw [htk];refine ⟨by simp,⟨by omega,by omega⟩,⟨i+1,by omega,.inr ⟨by omega,?_,?_⟩⟩,by omega⟩
        · rw [ag7]; simp
        · rw [ag7]; simp [b8,jo]
      · have hd:=of_decide_eq_false hd;obtain rfl:i=4:=by omega
        rw [a6w];simp only [a8,push_cast,↓reduceIte,reduceCtorEq,zB,zE,zA,zS,zL,zD,zM];refine a9 (as':=[sb [],int .i64 1,int .u64 w]) rfl ?_;refine a5 t1 rfl trivial ?_;simp only [push_cast,↓reduceIte,reduceCtorEq,zB,zE,zA,zS,zL,zD,zM];refine f6 ?_;refine a9 (as':=[sb B1,int .i64 2,.r (.sl 1 ((dk K).map fun n=>.v (.int .u64 n)))]) rfl ?_;refine a5 t2 rfl trivial ?_;simp only [push_cast,↓reduceIte,reduceCtorEq,zB,zE,zA,zS,zL,zD,zM];refine f6 ?_;refine a9 (as':=[sb B2,int .i64 3,int .u64 3]) rfl ?_;refine a5 t3 rfl trivial ?_;simp only [push_cast,↓reduceIte,reduceCtorEq,zB,zE,zA,zS,zL,zD,zM];by_cases h3:ring.length<3
        · refine a9 (as':=[a8 ring]) rfl ?_;refine a5 (agy ring h3) rfl trivial ?_;simp only [push_cast,↓reduceIte,reduceCtorEq,zB,zE,zA,zS,zL,zD,zM];rw [ql h3] at t4;refine f6 ?_;refine a9 (as':=[sb B3,int .i64 4,.r (.sl 1 [])]) rfl ?_;refine a5 t4 rfl trivial ?_;simp only [push_cast,↓reduceIte,reduceCtorEq,zB,zE,zA,zS,zL,zD,zM]
          done
        · refine a9 (as':=[a8 ring]) rfl ?_;refine a5 (ae4 ring hl h (by omega)) rfl trivial ?_;have htk:zac (d9 ring).length (b8 (d9 ring))=b8 (d9 ring):=zaa (by simp [b8]);simp only [jo,htk,push_cast,↓reduceIte,reduceCtorEq,zB,zE,zA,zS,zL,zD,zM];refine f6 ?_;refine a9 (as':=[sb B3,int .i64 4,.r (.sl 1 ((d9 ring).map fun n=>.v (.int .u64 n)))]) rfl ?_;refine a5 t4 rfl trivial ?_;simp only [push_cast,↓reduceIte,reduceCtorEq,zB,zE,zA,zS,zL,zD,zM]
          done
set_option maxHeartbeats 1000000 in
theorem a4u (w n:Int) (ring:List P2) (hw:0≤w∧w<18446744073709551616) (hn:in64 n) (hl:ring.length≤100000) (h:i64P ring) :
  a7 P0 29 [int .u64 w,a8 ring,int .i64 n] [] (abj (lu (ir w n ring))) []:=by
 refine aab rfl (by decide) ?_;have hmx:=d5;have hn':-9223372036854775808≤n∧n≤9223372036854775807:=hn;obtain ⟨K,hK,hK1⟩:∃K,max n 0=K∧0≤K∧K≤9223372036854775807:=⟨_,rfl,by omega,by omega⟩
 have wK:IntKind.u64.wrap K=K:=by rw [IntKind.wrap_u64]; omega
 have wK1:IntKind.u64.wrap (K+1)=K+1:=by rw [IntKind.wrap_u64]; omega
 have wK2:IntKind.u64.wrap (K+2)=K+2:=by rw [IntKind.wrap_u64]; omega
 have wK3:IntKind.u64.wrap (K+3)=K+3:=by rw [IntKind.wrap_u64]; omega
 have l1:=gt 1 w;have l2:=ss 2 (dk K);have l3:=gt 3 3;have l4:=ss 4 (d9 ring);have l5:=ac6 ring;have l6:(dk K).length=8:=rfl;have hT:=aq8 hK1;have hC:=ac5 ring hl h;have hF:ir w n ring=v5 1 w++ip 2 (dk K)++v5 3 3++ip 4 (d9 ring):=by rw [ir,hK]
 have tp:=rpack_t 2 (dk K) (by decide) hT (by rw [l6]; decide);have cp:=rpack_t 4 (d9 ring) (by decide) hC (by omega);have tn:=axo 3 3 (by decide) (by decide) (by decide);rw [show m7 2 ((dk K).flatMap fun n=>o4 n.toNat)=ip 2 (dk K) from rfl] at tp;rw [show m7 4 ((d9 ring).flatMap fun n=>o4 n.toNat)=ip 4 (d9 ring) from rfl] at cp;rw [hF];generalize ip 2 (dk K)=T2 at *;generalize ip 4 (d9 ring)=C4 at *;simp only [qr,a8,hK,wK,wK1,wK2,wK3,push_cast,↓reduceIte,reduceCtorEq,zB,zE,zA,zS,zL,zD,zM];refine a5 (axo 1 w (by decide) hw.1 hw.2) rfl trivial ?_;simp only [wK,wK1,wK2,wK3,push_cast,↓reduceIte,reduceCtorEq,zB,zE,zA,zS,zL,zD,zM];refine And.intro (by simp) (f6 ?_)
 refine a9 (as':=[int .i64 2,.r (.sl 1 ((dk K).map fun n=>.v (.int .u64 n)))]) rfl ?_;refine a5 tp rfl trivial ?_;simp only [je,rz,push_cast,↓reduceIte,reduceCtorEq,zB,zE,zA,zS,zL,zD,zM];refine And.intro (by omega) ?_;refine a5 tn rfl trivial ?_;simp only [je,rz,push_cast,↓reduceIte,reduceCtorEq,zB,zE,zA,zS,zL,zD,zM];refine And.intro (by omega) ?_;by_cases h3:ring.length<3
 ·refine a9 (as':=[a8 ring]) rfl ?_;refine a5 (apo ring h3) rfl trivial ?_;simp only [push_cast,↓reduceIte,reduceCtorEq,zB,zE,zA,zS,zL,zD,zM];rw [ql h3] at cp;refine a9 (as':=[int .i64 4,.r (.sl 1 [])]) rfl ?_;refine a5 cp rfl trivial ?_;simp only [je,rz,push_cast,↓reduceIte,reduceCtorEq,zB,zE,zA,zS,zL,zD,zM];omega
 ·refine a9 (as':=[a8 ring]) rfl ?_;refine a5 (ari ring hl h (by omega)) rfl trivial ?_;have htk:zac (d9 ring).length (b8 (d9 ring))=b8 (d9 ring):=zaa (by simp [b8]);simp only [jo,htk,push_cast,↓reduceIte,reduceCtorEq,zB,zE,zA,zS,zL,zD,zM];refine f6 ?_;refine a9 (as':=[int .i64 4,.r (.sl 1 ((d9 ring).map fun n=>.v (.int .u64 n)))]) rfl ?_;refine a5 cp rfl trivial ?_;simp only [je,rz,push_cast,↓reduceIte,reduceCtorEq,zB,zE,zA,zS,zL,zD,zM];omega

noncomputable def af5:PC:=
  (.seq (.reg [p_s 2 (.mov (.c (.nils 1 (.v (.int .u8 0)))))])
 (.seq (.reg [p_c 12 1 55 [(.c (.nils 1 (.v (.int .u8 0)))),(o_i 15),(.c (.r (.v (.int .u64 2))))],p_m 3 12])
 (.seq (.reg [p_m 13 3,p_a 14 (.bsl 1 (.v (.int .u8 0)) [(.c (.r (.v (.int .u8 99)))),(.c (.r (.v (.int .u8 101)))),(.c (.r (.v (.int .u8 108)))),(.c (.r (.v (.int .u8 108)))),(.c (.r (.v (.int .u8 115))))]),
 p_a 15 (.mrk (.t 14)),p_c 16 2 79 [(.t 13),(o_i 1),(.t 15)],p_m 3 16])
 (.seq (.seq (.reg [p_m 17 0,p_s 18 (.len false (.t 17)),p_s 19 (.mov (o_i 0))])
 (.block 0 (.loop (.seq (.reg [p_s 20 (.bin .lss (.t 19) (.t 18))])
 (.seq (.cond (.t 20)
 .skip
 (.exit 0))
 (.seq (.block 1 (.seq (.reg [p_m 21 19,p_s 22 (.ia 6 (.agg [(.v (.int .u64 0)),(.sl 2 []),(.v (.int .i64 0)),(.v (.int .i64 0)),(.v (.int .i64 0)),(.v (.int .i64 0))]) (.t 17) (.t 19)),
 p_s 23 (.ld (some 6) (.t 22)),p_a 5 (.new [(.r (.v (.int .u64 0))),(.nils 2 (.agg [(.v (.int .i64 0)),(.v (.int .i64 0))])),(.r (.v (.int .i64 0))),(.r (.v (.int .i64 0))),(.r (.v (.int .i64 0))),(.r (.v (.int .i64 0)))]),
 p_m 4 21,⟨none,none,0,.act (.st 6 (.t 5) (.t 23))⟩])
 (.reg [p_m 24 3,p_s 25 (.fa 0 (.t 5)),p_s 26 (.ld none (.t 25)),p_s 27 (.build [(.r (.v (.int .u64 0))),(.r (.v (.int .i64 0))),(.r (.v (.int .i64 0))),(.r (.v (.int .i64 0))),(.r (.v (.int .i64 0)))] [(0,1,(.t 26))]),
 p_s 28 (.fa 1 (.t 5)),p_s 29 (.ld none (.t 28)),p_m 30 4,p_s 31 (.bin .mul (o_i 4) (.t 30)),p_c 32 3 28 [.t 27,.t 29,.t 31],p_c 33 4 79 [(.c (.nils 1 (.v (.int .u8 0)))),(o_i 2),(.t 32)],
 p_a 34 (.app 1 (.v (.int .u8 0)) 1 (.t 24) (.t 33)),p_m 3 34])))
 (.reg [p_s 35 (.bin .add (.t 19) (o_i 1)),p_m 19 35])))))))
 (.seq (.seq (.reg [p_a 36 (.bsl 1 (.v (.string ⟨#[]⟩)) [(.c (.r (.v (.string ⟨#[99,111,117,110,116]⟩)))),(.c (.r (.v (.string ⟨#[115,117,109]⟩)))),(.c (.r (.v (.string ⟨#[109,105,110]⟩)))),(.c (.r (.v (.string ⟨#[109,97,120]⟩))))]),
 p_s 37 (.len false (.t 36)),p_s 38 (.mov (o_i 0))])
 (.block 2 (.loop (.seq (.reg [p_s 39 (.bin .lss (.t 38) (.t 37))])
 (.seq (.cond (.t 39)
 .skip
 (.exit 2))
 (.seq (.block 3 (.seq (.reg [p_s 40 (.ia 1 (.v (.string ⟨#[]⟩)) (.t 36) (.t 38)),p_s 41 (.ld none (.t 40)),p_m 7 41])
 (.reg [p_m 42 3,p_m 43 7,p_a 44 (.toBytes (.v (.int .u8 0)) (.t 43)),p_c 45 5 79 [(.t 42),(o_i 3),(.t 44)],p_m 3 45])))
 (.reg [p_s 46 (.bin .add (.t 38) (o_i 1)),p_m 38 46])))))))
 (.seq (.seq (.reg [p_m 47 0,p_s 48 (.len false (.t 47)),p_s 49 (.mov (o_i 0))])
 (.block 4 (.loop (.seq (.reg [p_s 50 (.bin .lss (.t 49) (.t 48))])
 (.seq (.cond (.t 50)
 .skip
 (.exit 4))
 (.seq (.block 5 (.seq (.reg [p_s 51 (.ia 6 (.agg [(.v (.int .u64 0)),(.sl 2 []),(.v (.int .i64 0)),(.v (.int .i64 0)),(.v (.int .i64 0)),(.v (.int .i64 0))]) (.t 47) (.t 49)),p_s 52 (.ld (some 6) (.t 51)),
 p_a 9 (.new [(.r (.v (.int .u64 0))),(.nils 2 (.agg [(.v (.int .i64 0)),(.v (.int .i64 0))])),(.r (.v (.int .i64 0))),(.r (.v (.int .i64 0))),(.r (.v (.int .i64 0))),(.r (.v (.int .i64 0)))]),
 ⟨none,none,0,.act (.st 6 (.t 9) (.t 52))⟩])
 (.seq (.reg [p_s 53 (.fa 2 (.t 9)),p_s 54 (.ld none (.t 53)),p_s 55 (.fa 3 (.t 9)),p_s 56 (.ld none (.t 55)),p_s 57 (.fa 4 (.t 9)),p_s 58 (.ld none (.t 57)),p_s 59 (.fa 5 (.t 9)),
 p_s 60 (.ld none (.t 59)),p_a 61 (.bsl 1 (.v (.int .i64 0)) [(.t 54),(.t 56),(.t 58),(.t 60)]),p_s 62 (.len false (.t 61)),p_s 63 (.mov (o_i 0))])
 (.block 6 (.loop (.seq (.reg [p_s 64 (.bin .lss (.t 63) (.t 62))])
 (.seq (.cond (.t 64)
 .skip
 (.exit 6))
 (.seq (.block 7 (.seq (.reg [p_s 65 (.ia 1 (.v (.int .i64 0)) (.t 61) (.t 63)),p_s 66 (.ld none (.t 65)),p_m 11 66])
 (.reg [p_m 67 3,p_m 68 11,p_c 69 6 31 [.t 68],p_c 70 7 55 [(.c (.nils 1 (.v (.int .u8 0)))),(o_i 6),(.t 69)],p_c 71 8 79 [(.c (.nils 1 (.v (.int .u8 0)))),(o_i 4),(.t 70)],
 p_a 72 (.app 1 (.v (.int .u8 0)) 1 (.t 67) (.t 71)),p_m 3 72])))
 (.reg [p_s 73 (.bin .add (.t 63) (o_i 1)),p_m 63 73])))))))))
 (.reg [p_s 74 (.bin .add (.t 49) (o_i 1)),p_m 49 74])))))))
 (.seq (.reg [p_m 75 3,p_c 76 9 55 [(.t 75),(o_i 5),(.c (.r (.v (.int .u64 4096))))],p_m 3 76])
 (.seq (.reg [p_m 77 3,p_c 78 10 79 [(.c (.nils 1 (.v (.int .u8 0)))),(o_i 3),(.t 77)],p_m 2 78])
 .ret))))))))
theorem aja:Fun P0 40 1 [(2,false,none)] af5:=b5 Go.Proofs.Tryz.func40 rfl (by decide) (by kernel_rfl) (by decide) rfl (by kernel_rfl) (by kernel_rfl) (by decide)
structure Fea where
 w:Int
 ring:List P2
 c:Int
 s:Int
 lo:Int
 hi:Int
instance:Inhabited Fea:=⟨⟨0,[],0,0,0,0⟩⟩
def Fea.rv (f:Fea):RV:=.agg [.v (.int .u64 f.w),.sl 2 (f.ring.map ptR),.v (.int .i64 f.c),.v (.int .i64 f.s),.v (.int .i64 f.lo),.v (.int .i64 f.hi)]
def Fea.ok (f:Fea):Prop:=(0≤f.w∧f.w<18446744073709551616)∧f.ring.length≤100000∧i64P f.ring∧(in64 f.c∧in64 f.s∧in64 f.lo∧in64 f.hi)
def y8 (l:List Fea):AV:=.r (.sl 6 (l.map Fea.rv))
def fx (l:List Fea) (j:Nat):List UInt8:=m7 2 (ir (l.getD j default).w (4*(j:Int)) (l.getD j default).ring)
def qj (l:List Fea) (i:Nat):List UInt8:=(zas i).flatMap (fx l)
def ur:Nat→List UInt8
 | 0=>[99,111,117,110,116]
 | 1=>[115,117,109]
 | 2=>[109,105,110]
 | _=>[109,97,120]
def yb (i:Nat):List UInt8:=(zas i).flatMap fun j=>m7 3 (ur j)
def Fea.nums (f:Fea):List Int:=[f.c,f.s,f.lo,f.hi]
def vx (f:Fea) (k:Nat):List UInt8:=m7 4 (v5 6 (zig (f.nums.getD k 0)))
def xx (f:Fea) (k:Nat):List UInt8:=(zas k).flatMap (vx f)
def xw (l:List Fea) (j:Nat):List UInt8:=(zas j).flatMap fun i=>xx (l.getD i default) 4
def afn:List UInt8:=v5 15 2++m7 1 [99,101,108,108,115]
def cd (l:List Fea):List UInt8:=m7 3 (afn++qj l l.length++yb 4++xw l l.length++v5 5 4096)
theorem aka (l:List Fea) (i:Nat):qj l (i+1)=qj l i++fx l i:=by simp [qj,zat]
theorem ani (i:Nat):yb (i+1)=yb i++m7 3 (ur i):=by simp [yb,zat]
theorem al6 (f:Fea) (i:Nat):xx f (i+1)=xx f i++vx f i:=by simp [xx,zat]
theorem al5 (l:List Fea) (i:Nat):xw l (i+1)=xw l i++xx (l.getD i default) 4:=by simp [xw,zat]
theorem a8g {l:List Fea} (h:∀f∈l,f.ok) (j:Nat):(fx l j).length≤2000400:=by
 have h1:=pb 2 (ir (l.getD j default).w (4*(j:Int)) (l.getD j default).ring);have h2:=ah6 (l.getD j default).w (4*(j:Int)) (l.getD j default).ring
 have h3:(l.getD j default).ring.length≤100000:=by
  rw [zah];cases e:l[j]? with
  | none=>exact Nat.zero_le _
  | some f=>exact (h f (zba e)).2.1
 unfold fx;omega
theorem afs {l:List Fea} (h:∀f∈l,f.ok):∀i,(qj l i).length≤2000400*i
 | 0=>by simp [qj]
 | i+1=>by
  have:=afs h i;have:=a8g h i;rw [aka,zai];omega
theorem ar8 (i:Nat):(ur i).length≤5:=by unfold ur; split<;>simp
theorem ahu:∀i,(yb i).length≤25*i
 | 0=>by simp [yb]
 | i+1=>by
  have:=ahu i;have:=ar8 i;have:=pb 3 (ur i);rw [ani,zai];omega
theorem awx (f:Fea) (i:Nat):(vx f i).length≤40:=by
 have:=gt 6 (zig (f.nums.getD i 0));have:=pb 4 (v5 6 (zig (f.nums.getD i 0)));unfold vx;omega
theorem agw (f:Fea):∀i,(xx f i).length≤40*i
 | 0=>by simp [xx]
 | i+1=>by
  have:=agw f i;have:=awx f i;rw [al6,zai];omega
theorem agv (l:List Fea):∀i,(xw l i).length≤160*i
 | 0=>by simp [xw]
 | i+1=>by
  have:=agv l i;have:=agw (l.getD i default) 4;rw [al5,zai];omega
theorem aqc:afn.length≤50:=by decide
theorem ayy {l:List Fea} {i:Nat} (hi:i<l.length) (z:RV):(l.map Fea.rv).getD i z=.agg [.v (.int .u64 (l.getD i default).w),.sl 2 ((l.getD i default).ring.map ptR),.v (.int .i64 (l.getD i default).c),.v (.int .i64 (l.getD i default).s),.v (.int .i64 (l.getD i default).lo),.v (.int .i64 (l.getD i default).hi)]:=by
 simp [zah,hi,Fea.rv]
theorem av5 {l:List Fea} (h:∀f∈l,f.ok) {i:Nat} (hi:i<l.length):(l.getD i default).ok:=by
 rw [zah,zau hi];exact h _ (List.getElem_mem hi)
set_option maxHeartbeats 2000000 in
theorem aud (l:List Fea) (hl:l.length≤100000) (h:∀f∈l,f.ok):a7 P0 40 [y8 l] [] (.own 1000000 0 0 (cd l).length) [jp (cd l)]:=by
 refine aja rfl (by decide) ?_;have hmx:=d5;obtain ⟨N,hN,hN1⟩:∃N:Int,((l.length:Nat):Int)=N∧0≤N∧N≤100000:=⟨_,rfl,by omega,by omega⟩
 have tn:=am3 [] 15 2 (by decide) (by decide) (by decide) (by simp);rw [zaz] at tn;have tb:=xm (v5 15 2) 1 [99,101,108,108,115] (by decide) (by decide) (by decide);rw [show v5 15 2++m7 1 [99,101,108,108,115]=afn from rfl] at tb;have hH:=aqc;simp only [af5,y8,hN,push_cast,↓reduceIte,reduceCtorEq,zB,zE,zA,zS,zL,zD,zM];refine a9 (as':=[sb [],int .i64 15,int .u64 2]) rfl ?_;refine a5 tn rfl trivial ?_;simp only [push_cast,↓reduceIte,reduceCtorEq,zB,zE,zA,zS,zL,zD,zM];refine And.intro (by simp) (f6 ?_);refine a9 (as':=[sb (v5 15 2),int .i64 1,sb [99,101,108,108,115]]) rfl ?_;refine a5 tb rfl trivial ?_;simp only [push_cast,↓reduceIte,reduceCtorEq,zB,zE,zA,zS,zL,zD,zM];have hF:=afs h
 refine run_loop [(19,false),(18,false),(17,false),(3,false),(0,false)] (fun vs pos los=>∃(i:Nat) (B:List UInt8),i≤l.length∧B=afn++qj l i∧pos=[] ∧
   vs=[int .i64 i,int .i64 N,y8 l,.own 2000000 0 0 B.length,y8 l]∧los=[jp B])
  (fun vs _ _=>match vs with | .r (.v (.int _ a))::_=>(N-a).toNat | _=>0) rfl ?_ ?_
 ·simp only [y8,push_cast,↓reduceIte,reduceCtorEq,zB,zE,zA,zS,zL,zD,zM];exact ⟨0,afn,by omega,by simp [qj],by simp [y8,hN]⟩
 ·rintro vs pos los ⟨i,B,hi,hB,rfl,rfl,rfl⟩;have hFi:=hF i;have hBl:B.length=afn.length+(qj l i).length:=by rw [hB,zai]
  have w1:IntKind.i64.wrap ((i:Int)+1)=i+1:=a6 (by omega);have w4:IntKind.i64.wrap (4*(i:Int))=4*i:=a6 (by omega);simp only [y8,w1,w4,hN,push_cast,↓reduceIte,reduceCtorEq,zB,zE,zA,zS,zL,zD,zM];refine b6 (fun hd=>?_) (fun hd=>?_)
  ·have hd:=of_decide_eq_true hd;have hi2:i<l.length:=by omega
   have hg:=ayy hi2;have ho:=av5 h hi2;have hlg:B++fx l i=B++m7 2 (ir (l.getD i default).w (4*(i:Int)) (l.getD i default).ring):=rfl;have hff:=ah6 (l.getD i default).w (4*(i:Int)) (l.getD i default).ring;generalize l.getD i default=f at *;have tf:=tfeat_t f.w 0 0 0 0 (4*(i:Int)) f.ring ho.1 (by unfold in64; omega) ho.2.1 ho.2.2.1;have tb:=xm [] 2 (ir f.w (4*(i:Int)) f.ring) (by decide) (by have:=ho.2.1; omega) (by simp);rw [zaz] at tb;have hbl:=pb 2 (ir f.w (4*(i:Int)) f.ring);generalize ir f.w (4*(i:Int)) f.ring=FL at *;generalize m7 2 FL=BL at *;simp only [y8,hg,w1,w4,hN,zaf,zaj,zab,push_cast,↓reduceIte,reduceCtorEq,zB,zE,zA,zS,zL,zD,zM];refine And.intro (by omega) ?_
   refine a9 (as':=[ae5 f.w 0 0 0 0,a8 f.ring,int .i64 (4*(i:Int))]) rfl ?_;refine a5 tf rfl trivial ?_;simp only [push_cast,↓reduceIte,reduceCtorEq,zB,zE,zA,zS,zL,zD,zM];refine f6 ?_;refine a9 (as':=[sb [],int .i64 2,sb FL]) rfl ?_;refine a5 tb rfl trivial ?_;simp only [w1,push_cast,↓reduceIte,reduceCtorEq,zB,zE,zA,zS,zL,zD,zM];have hrl:=ho.2.1;refine ⟨⟨by omega,by omega⟩,⟨i+1,B++BL,by omega,?_,by simp,by simp⟩,by omega⟩;rw [aka,← zar,← hB,hlg]
  ·have hd:=of_decide_eq_false hd;have hi2:i=l.length:=by omega
   subst hi2;simp only [y8,push_cast,↓reduceIte,reduceCtorEq,zB,zE,zA,zS,zL,zD,zM];have hHd:B.length≤200040000050:=by omega
   refine And.intro (by simp) (run_loop [(38,false),(37,false),(36,false),(3,false),(0,false)] (fun vs pos los=>∃(k:Nat) (C:List UInt8),k≤4∧C=B++yb k∧pos=[] ∧
     vs=[int .i64 k,int .i64 4,.own 2000000 0 0 4,.own 2000001 0 0 C.length,y8 l]∧los=[.row 1 (.v (.string ⟨#[]⟩)) true true [.v (.string ⟨#[99,111,117,110,116]⟩),.v (.string ⟨#[115,117,109]⟩),.v (.string ⟨#[109,105,110]⟩),.v (.string ⟨#[109,97,120]⟩)],jp C])
    (fun vs _ _=>match vs with | .r (.v (.int _ a))::_=>(4-a).toNat | _=>0) rfl ?_ ?_)
   ·simp only [y8,push_cast,↓reduceIte,reduceCtorEq,zB,zE,zA,zS,zL,zD,zM];exact ⟨0,B,by omega,by simp [yb],by simp⟩
   ·rintro vs pos los ⟨k,C,hk,hC,rfl,rfl,rfl⟩;have hKl:=ahu k;have hCl:C.length=B.length+(yb k).length:=by rw [hC,zai]
    have hks:=ani k;have tk:=xm C 3 (ur k) (by decide) (by have:=ar8 k; omega) (by omega);rcases (show k=0∨k=1∨k=2∨k=3∨k=4 by omega) with rfl | rfl | rfl | rfl | rfl
    ·have d4:decide ((0:Int)<4)=true:=rfl;have w1:IntKind.i64.wrap ((0:Int)+1)=1:=rfl;have zs:(ByteArray.mk #[99,111,117,110,116]).size=5:=rfl;simp only [y8,d4,w1,zs,hN,zae,zan,zad,zak,zal,zab,push_cast,↓reduceIte,reduceCtorEq,zB,zE,zA,zS,zL,zD,zM];refine And.intro (by decide) (And.intro (by omega) (f6 ?_));refine a9 (as':=[sb C,int .i64 3,sb (ur 0)]) rfl ?_;refine a5 tk rfl trivial ?_;simp only [w1,push_cast,↓reduceIte,reduceCtorEq,zB,zE,zA,zS,zL,zD,zM];exact ⟨⟨1,C++m7 3 (ur 0),by omega,by rw [hks,← zar,← hC],by simp,by simp⟩,by decide⟩
    ·have d4:decide ((1:Int)<4)=true:=rfl;have w1:IntKind.i64.wrap ((1:Int)+1)=2:=rfl;have zs:(ByteArray.mk #[115,117,109]).size=3:=rfl;simp only [y8,d4,w1,zs,hN,zae,zan,zad,zak,zal,zab,push_cast,↓reduceIte,reduceCtorEq,zB,zE,zA,zS,zL,zD,zM];refine And.intro (by decide) (And.intro (by omega) (f6 ?_));refine a9 (as':=[sb C,int .i64 3,sb (ur 1)]) rfl ?_;refine a5 tk rfl trivial ?_;simp only [w1,push_cast,↓reduceIte,reduceCtorEq,zB,zE,zA,zS,zL,zD,zM];exact ⟨⟨2,C++m7 3 (ur 1),by omega,by rw [hks,← zar,← hC],by simp,by simp⟩,by decide⟩
    ·have d4:decide ((2:Int)<4)=true:=rfl;have w1:IntKind.i64.wrap ((2:Int)+1)=3:=rfl;have zs:(ByteArray.mk #[109,105,110]).size=3:=rfl;simp only [y8,d4,w1,zs,hN,zae,zan,zad,zak,zal,zab,push_cast,↓reduceIte,reduceCtorEq,zB,zE,zA,zS,zL,zD,zM];refine And.intro (by decide) (And.intro (by omega) (f6 ?_));refine a9 (as':=[sb C,int .i64 3,sb (ur 2)]) rfl ?_;refine a5 tk rfl trivial ?_;simp only [w1,push_cast,↓reduceIte,reduceCtorEq,zB,zE,zA,zS,zL,zD,zM];exact ⟨⟨3,C++m7 3 (ur 2),by omega,by rw [hks,← zar,← hC],by simp,by simp⟩,by decide⟩
    ·have d4:decide ((3:Int)<4)=true:=rfl;have w1:IntKind.i64.wrap ((3:Int)+1)=4:=rfl;have zs:(ByteArray.mk #[109,97,120]).size=3:=rfl;simp only [y8,d4,w1,zs,hN,zae,zan,zad,zak,zal,zab,push_cast,↓reduceIte,reduceCtorEq,zB,zE,zA,zS,zL,zD,zM];refine And.intro (by decide) (And.intro (by omega) (f6 ?_));refine a9 (as':=[sb C,int .i64 3,sb (ur 3)]) rfl ?_;refine a5 tk rfl trivial ?_;simp only [w1,push_cast,↓reduceIte,reduceCtorEq,zB,zE,zA,zS,zL,zD,zM];exact ⟨⟨4,C++m7 3 (ur 3),by omega,by rw [hks,← zar,← hC],by simp,by simp⟩,by decide⟩
    ·have d4:decide ((4:Int)<4)=false:=rfl;simp only [y8,d4,hN,push_cast,↓reduceIte,reduceCtorEq,zB,zE,zA,zS,zL,zD,zM];have hCl2:C.length≤200040000150:=by omega
     clear tk
     refine run_loop [(49,false),(48,false),(47,false),(3,false),(0,false)] (fun vs pos los=>∃(j:Nat) (D:List UInt8),j≤l.length∧D=C++xw l j∧pos=[] ∧
       vs=[int .i64 j,int .i64 N,y8 l,.own 2000000 0 0 D.length,y8 l]∧los=[jp D])
      (fun vs _ _=>match vs with | .r (.v (.int _ a))::_=>(N-a).toNat | _=>0) rfl ?_ ?_
     ·simp only [y8,push_cast,↓reduceIte,reduceCtorEq,zB,zE,zA,zS,zL,zD,zM];exact ⟨0,C,by omega,by simp [xw],by simp⟩
     ·rintro vs pos los ⟨j,D,hj,hD,rfl,rfl,rfl⟩;have hDi:=agv l j;have hDl:D.length=C.length+(xw l j).length:=by rw [hD,zai]
      have w1:IntKind.i64.wrap ((j:Int)+1)=j+1:=a6 (by omega);have hVs:=al5 l j;simp only [y8,w1,hN,push_cast,↓reduceIte,reduceCtorEq,zB,zE,zA,zS,zL,zD,zM];refine b6 (fun hd=>?_) (fun hd=>?_)
      ·have hd:=of_decide_eq_true hd;have hi2:j<l.length:=by omega
       have hg:=ayy hi2;have ho:=av5 h hi2;generalize l.getD j default=f at *;simp only [y8,hg,w1,hN,zaf,zaj,zab,push_cast,↓reduceIte,reduceCtorEq,zB,zE,zA,zS,zL,zD,zM];refine And.intro (by omega) (And.intro (by simp) ?_)
       refine run_loop [(63,false),(62,false),(61,false),(49,false),(48,false),(47,false),(3,false),(0,false)] (fun vs pos los=>∃(k:Nat) (E:List UInt8),k≤4∧E=D++xx f k∧pos=[] ∧
         vs=[int .i64 k,int .i64 4,.own 2000000 0 0 4,int .i64 j,int .i64 N,y8 l,.own 2000001 0 0 E.length,y8 l]∧los=[.row 1 (.v (.int .i64 0)) true true (f.nums.map fun n=>.v (.int .i64 n)),jp E])
        (fun vs _ _=>match vs with | .r (.v (.int _ a))::_=>(4-a).toNat | _=>0) rfl ?_ ?_
       ·simp only [y8,Fea.nums,push_cast,↓reduceIte,reduceCtorEq,zB,zE,zA,zS,zL,zD,zM];exact ⟨0,D,by omega,by simp [xx],by simp⟩
       ·rintro vs pos los ⟨k,E,hk,hE,rfl,rfl,rfl⟩;have hEi:=agw f k;have hEl:E.length=D.length+(xx f k).length:=by rw [hE,zai]
        have hnl:f.nums.length=4:=rfl;have w2:IntKind.i64.wrap ((k:Int)+1)=k+1:=a6 (by omega);have hKs:=al6 f k;simp only [y8,w2,hnl,hN,push_cast,↓reduceIte,reduceCtorEq,zB,zE,zA,zS,zL,zD,zM];refine b6 (fun hd4=>?_) (fun hd4=>?_)
        ·have hd4:=of_decide_eq_true hd4
         have hgn:∀z,(f.nums.map fun n=>RV.v (.int .i64 n)).getD k z=.v (.int .i64 (f.nums.getD k 0)):=fun z=>by
          have:k<f.nums.length:=by omega
          simp [zah,this]
         have hin:in64 (f.nums.getD k 0):=by
          obtain ⟨q1,q2,q3,q4⟩:=ho.2.2.2;rcases (show k=0∨k=1∨k=2∨k=3 by omega) with rfl | rfl | rfl | rfl
          ·exact q1
          ·exact q2
          ·exact q3
          ·exact q4
         have zi:=agp _ hin;have tz:=aly _ hin;have tnn:=am3 [] 6 (zig (f.nums.getD k 0)) (by decide) zi.1 zi.2 (by simp);have hnn:=gt 6 (zig (f.nums.getD k 0));have tbb:=xm [] 4 (v5 6 (zig (f.nums.getD k 0))) (by decide) (by omega) (by simp);have hvx:=awx f k;rw [zaz] at tnn tbb;rw [show m7 4 (v5 6 (zig (f.nums.getD k 0)))=vx f k from rfl] at tbb;generalize vx f k=V at *;generalize v5 6 (zig (f.nums.getD k 0))=U at *;simp only [y8,hgn,w2,hnl,hN,zaf,zaj,zab,push_cast,↓reduceIte,reduceCtorEq,zB,zE,zA,zS,zL,zD,zM];refine And.intro (by omega) ?_;refine a5 tz rfl trivial ?_;simp only [push_cast,↓reduceIte,reduceCtorEq,zB,zE,zA,zS,zL,zD,zM]
         refine a9 (as':=[sb [],int .i64 6,int .u64 (zig (f.nums.getD k 0))]) rfl ?_;refine a5 tnn rfl trivial ?_;simp only [push_cast,↓reduceIte,reduceCtorEq,zB,zE,zA,zS,zL,zD,zM];refine f6 ?_;refine a9 (as':=[sb [],int .i64 4,sb U]) rfl ?_;refine a5 tbb rfl trivial ?_;simp only [w2,push_cast,↓reduceIte,reduceCtorEq,zB,zE,zA,zS,zL,zD,zM];exact ⟨⟨by omega,by omega⟩,⟨k+1,E++V,by omega,by rw [hKs,← zar,← hE],by simp,by simp⟩,by omega⟩
        ·have hd4:=of_decide_eq_false hd4;obtain rfl:k=4:=by omega
         simp only [y8,w1,push_cast,↓reduceIte,reduceCtorEq,zB,zE,zA,zS,zL,zD,zM];exact ⟨⟨j+1,E,by omega,by rw [hVs,← zar,← hD,hE],by simp,by simp⟩,by omega⟩
      ·have hd:=of_decide_eq_false hd;have hi2:j=l.length:=by omega
       subst hi2;have te:=am3 D 5 4096 (by decide) (by decide) (by decide) (by omega);have hle:=gt 5 4096;have hDF:m7 3 (D++v5 5 4096)=cd l:=by rw [hD,hC,hB]; rfl
       have tf:=xm [] 3 (D++v5 5 4096) (by decide) (by rw [zai]; omega) (by simp);rw [zaz,hDF] at tf;simp only [y8,push_cast,↓reduceIte,reduceCtorEq,zB,zE,zA,zS,zL,zD,zM];refine f6 ?_;refine a9 (as':=[sb D,int .i64 5,int .u64 4096]) rfl ?_;refine a5 te rfl trivial ?_;generalize D++v5 5 4096=G at *;simp only [push_cast,↓reduceIte,reduceCtorEq,zB,zE,zA,zS,zL,zD,zM];refine f6 ?_;refine a9 (as':=[sb [],int .i64 3,sb G]) rfl ?_;refine a5 tf rfl trivial ?_;simp only [push_cast,↓reduceIte,reduceCtorEq,zB,zE,zA,zS,zL,zD,zM]

theorem av0 {l:List Fea} (h:∀f∈l,f.ok):(cd l).length≤2000600*l.length+300:=by
 have h1:=afs h l.length;have h2:=agv l l.length;have h3:=ahu 4;have h4:=aqc;have h5:=gt 5 4096;have h6:=pb 3 (afn++qj l l.length++yb 4++xw l l.length++v5 5 4096);unfold cd;simp only [zai] at h6;omega

noncomputable def mh:PC:=
  (.seq (.reg [p_a 2 (.new [(.r (.v (.int .u64 0))),(.nils 2 (.agg [(.v (.int .i64 0)),(.v (.int .i64 0))])),(.r (.v (.int .i64 0))),(.r (.v (.int .i64 0))),(.r (.v (.int .i64 0))),(.r (.v (.int .i64 0)))]),
 p_s 3 (.mov (.c (.r (.v (.bool false)))))])
 (.seq (.reg [p_m 10 0,p_c 11 1 89 [.t 10],p_m 9 11,p_s 12 (.ext (.t 9) 0),p_s 13 (.ext (.t 9) 1),p_m 4 12,p_m 5 13])
 (.seq (.seq (.reg [p_m 14 5,p_s 15 (.bin .neq (.t 14) (o_i 0)),p_m 16 15,p_g 17 16 false (.mov (.t 4)),p_g 18 16 false (.len false (.t 17)),p_g 19 16 false (.bin .neq (.t 18) (o_i 4)),
 p_s 20 (.pick (.t 16) (.c (.r (.v (.bool true)))) (.t 19))])
 (.cond (.t 20)
 (.seq (.reg [p_s 21 (.build [(.r (.v (.int .u64 0))),(.nils 2 (.agg [(.v (.int .i64 0)),(.v (.int .i64 0))])),(.r (.v (.int .i64 0))),(.r (.v (.int .i64 0))),(.r (.v (.int .i64 0))),(.r (.v (.int .i64 0)))] []),
 ⟨none,none,0,.act (.st 6 (.t 2) (.t 21))⟩,p_s 3 (.mov (.c (.r (.v (.bool false)))))])
 .ret)
 .skip))
 (.seq (.reg [p_m 23 4,p_s 24 (.ia 4 (.agg [(.v (.int .i64 0)),(.v (.int .i64 0)),(.v (.int .u64 0)),(.sl 1 [])]) (.t 23) (o_i 3)),p_s 25 (.fa 3 (.t 24)),p_s 26 (.ld none (.t 25)),
 p_c 27 2 148 [.t 26],p_m 22 27,p_s 28 (.ext (.t 22) 0),p_s 29 (.ext (.t 22) 1),p_m 6 28,p_m 5 29])
 (.seq (.reg [p_m 31 6,p_c 32 3 12 [.t 31],p_m 30 32,p_s 33 (.ext (.t 30) 0),p_s 34 (.ext (.t 30) 1),p_m 7 33,p_m 8 34])
 (.seq (.reg [p_m 35 4,p_s 36 (.ia 4 (.agg [(.v (.int .i64 0)),(.v (.int .i64 0)),(.v (.int .u64 0)),(.sl 1 [])]) (.t 35) (o_i 0)),p_s 37 (.fa 2 (.t 36)),p_s 38 (.ld none (.t 37)),
 p_m 39 7,p_s 40 (.build [(.r (.v (.int .u64 0))),(.nils 2 (.agg [(.v (.int .i64 0)),(.v (.int .i64 0))])),(.r (.v (.int .i64 0))),(.r (.v (.int .i64 0))),(.r (.v (.int .i64 0))),(.r (.v (.int .i64 0)))] [(0,1,(.t 38)),(1,1,(.t 39))]),
 p_m 41 8,p_m 42 41,p_g 43 42 true (.mov (.t 5)),p_g 44 42 true (.bin .eql (.t 43) (o_i 0)),p_s 45 (.pick (.t 42) (.t 44) (.c (.r (.v (.bool false))))),⟨none,none,0,.act (.st 6 (.t 2) (.t 40))⟩,
 p_m 3 45])
 .ret))))))
theorem akq:Fun P0 90 1 [(2,false,some (62,(some 6))),(3,false,none)] mh:=b5 Go.Proofs.Tryz.func90 rfl (by decide) (by kernel_rfl) (by decide) rfl (by kernel_rfl) (by kernel_rfl) (by decide)
noncomputable def kp:PC:=
  (.seq (.reg [p_s 2 (.mov (o_i 0))])
 (.seq (.reg [p_m 6 0,p_c 7 1 89 [.t 6],p_m 5 7,p_s 8 (.ext (.t 5) 0),p_s 9 (.ext (.t 5) 1),p_m 3 8,p_m 4 9])
 (.seq (.seq (.reg [p_m 10 4,p_s 11 (.bin .neq (.t 10) (o_i 0)),p_m 12 11,p_g 13 12 false (.mov (.t 3)),p_g 14 12 false (.len false (.t 13)),p_g 15 12 false (.bin .neq (.t 14) (o_i 1)),
 p_s 16 (.pick (.t 12) (.c (.r (.v (.bool true)))) (.t 15))])
 (.cond (.t 16)
 (.seq (.reg [p_s 2 (.mov (o_i 0))])
 .ret)
 .skip))
 (.seq (.reg [p_m 17 3,p_s 18 (.ia 4 (.agg [(.v (.int .i64 0)),(.v (.int .i64 0)),(.v (.int .u64 0)),(.sl 1 [])]) (.t 17) (o_i 0)),p_s 19 (.fa 2 (.t 18)),p_s 20 (.ld none (.t 19)),
 p_c 21 2 33 [.t 20],p_m 2 21])
 .ret))))
theorem ai9:Fun P0 91 1 [(2,false,none)] kp:=b5 Go.Proofs.Tryz.func91 rfl (by decide) (by kernel_rfl) (by decide) rfl (by kernel_rfl) (by kernel_rfl) (by decide)
def bq (d:List UInt8):List Int:=((tl d).getD []).map fun n:Nat=>(n:Int)
def iu (b:List UInt8):Fea×Bool:=
 match fg b with
 | some [x,_,_,y]=>(⟨x.2.2.1,t8 (bq y.2.2.2),0,0,0,0⟩,v4 (bq y.2.2.2))
 | _=>(⟨0,[],0,0,0,0⟩,false)
def ph (b:List UInt8):Int:=
 match fg b with
 | some [x]=>zag x.2.2.1
 | _=>0
theorem alj {b:List UInt8} (h:∀m,fg b=some m→m.length≠4):iu b=(⟨0,[],0,0,0,0⟩,false):=by
 unfold iu;split
 ·rename_i x _ _ y e;exact absurd rfl (h _ e)
 ·rfl
theorem aod {b:List UInt8} (h:∀m,fg b=some m→m.length≠1):ph b=0:=by
 unfold ph;split
 ·rename_i x e;exact absurd rfl (h _ e)
 ·rfl
theorem a06 {l:List UInt8} {x:Fld} {k:Nat} (h:ei l=some (x,k)):x.1≤1000∧x.2.1≤2∧x.2.2.1<18446744073709551616∧x.2.2.2.length≤l.length:=by
 obtain ⟨h1,h2,h3⟩:=ep (l.drop (take l).2);unfold ei at h;split at h
 ·cases h
 ·split at h
  ·cases h
  ·split at h
   ·cases h;exact ⟨by simp only; omega,by simp,by simp only; omega,by simp⟩
   ·split at h
    ·cases h;refine ⟨by simp only; omega,by simp,by simp,?_⟩;simp only [List.length_take,List.length_drop];omega
    ·cases h
theorem aps:∀(f:Nat) (l:List UInt8) (m:List Fld),jq f l=some m→∀x∈m,x.1≤1000∧x.2.1≤2∧x.2.2.1<18446744073709551616∧x.2.2.2.length≤l.length
 | f,[],m,h,x,hx=>by
  rw [acu] at h;cases h;simp at hx
 | 0,c::l,m,h,x,hx=>by cases h
 | f+1,c::l,m,h,x,hx=>by
  rw [jq] at h;split at h
  ·cases h
  ·rename_i y k e;cases hr:jq f ((c::l).drop k) with
   | none=>rw [hr] at h; cases h
   | some m'=>
    rw [hr] at h;cases h;rcases zay.1 hx with rfl | hx
    ·exact a06 e
    ·have:=aps f _ m' hr x hx;simp only [List.length_drop] at this;omega
theorem di {l:List UInt8} {m:List Fld} (h:fg l=some m):∀x∈m,x.1≤1000∧x.2.1≤2∧x.2.2.1<18446744073709551616∧x.2.2.2.length≤l.length:=aps _ l m h
theorem aph:∀(f:Nat) (l:List UInt8) (m:List Nat),jg f l=some m→∀n∈m,n<18446744073709551616
 | f,[],m,h,x,hx=>by
  rw [acn] at h;cases h;simp at hx
 | 0,c::l,m,h,x,hx=>by cases h
 | f+1,c::l,m,h,x,hx=>by
  rw [jg] at h;split at h
  ·cases h
  ·cases hr:jg f ((c::l).drop (take (c::l)).2) with
   | none=>rw [hr] at h; cases h
   | some m'=>
    rw [hr] at h;cases h;rcases zay.1 hx with rfl | hx
    ·exact (ep (c::l)).1
    ·exact aph f _ m' hr x hx
theorem ap2 (d:List UInt8):u64L (bq d):=fun n hn=>by
 unfold bq at hn;cases h:tl d with
 | none=>rw [h] at hn; simp at hn
 | some m=>
  rw [h] at hn;obtain ⟨k,hk,rfl⟩:=zao.1 hn;have:=aph _ d m h k hk;omega
theorem ap3 (d:List UInt8):(bq d).length≤d.length:=by
 unfold bq;cases h:tl d with
 | none=>simp
 | some m=>
  have:=aw1 h;simpa using this
theorem ae3 (b:List UInt8) (hb:b.length≤1000000):a7 P0 91 [sb b] [] (int .i64 (ph b)) []:=by
 refine ai9 rfl (by decide) ?_;have hr:=amn b (by omega);have hmx:=d5;have f10:((10:Int) != 0)=true:=rfl;have f00:((0:Int) != 0)=false:=rfl;have f01:((0:Int) != 1)=true:=rfl;cases hm:fg b with
 | none=>
  have hv:ph b=0:=aod (fun m h=>by rw [hm] at h; cases h);rw [hm] at hr;rw [hv];simp only [kp,push_cast,↓reduceIte,reduceCtorEq,zB,zE,zA,zS,zL,zD,zM];refine a5 hr rfl trivial ?_;simp only [xz,f10,push_cast,↓reduceIte,reduceCtorEq,zB,zE,zA,zS,zL,zD,zM]
 | some m=>
  by_cases h0:m=[]
  ·subst h0;have hv:ph b=0:=aod (fun m h=>by rw [hm] at h; cases h; simp);rw [hm] at hr;rw [hv];simp only [kp,push_cast,↓reduceIte,reduceCtorEq,zB,zE,zA,zS,zL,zD,zM];refine a5 hr rfl trivial ?_;simp only [xz,f00,f01,push_cast,↓reduceIte,reduceCtorEq,zB,zE,zA,zS,zL,zD,zM]
  ·rw [hm,(az h0).1,(az h0).2] at hr;have hml:=yp hm;by_cases h1:m.length=1
   ·obtain ⟨x,rfl⟩:∃x,m=[x]:=List.length_eq_one_iff.1 h1;have hx:=di hm x (by simp);have hv:ph b=zag x.2.2.1:=by unfold ph; rw [hm]
    have e1:((1:Int) != 1)=false:=rfl;have hz:=a2k (x.2.2.1:Nat) (by omega) (by omega);rw [hv];simp only [kp,push_cast,↓reduceIte,reduceCtorEq,zB,zE,zA,zS,zL,zD,zM];refine a5 hr rfl trivial ?_;simp only [f00,e1,pw,zad,push_cast,↓reduceIte,reduceCtorEq,zB,zE,zA,zS,zL,zD,zM]
    repeat refine And.intro (by omega) ?_
    refine a5 hz rfl trivial ?_;simp only [push_cast,↓reduceIte,reduceCtorEq,zB,zE,zA,zS,zL,zD,zM]
   ·have hv:ph b=0:=aod (fun m' h=>by rw [hm] at h; cases h; exact h1);have e1:((m.length:Int) != 1)=true:=bne_iff_ne.2 (by omega);rw [hv];simp only [kp,push_cast,↓reduceIte,reduceCtorEq,zB,zE,zA,zS,zL,zD,zM];refine a5 hr rfl trivial ?_;simp only [f00,e1,push_cast,↓reduceIte,reduceCtorEq,zB,zE,zA,zS,zL,zD,zM]
theorem avl (m:List Nat):s6 m=b8 (m.map fun n:Nat=>(n:Int)):=by simp [s6,b8]
set_option maxHeartbeats 1000000 in
theorem ai0 (b:List UInt8) (hb:b.length≤1000000):a7 P0 90 [sb b] [] (.tup [.r (iu b).1.rv,bl (iu b).2]) []:=by
 refine akq rfl (by decide) ?_;have hr:=amn b (by omega);have hmx:=d5;have f10:((10:Int) != 0)=true:=rfl;have f00:((0:Int) != 0)=false:=rfl;have f04:((0:Int) != 4)=true:=rfl;cases hm:fg b with
 | none=>
  have hv:=alj (b:=b) (fun m h=>by rw [hm] at h; cases h);rw [hm] at hr;rw [hv];simp only [mh,Fea.rv,push_cast,↓reduceIte,reduceCtorEq,zB,zE,zA,zS,zL,zD,zM];refine a5 hr rfl trivial ?_;simp only [xz,acs,f10,pnt,push_cast,↓reduceIte,reduceCtorEq,zB,zE,zA,zS,zL,zD,zM]
 | some m=>
  by_cases h0:m=[]
  ·subst h0;have hv:=alj (b:=b) (fun m h=>by rw [hm] at h; cases h; simp);rw [hm] at hr;rw [hv];simp only [mh,Fea.rv,push_cast,↓reduceIte,reduceCtorEq,zB,zE,zA,zS,zL,zD,zM];refine a5 hr rfl trivial ?_;simp only [xz,acs,f00,f04,pnt,push_cast,↓reduceIte,reduceCtorEq,zB,zE,zA,zS,zL,zD,zM]
  ·rw [hm,(az h0).1,(az h0).2] at hr;have hml:=yp hm;by_cases h1:m.length=4
   ·obtain ⟨x,y,z,u,rfl⟩:∃x y z u,m=[x,y,z,u]:=by
     rcases m with _ | ⟨x,_ | ⟨y,_ | ⟨z,_ | ⟨u,_ | ⟨v,r⟩⟩⟩⟩⟩<;>simp at h1 ⊢
    have hx:=di hm x (by simp);have hu:=di hm u (by simp);have hv:iu b=(⟨x.2.2.1,t8 (bq u.2.2.2),0,0,0,0⟩,v4 (bq u.2.2.2)):=by unfold iu; rw [hm]
    have e1:((4:Int) != 4)=false:=rfl;have hva:=a6n u.2.2.2 (by omega);have hnl:=ap3 u.2.2.2;have hnu:=ap2 u.2.2.2;have htr:=fun res ro=>tring_t (bq u.2.2.2) (by omega) hnu (res:=res) (ro:=ro);have hnd:bq u.2.2.2=((tl u.2.2.2).getD []).map fun n:Nat=>(n:Int):=rfl;rw [hv];simp only [mh,Fea.rv,push_cast,↓reduceIte,reduceCtorEq,zB,zE,zA,zS,zL,zD,zM];refine a5 hr rfl trivial ?_;simp only [f00,e1,pw,zad,zal,push_cast,↓reduceIte,reduceCtorEq,zB,zE,zA,zS,zL,zD,zM]
    repeat refine And.intro (by omega) ?_
    have g10:((10:Int) == 0)=false:=rfl;have g00:((0:Int) == 0)=true:=rfl;by_cases hne:∃ns,tl u.2.2.2=some ns∧ns≠[]
    ·obtain ⟨ns,hns,hn0⟩:=hne;have hnd2:bq u.2.2.2=ns.map fun n:Nat=>(n:Int):=by rw [hnd,hns]; rfl
     have e2:al3 (some ns)=.tup [.own 1000000 0 0 ns.length,int .i64 0]∧al4 (some ns)=[avd ns]:=by
      cases ns with
      | nil=>exact absurd rfl hn0
      | cons=>exact ⟨rfl,rfl⟩
     rw [hns,e2.1,e2.2] at hva;refine a5 hva rfl trivial ?_;have htk:zac ns.length (s6 ns)=s6 ns:=apk ns;simp only [htk,push_cast,↓reduceIte,reduceCtorEq,zB,zE,zA,zS,zL,zD,zM];refine f6 ?_;refine a9 (as':=[.r (.sl 1 (b8 (bq u.2.2.2)))]) (by rw [hnd2,← avl]; rfl) ?_;have hrt:v4 (bq u.2.2.2)=false→t8 (bq u.2.2.2)=[]:=fun h=>by rw [t8,if_neg (by rw [h]; decide)]
     cases hck:v4 (bq u.2.2.2) with
     | false=>
      refine a5 (htr _ _ (.inl ⟨hck,rfl,rfl⟩)) rfl trivial ?_;simp only [pnt,g00,pw,hrt hck,zbb,List.map_nil,zam,zbf,zad,zal,List.getD_cons_zero,List.getD_cons_succ,push_cast,↓reduceIte,reduceCtorEq,zB,zE,zA,zS,zL,zD,zM];omega
     | true=>
      refine a5 (htr _ _ (.inr ⟨hck,rfl,rfl⟩)) rfl trivial ?_;generalize t8 (bq u.2.2.2)=R at *;have htk2:zac R.length (R.map ptR)=R.map ptR:=j7 R;simp only [pnt,g00,pw,g7,htk2,zad,zal,push_cast,↓reduceIte,reduceCtorEq,zB,zE,zA,zS,zL,zD,zM];omega
    ·have hnd2:bq u.2.2.2=[]:=by
      rw [hnd];cases hvl:tl u.2.2.2 with
      | none=>rfl
      | some ns=>
       have:ns=[]:=Classical.byContradiction fun h=>hne ⟨ns,hvl,h⟩;rw [this]; rfl
     have hck:v4 (bq u.2.2.2)=false:=by rw [hnd2]; rfl
     have hrt:t8 (bq u.2.2.2)=[]:=by rw [hnd2]; rfl
     have htr2:=htr _ _ (.inl ⟨hck,rfl,rfl⟩);rw [hnd2] at htr2;rw [hck,hrt];cases hvl:tl u.2.2.2 with
     | none=>
      rw [hvl] at hva;refine a5 hva rfl trivial ?_;simp only [al3,al4,push_cast,↓reduceIte,reduceCtorEq,zB,zE,zA,zS,zL,zD,zM];refine a9 (as':=[.r (.sl 1 (b8 []))]) rfl ?_;refine a5 htr2 rfl trivial ?_;simp only [pnt,g10,pw,zad,zal,push_cast,↓reduceIte,reduceCtorEq,zB,zE,zA,zS,zL,zD,zM];omega
     | some ns=>
      have:ns=[]:=Classical.byContradiction fun h=>hne ⟨ns,hvl,h⟩;subst this;rw [hvl] at hva;refine a5 hva rfl trivial ?_;simp only [al3,al4,push_cast,↓reduceIte,reduceCtorEq,zB,zE,zA,zS,zL,zD,zM];refine a9 (as':=[.r (.sl 1 (b8 []))]) rfl ?_;refine a5 htr2 rfl trivial ?_;simp only [pnt,g00,pw,zad,zal,push_cast,↓reduceIte,reduceCtorEq,zB,zE,zA,zS,zL,zD,zM];omega
   ·have hv:=alj (b:=b) (fun m' h=>by rw [hm] at h; cases h; exact h1);have e1:((m.length:Int) != 4)=true:=bne_iff_ne.2 (by omega);rw [hv];simp only [mh,Fea.rv,push_cast,↓reduceIte,reduceCtorEq,zB,zE,zA,zS,zL,zD,zM];refine a5 hr rfl trivial ?_;simp only [f00,e1,push_cast,↓reduceIte,reduceCtorEq,zB,zE,zA,zS,zL,zD,zM]

noncomputable def mg:PC:=
  (.seq (.reg [p_s 2 (.mov (.c (.nils 6 (.agg [(.v (.int .u64 0)),(.sl 2 []),(.v (.int .i64 0)),(.v (.int .i64 0)),(.v (.int .i64 0)),(.v (.int .i64 0))])))),p_s 3 (.mov (.c (.r (.v (.bool false)))))])
 (.seq (.reg [p_m 16 0,p_c 17 1 89 [.t 16],p_m 15 17,p_s 18 (.ext (.t 15) 0),p_s 19 (.ext (.t 15) 1),p_m 4 18,p_m 5 19])
 (.seq (.seq (.reg [p_m 20 5,p_s 21 (.bin .neq (.t 20) (o_i 0)),p_m 22 21,p_g 23 22 false (.mov (.t 4)),p_g 24 22 false (.len false (.t 23)),p_g 25 22 false (.bin .neq (.t 24) (o_i 1)),
 p_s 26 (.pick (.t 22) (.c (.r (.v (.bool true)))) (.t 25))])
 (.cond (.t 26)
 (.seq (.reg [p_s 2 (.mov (.c (.nils 6 (.agg [(.v (.int .u64 0)),(.sl 2 []),(.v (.int .i64 0)),(.v (.int .i64 0)),(.v (.int .i64 0)),(.v (.int .i64 0))])))),p_s 3 (.mov (.c (.r (.v (.bool false)))))])
 .ret)
 .skip))
 (.seq (.reg [p_m 28 4,p_s 29 (.ia 4 (.agg [(.v (.int .i64 0)),(.v (.int .i64 0)),(.v (.int .u64 0)),(.sl 1 [])]) (.t 28) (o_i 0)),p_s 30 (.fa 3 (.t 29)),p_s 31 (.ld none (.t 30)),
 p_c 32 2 89 [.t 31],p_m 27 32,p_s 33 (.ext (.t 27) 0),p_s 34 (.ext (.t 27) 1),p_m 6 33,p_m 5 34])
 (.seq (.reg [p_s 7 (.mov (.c (.nils 6 (.agg [(.v (.int .u64 0)),(.sl 2 []),(.v (.int .i64 0)),(.v (.int .i64 0)),(.v (.int .i64 0)),(.v (.int .i64 0))]))))])
 (.seq (.reg [p_s 8 (.mov (.c (.nils 1 (.v (.int .i64 0)))))])
 (.seq (.seq (.reg [p_m 35 6,p_s 36 (.len false (.t 35)),p_s 37 (.mov (o_i 0))])
 (.block 0 (.loop (.seq (.reg [p_s 38 (.bin .lss (.t 37) (.t 36))])
 (.seq (.cond (.t 38)
 .skip
 (.exit 0))
 (.seq (.block 1 (.seq (.reg [p_s 39 (.ia 4 (.agg [(.v (.int .i64 0)),(.v (.int .i64 0)),(.v (.int .u64 0)),(.sl 1 [])]) (.t 35) (.t 37)),p_s 40 (.ld (some 4) (.t 39)),p_a 10 (.new [(.r (.v (.int .i64 0))),(.r (.v (.int .i64 0))),(.r (.v (.int .u64 0))),(.nils 1 (.v (.int .u8 0)))]),
 ⟨none,none,0,.act (.st 4 (.t 10) (.t 40))⟩])
 (.seq (.reg [p_s 41 (.fa 0 (.t 10)),p_s 42 (.ld none (.t 41))])
 (.block 2 (.seq (.reg [p_s 44 (.bin .eql (.t 42) (o_i 2)),p_m 43 44])
 (.cond (.t 43)
 (.seq (.reg [p_s 46 (.fa 3 (.t 10)),p_s 47 (.ld none (.t 46)),p_c 48 3 90 [.t 47],p_m 45 48,p_s 49 (.ext (.t 45) 0),p_s 50 (.ext (.t 45) 1),p_a 11 (.new [(.r (.v (.int .u64 0))),(.nils 2 (.agg [(.v (.int .i64 0)),(.v (.int .i64 0))])),(.r (.v (.int .i64 0))),(.r (.v (.int .i64 0))),(.r (.v (.int .i64 0))),(.r (.v (.int .i64 0)))]),
 ⟨none,none,0,.act (.st 6 (.t 11) (.t 49))⟩,p_m 12 50])
 (.seq (.seq (.reg [p_m 51 12,p_s 52 (.un .not (.t 51))])
 (.cond (.t 52)
 (.seq (.reg [p_s 2 (.mov (.c (.nils 6 (.agg [(.v (.int .u64 0)),(.sl 2 []),(.v (.int .i64 0)),(.v (.int .i64 0)),(.v (.int .i64 0)),(.v (.int .i64 0))])))),p_s 3 (.mov (.c (.r (.v (.bool false)))))])
 .ret)
 .skip))
 (.reg [p_m 53 7,p_s 54 (.ld (some 6) (.t 11)),p_a 55 (.bsl 6 (.agg [(.v (.int .u64 0)),(.sl 2 []),(.v (.int .i64 0)),(.v (.int .i64 0)),(.v (.int .i64 0)),(.v (.int .i64 0))]) [(.t 54)]),
 p_a 56 (.app 6 (.agg [(.v (.int .u64 0)),(.sl 2 []),(.v (.int .i64 0)),(.v (.int .i64 0)),(.v (.int .i64 0)),(.v (.int .i64 0))]) 64 (.t 53) (.t 55)),p_m 7 56])))
 (.seq (.reg [p_s 58 (.bin .eql (.t 42) (o_i 4)),p_m 57 58])
 (.cond (.t 57)
 (.reg [p_m 59 8,p_s 60 (.fa 3 (.t 10)),p_s 61 (.ld none (.t 60)),p_c 62 4 91 [.t 61],p_a 63 (.bsl 1 (.v (.int .i64 0)) [(.t 62)]),p_a 64 (.app 1 (.v (.int .i64 0)) 8 (.t 59) (.t 63)),
 p_m 8 64])
 .skip))))))))
 (.reg [p_s 65 (.bin .add (.t 37) (o_i 1)),p_m 37 65])))))))
 (.seq (.seq (.reg [p_m 66 5,p_s 67 (.bin .neq (.t 66) (o_i 0)),p_m 68 67,p_g 69 68 false (.mov (.t 7)),p_g 70 68 false (.len false (.t 69)),p_g 71 68 false (.bin .eql (.t 70) (o_i 0)),
 p_s 72 (.pick (.t 68) (.c (.r (.v (.bool true)))) (.t 71)),p_m 73 72,p_g 74 73 false (.mov (.t 8)),p_g 75 73 false (.len false (.t 74)),p_g 76 73 false (.mov (.t 7)),
 p_g 77 73 false (.len false (.t 76)),p_g 78 73 false (.bin .mul (o_i 4) (.t 77)),p_g 79 73 false (.bin .neq (.t 75) (.t 78)),p_s 80 (.pick (.t 73) (.c (.r (.v (.bool true)))) (.t 79))])
 (.cond (.t 80)
 (.seq (.reg [p_s 2 (.mov (.c (.nils 6 (.agg [(.v (.int .u64 0)),(.sl 2 []),(.v (.int .i64 0)),(.v (.int .i64 0)),(.v (.int .i64 0)),(.v (.int .i64 0))])))),p_s 3 (.mov (.c (.r (.v (.bool false)))))])
 .ret)
 .skip))
 (.seq (.seq (.reg [p_m 81 7,p_s 82 (.len false (.t 81)),p_s 83 (.mov (o_i 0))])
 (.block 3 (.loop (.seq (.reg [p_s 84 (.bin .lss (.t 83) (.t 82))])
 (.seq (.cond (.t 84)
 .skip
 (.exit 3))
 (.seq (.block 4 (.seq (.reg [p_m 85 83,p_m 13 85])
 (.seq (.reg [p_m 86 8,p_m 87 13,p_s 88 (.bin .mul (o_i 4) (.t 87)),p_s 89 (.sll 1 (.t 86) (some (.t 88)) none none),p_m 14 89])
 (.drw [p_m 90 7,p_m 91 13,p_m 92 7,p_m 93 13,p_m 94 7,p_m 95 13,p_m 96 7,p_m 97 13,p_m 98 14,p_s 99 (.ia 1 (.v (.int .i64 0)) (.t 98) (o_i 0)),p_s 100 (.ld none (.t 99)),
 p_m 101 14,p_s 102 (.ia 1 (.v (.int .i64 0)) (.t 101) (o_i 1)),p_s 103 (.ld none (.t 102)),p_m 104 14,p_s 105 (.ia 1 (.v (.int .i64 0)) (.t 104) (o_i 2)),p_s 106 (.ld none (.t 105)),
 p_m 107 14,p_s 108 (.ia 1 (.v (.int .i64 0)) (.t 107) (o_i 3)),p_s 109 (.ld none (.t 108)),p_s 110 (.ia 6 (.agg [(.v (.int .u64 0)),(.sl 2 []),(.v (.int .i64 0)),(.v (.int .i64 0)),(.v (.int .i64 0)),(.v (.int .i64 0))]) (.t 90) (.t 91)),
 p_s 111 (.fa 2 (.t 110)),⟨none,none,0,.act (.st 1 (.t 111) (.t 100))⟩,p_s 112 (.ia 6 (.agg [(.v (.int .u64 0)),(.sl 2 []),(.v (.int .i64 0)),(.v (.int .i64 0)),(.v (.int .i64 0)),(.v (.int .i64 0))]) (.t 92) (.t 93)),
 p_s 113 (.fa 3 (.t 112)),⟨none,none,0,.act (.st 1 (.t 113) (.t 103))⟩,p_s 114 (.ia 6 (.agg [(.v (.int .u64 0)),(.sl 2 []),(.v (.int .i64 0)),(.v (.int .i64 0)),(.v (.int .i64 0)),(.v (.int .i64 0))]) (.t 94) (.t 95)),
 p_s 115 (.fa 4 (.t 114)),⟨none,none,0,.act (.st 1 (.t 115) (.t 106))⟩,p_s 116 (.ia 6 (.agg [(.v (.int .u64 0)),(.sl 2 []),(.v (.int .i64 0)),(.v (.int .i64 0)),(.v (.int .i64 0)),(.v (.int .i64 0))]) (.t 96) (.t 97)),
 p_s 117 (.fa 5 (.t 116)),⟨none,none,0,.act (.st 1 (.t 117) (.t 109))⟩]
 [[],[],[],[],[],[],[],[],[],[8],[8,9],[],[11],[11,12],[],[14],[14,15],[],[17],[17,18],[0,1,8,9,10,11,12,13,14,15,16,17,18,19],[0,1,8,9,10,11,12,13,14,15,16,17,18,19,20],[0,1,8,9,10,11,12,13,14,15,16,17,18,19,20,21],[0,1,2,3,8,9,10,11,12,13,14,15,16,17,18,19,20,21,22],[0,1,2,3,8,9,10,11,12,13,14,15,16,17,18,19,20,21,22,23],[0,1,2,3,8,9,10,11,12,13,14,15,16,17,18,19,20,21,22,23,24],[0,1,2,3,4,5,8,9,10,11,12,13,14,15,16,17,18,19,20,21,22,23,24,25],[0,1,2,3,4,5,8,9,10,11,12,13,14,15,16,17,18,19,20,21,22,23,24,25,26],[0,1,2,3,4,5,8,9,10,11,12,13,14,15,16,17,18,19,20,21,22,23,24,25,26,27],[0,1,2,3,4,5,6,7,8,9,10,11,12,13,14,15,16,17,18,19,20,21,22,23,24,25,26,27,28],[0,1,2,3,4,5,6,7,8,9,10,11,12,13,14,15,16,17,18,19,20,21,22,23,24,25,26,27,28,29],[0,1,2,3,4,5,6,7,8,9,10,11,12,13,14,15,16,17,18,19,20,21,22,23,24,25,26,27,28,29,30]]))))
 (.reg [p_s 118 (.bin .add (.t 83) (o_i 1)),p_m 83 118])))))))
 (.seq (.reg [p_m 119 7,p_m 2 119,p_s 3 (.mov (.c (.r (.v (.bool true)))))])
 .ret))))))))))
theorem akp:Fun P0 46 1 [(2,false,none),(3,false,none)] mg:=b5 Go.Proofs.Tryz.func46 rfl (by decide) (by kernel_rfl) (by decide) rfl (by kernel_rfl) (by kernel_rfl) (by decide)
def bp:List Fld→List Fea→List Int→Option (List Fea×List Int)
 | [],o,v=>some (o,v)
 | f::r,o,v=>if f.1=2 then (if (iu f.2.2.2).2 then bp r (o++[(iu f.2.2.2).1]) v else none) else if f.1=4 then bp r o (v++[ph f.2.2.2]) else bp r o v
def aqu (f:Fea) (v:List Int) (i:Nat):Fea:={ f with c:=v.getD (4*i) 0,s:=v.getD (4*i+1) 0,lo:=v.getD (4*i+2) 0,hi:=v.getD (4*i+3) 0 }
def afr (o:List Fea) (v:List Int):List Fea:=(zas o.length).map fun i=>aqu (o.getD i default) v i
def me (o:List Fea) (v:List Int) (j:Nat):List Fea:=(zas o.length).map fun i=>if i<j then aqu (o.getD i default) v i else o.getD i default
theorem ah5 (o:List Fea) (v:List Int) (j:Nat):(me o v j).length=o.length:=by simp [me]
theorem a5l (o:List Fea) (v:List Int):me o v 0=o:=by
 apply List.ext_getElem?;intro i;rw [me,zap];by_cases h:i<o.length
 ·simp [zbh h,h,zah]
 ·simp [zav (Nat.le_of_not_lt h),zav,h]
theorem a1r (o:List Fea) (v:List Int) {j k:Nat} (hjk:j≤k) (h:k<o.length):(me o v j)[k]?=some (o.getD k default):=by
 simp [me,h,show ¬k<j by omega]
theorem av6 (o:List Fea) (v:List Int) {j:Nat} (h:j<o.length):me o v (j+1)=(me o v j).set j (aqu (o.getD j default) v j):=by
 apply List.ext_getElem?;intro i;rw [List.getElem?_set];by_cases hi:i<o.length
 ·by_cases hj:j=i
  ·subst hj;simp [me,h]
  ·rw [if_neg hj];simp only [me,zap,zbh hi,Option.map_some];by_cases hlt:i<j
   ·rw [if_pos hlt,if_pos (by omega)]
   ·rw [if_neg hlt,if_neg (by omega)]
 ·rw [if_neg (by omega),zav (by rw [ah5]; omega),zav (by rw [ah5]; omega)]
theorem a8f (v:List Int) (k:Nat):(v.map fun n=>RV.v (.int .i64 n)).getD k (.v (.int .i64 0))=.v (.int .i64 (v.getD k 0)):=by
 simp only [zah,zap];cases v[k]? <;> rfl
theorem ay5 (o:List Fea) (v:List Int):me o v o.length=afr o v:=by
 apply List.map_congr_left;intro i hi;rw [if_pos (List.mem_range.1 hi)]
def zr:Option (List Fea×List Int)→List Fea×Bool
 | none=>([],false)
 | some (o,v)=>if o=[]∨v.length≠4*o.length then ([],false) else (afr o v,true)
def dw (b:List UInt8):List Fea×Bool:=
 match fg b with
 | some [x]=>match fg x.2.2.2 with
  | some fs=>zr (bp fs [] [])
  | none=>([],false)
 | _=>([],false)
theorem ako {b:List UInt8} (h:∀m,fg b=some m→m.length≠1):dw b=([],false):=by
 unfold dw;split
 ·rename_i x e;exact absurd rfl (h _ e)
 ·rfl
def n9:RV:=.agg [.v (.int .u64 0),.sl 2 [],.v (.int .i64 0),.v (.int .i64 0),.v (.int .i64 0),.v (.int .i64 0)]
abbrev yo (l:List Fea):Ob:=.row 6 n9 true true (l.map Fea.rv)
def nj:List Fea×Bool→AV
 | (_,false)=>.tup [.nils 6 n9,bl false]
 | (l,true)=>.tup [.own 1000000 0 0 l.length,bl true]
def nl:List Fea×Bool→List Ob
 | (_,false)=>[]
 | (l,true)=>[yo l]
def al9 (o:List Fea):AV:=if o=[] then .nils 6 n9 else .own 2000001 0 0 o.length
def al8 (o:List Fea) (v:List Int):AV:=if v=[] then .nils 1 (.v (.int .i64 0)) else .own (if o=[] then 2000001 else 2000002) 0 0 v.length
abbrev au7 (v:List Int):Ob:=.row 1 (.v (.int .i64 0)) true true (v.map fun n=>.v (.int .i64 n))
def ama (o:List Fea) (v:List Int):List Ob:=(if o=[] then [] else [yo o])++(if v=[] then [] else [au7 v])
set_option maxHeartbeats 1000000 in
theorem a6s (b:List UInt8) (hb:b.length≤1000000):a7 P0 46 [sb b] [] (nj (dw b)) (nl (dw b)):=by
 refine akp rfl (by decide) ?_;have hr:=amn b (by omega);have hmx:=d5;have f10:((10:Int) != 0)=true:=rfl;have f00:((0:Int) != 0)=false:=rfl;have f01:((0:Int) != 1)=true:=rfl;have d00:decide ((0:Int)<0)=false:=rfl;cases hm:fg b with
 | none=>
  have hv:=ako (b:=b) (fun m h=>by rw [hm] at h; cases h);rw [hm] at hr;rw [hv];simp only [mg,push_cast,↓reduceIte,reduceCtorEq,zB,zE,zA,zS,zL,zD,zM];refine a5 hr rfl trivial ?_;simp only [xz,acs,f10,nj,nl,n9,push_cast,↓reduceIte,reduceCtorEq,zB,zE,zA,zS,zL,zD,zM]
 | some m=>
  by_cases h0:m=[]
  ·subst h0;have hv:=ako (b:=b) (fun m h=>by rw [hm] at h; cases h; simp);rw [hm] at hr;rw [hv];simp only [mg,push_cast,↓reduceIte,reduceCtorEq,zB,zE,zA,zS,zL,zD,zM];refine a5 hr rfl trivial ?_;simp only [xz,acs,f00,f01,nj,nl,n9,push_cast,↓reduceIte,reduceCtorEq,zB,zE,zA,zS,zL,zD,zM]
  rw [hm,(az h0).1,(az h0).2] at hr;have hml:=yp hm;by_cases h1:m.length≠1
  ·have hv:=ako (b:=b) (fun m' h=>by rw [hm] at h; cases h; exact h1);have e1:((m.length:Int) != 1)=true:=bne_iff_ne.2 (by omega);rw [hv];simp only [mg,push_cast,↓reduceIte,reduceCtorEq,zB,zE,zA,zS,zL,zD,zM];refine a5 hr rfl trivial ?_;simp only [f00,e1,nj,nl,n9,push_cast,↓reduceIte,reduceCtorEq,zB,zE,zA,zS,zL,zD,zM]
  obtain ⟨x,rfl⟩:∃x,m=[x]:=List.length_eq_one_iff.1 (by omega);have hx:=di hm x (by simp);have e1:((1:Int) != 1)=false:=rfl;have hr2:=amn x.2.2.2 (by omega)
  have hv:dw b=match fg x.2.2.2 with
   | some fs=>zr (bp fs [] [])
   | none=>([],false):=by unfold dw; rw [hm]
  rw [hv];simp only [mg,push_cast,↓reduceIte,reduceCtorEq,zB,zE,zA,zS,zL,zD,zM];refine a5 hr rfl trivial ?_;simp only [f00,e1,pw,zad,zal,push_cast,↓reduceIte,reduceCtorEq,zB,zE,zA,zS,zL,zD,zM]
  repeat refine And.intro (by omega) ?_
  cases hm2:fg x.2.2.2 with
  | none=>
   rw [hm2] at hr2;refine a5 hr2 rfl trivial ?_;simp only [xz,acs,nj,nl,push_cast,↓reduceIte,reduceCtorEq,zB,zE,zA,zS,zL,zD,zM];refine run_loop [(37,false),(36,false),(35,false),(7,false),(8,false),(5,false)] (fun vs pos los=>vs=[int .i64 0,int .i64 0,aru,.nils 6 n9,.nils 1 (.v (.int .i64 0)),int .i64 10]∧pos=[]∧los=[]) (fun _ _ _=>0) rfl ?_ ?_
   ·simp only [n9,push_cast,↓reduceIte,reduceCtorEq,zB,zE,zA,zS,zL,zD,zM]
    done
   ·rintro vs pos los ⟨rfl,rfl,rfl⟩;simp only [n9,f10,d00,push_cast,↓reduceIte,reduceCtorEq,zB,zE,zA,zS,zL,zD,zM]
    done
  | some fs=>
   by_cases h2:fs=[]
   ·subst h2;rw [hm2] at hr2;refine a5 hr2 rfl trivial ?_;simp only [xz,acs,bp,zr,nj,nl,push_cast,↓reduceIte,reduceCtorEq,zB,zE,zA,zS,zL,zD,zM];refine run_loop [(37,false),(36,false),(35,false),(7,false),(8,false),(5,false)] (fun vs pos los=>vs=[int .i64 0,int .i64 0,aru,.nils 6 n9,.nils 1 (.v (.int .i64 0)),int .i64 0]∧pos=[]∧los=[]) (fun _ _ _=>0) rfl ?_ ?_
    ·simp only [n9,push_cast,↓reduceIte,reduceCtorEq,zB,zE,zA,zS,zL,zD,zM]
     done
    ·rintro vs pos los ⟨rfl,rfl,rfl⟩;simp only [n9,f00,d00,push_cast,↓reduceIte,reduceCtorEq,zB,zE,zA,zS,zL,zD,zM];exact ⟨rfl,rfl⟩
   rw [hm2,(az h2).1,(az h2).2] at hr2;have hfl:=di hm2;have hfn:=yp hm2;obtain ⟨M,hM,hM1⟩:∃M:Int,((fs.length:Nat):Int)=M∧0≤M∧M≤1000000:=⟨_,rfl,by omega,by omega⟩
   refine a5 hr2 rfl trivial ?_;simp only [hM,push_cast,↓reduceIte,reduceCtorEq,zB,zE,zA,zS,zL,zD,zM]
   refine run_loop [(37,false),(36,false),(35,false),(7,false),(8,false),(5,false)] (fun vs pos los=>∃(i:Nat) (o:List Fea) (v:List Int),i≤fs.length∧o.length≤i∧v.length≤i∧bp fs [] []=bp (fs.drop i) o v ∧
     vs=[int .i64 i,int .i64 M,.own 2000000 0 0 fs.length,al9 o,al8 o v,int .i64 0]∧pos=[]∧los=ave fs::ama o v)
    (fun vs _ _=>match vs with | .r (.v (.int _ a))::_=>(M-a).toNat | _=>0) rfl ?_ ?_
   ·simp only [n9,push_cast,↓reduceIte,reduceCtorEq,zB,zE,zA,zS,zL,zD,zM];exact ⟨0,[],[],by omega,by simp,by simp,rfl,rfl,rfl⟩
   ·rintro vs pos los ⟨i,o,v,hi,ho,hvl,hs,rfl,rfl,rfl⟩;have w1:IntKind.i64.wrap ((i:Int)+1)=i+1:=a6 (by omega)
    have hstep:∀hi2:i<fs.length,bp (fs.drop i) o v=if fs[i].1=2 then (if (iu fs[i].2.2.2).2 then bp (fs.drop (i+1)) (o++[(iu fs[i].2.2.2).1]) v else none) else if fs[i].1=4 then bp (fs.drop (i+1)) o (v++[ph fs[i].2.2.2]) else bp (fs.drop (i+1)) o v:=fun hi2=>by
     rw [List.drop_eq_getElem_cons hi2,bp]
    have hget:∀(hi2:i<fs.length) z,(fs.map pw).getD i z=.agg [.v (.int .i64 (fs[i].1:Nat)),.v (.int .i64 (fs[i].2.1:Nat)),.v (.int .u64 (fs[i].2.2.1:Nat)),.sl 1 (bys fs[i].2.2.2)]:=fun hi2 z=>by
     rw [zah,zap,zau hi2]; rfl
    have hFb:∀hi2:i<fs.length,fs[i].2.2.2.length≤1000000:=fun hi2=>by
     have:=hfl _ (List.getElem_mem hi2);omega
    by_cases ho0:o=[]<;>by_cases hv0:v=[]
    ·simp only [al9,al8,ama,ho0,hv0,n9,hM,push_cast,↓reduceIte,reduceCtorEq,zB,zE,zA,zS,zL,zD,zM];refine b6 (fun hd=>?_) (fun hd=>?_)
     ·have hd:=of_decide_eq_true hd;have hi2:i<fs.length:=by omega
      have hg:=hget hi2;have hsp:=hstep hi2;have hdb:=hFb hi2;rw [hsp] at hs;clear hsp;generalize fs[i]=F at *;have hft:=ai0 F.2.2.2 hdb;have hvt:=ae3 F.2.2.2 hdb;generalize iu F.2.2.2=FD at *;generalize ph F.2.2.2=VD at *;simp only [hg,hM,zaf,zaj,zab,push_cast,↓reduceIte,reduceCtorEq,zB,zE,zA,zS,zL,zD,zM];refine And.intro (by omega) ?_;cases e2:((F.1:Int) == 2) with
      | true=>
       have e2':F.1=2:=by have:=eq_of_beq e2; omega
       simp only [e2,push_cast,↓reduceIte,reduceCtorEq,zB,zE,zA,zS,zL,zD,zM];refine a5 hft rfl trivial ?_;simp only [Fea.rv,push_cast,↓reduceIte,reduceCtorEq,zB,zE,zA,zS,zL,zD,zM];cases ok:FD.2 with
       | false=>
        rw [if_pos e2',ok] at hs;simp only [push_cast,↓reduceIte,reduceCtorEq,zB,zE,zA,zS,zL,zD,zM];rw [hs];exact ⟨rfl,rfl⟩
       | true=>
        rw [if_pos e2',ok] at hs;simp only [w1,push_cast,↓reduceIte,reduceCtorEq,zB,zE,zA,zS,zL,zD,zM];refine ⟨by simp,by first | omega | exact ⟨by omega,by omega⟩,⟨i+1,o++[FD.1],v,by omega,by simp; omega,by omega,hs,by simp [ho0,hv0],by simp [ho0,hv0,Fea.rv,n9,zaa]⟩,by omega⟩
      | false=>
       have e2':¬F.1=2:=by have:=beq_eq_false_iff_ne.1 e2; omega
       rw [if_neg e2'] at hs;cases e4:((F.1:Int) == 4) with
       | true=>
        have e4':F.1=4:=by have:=eq_of_beq e4; omega
        rw [if_pos e4'] at hs;simp only [e2,e4,push_cast,↓reduceIte,reduceCtorEq,zB,zE,zA,zS,zL,zD,zM];refine a5 hvt rfl trivial ?_;simp only [w1,push_cast,↓reduceIte,reduceCtorEq,zB,zE,zA,zS,zL,zD,zM];refine ⟨by simp,by first | omega | exact ⟨by omega,by omega⟩,⟨i+1,o,v++[VD],by omega,by omega,by simp; omega,hs,by simp [ho0,hv0],by simp [ho0,hv0,Fea.rv,n9,zaa]⟩,by omega⟩
       | false=>
        have e4':¬F.1=4:=by have:=beq_eq_false_iff_ne.1 e4; omega
        rw [if_neg e4'] at hs;simp only [e2,e4,w1,push_cast,↓reduceIte,reduceCtorEq,zB,zE,zA,zS,zL,zD,zM];exact ⟨⟨i+1,o,v,by omega,by omega,by omega,hs,by simp [ho0,hv0],by simp [ho0,hv0,Fea.rv,n9]⟩,by omega⟩
     ·have hd:=of_decide_eq_false hd;have hi2:i=fs.length:=by omega
      subst hi2;rw [zbg,bp] at hs;rw [hs];have hE:zr (some (o,v))=([],false):=if_pos (.inl ho0);have g00:((0:Int) == 0)=true:=rfl;rw [hE];simp only [f00,g00,ho0,nj,nl,n9,push_cast,↓reduceIte,reduceCtorEq,zB,zE,zA,zS,zL,zD,zM]
    ·simp only [al9,al8,ama,ho0,hv0,n9,hM,push_cast,↓reduceIte,reduceCtorEq,zB,zE,zA,zS,zL,zD,zM];refine b6 (fun hd=>?_) (fun hd=>?_)
     ·have hd:=of_decide_eq_true hd;have hi2:i<fs.length:=by omega
      have hg:=hget hi2;have hsp:=hstep hi2;have hdb:=hFb hi2;rw [hsp] at hs;clear hsp;generalize fs[i]=F at *;have hft:=ai0 F.2.2.2 hdb;have hvt:=ae3 F.2.2.2 hdb;generalize iu F.2.2.2=FD at *;generalize ph F.2.2.2=VD at *;simp only [hg,hM,zaf,zaj,zab,push_cast,↓reduceIte,reduceCtorEq,zB,zE,zA,zS,zL,zD,zM];refine And.intro (by omega) ?_;cases e2:((F.1:Int) == 2) with
      | true=>
       have e2':F.1=2:=by have:=eq_of_beq e2; omega
       simp only [e2,push_cast,↓reduceIte,reduceCtorEq,zB,zE,zA,zS,zL,zD,zM];refine a5 hft rfl trivial ?_;simp only [Fea.rv,push_cast,↓reduceIte,reduceCtorEq,zB,zE,zA,zS,zL,zD,zM];cases ok:FD.2 with
       | false=>
        rw [if_pos e2',ok] at hs;simp only [push_cast,↓reduceIte,reduceCtorEq,zB,zE,zA,zS,zL,zD,zM];rw [hs];exact ⟨rfl,rfl⟩
       | true=>
        rw [if_pos e2',ok] at hs;simp only [w1,push_cast,↓reduceIte,reduceCtorEq,zB,zE,zA,zS,zL,zD,zM];refine ⟨by simp,by first | omega | exact ⟨by omega,by omega⟩,⟨i+1,o++[FD.1],v,by omega,by simp; omega,by omega,hs,by simp [ho0,hv0],by simp [ho0,hv0,Fea.rv,n9,zaa]⟩,by omega⟩
      | false=>
       have e2':¬F.1=2:=by have:=beq_eq_false_iff_ne.1 e2; omega
       rw [if_neg e2'] at hs;cases e4:((F.1:Int) == 4) with
       | true=>
        have e4':F.1=4:=by have:=eq_of_beq e4; omega
        rw [if_pos e4'] at hs;simp only [e2,e4,push_cast,↓reduceIte,reduceCtorEq,zB,zE,zA,zS,zL,zD,zM];refine a5 hvt rfl trivial ?_;simp only [w1,push_cast,↓reduceIte,reduceCtorEq,zB,zE,zA,zS,zL,zD,zM];refine ⟨by simp,by first | omega | exact ⟨by omega,by omega⟩,⟨i+1,o,v++[VD],by omega,by omega,by simp; omega,hs,by simp [ho0,hv0],by simp [ho0,hv0,Fea.rv,n9,zaa]⟩,by omega⟩
       | false=>
        have e4':¬F.1=4:=by have:=beq_eq_false_iff_ne.1 e4; omega
        rw [if_neg e4'] at hs;simp only [e2,e4,w1,push_cast,↓reduceIte,reduceCtorEq,zB,zE,zA,zS,zL,zD,zM];exact ⟨⟨i+1,o,v,by omega,by omega,by omega,hs,by simp [ho0,hv0],by simp [ho0,hv0,Fea.rv,n9]⟩,by omega⟩
     ·have hd:=of_decide_eq_false hd;have hi2:i=fs.length:=by omega
      subst hi2;rw [zbg,bp] at hs;rw [hs];have hE:zr (some (o,v))=([],false):=if_pos (.inl ho0);have g00:((0:Int) == 0)=true:=rfl;rw [hE];simp only [f00,g00,ho0,nj,nl,n9,push_cast,↓reduceIte,reduceCtorEq,zB,zE,zA,zS,zL,zD,zM]
    ·simp only [al9,al8,ama,ho0,hv0,n9,hM,push_cast,↓reduceIte,reduceCtorEq,zB,zE,zA,zS,zL,zD,zM];refine b6 (fun hd=>?_) (fun hd=>?_)
     ·have hd:=of_decide_eq_true hd;have hi2:i<fs.length:=by omega
      have hg:=hget hi2;have hsp:=hstep hi2;have hdb:=hFb hi2;rw [hsp] at hs;clear hsp;generalize fs[i]=F at *;have hft:=ai0 F.2.2.2 hdb;have hvt:=ae3 F.2.2.2 hdb;generalize iu F.2.2.2=FD at *;generalize ph F.2.2.2=VD at *;simp only [hg,hM,zaf,zaj,zab,push_cast,↓reduceIte,reduceCtorEq,zB,zE,zA,zS,zL,zD,zM];refine And.intro (by omega) ?_;cases e2:((F.1:Int) == 2) with
      | true=>
       have e2':F.1=2:=by have:=eq_of_beq e2; omega
       simp only [e2,push_cast,↓reduceIte,reduceCtorEq,zB,zE,zA,zS,zL,zD,zM];refine a5 hft rfl trivial ?_;simp only [Fea.rv,push_cast,↓reduceIte,reduceCtorEq,zB,zE,zA,zS,zL,zD,zM];cases ok:FD.2 with
       | false=>
        rw [if_pos e2',ok] at hs;simp only [push_cast,↓reduceIte,reduceCtorEq,zB,zE,zA,zS,zL,zD,zM];rw [hs];exact ⟨rfl,rfl⟩
       | true=>
        rw [if_pos e2',ok] at hs;simp only [w1,push_cast,↓reduceIte,reduceCtorEq,zB,zE,zA,zS,zL,zD,zM];refine ⟨by simp,by first | omega | exact ⟨by omega,by omega⟩,⟨i+1,o++[FD.1],v,by omega,by simp; omega,by omega,hs,by simp [ho0,hv0],by simp [ho0,hv0,Fea.rv,n9,zaa]⟩,by omega⟩
      | false=>
       have e2':¬F.1=2:=by have:=beq_eq_false_iff_ne.1 e2; omega
       rw [if_neg e2'] at hs;cases e4:((F.1:Int) == 4) with
       | true=>
        have e4':F.1=4:=by have:=eq_of_beq e4; omega
        rw [if_pos e4'] at hs;simp only [e2,e4,push_cast,↓reduceIte,reduceCtorEq,zB,zE,zA,zS,zL,zD,zM];refine a5 hvt rfl trivial ?_;simp only [w1,push_cast,↓reduceIte,reduceCtorEq,zB,zE,zA,zS,zL,zD,zM];refine ⟨by simp,by first | omega | exact ⟨by omega,by omega⟩,⟨i+1,o,v++[VD],by omega,by omega,by simp; omega,hs,by simp [ho0,hv0],by simp [ho0,hv0,Fea.rv,n9,zaa]⟩,by omega⟩
       | false=>
        have e4':¬F.1=4:=by have:=beq_eq_false_iff_ne.1 e4; omega
        rw [if_neg e4'] at hs;simp only [e2,e4,w1,push_cast,↓reduceIte,reduceCtorEq,zB,zE,zA,zS,zL,zD,zM];exact ⟨⟨i+1,o,v,by omega,by omega,by omega,hs,by simp [ho0,hv0],by simp [ho0,hv0,Fea.rv,n9]⟩,by omega⟩
     ·have hd:=of_decide_eq_false hd;have hi2:i=fs.length:=by omega
      subst hi2;rw [zbg,bp] at hs;rw [hs];have hL:o.length≠0:=fun e=>ho0 (zbc.1 e);have hE:zr (some (o,v))=([],false):=if_pos (.inr (by rw [hv0,zbf]; omega));have n0:((o.length:Int) == 0)=false:=beq_eq_false_iff_ne.2 (by omega);have w4:IntKind.i64.wrap (4*(o.length:Int))=4*o.length:=a6 (by omega);have n4:((0:Int) != 4*(o.length:Int))=true:=bne_iff_ne.2 (by omega);rw [hE];simp only [f00,n0,w4,n4,nj,nl,n9,push_cast,↓reduceIte,reduceCtorEq,zB,zE,zA,zS,zL,zD,zM]
      done
    ·simp only [al9,al8,ama,ho0,hv0,n9,hM,push_cast,↓reduceIte,reduceCtorEq,zB,zE,zA,zS,zL,zD,zM];refine b6 (fun hd=>?_) (fun hd=>?_)
     ·have hd:=of_decide_eq_true hd;have hi2:i<fs.length:=by omega
      have hg:=hget hi2;have hsp:=hstep hi2;have hdb:=hFb hi2;rw [hsp] at hs;clear hsp;generalize fs[i]=F at *;have hft:=ai0 F.2.2.2 hdb;have hvt:=ae3 F.2.2.2 hdb;generalize iu F.2.2.2=FD at *;generalize ph F.2.2.2=VD at *;simp only [hg,hM,zaf,zaj,zab,push_cast,↓reduceIte,reduceCtorEq,zB,zE,zA,zS,zL,zD,zM];refine And.intro (by omega) ?_;cases e2:((F.1:Int) == 2) with
      | true=>
       have e2':F.1=2:=by have:=eq_of_beq e2; omega
       simp only [e2,push_cast,↓reduceIte,reduceCtorEq,zB,zE,zA,zS,zL,zD,zM];refine a5 hft rfl trivial ?_;simp only [Fea.rv,push_cast,↓reduceIte,reduceCtorEq,zB,zE,zA,zS,zL,zD,zM];cases ok:FD.2 with
       | false=>
        rw [if_pos e2',ok] at hs;simp only [push_cast,↓reduceIte,reduceCtorEq,zB,zE,zA,zS,zL,zD,zM];rw [hs];exact ⟨rfl,rfl⟩
       | true=>
        rw [if_pos e2',ok] at hs;simp only [w1,push_cast,↓reduceIte,reduceCtorEq,zB,zE,zA,zS,zL,zD,zM];refine ⟨by simp,by first | omega | exact ⟨by omega,by omega⟩,⟨i+1,o++[FD.1],v,by omega,by simp; omega,by omega,hs,by simp [ho0,hv0],by simp [ho0,hv0,Fea.rv,n9,zaa]⟩,by omega⟩
      | false=>
       have e2':¬F.1=2:=by have:=beq_eq_false_iff_ne.1 e2; omega
       rw [if_neg e2'] at hs;cases e4:((F.1:Int) == 4) with
       | true=>
        have e4':F.1=4:=by have:=eq_of_beq e4; omega
        rw [if_pos e4'] at hs;simp only [e2,e4,push_cast,↓reduceIte,reduceCtorEq,zB,zE,zA,zS,zL,zD,zM];refine a5 hvt rfl trivial ?_;simp only [w1,push_cast,↓reduceIte,reduceCtorEq,zB,zE,zA,zS,zL,zD,zM];refine ⟨by simp,by first | omega | exact ⟨by omega,by omega⟩,⟨i+1,o,v++[VD],by omega,by omega,by simp; omega,hs,by simp [ho0,hv0],by simp [ho0,hv0,Fea.rv,n9,zaa]⟩,by omega⟩
       | false=>
        have e4':¬F.1=4:=by have:=beq_eq_false_iff_ne.1 e4; omega
        rw [if_neg e4'] at hs;simp only [e2,e4,w1,push_cast,↓reduceIte,reduceCtorEq,zB,zE,zA,zS,zL,zD,zM];exact ⟨⟨i+1,o,v,by omega,by omega,by omega,hs,by simp [ho0,hv0],by simp [ho0,hv0,Fea.rv,n9]⟩,by omega⟩
     ·have hd:=of_decide_eq_false hd;have hi2:i=fs.length:=by omega
      subst hi2;rw [zbg,bp] at hs;rw [hs];have hL:o.length≠0:=fun e=>ho0 (zbc.1 e);have n0:((o.length:Int) == 0)=false:=beq_eq_false_iff_ne.2 (by omega);have w4:IntKind.i64.wrap (4*(o.length:Int))=4*o.length:=a6 (by omega);by_cases h4:v.length=4*o.length
      ·have hE:zr (some (o,v))=(afr o v,true):=if_neg (fun h=>h.elim ho0 (fun h=>h h4));have n4:((v.length:Int) != 4*(o.length:Int))=false:=by rw [h4]; simp
       rw [hE];simp only [f00,n0,w4,n4,nj,nl,push_cast,↓reduceIte,reduceCtorEq,zB,zE,zA,zS,zL,zD,zM]
       refine run_loop [(83,false),(82,false),(7,false),(8,false)] (fun vs pos los=>∃j:Nat,j≤o.length∧vs=[int .i64 j,int .i64 o.length,.own 2000000 0 0 o.length,.own 2000001 0 0 v.length]∧pos=[]∧los=[yo (me o v j),au7 v])
        (fun vs _ _=>match vs with | .r (.v (.int _ a))::_=>(o.length-a).toNat | _=>0) rfl ?_ ?_
       ·simp only [n9,push_cast,↓reduceIte,reduceCtorEq,zB,zE,zA,zS,zL,zD,zM];exact ⟨0,by omega,rfl,by rw [a5l]; rfl⟩
       ·rintro vs pos los ⟨j,hj,rfl,rfl,rfl⟩;have w1:IntKind.i64.wrap ((j:Int)+1)=j+1:=a6 (by omega);have w5:IntKind.i64.wrap (4*(j:Int))=4*j:=a6 (by omega);have hfl2:=ah5 o v j;simp only [hfl2,n9,push_cast,↓reduceIte,reduceCtorEq,zB,zE,zA,zS,zL,zD,zM];refine b6 (fun hd=>?_) (fun hd=>?_)
        ·have hd:=of_decide_eq_true hd;have hi2:j<o.length:=by omega
         have n5:(4*(j:Int)).toNat=4*j:=by omega
         have hP:=a1r o v (Nat.le_refl j) hi2;have hnx:=av6 o v hi2;generalize o.getD j default=P at *
         have hgF:((me o v j).map Fea.rv).getD j n9=.agg [.v (.int .u64 P.w),.sl 2 (P.ring.map ptR),.v (.int .i64 P.c),.v (.int .i64 P.s),.v (.int .i64 P.lo),.v (.int .i64 P.hi)]:=by
          rw [zah,zap,hP]; rfl
         have hset:∀x,(((me o v j).map Fea.rv).set j x).getD j n9=x:=fun x=>by
          rw [zah,List.getElem?_set_self (by rw [zaw,hfl2]; exact hi2)]; rfl
         simp only [w1,w5,hfl2,n5,a8f,hgF,hset,List.set_set,zad,zak,zal,zaq,List.length_set,zaf,zaj,zab,push_cast,↓reduceIte,reduceCtorEq,zB,zE,zA,zS,zL,zD,zM]
         repeat refine And.intro (by omega) ?_
         refine And.intro (by kernel_rfl) ⟨⟨j+1,by omega,rfl,?_⟩,by omega⟩;rw [hnx];simp only [yo,List.map_set,aqu,Fea.rv,au7]
        ·have hd:=of_decide_eq_false hd;obtain rfl:j=o.length:=by omega
         rw [ay5];simp only [hfl2,n9,push_cast,↓reduceIte,reduceCtorEq,zB,zE,zA,zS,zL,zD,zM];rw [show (afr o v).length=o.length by simp [afr]];exact ⟨rfl,rfl⟩
      ·have hE:zr (some (o,v))=([],false):=if_pos (.inr h4);have n4:((v.length:Int) != 4*(o.length:Int))=true:=bne_iff_ne.2 (by omega);rw [hE];simp only [f00,n0,w4,n4,nj,nl,n9,push_cast,↓reduceIte,reduceCtorEq,zB,zE,zA,zS,zL,zD,zM]

noncomputable def aex:PC:=
  (.seq (.reg [p_s 4 (.mov (.c (.r (.v (.bool false)))))])
 (.seq (.reg [p_m 5 0,p_s 6 (.toStr (.t 5)),p_m 7 1,p_s 8 (.toStr (.t 7)),p_s 9 (.bin .eql (.t 6) (.t 8)),p_m 4 9])
 .ret))
theorem aik:Fun P0 47 2 [(4,false,none)] aex:=b5 Go.Proofs.Tryz.func47 rfl (by decide) (by kernel_rfl) (by decide) rfl (by kernel_rfl) (by kernel_rfl) (by decide)
noncomputable def tx:PC:=
  (.seq (.reg [p_s 2 (.mov (.c (.nils 6 (.agg [(.v (.int .u64 0)),(.sl 2 []),(.v (.int .i64 0)),(.v (.int .i64 0)),(.v (.int .i64 0)),(.v (.int .i64 0))])))),p_s 3 (.mov (o_i 0))])
 (.seq (.seq (.reg [p_m 6 0,p_s 7 (.len false (.t 6)),p_s 8 (.bin .eql (.t 7) (o_i 0))])
 (.cond (.t 8)
 (.seq (.reg [p_s 2 (.mov (.c (.nils 6 (.agg [(.v (.int .u64 0)),(.sl 2 []),(.v (.int .i64 0)),(.v (.int .i64 0)),(.v (.int .i64 0)),(.v (.int .i64 0))])))),p_s 3 (.mov (o_i 0))])
 .ret)
 .skip))
 (.seq (.reg [p_m 10 0,p_c 11 1 46 [.t 10],p_m 9 11,p_s 12 (.ext (.t 9) 0),p_s 13 (.ext (.t 9) 1),p_m 4 12,p_m 5 13])
 (.seq (.seq (.reg [p_m 14 5,p_s 15 (.un .not (.t 14)),p_m 16 15,p_g 17 16 false (.mov (.t 4)),⟨(some 18),(some (16,false)),2,.call 40 [(.t 17)]⟩,p_g 19 16 false (.mov (.t 0)),
 ⟨(some 20),(some (16,false)),3,.call 47 [(.t 18),(.t 19)]⟩,p_g 21 16 false (.un .not (.t 20)),p_s 22 (.pick (.t 16) (.c (.r (.v (.bool true)))) (.t 21))])
 (.cond (.t 22)
 (.seq (.reg [p_s 2 (.mov (.c (.nils 6 (.agg [(.v (.int .u64 0)),(.sl 2 []),(.v (.int .i64 0)),(.v (.int .i64 0)),(.v (.int .i64 0)),(.v (.int .i64 0))])))),p_s 3 (.mov (o_i 10))])
 .ret)
 .skip))
 (.seq (.reg [p_m 23 4,p_m 2 23,p_s 3 (.mov (o_i 0))])
 .ret)))))
theorem aks:Fun P0 22 1 [(2,false,none),(3,false,none)] tx:=b5 Go.Proofs.Tryz.func22 rfl (by decide) (by kernel_rfl) (by decide) rfl (by kernel_rfl) (by kernel_rfl) (by decide)
theorem a11 {l:List Int} (h:u64L l):∀j,in64 (oy l j).1∧in64 (oy l j).2
 | 0=>⟨aqx _ (sh h 1).1 (sh h 1).2,aqx _ (sh h 2).1 (sh h 2).2⟩
 | j+1=>⟨se _,se _⟩
theorem a0r {l:List Int} (h:u64L l):i64P (t8 l):=fun p hp=>by
 unfold t8 at hp;split at hp
 ·obtain ⟨j,_,rfl⟩:=zao.1 hp;exact a11 h j
 ·simp at hp
theorem ahe (l:List Int):(t8 l).length≤l.length:=by
 unfold t8;split
 ·rename_i h
  have:9≤l.length:=by
   simp only [v4,Bool.and_eq_true,decide_eq_true_eq] at h;exact h.1
  simp only [u5,zaw,List.length_range];omega
 ·simp
theorem a1s (b:List UInt8) (hb:b.length≤100000):(iu b).1.ok:=by
 unfold iu;split
 ·rename_i x y z u e;have hx:=di e x (by simp);have hu:=di e u (by simp);have hn:=ap3 u.2.2.2;have hr:=ahe (bq u.2.2.2);refine ⟨by simp only; omega,?_,a0r (ap2 _),by refine ⟨?_,?_,?_,?_⟩<;>(show in64 0; decide)⟩;simp only;omega
 ·exact ⟨by decide,by decide,fun p hp=>by simp at hp,by decide⟩
theorem a3m (b:List UInt8):in64 (ph b):=by
 unfold ph;split
 ·rename_i x e;have hx:=di e x (by simp);exact aqx _ (by omega) (by omega)
 ·decide
theorem ae9:∀(fs:List Fld) (o:List Fea) (v:List Int),(∀x∈fs,x.2.2.2.length≤100000)→(∀f∈o,f.ok)→(∀n∈v,in64 n)→∀p,bp fs o v=some p→(∀f∈p.1,f.ok)∧(∀n∈p.2,in64 n)∧p.1.length≤o.length+fs.length
 | [],o,v,h,ho,hv,p,e=>by
  cases e;exact ⟨ho,hv,by simp⟩
 | x::r,o,v,h,ho,hv,p,e=>by
  have hr:∀y∈r,y.2.2.2.length≤100000:=fun y hy=>h y (by simp [hy]);rw [bp] at e;split at e
  ·split at e
   ·obtain ⟨a,b,c⟩:=ae9 r _ _ hr (fun f hf=>by
     rcases zax.1 hf with hf | hf
     ·exact ho f hf
     ·rw [zbd.1 hf]
      exact a1s _ (h x (by simp))) hv p e
    refine ⟨a,b,?_⟩;simp only [zai,zam,zbf] at c ⊢;omega
   ·cases e
  ·split at e
   ·obtain ⟨a,b,c⟩:=ae9 r _ _ hr ho (fun n hn=>by
     rcases zax.1 hn with hn | hn
     ·exact hv n hn
     ·rw [zbd.1 hn]
      exact a3m _) p e
    refine ⟨a,b,?_⟩;simp only [zam];omega
   ·obtain ⟨a,b,c⟩:=ae9 r _ _ hr ho hv p e;refine ⟨a,b,?_⟩;simp only [zam];omega
theorem aiy {v:List Int} (h:∀n∈v,in64 n) (i:Nat):in64 (v.getD i 0):=by
 rw [zah];cases e:v[i]? with
 | none=>decide
 | some x=>exact h x (zba e)
theorem a0c (b:List UInt8) (hb:b.length≤100000):(∀f∈(dw b).1,f.ok)∧(dw b).1.length≤b.length∧((dw b).2=true→(dw b).1≠[]):=by
 unfold dw;split
 ·rename_i x e;have hx:=di e x (by simp);split
  ·rename_i fs e2;have hl:=yp e2;have hf:=di e2;cases hs:bp fs [] [] with
   | none=>exact ⟨by simp [zr],by simp [zr],by simp [zr]⟩
   | some p=>
    obtain ⟨o,v⟩:=p;obtain ⟨a,b,c⟩:=ae9 fs [] [] (fun y hy=>by have:=hf y hy; omega) (by simp) (by simp) _ hs;simp only [zbf] at c;simp only [zr];split
    ·exact ⟨by simp,by simp,by simp⟩
    ·rename_i hn;have hL:o.length≠0:=fun e=>hn (.inl (zbc.1 e));refine ⟨fun f hf=>?_,?_,fun _ e=>hL ?_⟩
     ·obtain ⟨i,hi,rfl⟩:=zao.1 hf;have hg:=av5 a (List.mem_range.1 hi);exact ⟨hg.1,hg.2.1,hg.2.2.1,aiy b _,aiy b _,aiy b _,aiy b _⟩
     ·simp only [afr,zaw,List.length_range];omega
     ·have:=congrArg List.length e;simpa [afr] using this
  ·exact ⟨by simp,by simp,by simp⟩
 ·exact ⟨by simp,by simp,by simp⟩
theorem a2b (a b:List UInt8) (ha:a.length≤1000000000000) (hb:b.length≤1000000000000):a7 P0 47 [sb a,sb b] [] (bl (decide (a=b))) []:=by
 refine aik rfl (by decide) ?_;have hmx:=d5;simp only [aex,aa4,adu,aim,push_cast,↓reduceIte,reduceCtorEq,zB,zE,zA,zS,zL,zD,zM];by_cases h:a=b
 ·subst h; simp
 ·rw [decide_eq_false h,beq_eq_false_iff_ne.2 h]
theorem ay2 (l:List UInt8):iv (jp l):=fun x hx=>by
 obtain ⟨c,_,rfl⟩:=zao.1 hx;exact trivial
def rdT (b:List UInt8):Option (List Fea):=if b=[] then some [] else if (dw b).2=true∧cd (dw b).1=b then some (dw b).1 else none
def rdR:Option (List Fea)→AV
 | none=>.tup [.nils 6 n9,int .i64 10]
 | some []=>.tup [.nils 6 n9,int .i64 0]
 | some (f::l)=>.tup [.own 1000000 0 0 (f::l).length,int .i64 0]
def rdO:Option (List Fea)→List Ob
 | none=>[]
 | some []=>[]
 | some (f::l)=>[yo (f::l)]
theorem ark {m:List Fea} (hm:m≠[]):rdR (some m)=.tup [.own 1000000 0 0 m.length,int .i64 0]∧rdO (some m)=[yo m]:=by
 cases m with
 | nil=>exact absurd rfl hm
 | cons=>exact ⟨rfl,rfl⟩
set_option maxHeartbeats 1000000 in
theorem a3o (b:List UInt8) (hb:b.length≤100000):a7 P0 22 [sb b] [] (rdR (rdT b)) (rdO (rdT b)):=by
 refine aks rfl (by decide) ?_;have hmx:=d5;by_cases h0:b=[]
 ·subst h0;simp only [tx,push_cast,↓reduceIte,reduceCtorEq,zB,zE,zA,zS,zL,zD,zM];rw [show rdT []=some [] from if_pos rfl];exact ⟨rfl,rfl⟩
 have hL:b.length≠0:=fun e=>h0 (zbc.1 e);have n0:((b.length:Int) == 0)=false:=beq_eq_false_iff_ne.2 (by omega);obtain ⟨q1,q2,q3⟩:=a0c b hb;have ht:=a6s b (by omega);have hrd:rdT b=if (dw b).2=true∧cd (dw b).1=b then some (dw b).1 else none:=if_neg h0
 rw [hrd];generalize dw b=T at *;obtain ⟨l,ok⟩:=T;cases ok with
 | false=>
  simp only [tx,n0,push_cast,↓reduceIte,reduceCtorEq,zB,zE,zA,zS,zL,zD,zM];refine a5 ht rfl trivial ?_;simp only [nj,nl,push_cast,↓reduceIte,reduceCtorEq,zB,zE,zA,zS,zL,zD,zM];exact ⟨rfl,rfl⟩
 | true=>
  have hly:=aud l (by simp only at q2; omega) q1;have hll:=av0 q1;simp only at hll q2 q3;have heq:=a2b (cd l) b (by omega) (by omega);simp only [tx,n0,push_cast,↓reduceIte,reduceCtorEq,zB,zE,zA,zS,zL,zD,zM];refine a5 ht rfl trivial ?_;simp only [nj,nl,push_cast,↓reduceIte,reduceCtorEq,zB,zE,zA,zS,zL,zD,zM];refine da ?_;refine a9 (as':=[y8 l]) rfl ?_;refine fw hly rfl trivial trivial (by intro o ho; rw [zbd.1 ho]; exact ay2 _) ?_;generalize cd l=LL at *;simp only [push_cast,↓reduceIte,reduceCtorEq,zB,zE,zA,zS,zL,zD,zM];refine f6 ?_;refine a9 (as':=[sb LL,sb b]) rfl ?_;refine a5 heq rfl trivial ?_;have q3:=q3 trivial;by_cases he:LL=b
  ·have hd:decide (LL=b)=true:=decide_eq_true he;rw [if_pos he,(ark q3).1,(ark q3).2];simp only [hd,push_cast,↓reduceIte,reduceCtorEq,zB,zE,zA,zS,zL,zD,zM]
   done
  ·have hd:decide (LL=b)=false:=decide_eq_false he;rw [if_neg he];simp only [hd,rdR,rdO,n9,push_cast,↓reduceIte,reduceCtorEq,zB,zE,zA,zS,zL,zD,zM]
   done

noncomputable def ag3:PC:=
  (.seq (.reg [p_a 2 (.box (.t 0)),p_s 4 (.mov (.c (.nils 1 (.v (.int .u8 0))))),p_s 5 (.mov (o_i 0))])
 (.seq (.reg [p_s 14 (.ld (some 4) (.t 2)),p_m 15 1,p_c 16 1 37 [.t 14,.t 15],p_m 13 16,p_s 17 (.ext (.t 13) 0),p_s 18 (.ext (.t 13) 1),p_m 6 17,p_m 7 18])
 (.seq (.seq (.reg [p_m 19 7,p_s 20 (.bin .neq (.t 19) (o_i 0)),p_m 21 20,p_g 22 21 false (.mov (.t 6)),p_g 23 21 false (.len false (.t 22)),p_g 24 21 false (.bin .eql (.t 23) (o_i 0)),
 p_s 25 (.pick (.t 21) (.c (.r (.v (.bool true)))) (.t 24))])
 (.cond (.t 25)
 (.seq (.reg [p_m 26 7,p_s 4 (.mov (.c (.nils 1 (.v (.int .u8 0))))),p_m 5 26])
 .ret)
 .skip))
 (.seq (.reg [p_s 8 (.mov (.c (.nils 6 (.agg [(.v (.int .u64 0)),(.sl 2 []),(.v (.int .i64 0)),(.v (.int .i64 0)),(.v (.int .i64 0)),(.v (.int .i64 0))]))))])
 (.seq (.seq (.reg [p_m 27 6,p_s 28 (.len false (.t 27)),p_s 29 (.mov (o_i 0))])
 (.block 0 (.loop (.seq (.reg [p_s 30 (.bin .lss (.t 29) (.t 28))])
 (.seq (.cond (.t 30)
 .skip
 (.exit 0))
 (.seq (.block 1 (.seq (.reg [p_s 31 (.ia 1 (.v (.int .u64 0)) (.t 27) (.t 29)),p_s 32 (.ld none (.t 31)),p_m 10 32])
 (.seq (.reg [p_m 34 1,p_m 35 10,p_c 36 2 38 [.t 34,.t 35],p_m 33 36,p_s 37 (.ext (.t 33) 0),p_s 38 (.ext (.t 33) 1),p_a 11 (.new [(.r (.v (.int .u64 0))),(.r (.v (.int .i64 0))),(.r (.v (.int .i64 0))),(.r (.v (.int .i64 0))),(.r (.v (.int .i64 0)))]),
 ⟨none,none,0,.act (.st 5 (.t 11) (.t 37))⟩,p_m 12 38])
 (.drw [p_m 39 8,p_m 40 10,p_s 41 (.ld (some 4) (.t 2)),p_m 42 10,p_c 43 3 39 [.t 41,.t 42],p_s 44 (.fa 1 (.t 11)),p_s 45 (.ld none (.t 44)),p_s 46 (.fa 2 (.t 11)),
 p_s 47 (.ld none (.t 46)),p_s 48 (.fa 3 (.t 11)),p_s 49 (.ld none (.t 48)),p_s 50 (.fa 4 (.t 11)),p_s 51 (.ld none (.t 50)),p_s 52 (.build [(.r (.v (.int .u64 0))),(.nils 2 (.agg [(.v (.int .i64 0)),(.v (.int .i64 0))])),(.r (.v (.int .i64 0))),(.r (.v (.int .i64 0))),(.r (.v (.int .i64 0))),(.r (.v (.int .i64 0)))] [(0,1,(.t 40)),(1,1,(.t 43)),(2,1,(.t 45)),(3,1,(.t 47)),(4,1,(.t 49)),(5,1,(.t 51))]),
 p_a 53 (.bsl 6 (.agg [(.v (.int .u64 0)),(.sl 2 []),(.v (.int .i64 0)),(.v (.int .i64 0)),(.v (.int .i64 0)),(.v (.int .i64 0))]) [(.t 52)]),p_a 54 (.app 6 (.agg [(.v (.int .u64 0)),(.sl 2 []),(.v (.int .i64 0)),(.v (.int .i64 0)),(.v (.int .i64 0)),(.v (.int .i64 0))]) 64 (.t 39) (.t 53)),
 p_m 8 54]
 [[],[],[],[],[2,3],[],[5],[],[7],[],[9],[],[11],[1,2,3,4,5,6,7,8,9,10,11,12],[1,2,3,4,5,6,7,8,9,10,11,12,13],[0,1,2,3,4,5,6,7,8,9,10,11,12,13,14],[0,1,2,3,4,5,6,7,8,9,10,11,12,13,14,15]]))))
 (.reg [p_s 55 (.bin .add (.t 29) (o_i 1)),p_m 29 55])))))))
 (.seq (.reg [p_m 56 8,p_c 57 4 40 [.t 56],p_m 4 57,p_s 5 (.mov (o_i 0))])
 .ret))))))
theorem akt:Fun P0 19 2 [(4,false,none),(5,false,none)] ag3:=b5 Go.Proofs.Tryz.func19 rfl (by decide) (by kernel_rfl) (by decide) rfl (by kernel_rfl) (by kernel_rfl) (by decide)
def s7 (L:List Pt) (t:Til) (n:Int):Fea:=⟨n,v9 t (r9 n.toNat t.r.toNat),((mem L n.toNat).length:Nat),abi (mem L n.toNat),loV (mem L n.toNat),hiV (mem L n.toNat)⟩
def aie (L:List Pt) (t:Til):List Fea:=(z9 L t).map (s7 L t)
def ans (L:List Pt) (t:Til):List UInt8:=if z9 L t=[] then [] else cd (aie L t)
theorem arb {L:List Pt} {t:Til} {n:Int} (h:n∈z9 L t):∃p∈L,n=((p.w t.r.toNat:Nat):Int):=by
 unfold z9 at h;obtain ⟨i,hi,e⟩:=List.mem_iff_getElem.1 (List.mem_filter.1 h).1;exact anz (i:=i) (by rw [zau hi,e])
theorem aoe {L:List Pt} {p:Pt} (hp:p∈L) {r:Nat} (hr:r<13):mem L (p.w r)≠[]:=fun e=>by
 have:p∈mem L (p.w r):=List.mem_filter.2 ⟨hp,aoy.2 ⟨r,hr,rfl⟩⟩;rw [e] at this;simp at this
theorem ats:∀{M:List Pt},(∀p∈M,p.ok)→-2147483648*(M.length:Int)≤abi M∧abi M≤2147483648*(M.length:Int)
 | [],_=>by simp [abi]
 | p::M,h=>by
  have h1:=ats (M:=M) fun q hq=>h q (by simp [hq]);have h2:=(h p (by simp)).2.2;simp only [abi,zbb,List.sum_cons,zam] at h1 ⊢;omega
theorem a4s {t:Til} {z:Ei} (ht:tis t=true) (hb:uz z t.r.toNat):∀p∈lv t z,(-1099511627776≤p.1∧p.1≤1099511627776)∧(-1099511627776≤p.2∧p.2≤1099511627776):=fun p hp=>by
 have hin:=aec ht;have hr:0≤t.z∧t.z≤18∧0≤t.r∧t.r≤12∧0≤t.x∧t.x<2^t.z.toNat∧0≤t.y∧t.y<2^t.z.toNat:=by simpa [tis] using ht
 have hsd:=aa9 ⟨hr.1,hr.2.1⟩;obtain ⟨q,hq,rfl⟩:=zao.1 hp;obtain ⟨i,hi,rfl⟩:=zao.1 hq;have:=hb i (List.mem_range.1 hi);have e:aiq t=2^(30-t.z).toNat:=rfl;rw [Int.add_mul,Int.one_mul,Int.add_mul,Int.one_mul] at hin;simp only [shP,e];generalize t.x*2^(30-t.z).toNat=A at *;generalize t.y*2^(30-t.z).toNat=B at *;omega
theorem ay6 {L:List Pt} (hL:L.length<13) (hok:∀p∈L,p.ok) {t:Til} (hti:tis t=true) {p:Pt} (hp:p∈L):(s7 L t ((p.w t.r.toNat:Nat):Int)).ok:=by
 have hr:0≤t.z∧t.z≤18∧0≤t.r∧t.r≤12∧0≤t.x∧t.x<2^t.z.toNat∧0≤t.y∧t.y<2^t.z.toNat:=by simpa [tis] using hti
 have hpo:=hok p hp;have hwr:=Pt.w_res hpo (show t.r.toNat<13 by omega);have hk:=xe p.x p.y t.r.toNat hpo.2.1.1 hpo.2.1.2 (by omega);obtain ⟨c1,c2,c3,c4⟩:=yi t.r.toNat _ hk;have hz:r9 (p.w t.r.toNat) t.r.toNat=c9 p.x p.y t.r.toNat:=by rw [show p.w t.r.toNat=s9 t.r.toNat (c9 p.x p.y t.r.toNat) from rfl,c3]
 have hl:=avy p.x p.y t.r.toNat (by omega);have hb:uz (c9 p.x p.y t.r.toNat) t.r.toNat:=aas (by omega) hpo.2.1 hl;have hM:∀q∈mem L (p.w t.r.toNat),q.ok:=fun q hq=>hok q (List.mem_filter.1 hq).1;have hml:(mem L (p.w t.r.toNat)).length≤L.length:=List.length_filter_le ..;have hne:=aoe hp (r:=t.r.toNat) (by omega);have hs:=ats hM;obtain ⟨⟨a,a1,a2⟩,_⟩:=ayp hne;obtain ⟨⟨b,b1,b2⟩,_⟩:=ayv hne;have ha:=(hM a a1).2.2;have hbb:=(hM b b1).2.2;unfold s7;rw [zaf,hz];refine ⟨⟨by simp only; omega,by simp only; omega⟩,?_,fun q hq=>?_,?_,?_,?_,?_⟩
 ·have:=axc t hr.2.2.2.1 (c9 p.x p.y t.r.toNat);simp only;omega
 ·have:=a0k t ⟨hr.1,hr.2.1⟩ _ (a4s hti hb) q hq;unfold in64;omega
 ·unfold in64; simp only; omega
 ·unfold in64; simp only; omega
 ·unfold in64; simp only; omega
 ·unfold in64; simp only; omega
theorem aza {L:List Pt} (hL:L.length<13) (hok:∀p∈L,p.ok) {t:Til} (hti:tis t=true):∀f∈aie L t,f.ok:=fun f hf=>by
 obtain ⟨n,hn,rfl⟩:=zao.1 hf;obtain ⟨p,hp,rfl⟩:=arb hn;exact ay6 hL hok hti hp
theorem axb (L:List Pt) (t:Til):(z9 L t).length≤L.length:=Nat.le_trans (List.length_filter_le ..) (aa2 L _)
set_option maxHeartbeats 2000000 in
theorem draw_t (L : List Pt) (hL : L.length < 13) (hok : ∀ p ∈ L, p.ok) (t : Til) (ht : t.ok) (hti : tis t = true) (hf : fine t = false) {res : AV} {ro : List Ob}
    (hres:(z9 L t=[]∧res=.tup [.nils 1 (.v (.int .u8 0)),int .i64 0]∧ro=[.abs (sT L)])∨(z9 L t≠[]∧res=.tup [.own 1000001 0 0 (ans L t).length,int .i64 0]∧ro=[.abs (sT L),jp (ans L t)])) :
    a7 P0 19 [t.v,.ptr 1000000 0 0] [.abs (sT L)] res ro:=by
  refine akt rfl (by simp) ?_;have hmx:=d5;have hc:=az7 L hL hok t ht hti hf;have hsl:=axb L t;have hsa:=fun n h=>arb (L:=L) (t:=t) (n:=n) h;have f00:((0:Int) != 0)=false:=rfl;have hdk:=aza hL hok hti;have hdl:ans L t=if z9 L t=[] then [] else cd (aie L t):=rfl
  rw [hdl] at hres;have hdn:aie L t=(z9 L t).map (s7 L t):=rfl;rw [hdn] at hdk hres;clear hdl hdn;generalize z9 L t=S at *;simp only [ag3,Til.v,push_cast,↓reduceIte,reduceCtorEq,zB,zE,zA,zS,zL,zD,zM];refine a9 (as':=[t.v,.ptr 1000000 0 0]) rfl ?_;refine a5 hc rfl ⟨rfl,trivial⟩ ?_;by_cases hS:S=[]
  · subst hS;have g00:((0:Int) == 0)=true:=rfl;rcases hres with ⟨_,rfl,rfl⟩ | ⟨h,_⟩
    · simp only [q7,f00,g00,push_cast,↓reduceIte,reduceCtorEq,zB,zE,zA,zS,zL,zD,zM]
    · exact absurd rfl h
  have hSl:S.length≠0:=fun e=>hS (zbc.1 e);have n0:((S.length:Int) == 0)=false:=beq_eq_false_iff_ne.2 (by omega);simp only [q7,f00,n0,push_cast,↓reduceIte,reduceCtorEq,zB,zE,zA,zS,zL,zD,zM];rcases hres with ⟨h,_⟩ | ⟨_,rfl,rfl⟩
  · exact absurd h hS
  rw [if_neg hS];have hT:∀i,((S.take i).map (s7 L t)).length≤50:=fun i=>by simp; omega
  refine run_loop [(29, false), (28, false), (27, false), (8, false), (2, false), (1, false)] (fun vs pos los => ∃ i : Nat, i ≤ S.length ∧ pos = [.abs (sT L)] ∧
      (i=0∧vs=[int .i64 i,int .i64 S.length,.own 2000000 0 0 S.length,.nils 6 n9,.ptr 2000001 0 0,.ptr 1000000 0 0]∧los=[q7 S,.box [int .i64 t.z,int .i64 t.x,int .i64 t.y,int .i64 t.r]] ∨
       0<i∧vs=[int .i64 i,int .i64 S.length,.own 2000000 0 0 S.length,.own 2000001 0 0 i,.ptr 2000002 0 0,.ptr 1000000 0 0]∧los=[q7 S,yo ((S.take i).map (s7 L t)),.box [int .i64 t.z,int .i64 t.x,int .i64 t.y,int .i64 t.r]]))
    (fun vs _ _=>match vs with | .r (.v (.int _ a))::_=>(S.length-a).toNat | _=>0) rfl ?_ ?_
  · simp only [n9,q7,push_cast,↓reduceIte,reduceCtorEq,zB,zE,zA,zS,zL,zD,zM];exact ⟨0,by omega,by simp⟩
  · rintro vs pos los ⟨i,hi,rfl,hc⟩;have w1:IntKind.i64.wrap ((i:Int)+1)=i+1:=a6 (by omega)
    have hstep:i<S.length→∃p∈L,S[i]?=some ((p.w t.r.toNat:Nat):Int):=fun h=>by
      obtain ⟨p,hp,e⟩:=hsa S[i] (List.getElem_mem h);exact ⟨p,hp,by rw [zau h,e]⟩
    have hr:0≤t.z∧t.z≤18∧0≤t.r∧t.r≤12∧0≤t.x∧t.x<2^t.z.toNat∧0≤t.y∧t.y<2^t.z.toNat:=by simpa [tis] using hti
    rcases hc with ⟨h0,rfl,rfl⟩ | ⟨h0,rfl,rfl⟩
    · subst h0;have dS:decide ((0:Int)<(S.length:Int))=true:=decide_eq_true (by omega);obtain ⟨p,hp,hn⟩:=hstep (by omega);have hpo:=hok p hp;have hk:=xe p.x p.y t.r.toNat hpo.2.1.1 hpo.2.1.2 (by omega);obtain ⟨c1,c2,c3,c4⟩:=yi t.r.toNat _ hk;have hz:r9 (p.w t.r.toNat) t.r.toNat=c9 p.x p.y t.r.toNat:=by rw [show p.w t.r.toNat=s9 t.r.toNat (c9 p.x p.y t.r.toNat) from rfl,c3]
      have hb:=aas (by omega) hpo.2.1 (avy p.x p.y t.r.toNat (by omega));have hvs:=aq4 t hti hf (c9 p.x p.y t.r.toNat) hk hb;have hcy:=asw L (p.w t.r.toNat) (aoe hp (by omega));have hfe:s7 L t ((p.w t.r.toNat:Nat):Int)=⟨(p.w t.r.toNat:Nat),v9 t (c9 p.x p.y t.r.toNat),((mem L (p.w t.r.toNat)).length:Nat),abi (mem L (p.w t.r.toNat)),loV (mem L (p.w t.r.toNat)),hiV (mem L (p.w t.r.toNat))⟩:=by unfold s7; rw [zaf,hz]
      have hwe:p.w t.r.toNat=s9 t.r.toNat (c9 p.x p.y t.r.toNat):=rfl;rw [← hwe] at hvs;have hgU:=fun z=>yn hn z;have hgU0:=fun z=>aap hn z;simp only [zae] at hgU hgU0 w1
      have hnx:(S.take 1).map (s7 L t)=[s7 L t ((p.w t.r.toNat:Nat):Int)]:=by
        rw [zbe,hn]; rfl
      generalize v9 t (c9 p.x p.y t.r.toNat)=Q at *;have htq:zac Q.length (Q.map ptR)=Q.map ptR:=j7 Q;simp only [n9,q7,dS,hgU,hgU0,zae,push_cast,↓reduceIte,reduceCtorEq,zB,zE,zA,zS,zL,zD,zM];refine And.intro (by omega) ?_;refine a5 hcy rfl ⟨rfl,trivial⟩ ?_;simp only [push_cast,↓reduceIte,reduceCtorEq,zB,zE,zA,zS,zL,zD,zM];refine o6 (as':=[t.v,uw (p.w t.r.toNat:Nat)]) rfl ?_;refine c8 hvs rfl trivial ?_;simp only [g7,pnt,htq,w1,push_cast,↓reduceIte,reduceCtorEq,zB,zE,zA,zS,zL,zD,zM];refine And.intro (by simp) (And.intro (by omega) (And.intro (by kernel_rfl) ⟨⟨1,by omega,.inr ⟨by omega,rfl,?_⟩⟩,by omega⟩));rw [hnx,hfe]; rfl
    · simp only [n9,q7,yo,push_cast,↓reduceIte,reduceCtorEq,zB,zE,zA,zS,zL,zD,zM];refine b6 (fun hd=>?_) (fun hd=>?_)
      · have hd:=of_decide_eq_true hd;obtain ⟨p,hp,hn⟩:=hstep (by omega);have hpo:=hok p hp;have hk:=xe p.x p.y t.r.toNat hpo.2.1.1 hpo.2.1.2 (by omega);obtain ⟨c1,c2,c3,c4⟩:=yi t.r.toNat _ hk;have hz:r9 (p.w t.r.toNat) t.r.toNat=c9 p.x p.y t.r.toNat:=by rw [show p.w t.r.toNat=s9 t.r.toNat (c9 p.x p.y t.r.toNat) from rfl,c3]
        have hb:=aas (by omega) hpo.2.1 (avy p.x p.y t.r.toNat (by omega));have hvs:=aq4 t hti hf (c9 p.x p.y t.r.toNat) hk hb;have hcy:=asw L (p.w t.r.toNat) (aoe hp (by omega));have hfe:s7 L t ((p.w t.r.toNat:Nat):Int)=⟨(p.w t.r.toNat:Nat),v9 t (c9 p.x p.y t.r.toNat),((mem L (p.w t.r.toNat)).length:Nat),abi (mem L (p.w t.r.toNat)),loV (mem L (p.w t.r.toNat)),hiV (mem L (p.w t.r.toNat))⟩:=by unfold s7; rw [zaf,hz]
        have hwe:p.w t.r.toNat=s9 t.r.toNat (c9 p.x p.y t.r.toNat):=rfl;rw [← hwe] at hvs;have hgU:=fun z=>yn hn z;have hgU0:=fun z=>aap hn z;generalize v9 t (c9 p.x p.y t.r.toNat)=Q at *;have htq:zac Q.length (Q.map ptR)=Q.map ptR:=j7 Q;have hTi:=hT i;have htk:zac i (((S.take i).map (s7 L t)).map Fea.rv)=((S.take i).map (s7 L t)).map Fea.rv:=zaa (by simp; omega)
        have hnx:(S.take (i+1)).map (s7 L t)=(S.take i).map (s7 L t)++[s7 L t ((p.w t.r.toNat:Nat):Int)]:=by
          rw [zbe,hn,List.map_append]; rfl
        simp only [n9,q7,hgU,hgU0,push_cast,↓reduceIte,reduceCtorEq,zB,zE,zA,zS,zL,zD,zM];refine And.intro (by omega) ?_;refine a5 hcy rfl ⟨rfl,trivial⟩ ?_;simp only [push_cast,↓reduceIte,reduceCtorEq,zB,zE,zA,zS,zL,zD,zM];refine o6 (as':=[t.v,uw (p.w t.r.toNat:Nat)]) rfl ?_;refine c8 hvs rfl trivial ?_;simp only [g7,pnt,htq,htk,w1,push_cast,↓reduceIte,reduceCtorEq,zB,zE,zA,zS,zL,zD,zM];refine And.intro (by simp) (And.intro ⟨by omega,by omega⟩ (And.intro (by kernel_rfl) ⟨⟨i+1,by omega,.inr ⟨by omega,rfl,?_⟩⟩,by omega⟩));rw [hnx,hfe,List.map_append]; rfl
      · have hd:=of_decide_eq_false hd;obtain rfl:i=S.length:=by omega
        rw [List.take_length];have hly:=aud (S.map (s7 L t)) (by simp; omega) hdk;have htk:zac S.length ((S.map (s7 L t)).map Fea.rv)=(S.map (s7 L t)).map Fea.rv:=zaa (by simp);simp only [htk,push_cast,↓reduceIte,reduceCtorEq,zB,zE,zA,zS,zL,zD,zM];refine f6 ?_;refine a9 (as':=[y8 (S.map (s7 L t))]) rfl ?_;refine a5 hly rfl trivial ?_;simp only [push_cast,↓reduceIte,reduceCtorEq,zB,zE,zA,zS,zL,zD,zM]

theorem a0w {L:List Pt} {os:List Ob} (h:SS L os) (p:Pt) (hpo:p.ok) (hk:has L p.k=false) (hlt:L.length<2):∃os',SS (L++[p]) os'∧a7 P0 36 [.ptr 1000000 0 0,p.av] os (bl true) (os'++[]):=by
 obtain ⟨es,c,ns,ce,cc,h,rfl⟩:=h;have hn:=auk.1 hk;obtain ⟨a1,a2,a3,a4⟩:=a2y h.pm hn;refine ⟨_,⟨_,_,_,_,_,h.put hpo hn (by omega),rfl⟩,?_⟩;rw [List.append_nil];refine a0x h hpo hn hlt (a8l h p.k hn) a1 ⟨⟨0,0,0,0⟩,a3 _⟩ ?_;rw [a2,a7h h.pm];exact .inr ⟨rfl,by omega⟩
theorem a4w (L:List Pt) (p:Pt) (hpo:p.ok) (hk:has L p.k=false) (hlt:L.length<2):a7 P0 36 [.ptr 1000000 0 0,p.av] [.abs (sT L)] (bl true) [.abs (sT (L++[p]))]:=
 a03 (F:=SF L) (F':=SF (L++[p])) rfl (fun os h=>a0w h p hpo hk hlt) rfl (by simp) (by simp [v8,eh])
theorem a93 (l:List Pt) (hl:l.length<2) (hok:∀p∈l,p.ok) (hnd:(l.map (·.k)).Nodup):a7 P0 18 [.r (pts l)] [] (.ptr 1000000 0 0) [.abs (sT l)]:=by
 refine ame rfl (by decide) ?_;simp only [ajt,pts,push_cast,↓reduceIte,reduceCtorEq,zB,zE,zA,zS,zL,zD,zM];refine a5 a22 rfl trivial ?_;simp only [push_cast,↓reduceIte,reduceCtorEq,zB,zE,zA,zS,zL,zD,zM]
 refine run_loop [(3,false),(7,false),(8,false),(9,false)] (fun vs pos los=>∃(i:Nat),i≤l.length∧vs=[.ptr 2000000 0 0,.r (pts l),int .i64 l.length,int .i64 i]∧pos=[]∧los=[.abs (sT (l.take i))])
  (fun vs _ _=>match vs with | [_,_,_,.r (.v (.int _ j))]=>(l.length-j).toNat | _=>0) rfl ?_ ?_
 ·simp only [pts,push_cast,↓reduceIte,reduceCtorEq,zB,zE,zA,zS,zL,zD,zM];exact ⟨0,by omega,by simp⟩
 ·rintro vs pos los ⟨i,hi,rfl,rfl,rfl⟩;simp only [pts,push_cast,↓reduceIte,reduceCtorEq,zB,zE,zA,zS,zL,zD,zM];refine b6 (fun h=>?_) (fun h=>?_)
  ·have h':i<l.length:=by simpa using h
   obtain ⟨p,hp⟩:∃p,l[i]?=some p:=⟨l[i],by simp [h']⟩
   have hj1:IntKind.i64.wrap ((i:Int)+1)=(i:Int)+1:=a6 ⟨by omega,by omega⟩;have hpm:=zba hp;have htk:l.take (i+1)=l.take i++[p]:=by rw [zbe,hp]; rfl
   have hno:has (l.take i) p.k=false:=auk.2 fun q hq e=>by
    have hs:((l.take (i+1)).map (·.k)).Nodup:=hnd.sublist ((List.take_sublist _ _).map _);rw [htk,List.map_append,List.nodup_append] at hs;exact hs.2.2 q.k (List.mem_map_of_mem hq) p.k (by simp) e
   simp only [a4x hp,zaw,push_cast,↓reduceIte,reduceCtorEq,zB,zE,zA,zS,zL,zD,zM];refine And.intro ⟨by omega,by omega⟩ ?_;refine a9 (as':=[.ptr 1000000 0 0,p.av]) rfl ?_;refine a5 (a4w (l.take i) p (hok p hpm) hno (by simp; omega)) rfl ⟨rfl,trivial⟩ ?_;simp only [hj1,push_cast,↓reduceIte,reduceCtorEq,zB,zE,zA,zS,zL,zD,zM];refine ⟨⟨i+1,by omega,rfl,by rw [htk]⟩,by omega⟩
  ·have h':¬i<l.length:=by simpa using h
   simp only [push_cast,↓reduceIte,reduceCtorEq,zB,zE,zA,zS,zL,zD,zM];rw [zaa (by omega)]

noncomputable def vo:PC:=
  (.seq (.reg [p_s 0 (.mov (.c (.r (.v (.bool false)))))])
 (.seq (.reg [p_s 8 (.build [(.r (.v (.int .i64 0))),(.r (.v (.int .i64 0))),(.r (.v (.int .i64 0))),(.r (.v (.int .i64 0)))] [(0,1,(o_i 1)),(1,1,(o_i 500)),(2,1,(o_i 600)),(3,1,(o_i 7))]),
 p_a 9 (.bsl 4 (.agg [(.v (.int .i64 0)),(.v (.int .i64 0)),(.v (.int .i64 0)),(.v (.int .i64 0))]) [(.t 8)]),p_m 1 9])
 (.seq (.reg [p_s 11 (.build [(.r (.v (.int .i64 0))),(.r (.v (.int .i64 0))),(.r (.v (.int .i64 0))),(.r (.v (.int .i64 0)))] []),p_m 12 1,p_c 13 1 18 [.t 12],p_c 14 2 19 [.t 11,.t 13],
 p_m 10 14,p_s 15 (.ext (.t 10) 0),p_s 16 (.ext (.t 10) 1),p_m 2 15,p_m 3 16])
 (.seq (.reg [p_m 18 2,p_c 19 3 22 [.t 18],p_m 17 19,p_s 20 (.ext (.t 17) 0),p_s 21 (.ext (.t 17) 1),p_m 4 20,p_m 5 21])
 (.seq (.reg [p_s 23 (.build [(.r (.v (.int .i64 0))),(.r (.v (.int .i64 0))),(.r (.v (.int .i64 0))),(.r (.v (.int .i64 0)))] []),p_c 24 4 32 [],p_c 25 5 19 [.t 23,.t 24],
 p_m 22 25,p_s 26 (.ext (.t 22) 0),p_s 27 (.ext (.t 22) 1),p_m 6 26,p_m 7 27])
 (.seq (.reg [p_m 28 3,p_s 29 (.bin .eql (.t 28) (o_i 0)),p_m 30 29,p_g 31 30 true (.mov (.t 5)),p_g 32 30 true (.bin .eql (.t 31) (o_i 0)),p_s 33 (.pick (.t 30) (.t 32) (.c (.r (.v (.bool false))))),
 p_m 34 33,p_g 35 34 true (.mov (.t 7)),p_g 36 34 true (.bin .eql (.t 35) (o_i 0)),p_s 37 (.pick (.t 34) (.t 36) (.c (.r (.v (.bool false))))),p_m 38 37,p_g 39 38 true (.mov (.t 6)),
 p_g 40 38 true (.len false (.t 39)),p_g 41 38 true (.bin .eql (.t 40) (o_i 0)),p_s 42 (.pick (.t 38) (.t 41) (.c (.r (.v (.bool false))))),p_m 43 42,p_g 44 43 true (.mov (.t 4)),
 p_g 45 43 true (.len false (.t 44)),p_g 46 43 true (.bin .eql (.t 45) (o_i 1)),p_s 47 (.pick (.t 43) (.t 46) (.c (.r (.v (.bool false))))),p_m 48 47,p_g 49 48 true (.mov (.t 4)),
 p_g 50 48 true (.ia 6 (.agg [(.v (.int .u64 0)),(.sl 2 []),(.v (.int .i64 0)),(.v (.int .i64 0)),(.v (.int .i64 0)),(.v (.int .i64 0))]) (.t 49) (o_i 0)),p_g 51 48 true (.fa 3 (.t 50)),
 p_g 52 48 true (.ld none (.t 51)),p_g 53 48 true (.bin .eql (.t 52) (o_i 7)),p_s 54 (.pick (.t 48) (.t 53) (.c (.r (.v (.bool false))))),p_m 55 54,p_g 56 55 true (.mov (.t 4)),
 p_g 57 55 true (.ia 6 (.agg [(.v (.int .u64 0)),(.sl 2 []),(.v (.int .i64 0)),(.v (.int .i64 0)),(.v (.int .i64 0)),(.v (.int .i64 0))]) (.t 56) (o_i 0)),p_g 58 55 true (.fa 2 (.t 57)),
 p_g 59 55 true (.ld none (.t 58)),p_g 60 55 true (.bin .eql (.t 59) (o_i 1)),p_s 61 (.pick (.t 55) (.t 60) (.c (.r (.v (.bool false))))),p_m 0 61])
 .ret))))))
theorem aca:Fun P0 11 0 [(0,false,none)] vo:=b5 Go.Proofs.Tryz.func11 rfl (by decide) (by kernel_rfl) (by decide) rfl (by kernel_rfl) (by kernel_rfl) (by decide)
def awP:Pt:=⟨1,500,600,7⟩
def awT:Til:=⟨0,0,0,0⟩
theorem a2c:x8 [awP] 0=[((awP.w 0:Nat):Int)]:=by
 unfold x8 ub ad4 asI;rw [show dd (List.map (fun q:Pt=>q.w 0) [awP])=[awP.w 0] from rfl];exact List.mergeSort_singleton _
theorem bav:tw awT ((awP.w 0:Nat):Int)=true:=by decide +kernel
theorem asy:z9 [awP] awT=[((awP.w 0:Nat):Int)]:=by
 unfold z9;rw [show awT.r.toNat=0 from rfl,a2c,List.filter_cons,if_pos bav]
 rfl
theorem azu:z9 [] awT=[]:=by
 unfold z9;rw [show x8 [] awT.r.toNat=[] from List.eq_nil_of_length_eq_zero (by have:=aa2 [] awT.r.toNat; simpa using this)]
 rfl
def awF:Fea:=s7 [awP] awT ((awP.w 0:Nat):Int)
theorem a53:ans [awP] awT=cd [awF]:=by
 unfold ans aie;rw [asy,if_neg (by simp)]
 rfl
def awB (o:Option (List Fea)):Bool:=match o with | some [f]=>f.s == 7&&f.c == 1 | _=>false
theorem a52:awB (rdT (cd [awF]))=true:=by decide +kernel
theorem azv:(cd [awF]).length≤10000:=by decide +kernel
theorem a3d:∀p∈[awP],p.ok:=fun p hp=>by rw [zbd.1 hp]; decide
theorem azt:awT.ok:=by unfold Til.ok in64; decide
theorem th:a7 P0 11 [] [] (bl true) []:=by
 refine aca rfl (by decide) ?_;have h1:=a93 [awP] (by simp) a3d (by simp);have h2:=draw_t [awP] (by simp) a3d awT azt (by decide) (by decide +kernel) (.inr ⟨by rw [asy]; simp,rfl,rfl⟩);rw [a53] at h2;have h3:=a3o (cd [awF]) (by have:=azv; omega);have h4:=draw_t [] (by simp) (by simp) awT azt (by decide) (by decide +kernel) (.inl ⟨azu,rfl,rfl⟩);have hr:=a52;have hll:=azv;generalize cd [awF]=B at *
 obtain ⟨f,hf,f1,f2⟩:∃f,rdT B=some [f]∧f.s=7∧f.c=1:=by
  cases h:rdT B with
  | none=>rw [h] at hr; cases hr
  | some l=>
   rw [h] at hr;rcases l with _ | ⟨f,_ | ⟨g,r⟩⟩
   ·cases hr
   ·simp only [awB,Bool.and_eq_true,beq_iff_eq] at hr;exact ⟨f,rfl,hr⟩
   ·cases hr
 rw [hf] at h3;have g1:((0:Int) == 0)=true:=rfl;have g2:((1:Int) == 1)=true:=rfl;have g3:((7:Int) == 7)=true:=rfl;simp only [vo,push_cast,↓reduceIte,reduceCtorEq,zB,zE,zA,zS,zL,zD,zM];refine And.intro (by simp) ?_;refine f6 ?_;refine a9 (as':=[.r (pts [awP])]) rfl ?_;refine a5 h1 rfl trivial ?_;simp only [push_cast,↓reduceIte,reduceCtorEq,zB,zE,zA,zS,zL,zD,zM];refine a9 (as':=[awT.v,.ptr 1000000 0 0]) rfl ?_;refine a5 h2 rfl ⟨rfl,trivial⟩ ?_;simp only [push_cast,↓reduceIte,reduceCtorEq,zB,zE,zA,zS,zL,zD,zM];refine f6 ?_;refine a9 (as':=[sb B]) rfl ?_;refine a5 h3 rfl trivial ?_;simp only [rdR,rdO,push_cast,↓reduceIte,reduceCtorEq,zB,zE,zA,zS,zL,zD,zM];refine a5 a22 rfl trivial ?_
 simp only [push_cast,↓reduceIte,reduceCtorEq,zB,zE,zA,zS,zL,zD,zM];refine a9 (as':=[awT.v,.ptr 1000000 0 0]) rfl ?_;refine a5 h4 rfl ⟨rfl,trivial⟩ ?_;simp only [g1,g2,g3,f1,f2,Fea.rv,zad,push_cast,↓reduceIte,reduceCtorEq,zB,zE,zA,zS,zL,zD,zM];omega

noncomputable def jf:PC:=
  (.seq (.reg [p_a 3 (.box (.t 0)),p_s 6 (.mov (.c (.r (.v (.bool false)))))])
 (.seq (.seq (.reg [p_m 7 1,p_s 8 (.len false (.t 7)),p_s 9 (.bin .gtr (.t 8) (o_i 40))])
 (.cond (.t 9)
 (.seq (.reg [p_c 10 1 11 [],p_m 6 10])
 .ret)
 .skip))
 (.seq (.drw [p_s 11 (.ld (some 5) (.t 3)),p_m 12 1,p_m 13 2,p_c 14 2 28 [.t 11,.t 12,.t 13],p_s 15 (.toStr (.t 14)),p_s 16 (.fa 0 (.t 3)),p_s 17 (.ld none (.t 16)),p_m 18 1,
 p_m 19 2,p_c 20 3 29 [.t 17,.t 18,.t 19],p_s 21 (.bin .eql (.t 15) (.t 20)),p_m 22 21,⟨(some 23),(some (22,true)),4,.call 11 []⟩,p_s 24 (.pick (.t 22) (.t 23) (.c (.r (.v (.bool false))))),
 p_m 6 24]
 [[],[],[],[0,1,2],[0,1,2,3],[],[5],[],[],[0,1,2,3,5,6,7,8],[0,1,2,3,4,5,6,7,8,9],[0,1,2,3,4,5,6,7,8,9,10],[0,1,2,3,4,5,6,7,8,9,10,11],[0,1,2,3,4,5,6,7,8,9,10,11,12],[0,1,2,3,4,5,6,7,8,9,10,11,12,13]])
 .ret)))
theorem ti:Fun P0 8 3 [(6,false,none)] jf:=b5 Go.Proofs.Tryz.func8 rfl (by decide) (by kernel_rfl) (by decide) rfl (by kernel_rfl) (by kernel_rfl) (by decide)
theorem feats_t (w a b c d n:Int) (ring:List P2) (hw:0≤w∧w<18446744073709551616) (hn:in64 n) (h:i64P ring) :
  a7 P0 8 [ae5 w a b c d,a8 ring,int .i64 n] [] (bl true) []:=by
 refine ti rfl (by decide) ?_;have hmx:=d5;simp only [jf,ae5,a8,push_cast,↓reduceIte,reduceCtorEq,zB,zE,zA,zS,zL,zD,zM];refine b6 (fun hd=>?_) (fun hd=>?_)
 ·simp only [push_cast,↓reduceIte,reduceCtorEq,zB,zE,zA,zS,zL,zD,zM];refine a5 th rfl trivial ?_;simp only [push_cast,↓reduceIte,reduceCtorEq,zB,zE,zA,zS,zL,zD,zM]
 ·have hd:=of_decide_eq_false hd;have tf:=tfeat_t w a b c d n ring hw hn (by omega) h;have rf:=a4u w n ring hw hn (by omega) h;have hl:=ah6 w n ring;generalize ir w n ring=F at *;simp only [push_cast,↓reduceIte,reduceCtorEq,zB,zE,zA,zS,zL,zD,zM];refine o6 (as':=[ae5 w a b c d,a8 ring,int .i64 n]) rfl ?_;refine c8 tf rfl trivial ?_;have hb:(List.map by8 F).all abt=true:=aa4 F;have htk:zac F.length (List.map by8 F)=bys F:=zaa (by simp);have htk2:zac F.length (bys F)=bys F:=htk;simp only [hb,htk,htk2,aa4,adu,aim,push_cast,↓reduceIte,reduceCtorEq,zB,zE,zA,zS,zL,zD,zM];refine o6 (as':=[int .u64 w,a8 ring,int .i64 n]) rfl ?_;refine c8 rf rfl trivial ?_
  have he:((lu F).toList == (lu F).toList)=true:=by simp
  simp only [aim,push_cast,↓reduceIte,reduceCtorEq,zB,zE,zA,zS,zL,zD,zM];refine c8 th rfl trivial ?_;simp only [push_cast,↓reduceIte,reduceCtorEq,zB,zE,zA,zS,zL,zD,zM];kernel_rfl

noncomputable def dv:PC:=
  (.seq (.reg [p_s 6 (.mov (.c (.r (.v (.bool false)))))])
 (.seq (.seq (.reg [p_m 17 0,p_s 18 (.len false (.t 17)),p_s 19 (.bin .gtr (.t 18) (o_i 40)),p_m 20 19,p_g 21 20 false (.mov (.t 0)),p_g 22 20 false (.len false (.t 21)),p_g 23 20 false (.bin .lss (.t 22) (o_i 3)),
 p_s 24 (.pick (.t 20) (.c (.r (.v (.bool true)))) (.t 23))])
 (.cond (.t 24)
 (.seq (.reg [p_m 25 0,p_m 26 0,p_s 27 (.len false (.t 26)),p_s 28 (.mm false (.t 27) [(o_i 2)]),p_s 29 (.sll 2 (.t 25) none (some (.t 28)) none),p_c 30 1 10 [.t 29],p_s 31 (.len false (.t 30)),
 p_s 32 (.bin .eql (.t 31) (o_i 0)),p_m 33 32,⟨(some 34),(some (33,true)),2,.call 11 []⟩,p_s 35 (.pick (.t 33) (.t 34) (.c (.r (.v (.bool false))))),p_m 6 35])
 .ret)
 .skip))
 (.seq (.reg [p_s 7 (.mov (.c (.nils 2 (.agg [(.v (.int .i64 0)),(.v (.int .i64 0))])))),p_s 8 (.mov (.c (.nils 2 (.agg [(.v (.int .i64 0)),(.v (.int .i64 0))]))))])
 (.seq (.reg [p_m 36 1,p_s 37 (.bin .rem (.t 36) (o_i 100000)),p_m 38 2,p_s 39 (.bin .rem (.t 38) (o_i 100000)),p_m 1 37,p_m 2 39])
 (.seq (.seq (.reg [p_s 9 (.mov (o_i 0))])
 (.block 0 (.loop (.seq (.seq (.reg [p_m 40 9,p_m 41 0,p_s 42 (.len false (.t 41)),p_s 43 (.bin .lss (.t 40) (.t 42))])
 (.cond (.t 43)
 .skip
 (.exit 0)))
 (.seq (.block 1 (.seq (.drw [p_m 46 0,p_m 47 9,p_s 48 (.ia 2 (.agg [(.v (.int .i64 0)),(.v (.int .i64 0))]) (.t 46) (.t 47)),p_s 49 (.iaa 2 1 (.t 48) (o_i 0)),p_s 50 (.ld none (.t 49)),
 p_s 51 (.bin .rem (.t 50) (o_i 100000)),p_m 52 0,p_m 53 9,p_s 54 (.ia 2 (.agg [(.v (.int .i64 0)),(.v (.int .i64 0))]) (.t 52) (.t 53)),p_s 55 (.iaa 2 1 (.t 54) (o_i 1)),
 p_s 56 (.ld none (.t 55)),p_s 57 (.bin .rem (.t 56) (o_i 100000)),p_s 58 (.build [(.r (.v (.int .i64 0))),(.r (.v (.int .i64 0)))] [(0,1,(.t 51)),(1,1,(.t 57))]),
 p_a 10 (.new [(.r (.v (.int .i64 0))),(.r (.v (.int .i64 0)))]),⟨none,none,0,.act (.st 2 (.t 10) (.t 58))⟩]
 [[],[],[0,1],[0,1,2],[0,1,2,3],[0,1,2,3,4],[],[],[6,7],[6,7,8],[6,7,8,9],[6,7,8,9,10],[0,1,2,3,4,5,6,7,8,9,10,11],[],[0,1,2,3,4,5,6,7,8,9,10,11,12,13]])
 (.seq (.reg [p_m 59 7,p_s 60 (.ld (some 2) (.t 10)),p_a 61 (.bsl 2 (.agg [(.v (.int .i64 0)),(.v (.int .i64 0))]) [(.t 60)]),p_a 62 (.app 2 (.agg [(.v (.int .i64 0)),(.v (.int .i64 0))]) 16 (.t 59) (.t 61)),
 p_m 7 62])
 (.reg [p_m 63 8,p_s 64 (.iaa 2 1 (.t 10) (o_i 0)),p_s 65 (.ld none (.t 64)),p_m 66 1,p_s 67 (.bin .add (.t 65) (.t 66)),p_s 68 (.iaa 2 1 (.t 10) (o_i 1)),p_s 69 (.ld none (.t 68)),
 p_m 70 2,p_s 71 (.bin .add (.t 69) (.t 70)),p_s 72 (.build [(.r (.v (.int .i64 0))),(.r (.v (.int .i64 0)))] [(0,1,(.t 67)),(1,1,(.t 71))]),p_a 73 (.bsl 2 (.agg [(.v (.int .i64 0)),(.v (.int .i64 0))]) [(.t 72)]),
 p_a 74 (.app 2 (.agg [(.v (.int .i64 0)),(.v (.int .i64 0))]) 16 (.t 63) (.t 73)),p_m 8 74]))))
 (.reg [p_m 44 9,p_s 45 (.bin .add (.t 44) (o_i 1)),p_m 9 45]))))))
 (.seq (.reg [p_m 75 7,p_c 76 3 10 [.t 75],p_m 77 8,p_c 78 4 10 [.t 77],p_m 11 76,p_m 12 78])
 (.seq (.seq (.reg [p_m 79 11,p_s 80 (.len false (.t 79)),p_m 81 12,p_s 82 (.len false (.t 81)),p_s 83 (.bin .neq (.t 80) (.t 82)),p_m 84 83,p_g 85 84 false (.mov (.t 11)),p_g 86 84 false (.len false (.t 85)),
 p_g 87 84 false (.mov (.t 7)),p_g 88 84 false (.len false (.t 87)),p_g 89 84 false (.bin .mul (o_i 2) (.t 88)),p_g 90 84 false (.bin .add (.t 89) (o_i 3)),p_g 91 84 false (.bin .neq (.t 86) (.t 90)),
 p_s 92 (.pick (.t 84) (.c (.r (.v (.bool true)))) (.t 91))])
 (.cond (.t 92)
 (.seq (.reg [p_s 6 (.mov (.c (.r (.v (.bool false)))))])
 .ret)
 .skip))
 (.seq (.seq (.reg [p_s 13 (.mov (o_i 3))])
 (.block 2 (.loop (.seq (.seq (.reg [p_m 93 13,p_m 94 11,p_s 95 (.len false (.t 94)),p_s 96 (.bin .lss (.t 93) (.t 95))])
 (.cond (.t 96)
 .skip
 (.exit 2)))
 (.seq (.block 3 (.seq (.drw [p_m 99 11,p_m 100 13,p_s 101 (.ia 1 (.v (.int .u64 0)) (.t 99) (.t 100)),p_s 102 (.ld none (.t 101)),p_m 103 12,p_m 104 13,p_s 105 (.ia 1 (.v (.int .u64 0)) (.t 103) (.t 104)),
 p_s 106 (.ld none (.t 105)),p_s 107 (.bin .neq (.t 102) (.t 106))]
 [[],[],[0,1],[0,1,2],[],[],[4,5],[4,5,6],[0,1,2,3,4,5,6,7]])
 (.cond (.t 107)
 (.seq (.reg [p_s 6 (.mov (.c (.r (.v (.bool false)))))])
 .ret)
 .skip)))
 (.reg [p_m 97 13,p_s 98 (.bin .add (.t 97) (o_i 1)),p_m 13 98]))))))
 (.seq (.reg [p_m 109 12,p_c 110 5 12 [.t 109],p_m 108 110,p_s 111 (.ext (.t 108) 0),p_s 112 (.ext (.t 108) 1),p_m 14 111,p_m 15 112])
 (.seq (.seq (.reg [p_m 113 15,p_s 114 (.un .not (.t 113)),p_m 115 114,p_g 116 115 false (.mov (.t 14)),p_g 117 115 false (.len false (.t 116)),p_g 118 115 false (.mov (.t 8)),
 p_g 119 115 false (.len false (.t 118)),p_g 120 115 false (.bin .neq (.t 117) (.t 119)),p_s 121 (.pick (.t 115) (.c (.r (.v (.bool true)))) (.t 120))])
 (.cond (.t 121)
 (.seq (.reg [p_s 6 (.mov (.c (.r (.v (.bool false)))))])
 .ret)
 .skip))
 (.seq (.seq (.reg [p_s 16 (.mov (o_i 0))])
 (.block 4 (.loop (.seq (.seq (.reg [p_m 122 16,p_m 123 14,p_s 124 (.len false (.t 123)),p_s 125 (.bin .lss (.t 122) (.t 124))])
 (.cond (.t 125)
 .skip
 (.exit 4)))
 (.seq (.block 5 (.seq (.drw [p_m 128 14,p_m 129 16,p_s 130 (.ia 2 (.agg [(.v (.int .i64 0)),(.v (.int .i64 0))]) (.t 128) (.t 129)),p_s 131 (.ld (some 2) (.t 130)),p_m 132 8,p_m 133 16,
 p_s 134 (.ia 2 (.agg [(.v (.int .i64 0)),(.v (.int .i64 0))]) (.t 132) (.t 133)),p_s 135 (.ld (some 2) (.t 134)),p_s 136 (.eqa true [0,0] (.t 131) (.t 135))]
 [[],[],[0,1],[0,1,2],[],[],[4,5],[4,5,6],[0,1,2,3,4,5,6,7]])
 (.cond (.t 136)
 (.seq (.reg [p_s 6 (.mov (.c (.r (.v (.bool false)))))])
 .ret)
 .skip)))
 (.reg [p_m 126 16,p_s 127 (.bin .add (.t 126) (o_i 1)),p_m 16 127]))))))
 (.seq (.reg [p_c 137 6 11 [],p_m 6 137])
 .ret))))))))))))
theorem xq:Fun P0 3 3 [(6,false,none)] dv:=b5 Go.Proofs.Tryz.func3 rfl (by decide) (by kernel_rfl) (by decide) rfl (by kernel_rfl) (by kernel_rfl) (by decide)
theorem amd:∀(r:List P2) (p:P2) (i:Nat) (q o:P2),r[i]?=some q→(p::r)[i]?=some o→(j6 p r).getD (2*i) 0=zig (IntKind.i64.wrap (q.1-o.1))∧(j6 p r).getD (2*i+1) 0=zig (IntKind.i64.wrap (q.2-o.2))
 | [],p,i,q,o,h,_=>by simp at h
 | a::r,p,0,q,o,h,g=>by
  simp at h g;subst h; subst g;exact ⟨rfl,rfl⟩
 | a::r,p,i+1,q,o,h,g=>by
  have ih:=amd r a i q o (by simpa using h) (by simpa using g);rw [show 2*(i+1)=2*i+1+1 by omega,j6];exact ih
theorem qm {p:P2} {r:List P2} (h:2≤r.length):d9 (p::r)=[9,zig p.1,zig p.2,8*(r.length:Int)+2]++j6 p r++[15]:=by
 rw [d9,if_neg (by omega)]
theorem aay {ring:List P2} (h:3≤ring.length):(d9 ring).length=2*ring.length+3:=by
 cases ring with
 | nil=>simp at h
 | cons p r=>
  simp only [zam] at h;rw [qm (by omega)];have:=ck r p;simp [this];omega
theorem afw {ring:List P2} (h:3≤ring.length):v4 (d9 ring)=true:=by
 have hs:=aay h;cases ring with
 | nil=>simp at h
 | cons p r=>
  simp only [zam] at h hs;have hsh:=qm (p:=p) (r:=r) (by omega);have hl:=ck r p;unfold v4;rw [hs];have e1:(d9 (p::r)).getD 0 0=9:=by rw [hsh]; rfl
  have e2:(d9 (p::r)).getD (2*(r.length+1)+3-1) 0=15:=by
   rw [hsh,zah,List.getElem?_append_right (by simp [hl]; omega)];rw [show 2*(r.length+1)+3-1-([9,zig p.1,zig p.2,8*(r.length:Int)+2]++j6 p r).length=0 by simp [hl]; omega]
   rfl
  have e3:(d9 (p::r)).getD 3 0=8*(r.length:Int)+2:=by rw [hsh]; rfl
  rw [e1,e2,e3];have a1:decide (9≤2*(r.length+1)+3)=true:=decide_eq_true (by omega);have a2:((2*(r.length+1)+3)%2 == 1)=true:=by rw [beq_iff_eq]; omega
  have a3:(8*(r.length:Int)+2 == 8*((((2*(r.length+1)+3:Nat):Int)-5)/2)+2)=true:=by rw [beq_iff_eq]; omega
  rw [a1,a2,a3]
  rfl
theorem amk {ring:List P2} (h:3≤ring.length) (hin:i64P ring):t8 (d9 ring)=ring:=by
 rw [t8,if_pos (afw h),aay h];cases ring with
 | nil=>simp at h
 | cons p r=>
  simp only [zam] at h ⊢;have hsh:=qm (p:=p) (r:=r) (by omega);have hl:=ck r p
  have hc:∀j,j<r.length+1→∀o,(p::r)[j]?=some o→oy (d9 (p::r)) j=o:=fun j=>by
   induction j with
   | zero=>
    intro _ o ho;simp at ho;subst ho;rw [oy,hsh];show (zag (zig p.1),zag (zig p.2))=p;rw [aip,aip]
   | succ j ih=>
    intro hj q hq;obtain ⟨o,ho⟩:∃o,(p::r)[j]?=some o:=⟨(p::r)[j]'(by simp; omega),by simp [show j<r.length+1 by omega]⟩
    have hq2:r[j]?=some q:=by simpa using hq
    obtain ⟨g1,g2⟩:=amd r p j q o hq2 ho;have hqi:=hin q (by simp [zba hq2]);have hoi:=hin o (zba ho)
    have hd:∀k,k<2*r.length→(d9 (p::r)).getD (4+k) 0=(j6 p r).getD k 0:=fun k hk=>by
     rw [hsh,zar,zah,List.getElem?_append_right (by simp),zah];rw [show 4+k-[9,zig p.1,zig p.2,8*(r.length:Int)+2].length=k by simp];rw [List.getElem?_append_left (by omega)]
    rw [oy,ih (by omega) o ho,hd (2*j) (by omega),show 5+2*j=4+(2*j+1) by omega,hd (2*j+1) (by omega),g1,g2,aip,aip]
    have wr:∀a b:Int,in64 a→in64 b→IntKind.i64.wrap (b+IntKind.i64.wrap (a-b))=a:=fun a b ha hb=>by
     rw [IntKind.wrap_i64,IntKind.wrap_i64];unfold in64 at ha hb;omega
    rw [wr _ _ hqi.1 hoi.1,wr _ _ hqi.2 hoi.2]
  apply List.ext_getElem?;intro i;by_cases hi:i<r.length+1
  ·rw [u5,zap,zbh (by omega),zau (by simpa using hi)];rw [Option.map_some,hc i hi _ (zau (by simpa using hi))]
  ·rw [zav (by simp [u5]; omega),zav (by simp; omega)]
def mvT (dx dy:Int) (p:P2):P2:=(p.1+dx,p.2+dy)
theorem apl (dx dy:Int) (hd:(-100000≤dx∧dx≤100000)∧(-100000≤dy∧dy≤100000)):∀(r:List P2) (p:P2),j6 (mvT dx dy p) (r.map (mvT dx dy))=j6 p r
 | [],p=>rfl
 | q::r,p=>by
  rw [zbb,j6,j6,apl dx dy hd r q];simp only [aam,mvT];rw [show q.1+dx-(p.1+dx)=q.1-p.1 by omega,show q.2+dy-(p.2+dy)=q.2-p.2 by omega]
def md5 (p:P2):P2:=(p.1.tmod 100000,p.2.tmod 100000)
theorem aqf (l:List Int):∀o∈[jo l],iv o:=fun o ho=>by
 rw [zbd.1 ho];intro x hx;obtain ⟨n,_,rfl⟩:=zao.1 hx;exact trivial
set_option maxHeartbeats 2000000 in
theorem turns_t (ring:List P2) (dx dy:Int) (h:i64P ring) (hdx:in64 dx) (hdy:in64 dy):a7 P0 3 [a8 ring,int .i64 dx,int .i64 dy] [] (bl true) []:=by
  refine xq rfl (by decide) ?_;have hmx:=d5;obtain ⟨N,hN,hN0⟩:∃N:Int,((ring.length:Nat):Int)=N∧0≤N:=⟨_,rfl,by omega⟩
  by_cases hc:40<N∨N<3
  · have hcb:(if decide (N>40)=true then True else decide (N<3)=true):=by
      by_cases h1:N>40
      · rw [if_pos (decide_eq_true h1)]; trivial
      · rw [if_neg (by simpa using h1)]; exact decide_eq_true (by omega)
    have hk:(min N 2).toNat≤2∧((min N 2).toNat:Int)=min N 2:=by omega
    have ht:=agy (ring.take (min N 2).toNat) (by simp; omega);have g00:((0:Int) == 0)=true:=rfl;have htk:zac (min N 2).toNat (ring.map ptR)=(ring.take (min N 2).toNat).map ptR:=by rw [List.map_take]
    cases d1:decide (N>40)<;>cases d2:decide (N<3) <;>
      first
      | (exfalso; have a:=of_decide_eq_false d1; have b:=of_decide_eq_false d2; omega)
      | (simp only [dv,a8,hN,d1,d2,push_cast,↓reduceIte,reduceCtorEq,zB,zE,zA,zS,zL,zD,zM]
         refine And.intro (by omega) ?_;rw [zad,List.drop_zero,htk];refine a9 (as':=[a8 (ring.take (min N 2).toNat)]) rfl ?_;refine a5 ht rfl trivial ?_;simp only [g00,push_cast,↓reduceIte,reduceCtorEq,zB,zE,zA,zS,zL,zD,zM];refine a5 th rfl trivial ?_
         simp only [push_cast,↓reduceIte,reduceCtorEq,zB,zE,zA,zS,zL,zD,zM])
  · have d1:decide (N>40)=false:=decide_eq_false (by omega);have d2:decide (N<3)=false:=decide_eq_false (by omega);obtain ⟨DX,hDX⟩:∃D,dx.tmod 100000=D:=⟨_,rfl⟩
    obtain ⟨DY,hDY⟩:∃D,dy.tmod 100000=D:=⟨_,rfl⟩
    simp only [dv,a8,hN,d1,d2,hDX,hDY,push_cast,↓reduceIte,reduceCtorEq,zB,zE,zA,zS,zL,zD,zM];refine And.intro (by decide) (And.intro (by decide) ?_);have hDb:=sj dx 100000 (by decide);have hEb:=sj dy 100000 (by decide);rw [hDX] at hDb;rw [hDY] at hEb;have wDX:IntKind.i64.wrap DX=DX:=a6 (by omega);have wDY:IntKind.i64.wrap DY=DY:=a6 (by omega);obtain ⟨A,hA⟩:∃A,ring.map md5=A:=⟨_,rfl⟩
    obtain ⟨B,hB⟩:∃B,A.map (mvT DX DY)=B:=⟨_,rfl⟩
    have hAl:A.length=ring.length:=by rw [← hA]; simp
    have hBl:B.length=ring.length:=by rw [← hB]; simp [hAl]
    have hAb:∀p∈A,(-100000≤p.1∧p.1≤100000)∧(-100000≤p.2∧p.2≤100000):=fun p hp=>by
      rw [← hA] at hp;obtain ⟨q,hq,rfl⟩:=zao.1 hp;have h1:=sj q.1 100000 (by decide);have h2:=sj q.2 100000 (by decide);simp only [md5];omega
    have hAi:i64P A:=fun p hp=>by have:=hAb p hp; unfold in64; omega
    have hBi:i64P B:=fun p hp=>by
      rw [← hB] at hp;obtain ⟨q,hq,rfl⟩:=zao.1 hp;have:=hAb q hq;unfold in64;simp only [mvT];omega
    refine run_loop [(9, false), (0, false), (1, false), (2, false), (7, false), (8, false)] (fun vs pos los => ∃ i : Nat, i ≤ ring.length ∧ pos = [] ∧
        (i=0∧vs=[int .i64 i,a8 ring,int .i64 DX,int .i64 DY,.nils 2 (pnt 0 0),.nils 2 (pnt 0 0)]∧los=[] ∨
         0<i∧vs=[int .i64 i,a8 ring,int .i64 DX,int .i64 DY,.own 2000000 0 0 i,.own 2000001 0 0 i]∧los=[g7 (A.take i),g7 (B.take i)]))
      (fun vs _ _=>match vs with | .r (.v (.int _ a))::_=>(N-a).toNat | _=>0) rfl ?_ ?_
    · simp only [a8,pnt,wDX,wDY,push_cast,↓reduceIte,reduceCtorEq,zB,zE,zA,zS,zL,zD,zM];exact ⟨0,by omega,by simp⟩
    · rintro vs pos los ⟨i,hi,rfl,hc2⟩;have w1:IntKind.i64.wrap ((i:Int)+1)=i+1:=a6 (by omega);rcases hc2 with ⟨h0,rfl,rfl⟩ | ⟨h0,rfl,rfl⟩
      · subst h0;have dN:decide ((0:Int)<N)=true:=decide_eq_true (by omega)
        obtain ⟨p,r,rfl⟩:∃p r,ring=p::r:=by
          cases ring with
          | nil=>simp at hN; omega
          | cons p r=>exact ⟨p,r,rfl⟩
        have h1:=sj p.1 100000 (by decide);have h2:=sj p.2 100000 (by decide);obtain ⟨X,hX⟩:∃D,p.1.tmod 100000=D:=⟨_,rfl⟩
        obtain ⟨Y,hY⟩:∃D,p.2.tmod 100000=D:=⟨_,rfl⟩
        have hA1:A.take 1=[(X,Y)]:=by rw [← hA,← hX,← hY]; rfl
        have hB1:B.take 1=[(X+DX,Y+DY)]:=by rw [← hB,← List.map_take,hA1]; rfl
        rw [hX] at h1;rw [hY] at h2;have wX:IntKind.i64.wrap X=X:=a6 (by omega);have wY:IntKind.i64.wrap Y=Y:=a6 (by omega);have wXD:IntKind.i64.wrap (X+DX)=X+DX:=a6 (by omega);have wYD:IntKind.i64.wrap (Y+DY)=Y+DY:=a6 (by omega);have n0:¬(100000:Int)=0:=by decide
        simp only [zbb,zam,zaw] at hN ⊢;simp only [a8,pnt,ptR,dN,hN,hX,hY,wX,wY,wXD,wYD,n0,zae,zad,zal,zab,Nat.zero_mul,Nat.mul_one,push_cast,↓reduceIte,reduceCtorEq,zB,zE,zA,zS,zL,zD,zM];refine And.intro (by omega) (And.intro (by omega) (And.intro (by omega) (And.intro (by omega) (And.intro (by kernel_rfl) (And.intro (by simp) (And.intro (by omega) (And.intro (by omega) (And.intro (by omega) (And.intro (by simp) (And.intro (by omega) ?_))))))))));have w01:IntKind.i64.wrap (0+1)=1:=rfl;rw [w01];exact ⟨⟨1,by omega,.inr ⟨by omega,rfl,by rw [hA1,hB1]; rfl⟩⟩,by omega⟩
      · simp only [a8,pnt,hN,push_cast,↓reduceIte,reduceCtorEq,zB,zE,zA,zS,zL,zD,zM];refine b6 (fun hd=>?_) (fun hd=>?_)
        · have hd:=of_decide_eq_true hd;have hi2:i<ring.length:=by omega
          obtain ⟨p,hp⟩:∃p,ring[i]?=some p:=⟨ring[i],by simp [hi2]⟩
          have hg:∀z,(ring.map ptR).getD i z=.agg [.v (.int .i64 p.1),.v (.int .i64 p.2)]:=fun z=>by
            rw [zah,zap,hp]; rfl
          have h1:=sj p.1 100000 (by decide);have h2:=sj p.2 100000 (by decide);obtain ⟨X,hX⟩:∃D,p.1.tmod 100000=D:=⟨_,rfl⟩
          obtain ⟨Y,hY⟩:∃D,p.2.tmod 100000=D:=⟨_,rfl⟩
          have hAg:A[i]?=some (X,Y):=by rw [← hA,zap,hp,← hX,← hY]; rfl
          have hA1:A.take (i+1)=A.take i++[(X,Y)]:=by rw [zbe,hAg]; rfl
          have hB1:B.take (i+1)=B.take i++[(X+DX,Y+DY)]:=by rw [zbe,← hB,zap,hAg]; rfl
          rw [hX] at h1;rw [hY] at h2;have wX:IntKind.i64.wrap X=X:=a6 (by omega);have wY:IntKind.i64.wrap Y=Y:=a6 (by omega);have wXD:IntKind.i64.wrap (X+DX)=X+DX:=a6 (by omega);have wYD:IntKind.i64.wrap (Y+DY)=Y+DY:=a6 (by omega);have n0:¬(100000:Int)=0:=by decide
          have tA:zac i ((A.take i).map ptR)=(A.take i).map ptR:=zaa (by simp; omega);have tB:zac i ((B.take i).map ptR)=(B.take i).map ptR:=zaa (by simp; omega);simp only [a8,pnt,hg,hN,hX,hY,wX,wY,wXD,wYD,n0,tA,tB,w1,zad,zal,zab,Nat.zero_mul,Nat.mul_one,zaf,zaj,zab,push_cast,↓reduceIte,reduceCtorEq,zB,zE,zA,zS,zL,zD,zM];refine And.intro (by omega) (And.intro (by omega) (And.intro (by omega) (And.intro (by omega) (And.intro (by kernel_rfl) (And.intro (by simp) (And.intro ⟨by omega,by omega⟩ (And.intro (by omega) (And.intro (by omega) (And.intro (by simp) (And.intro ⟨by omega,by omega⟩ ?_))))))))));exact ⟨⟨i+1,by omega,.inr ⟨by omega,rfl,by rw [hA1,hB1]; simp [ptR,pnt]⟩⟩,by omega⟩
        · have hd:=of_decide_eq_false hd;obtain rfl:i=ring.length:=by omega
          rw [zaa (by omega),zaa (by omega)];have sA:=ae4 A (by omega) hAi (by omega);have sB:=ae4 B (by omega) hBi (by omega);have lA:=aay (ring:=A) (by omega);have lB:=aay (ring:=B) (by omega);have hrB:=amk (ring:=B) (by omega) hBi;have hkB:=afw (ring:=B) (by omega);have tR:=tring_t (d9 B) (by omega) (ac5 B (by omega) hBi) (.inr ⟨hkB,rfl,rfl⟩);rw [hrB] at tR
          have hsame:∀k,3≤k→(d9 A).getD k 0=(d9 B).getD k 0:=fun k hk=>by
            cases hAc:A with
            | nil=>rw [hAc] at hAl; simp at hAl; omega
            | cons p r=>
              rw [hAc] at hAl hB;simp only [zam] at hAl;rw [← hB,zbb,qm (by omega),qm (by simp; omega),apl DX DY ⟨by omega,by omega⟩,zaw];obtain ⟨j,rfl⟩:∃j,k=j+3:=⟨k-3,by omega⟩
              rfl
          generalize hCA:d9 A=CA at *;generalize hCB:d9 B=CB at *;clear hCA hCB;have tA:zac ring.length (A.map ptR)=A.map ptR:=zaa (by simp; omega);have tB:zac ring.length (B.map ptR)=B.map ptR:=zaa (by simp; omega);simp only [a8,pnt,tA,tB,push_cast,↓reduceIte,reduceCtorEq,zB,zE,zA,zS,zL,zD,zM];refine da ?_;refine a9 (as':=[a8 A]) rfl ?_;refine fw sA rfl trivial trivial (aqf _) ?_;simp only [a8,pnt,tA,tB,push_cast,↓reduceIte,reduceCtorEq,zB,zE,zA,zS,zL,zD,zM];refine da ?_;refine a9 (as':=[a8 B]) rfl ?_;refine fw sB rfl trivial trivial (aqf _) ?_;have yN:((CA.length:Nat):Int)=2*N+3:=by omega
          have yM:((CB.length:Nat):Int)=2*N+3:=by omega
          have w2:IntKind.i64.wrap (2*N)=2*N:=a6 (by omega);have w3:IntKind.i64.wrap (2*N+3)=2*N+3:=a6 (by omega);have ne0:(2*N+3 != 2*N+3)=false:=by simp
          simp only [a8,pnt,tA,tB,yN,yM,hN,w2,w3,ne0,push_cast,↓reduceIte,reduceCtorEq,zB,zE,zA,zS,zL,zD,zM];have hL:CA.length=CB.length:=by omega
          refine run_loop [(13,false),(11,false),(12,false),(8,false)] (fun vs pos los=>∃k:Nat,3≤k∧k≤CA.length∧vs=[int .i64 k,.own 2000000 0 0 CA.length,.own 2000001 0 0 CB.length,.own 2000002 0 0 ring.length]∧pos=[]∧los=[jo CA,jo CB,g7 B])
            (fun vs _ _=>match vs with | .r (.v (.int _ a))::_=>(CA.length-a).toNat | _=>0) rfl ?_ ?_
          · simp only [jo,g7,pnt,push_cast,↓reduceIte,reduceCtorEq,zB,zE,zA,zS,zL,zD,zM];exact ⟨3,by omega,by omega,by simp⟩
          · rintro vs pos los ⟨k,hk3,hk,rfl,rfl,rfl⟩;have w1:IntKind.i64.wrap ((k:Int)+1)=k+1:=a6 (by omega);simp only [jo,g7,pnt,push_cast,↓reduceIte,reduceCtorEq,zB,zE,zA,zS,zL,zD,zM];refine b6 (fun hd=>?_) (fun hd=>?_)
            · have hd:=of_decide_eq_true hd;have hs:=hsame k hk3;have nes:∀x:Int,(x != x)=false:=fun x=>by simp
              have hnl:∀l:List Int,(b8 l).length=l.length:=fun l=>by simp [b8]
              simp only [jo,g7,pnt,n8,hs,nes,w1,hnl,zaf,zaj,zab,push_cast,↓reduceIte,reduceCtorEq,zB,zE,zA,zS,zL,zD,zM];exact ⟨by omega,by omega,by kernel_rfl,⟨k+1,by omega,by omega,by simp⟩,by omega⟩
            · have hd:=of_decide_eq_false hd;have hnl:(b8 CB).length=CB.length:=by simp [b8]
              have tC:zac CB.length (b8 CB)=b8 CB:=zaa (by omega);have neB:((B.length:Int) != N)=false:=by rw [hBl,hN]; simp
              simp only [jo,g7,pnt,tC,push_cast,↓reduceIte,reduceCtorEq,zB,zE,zA,zS,zL,zD,zM];refine f6 ?_;refine a9 (as':=[.r (.sl 1 (b8 CB))]) rfl ?_;refine a5 tR rfl trivial ?_;simp only [g7,pnt,hN,neB,push_cast,↓reduceIte,reduceCtorEq,zB,zE,zA,zS,zL,zD,zM]
              refine run_loop [(16,false),(14,false),(8,false)] (fun vs pos los=>∃k:Nat,k≤B.length∧vs=[int .i64 k,.own 2000000 0 0 B.length,.own 2000001 0 0 ring.length]∧pos=[]∧los=[g7 B,g7 B])
                (fun vs _ _=>match vs with | .r (.v (.int _ a))::_=>(B.length-a).toNat | _=>0) rfl ?_ ?_
              · simp only [g7,pnt,push_cast,↓reduceIte,reduceCtorEq,zB,zE,zA,zS,zL,zD,zM];exact ⟨0,by omega,by simp⟩
              · rintro vs pos los ⟨k,hk,rfl,rfl,rfl⟩;have w1:IntKind.i64.wrap ((k:Int)+1)=k+1:=a6 (by omega);simp only [g7,pnt,push_cast,↓reduceIte,reduceCtorEq,zB,zE,zA,zS,zL,zD,zM];refine b6 (fun hd=>?_) (fun hd=>?_)
                · have hd:=of_decide_eq_true hd;have hi2:k<B.length:=by omega
                  obtain ⟨q,hq⟩:∃q,B[k]?=some q:=⟨B[k],by simp [hi2]⟩
                  have hg:∀z,(B.map ptR).getD k z=.agg [.v (.int .i64 q.1),.v (.int .i64 q.2)]:=fun z=>by
                    rw [zah,zap,hq]; rfl
                  have he2:(q.1 == q.1&&q.2 == q.2)=true:=by simp
                  simp only [g7,pnt,hg,w1,zaf,zaj,zab,push_cast,↓reduceIte,reduceCtorEq,zB,zE,zA,zS,zL,zD,zM];exact ⟨by omega,by omega,by kernel_rfl,⟨k+1,by omega,by simp⟩,by omega⟩
                · have hd:=of_decide_eq_false hd;simp only [push_cast,↓reduceIte,reduceCtorEq,zB,zE,zA,zS,zL,zD,zM];refine a5 th rfl trivial ?_;simp only [push_cast,↓reduceIte,reduceCtorEq,zB,zE,zA,zS,zL,zD,zM]

noncomputable def dh:PC:=
  (.seq (.reg [p_s 10 (.mov (.c (.r (.v (.bool false)))))])
 (.seq (.seq (.reg [p_m 21 0,p_s 22 (.len false (.t 21)),p_s 23 (.bin .gtr (.t 22) (o_i 60)),p_m 24 23,p_g 25 24 false (.mov (.t 1)),p_g 26 24 false (.len false (.t 25)),p_g 27 24 false (.bin .gtr (.t 26) (o_i 200)),
 p_s 28 (.pick (.t 24) (.c (.r (.v (.bool true)))) (.t 27))])
 (.cond (.t 28)
 (.seq (.reg [p_c 29 1 11 [],p_m 10 29])
 .ret)
 .skip))
 (.seq (.reg [p_m 30 0,p_c 31 2 10 [.t 30],p_m 11 31])
 (.seq (.seq (.reg [p_m 32 11,p_m 33 0,p_c 34 3 14 [.t 33],p_c 35 4 13 [.t 32,.t 34],p_s 36 (.un .not (.t 35))])
 (.cond (.t 36)
 (.seq (.reg [p_s 10 (.mov (.c (.r (.v (.bool false)))))])
 .ret)
 .skip))
 (.seq (.reg [p_a 37 (.bsl 1 (.v (.int .u64 0)) []),p_m 38 0,p_c 39 5 14 [.t 38],p_a 40 (.app 1 (.v (.int .u64 0)) 8 (.t 37) (.t 39)),p_m 12 40])
 (.seq (.seq (.reg [p_m 41 12,p_s 42 (.len false (.t 41)),p_s 43 (.bin .gtr (.t 42) (o_i 0))])
 (.cond (.t 43)
 (.seq (.reg [p_m 45 12,p_c 46 6 12 [.t 45],p_m 44 46,p_s 47 (.ext (.t 44) 0),p_s 48 (.ext (.t 44) 1),p_m 13 47,p_m 14 48])
 (.seq (.seq (.reg [p_m 49 14,p_s 50 (.un .not (.t 49)),p_m 51 50,p_g 52 51 false (.mov (.t 13)),p_g 53 51 false (.mov (.t 0)),⟨(some 54),(some (51,false)),7,.call 15 [(.t 52),(.t 53)]⟩,
 p_g 55 51 false (.un .not (.t 54)),p_s 56 (.pick (.t 51) (.c (.r (.v (.bool true)))) (.t 55))])
 (.cond (.t 56)
 (.seq (.reg [p_s 10 (.mov (.c (.r (.v (.bool false)))))])
 .ret)
 .skip))
 (.seq (.reg [p_m 57 2,p_s 58 (.bin .and (.t 57) (o_i 65535)),p_m 59 12,p_s 60 (.len false (.t 59)),p_s 61 (.bin .rem (.t 58) (.t 60)),p_m 15 61])
 (.seq (.reg [p_m 62 12,p_m 63 15,p_s 64 (.ia 1 (.v (.int .u64 0)) (.t 62) (.t 63)),p_s 65 (.ld none (.t 64)),p_m 66 3,p_s 67 (.bin .xor (.t 65) (.t 66)),p_s 68 (.ia 1 (.v (.int .u64 0)) (.t 62) (.t 63)),
 ⟨none,none,0,.act (.st 1 (.t 68) (.t 67))⟩])
 (.seq (.reg [p_m 69 4])
 (.cond (.t 69)
 (.drw [p_a 70 (.bsl 1 (.v (.int .u64 0)) []),p_m 71 12,p_m 72 15,p_s 73 (.sll 1 (.t 71) none (some (.t 72)) none),p_a 74 (.app 1 (.v (.int .u64 0)) 8 (.t 70) (.t 73)),
 p_m 75 12,p_m 76 15,p_s 77 (.bin .add (.t 76) (o_i 1)),p_s 78 (.sll 1 (.t 75) (some (.t 77)) none none),p_a 79 (.app 1 (.v (.int .u64 0)) 8 (.t 74) (.t 78)),
 p_m 12 79]
 [[],[],[],[1,2],[0,1,2,3],[],[],[6],[5,6,7],[0,1,2,3,4,5,6,7,8],[0,1,2,3,4,5,6,7,8,9]])
 .skip))))))
 .skip))
 (.seq (.seq (.reg [p_s 16 (.mov (o_i 0))])
 (.block 0 (.loop (.seq (.seq (.reg [p_m 80 16,p_s 81 (.bin .lss (.t 80) (o_i 2))])
 (.cond (.t 81)
 .skip
 (.exit 0)))
 (.seq (.block 1 (.seq (.reg [p_m 85 1,p_m 86 12,p_a 87 (.bsl 1 (.sl 1 []) [(.t 85),(.t 86)]),p_m 88 16,p_s 89 (.ia 1 (.sl 1 []) (.t 87) (.t 88)),p_s 90 (.ld none (.t 89)),p_c 91 8 12 [.t 90],
 p_m 84 91,p_s 92 (.ext (.t 84) 0),p_s 93 (.ext (.t 84) 1),p_m 17 92,p_m 18 93])
 (.seq (.reg [p_m 95 1,p_m 96 12,p_a 97 (.bsl 1 (.sl 1 []) [(.t 95),(.t 96)]),p_m 98 16,p_s 99 (.ia 1 (.sl 1 []) (.t 97) (.t 98)),p_s 100 (.ld none (.t 99)),p_c 101 9 16 [.t 100],
 p_m 94 101,p_s 102 (.ext (.t 94) 0),p_s 103 (.ext (.t 94) 1),p_m 19 102,p_m 20 103])
 (.seq (.reg [p_m 104 18,p_m 105 20,p_s 106 (.beq true (.t 104) (.t 105)),p_m 107 106,p_g 108 107 false (.mov (.t 17)),p_g 109 107 false (.mov (.t 19)),⟨(some 110),(some (107,false)),10,.call 15 [(.t 108),(.t 109)]⟩,
 p_g 111 107 false (.un .not (.t 110)),p_s 112 (.pick (.t 107) (.c (.r (.v (.bool true)))) (.t 111))])
 (.cond (.t 112)
 (.seq (.reg [p_s 10 (.mov (.c (.r (.v (.bool false)))))])
 .ret)
 .skip)))))
 (.reg [p_m 82 16,p_s 83 (.bin .add (.t 82) (o_i 1)),p_m 16 83]))))))
 (.seq (.reg [p_c 113 11 11 [],p_m 10 113])
 .ret))))))))
theorem vq:Fun P0 4 5 [(10,false,none)] dh:=b5 Go.Proofs.Tryz.func4 rfl (by decide) (by kernel_rfl) (by decide) rfl (by kernel_rfl) (by kernel_rfl) (by decide)
theorem a46 (l:List Int) (h:u64L l):s6 (l.map Int.toNat)=b8 l:=by
 simp only [s6,b8,List.map_map];apply List.map_congr_left;intro n hn;have:=h n hn;simp only [Function.comp];congr 2;omega
theorem a4o (l:List Int) (h:u64L l) (hl:l.length≤1000000):a7 P0 13 [.r (.sl 1 (b8 l)),.r (.sl 1 (b8 l))] [] (bl true) []:=by
 have:=a4p (l.map Int.toNat) (by simp; omega);rw [a46 l h] at this;exact this
theorem a0b (ring:List P2) (hl:ring.length≤100000) (h:i64P ring):a7 P0 10 [a8 ring] [] (.own 1000000 0 0 (d9 ring).length) [jo (d9 ring)]:=by
 by_cases h3:ring.length<3
 ·have:=aiw (agy ring h3);rw [ql h3];exact this
 ·exact ae4 ring hl h (by omega)
theorem a0q (ring:List P2) (hl:ring.length≤100000) (h:i64P ring):a7 P0 14 [a8 ring] [] (.own 1000000 0 0 (d9 ring).length) [jo (d9 ring)]:=by
 by_cases h3:ring.length<3
 ·have:=aiw (apo ring h3);rw [ql h3];exact this
 ·exact ari ring hl h (by omega)
set_option maxHeartbeats 2000000 in
theorem shapes_t (ring : List P2) (l : List Int) (at' by' : Int) (out : Bool) (h : i64P ring) (hlu : u64L l) (ha : in64 at') (hb : 0 ≤ by' ∧ by' < 18446744073709551616) :
    a7 P0 4 [a8 ring,.r (.sl 1 (b8 l)),int .i64 at',int .u64 by',bl out] [] (bl true) []:=by
  refine vq rfl (by decide) ?_;have hmx:=d5;obtain ⟨N,hN,hN0⟩:∃N:Int,((ring.length:Nat):Int)=N∧0≤N:=⟨_,rfl,by omega⟩
  obtain ⟨M,hM,hM0⟩:∃N:Int,((l.length:Nat):Int)=N∧0≤N:=⟨_,rfl,by omega⟩
  have hnl:(b8 l).length=l.length:=by simp [b8]
  by_cases hc:60<N∨200<M
  · cases d1:decide (N>60)<;>cases d2:decide (M>200) <;>
      first
      | (exfalso; have a:=of_decide_eq_false d1; have b:=of_decide_eq_false d2; omega)
      | (simp only [dh,a8,hnl,hN,hM,d1,d2,push_cast,↓reduceIte,reduceCtorEq,zB,zE,zA,zS,zL,zD,zM]
         refine a5 th rfl trivial ?_
         simp only [push_cast,↓reduceIte,reduceCtorEq,zB,zE,zA,zS,zL,zD,zM])
  · have d1:decide (N>60)=false:=decide_eq_false (by omega);have d2:decide (M>200)=false:=decide_eq_false (by omega);have hLu:=ac5 ring (by omega) h;have hLl:=ac6 ring;have hsm:=a4o (d9 ring) hLu (by omega);simp only [dh,a8,hnl,hN,hM,d1,d2,push_cast,↓reduceIte,reduceCtorEq,zB,zE,zA,zS,zL,zD,zM];have ts:=a0b ring (by omega) h;have rs:=a0q ring (by omega) h
    have hlong:0<(d9 ring).length→3≤ring.length:=fun hp=>by
      by_cases h3:ring.length<3
      · rw [ql h3] at hp; simp at hp
      · omega
    have tR:3≤ring.length→a7 P0 12 [.r (.sl 1 (b8 (d9 ring)))] [] (.tup [.own 1000000 0 0 ring.length,bl true]) [g7 ring]:=fun h3=>by
      have:=tring_t (d9 ring) (by omega) hLu (.inr ⟨afw h3,rfl,rfl⟩);rw [amk h3 h] at this;exact this
    have hsr:=ad8 ring ring (by omega) (by omega);rw [decide_eq_true rfl] at hsr;generalize d9 ring=C at *;have tC:zac C.length (b8 C)=b8 C:=zaa (by simp [b8]);have hnC:(b8 C).length=C.length:=by simp [b8]
    have z0:(0:Int)+(C.length:Int)=(C.length:Int):=by omega
    have z1:0+C.length=C.length:=by omega
    refine a9 (as':=[a8 ring]) rfl ?_;refine a5 ts rfl trivial ?_;simp only [a8,push_cast,↓reduceIte,reduceCtorEq,zB,zE,zA,zS,zL,zD,zM];refine a9 (as':=[a8 ring]) rfl ?_;refine a5 rs rfl trivial ?_;simp only [a8,tC,push_cast,↓reduceIte,reduceCtorEq,zB,zE,zA,zS,zL,zD,zM];refine f6 ?_;refine a9 (as':=[.r (.sl 1 (b8 C)),.r (.sl 1 (b8 C))]) rfl ?_;refine a5 hsm rfl trivial ?_;simp only [a8,push_cast,↓reduceIte,reduceCtorEq,zB,zE,zA,zS,zL,zD,zM];refine And.intro (by simp) ?_;refine a9 (as':=[a8 ring]) rfl ?_;refine a5 rs rfl trivial ?_;simp only [a8,tC,hnC,z0,z1,push_cast,↓reduceIte,reduceCtorEq,zB,zE,zA,zS,zL,zD,zM];refine And.intro ⟨by omega,by omega⟩ ?_
    refine ast (fun E ob=>∃(C2:List Int) (id ver:Nat),(id=37∨id=70)∧u64L C2∧C2.length≤200∧E 1=.r (.sl 1 (b8 l))∧E 12=.own id ver 0 C2.length∧ob id=some (ver,jo C2)) ?_ (fun hc3=>?_) (fun hc3=>?_)
    · rintro E ob ⟨C2,id,ver,q0,q1,q2,q3,q4,q5⟩;have hn2:(b8 C2).length=C2.length:=by simp [b8]
      have tC2:zac C2.length (b8 C2)=b8 C2:=zaa (by omega);simp only [q3,q4,q5,push_cast,↓reduceIte,reduceCtorEq,zB,zE,zA,zS,zL,zD,zM]
      refine run_loop [(16,false),(1,false),(12,false)] (fun vs pos los=>∃(i:Nat) (wr:Bool),i≤2∧vs=[int .i64 i,.r (.sl 1 (b8 l)),.own 2000000 0 0 C2.length]∧pos=[]∧los=[.row 1 (.v (.int .u64 0)) true wr (b8 C2)])
        (fun vs _ _=>match vs with | .r (.v (.int _ a))::_=>(2-a).toNat | _=>0) rfl ?_ ?_
      · rcases q0 with rfl | rfl
        · simp only [q3,q4,q5,push_cast,↓reduceIte,reduceCtorEq,zB,zE,zA,zS,zL,zD,zM];exact ⟨0,true,by omega,by simp⟩
        · simp only [q3,q4,q5,push_cast,↓reduceIte,reduceCtorEq,zB,zE,zA,zS,zL,zD,zM];exact ⟨0,true,by omega,by simp⟩
      · rintro vs pos los ⟨i,wr,hi,rfl,rfl,rfl⟩;simp only [push_cast,↓reduceIte,reduceCtorEq,zB,zE,zA,zS,zL,zD,zM];refine b6 (fun hd=>?_) (fun hd=>?_)
        · have hd:=of_decide_eq_true hd;rcases (show i=0∨i=1 by omega) with rfl | rfl
          · have hi0:IntKind.i64.wrap (0+1)=1:=rfl;cases hk:v4 l with
            | false=>
              have t1:=tring_t l (by omega) hlu (.inl ⟨hk,rfl,rfl⟩);have t2:=rring_t l (by omega) hlu (.inl ⟨hk,rfl,rfl⟩);have t3:=ad8 [] [] (by simp) (by simp);rw [decide_eq_true rfl] at t3;simp only [tC2,zae,zan,zad,zak,zaq,zab,push_cast,↓reduceIte,reduceCtorEq,zB,zE,zA,zS,zL,zD,zM];refine And.intro (by simp) (And.intro (by omega) ?_);refine a9 (as':=[.r (.sl 1 (b8 l))]) rfl ?_;refine a5 t1 rfl trivial ?_;simp only [tC2,pnt,zae,zan,zad,zak,zaq,zab,push_cast,↓reduceIte,reduceCtorEq,zB,zE,zA,zS,zL,zD,zM];refine And.intro (by simp) (And.intro (by omega) ?_);refine a9 (as':=[.r (.sl 1 (b8 l))]) rfl ?_;refine a5 t2 rfl trivial ?_
              simp only [tC2,pnt,bne_self_eq_false,push_cast,↓reduceIte,reduceCtorEq,zB,zE,zA,zS,zL,zD,zM];refine a9 (as':=[a8 [],a8 []]) rfl ?_;refine a5 t3 rfl trivial ?_;simp only [hi0,push_cast,↓reduceIte,reduceCtorEq,zB,zE,zA,zS,zL,zD,zM];exact ⟨⟨1,false,by omega,by simp⟩,by decide⟩
            | true=>
              have t1:=tring_t l (by omega) hlu (.inr ⟨hk,rfl,rfl⟩);have t2:=rring_t l (by omega) hlu (.inr ⟨hk,rfl,rfl⟩);have hrl:=ahe l;have t3:=ad8 (t8 l) (t8 l) (by omega) (by omega);rw [decide_eq_true rfl] at t3;generalize t8 l=R at *;have tR2:zac R.length (R.map ptR)=R.map ptR:=j7 R;simp only [tC2,zae,zan,zad,zak,zaq,zab,push_cast,↓reduceIte,reduceCtorEq,zB,zE,zA,zS,zL,zD,zM];refine And.intro (by simp) (And.intro (by omega) ?_);refine a9 (as':=[.r (.sl 1 (b8 l))]) rfl ?_;refine a5 t1 rfl trivial ?_;simp only [tC2,g7,pnt,tR2,zae,zan,zad,zak,zaq,zab,push_cast,↓reduceIte,reduceCtorEq,zB,zE,zA,zS,zL,zD,zM];refine And.intro (by simp) (And.intro (by omega) ?_)
              refine a9 (as':=[.r (.sl 1 (b8 l))]) rfl ?_;refine a5 t2 rfl trivial ?_;simp only [tC2,g7,pnt,tR2,bne_self_eq_false,push_cast,↓reduceIte,reduceCtorEq,zB,zE,zA,zS,zL,zD,zM];refine f6 ?_;refine a9 (as':=[a8 R,a8 R]) rfl ?_;refine a5 t3 rfl trivial ?_;simp only [hi0,push_cast,↓reduceIte,reduceCtorEq,zB,zE,zA,zS,zL,zD,zM];exact ⟨⟨1,false,by omega,by simp⟩,by decide⟩
          · have hi0:IntKind.i64.wrap (1+1)=2:=rfl;cases hk:v4 C2 with
            | false=>
              have t1:=tring_t C2 (by omega) q1 (.inl ⟨hk,rfl,rfl⟩);have t2:=rring_t C2 (by omega) q1 (.inl ⟨hk,rfl,rfl⟩);have t3:=ad8 [] [] (by simp) (by simp);rw [decide_eq_true rfl] at t3;simp only [tC2,zae,zan,zad,zak,zaq,zab,push_cast,↓reduceIte,reduceCtorEq,zB,zE,zA,zS,zL,zD,zM];refine And.intro (by simp) (And.intro (by omega) ?_);refine a9 (as':=[.r (.sl 1 (b8 C2))]) rfl ?_;refine a5 t1 rfl trivial ?_;simp only [tC2,pnt,zae,zan,zad,zak,zaq,zab,push_cast,↓reduceIte,reduceCtorEq,zB,zE,zA,zS,zL,zD,zM];refine And.intro (by simp) (And.intro (by omega) ?_);refine a9 (as':=[.r (.sl 1 (b8 C2))]) rfl ?_;refine a5 t2 rfl trivial ?_
              simp only [tC2,pnt,bne_self_eq_false,push_cast,↓reduceIte,reduceCtorEq,zB,zE,zA,zS,zL,zD,zM];refine a9 (as':=[a8 [],a8 []]) rfl ?_;refine a5 t3 rfl trivial ?_;simp only [hi0,push_cast,↓reduceIte,reduceCtorEq,zB,zE,zA,zS,zL,zD,zM];exact ⟨⟨2,false,by omega,by simp⟩,by decide⟩
            | true=>
              have t1:=tring_t C2 (by omega) q1 (.inr ⟨hk,rfl,rfl⟩);have t2:=rring_t C2 (by omega) q1 (.inr ⟨hk,rfl,rfl⟩);have hrl:=ahe C2;have t3:=ad8 (t8 C2) (t8 C2) (by omega) (by omega);rw [decide_eq_true rfl] at t3;generalize t8 C2=R at *;have tR2:zac R.length (R.map ptR)=R.map ptR:=j7 R;simp only [tC2,zae,zan,zad,zak,zaq,zab,push_cast,↓reduceIte,reduceCtorEq,zB,zE,zA,zS,zL,zD,zM];refine And.intro (by simp) (And.intro (by omega) ?_);refine a9 (as':=[.r (.sl 1 (b8 C2))]) rfl ?_;refine a5 t1 rfl trivial ?_;simp only [tC2,g7,pnt,tR2,zae,zan,zad,zak,zaq,zab,push_cast,↓reduceIte,reduceCtorEq,zB,zE,zA,zS,zL,zD,zM];refine And.intro (by simp) (And.intro (by omega) ?_)
              refine a9 (as':=[.r (.sl 1 (b8 C2))]) rfl ?_;refine a5 t2 rfl trivial ?_;simp only [tC2,g7,pnt,tR2,bne_self_eq_false,push_cast,↓reduceIte,reduceCtorEq,zB,zE,zA,zS,zL,zD,zM];refine f6 ?_;refine a9 (as':=[a8 R,a8 R]) rfl ?_;refine a5 t3 rfl trivial ?_;simp only [hi0,push_cast,↓reduceIte,reduceCtorEq,zB,zE,zA,zS,zL,zD,zM];exact ⟨⟨2,false,by omega,by simp⟩,by decide⟩
        · simp only [push_cast,↓reduceIte,reduceCtorEq,zB,zE,zA,zS,zL,zD,zM];refine a5 th rfl trivial ?_;simp only [push_cast,↓reduceIte,reduceCtorEq,zB,zE,zA,zS,zL,zD,zM]
    · have hp:0<C.length:=by have:=of_decide_eq_true hc3; omega
      have h3:=hlong hp;have tR:=tR h3;obtain ⟨L,hL,hL0⟩:∃L:Int,((C.length:Nat):Int)=L∧0<L∧L≤200:=⟨_,rfl,by omega,by omega⟩
      have wa:IntKind.i64.wrap ((BitVec.ofInt IntKind.i64.bits at' &&& BitVec.ofInt IntKind.i64.bits 65535).toNat)=at'%65536:=alw at' 65535 16 (by decide) (by decide)
      obtain ⟨K,hK,hK0⟩:∃K:Nat,(at'%65536).tmod L=K∧K<C.length:=by
        rw [Int.tmod_eq_emod_of_nonneg (by omega)];exact ⟨((at'%65536)%L).toNat,by have:=Int.emod_nonneg (at'%65536) (show L≠0 by omega); omega,by have:=Int.emod_lt_of_pos (at'%65536) hL0.1; have:=Int.emod_nonneg (at'%65536) (show L≠0 by omega); omega⟩
      have wK:IntKind.i64.wrap (K:Int)=K:=a6 (by omega);have wK1:IntKind.i64.wrap ((K:Int)+1)=K+1:=a6 (by omega);obtain ⟨V,hV⟩:∃V,IntKind.u64.wrap ((BitVec.ofInt IntKind.u64.bits (C.getD K 0) ^^^ BitVec.ofInt IntKind.u64.bits by').toNat)=V:=⟨_,rfl⟩
      have hVb:0≤V∧V<18446744073709551616:=by rw [← hV,IntKind.wrap_u64]; omega
      have hnz:¬L=0:=by omega
      simp only [a8,tC,hnC,push_cast,↓reduceIte,reduceCtorEq,zB,zE,zA,zS,zL,zD,zM];refine da ?_;refine a9 (as':=[.r (.sl 1 (b8 C))]) rfl ?_;refine fw tR rfl trivial ⟨trivial,trivial,trivial⟩ (ah2 _) ?_;simp only [a8,g7,pnt,push_cast,↓reduceIte,reduceCtorEq,zB,zE,zA,zS,zL,zD,zM];refine f6 ?_;refine a9 (as':=[a8 ring,a8 ring]) rfl ?_;refine a5 hsr rfl trivial ?_;simp only [hL,wa,hK,wK,wK1,hnz,hnC,n8,hV,tC,zaf,zaj,zab,push_cast,↓reduceIte,reduceCtorEq,zB,zE,zA,zS,zL,zD,zM]
      have hset:(b8 C).set K (.v (.int .u64 V))=b8 (C.set K V):=by
        rw [b8,b8,List.map_set]
      have hCu:u64L (C.set K V):=fun n hn=>by
        rcases List.mem_or_eq_of_mem_set hn with hn | rfl
        · exact hLu n hn
        · exact hVb
      have hCl:(C.set K V).length=C.length:=List.length_set;rw [hset];generalize C.set K V=D at *;have hnD:(b8 D).length=C.length:=by simp [b8,hCl]
      refine And.intro (by omega) (And.intro (by omega) ?_);cases out with
      | false=>
        simp only [push_cast,↓reduceIte,reduceCtorEq,zB,zE,zA,zS,zL,zD,zM];refine ⟨D,37,1,.inl rfl,hCu,by omega,?_⟩;simp [hCl]
      | true=>
        have tK:∀n,zac n (b8 D)=b8 (D.take n):=fun n=>by simp [b8]
        have tD:∀n,List.drop n (b8 D)=b8 (D.drop n):=fun n=>by simp [b8]
        have lK:(D.take K).length=K:=by simp; omega
        have lD:(D.drop (K+1)).length=C.length-(K+1):=by simp [hCl]
        have hnn:∀l:List Int,(b8 l).length=l.length:=fun l=>by simp [b8]
        have k1:((K:Int)-0).toNat=K:=by omega
        have k2:(L-((K:Int)+1)).toNat=C.length-(K+1):=by omega
        have k3:(D.drop (K+1)).take (C.length-(K+1))=D.drop (K+1):=zaa (by omega)
        have hEu:u64L (D.take K++D.drop (K+1)):=fun n hn=>by
          rcases zax.1 hn with hn | hn
          · exact hCu n (List.mem_of_mem_take hn)
          · exact hCu n (List.mem_of_mem_drop hn)
        have tE:zac (C.length-(K+1)) (b8 (D.drop (K+1)))=b8 (D.drop (K+1)):=zaa (by rw [hnn]; omega);have tF:zac K (b8 (D.take K))=b8 (D.take K):=zaa (by rw [hnn]; omega);have tG:zac K (b8 D)=b8 (D.take K):=tK K;simp only [hL,wK1,hnD,zad,k1,k2,tG,tD,tE,tF,lK,lD,hnn,zaf,zaj,zab,push_cast,↓reduceIte,reduceCtorEq,zB,zE,zA,zS,zL,zD,zM];refine ⟨by simp,by omega,⟨by omega,by omega⟩,by omega,⟨by omega,by omega⟩,by kernel_rfl,⟨D.take K++D.drop (K+1),70,2,.inr rfl,hEu,by simp; omega,?_,?_⟩⟩
        · simp [lK,hCl]; try omega
        · simp [b8]
    · simp only [push_cast,↓reduceIte,reduceCtorEq,zB,zE,zA,zS,zL,zD,zM];refine ⟨C,37,1,.inl rfl,hLu,by omega,?_⟩;simp

end Go.Ev

import Derived.Test.YtpibfnekkfhkmaaGreatM10
open Nat renaming reduceBEq → zB, reduceEqDiff → zE, reduceAdd → zA, reduceSub → zS, reduceLT → zL, reduceLeDiff → zD, reduceMul → zM
open Go.Proofs.Tryz renaming prog → P0
open Go.Proofs.Tryz
open Nat renaming zero_add → zaa
open List renaming length_append → zab, getD_eq_getElem?_getD → zac, cons_append → zae, length_nil → zaf, length_map → zah, range → zai, append_assoc → zak, length_cons → zal, mem_map → zam, take_of_length_le → zan, nil_append → zao, map_cons → zap, getElem?_map → zar, getElem?_eq_getElem → zas, getElem?_eq_none → zat, mem_singleton → zaw, range_succ → zax, take → zay, mem_of_getElem? → zaz, map_append → zba, mem_append → zbb, mem_cons → zbc, mem_range → zbf, map_map → zbg, map_nil → zbh, map_congr_left → zbi, mem_filter → zbj, sum_cons → zbk, take_add_one → zbn, not_mem_nil → zbt, ext_getElem? → zbv, getElem?_range → zbw, length_eq_zero_iff → zbx, getElem_mem → zca, length_drop → zcc, drop_length → zce, eq_nil_of_length_eq_zero → zcf, all_eq_true → zch, getD_cons_zero → zci, filter_cons_of_pos → zcl, pairwise_iff_getElem → zcm
open Int renaming toNat_zero → zad, reduceToNat → zaj, toNat_natCast → zaq, mul_nonneg → zau, le_of_lt → zav, toNat_natCast_add_one → zbd, natCast_zero → zbe, add_mul → zbl, one_mul → zbm, mul_le_mul_of_nonneg_left → zbo, emod_nonneg → zbp, emod_lt_of_pos → zbq, mul_ediv_add_emod → zbr, toNat_one → zbu, mul_le_mul_of_nonneg_right → zby, mul_comm → zbz, natCast_one → zcb, mul_eq_zero → zcg, mul_nonpos_of_nonneg_of_nonpos → zcj, le_of_mul_le_mul_left → zck
open Bool renaming and_eq_true → zbs
open Option renaming map_some → zcd
namespace Go.Ev
set_option maxRecDepth 100000
noncomputable section
open Go
set_option linter.unusedSectionVars false
set_option linter.unnecessarySimpa false
set_option linter.unusedSimpArgs false
set_option linter.unusedVariables false
def yp:Mk P0 f12:={ x:=_ }
theorem ao7:d5 12 1 yp:=c8 func12
def mb (l:List Int):Bool:=decide (9≤l.length)&&(l.length%2 == 1&&(l.getD 0 0 == 9&&(l.getD (l.length-1) 0 == 15&&l.getD 3 0 == 8*(((l.length:Int)-5)/2)+2)))
def aae (l:List Int):Nat→P2
 | 0=>(zag (l.getD 1 0),zag (l.getD 2 0))
 | j+1=>(IntKind.i64.wrap ((aae l j).1+zag (l.getD (4+2*j) 0)),IntKind.i64.wrap ((aae l j).2+zag (l.getD (5+2*j) 0)))
def mq (l:List Int) (n:Nat):List P2:=(zai n).map (aae l)
theorem azf (l:List Int) (n:Nat):mq l (n+1)=mq l n++[aae l n]:=by simp [mq,zax]
def lq (l:List Int):List P2:=if mb l then mq l ((l.length-5)/2+1) else []
def u64L (l:List Int):Prop:=∀n∈l,0≤n∧n<18446744073709551616
theorem kh (l:List Int) (i:Nat):(ag l).getD i (.v (.int .u64 0))=.v (.int .u64 (l.getD i 0)):=by
 simp only [ag,zac,zar];cases l[i]? <;> rfl
theorem aes {l:List Int} (h:u64L l) (i:Nat):0≤l.getD i 0∧l.getD i 0<18446744073709551616:=by
 rw [zac];cases e:l[i]? with
 | none=>simp
 | some x=>exact h x (zaz e)
theorem a1h {l:List Int} (h:u64L l) (i:Nat):a8 P0 33 [int .u64 (l.getD i 0)] [] (int .i64 (zag (l.getD i 0))) []:=baz _ (aes h i).1 (aes h i).2
set_option maxHeartbeats 1000000 in
theorem tring_t (l : List Int) (hl : l.length ≤ 1000000) (h : u64L l) {res : AV} {ro : List Ob}
    (hres:(mb l=false∧res=.tup [.nils 2 (pnt 0 0),bl false]∧ro=[])∨(mb l=true∧res=.tup [.own 1000000 0 0 (lq l).length,bl true]∧ro=[u5 (lq l)])) :
    a8 P0 12 [.r (.sl 1 (ag l))] [] res ro:=by
  refine ao7 rfl (by decide) ?_;have hmx:=k7;have hnl:(ag l).length=l.length:=by simp [ag]
  by_cases h9:l.length<9
  · have d0:decide (((l.length:Nat):Int)<9)=true:=decide_eq_true (by omega);have hc:mb l=false:=by simp [mb]; omega
    rcases hres with ⟨_,rfl,rfl⟩ | ⟨h,_⟩
    · simp only [yp,hnl,d0,pnt,kh,push_cast,↓reduceIte,reduceCtorEq,zB,zE,zA,zS,zL,zD,zM]
    · rw [hc] at h; cases h
  · obtain ⟨N,hN,hN1,hN2⟩:∃N:Int,((l.length:Nat):Int)=N∧9≤N∧N≤1000000:=⟨_,rfl,by omega,by omega⟩
    have d0:decide (N<9)=false:=decide_eq_false (by omega);have gn:(N-1).toNat=l.length-1:=by omega
    have w1:IntKind.i64.wrap (N-1)=N-1:=a5 (by omega);have w2:IntKind.i64.wrap (N-4)=N-4:=a5 (by omega);have w3:IntKind.i64.wrap (N-4-1)=N-5:=by rw [a5 (by omega)]; omega
    obtain ⟨K,hK⟩:∃K:Int,(N-5)/2=K:=⟨_,rfl⟩
    have w4:(N-5).tdiv 2=K:=by rw [Int.tdiv_eq_ediv_of_nonneg (by omega),hK]
    have w5:IntKind.u64.wrap (IntKind.i64.wrap (IntKind.i64.wrap (8*IntKind.i64.wrap K)+2))=8*K+2:=by
      rw [a5 (x:=K) (by omega),a5 (x:=8*K) (by omega),a5 (x:=8*K+2) (by omega),IntKind.wrap_u64];omega
    have hc:mb l=(!(l.getD 0 0 != 9)&&(!(l.getD (l.length-1) 0 != 15)&&(!(l.getD 3 0 != 8*K+2) && !((N-5).tmod 2 != 0)))):=by
      unfold mb;have t1:decide (9≤l.length)=true:=decide_eq_true (by omega)
      have t2:(l.length%2 == 1)=!((N-5).tmod 2 != 0):=by
        rw [Int.tmod_eq_emod_of_nonneg (by omega),Bool.eq_iff_iff];simp;omega
      rw [hN,hK,t1,t2];simp only [bne];generalize (l.getD 0 0 == 9)=A;generalize (l.getD (l.length-1) 0 == 15)=B;generalize (l.getD 3 0 == 8*K+2)=C;generalize ((N-5).tmod 2 == 0)=D;cases A<;>cases B<;>cases C<;>cases D<;>rfl
    cases hcc:mb l with
    | false=>
      rw [hcc] at hc hres;rcases hres with ⟨_,rfl,rfl⟩ | ⟨h,_⟩
      · cases e0:(l.getD 0 0 != 9)<;>cases e1:(l.getD (l.length-1) 0 != 15)<;>cases e2:(l.getD 3 0 != 8*K+2)<;>cases e3:((N-5).tmod 2 != 0) <;>
          first
          | (rw [e0,e1,e2,e3] at hc; cases hc; done)
          | (simp only [yp,hnl,hN,d0,gn,kh,w1,w2,w3,w4,w5,e0,e1,e2,e3,pnt,zad,zaj,zaa,push_cast,↓reduceIte,reduceCtorEq,zB,zE,zA,zS,zL,zD,zM]
             first | done | omega | (refine ⟨by omega,?_⟩; simp; try omega))
      · cases h
    | true=>
      rw [hcc] at hc hres;have hc2:=hc.symm;simp only [zbs,Bool.not_eq_true'] at hc2;obtain ⟨e0,e1,e2,e3⟩:=hc2;rcases hres with ⟨h,_⟩ | ⟨_,rfl,rfl⟩
      · cases h
      simp only [yp,hnl,hN,d0,gn,kh,w1,w2,w3,w4,w5,e0,e1,e2,e3,pnt,zad,zaj,zaa,push_cast,↓reduceIte,reduceCtorEq,zB,zE,zA,zS,zL,zD,zM]
      repeat refine And.intro (by omega) ?_
      refine d9 (a1h h 1) rfl trivial ?_;simp only [hnl,hN,kh,zad,zaj,zaa,push_cast,↓reduceIte,reduceCtorEq,zB,zE,zA,zS,zL,zD,zM]
      repeat refine And.intro (by omega) ?_
      refine d9 (a1h h 2) rfl trivial ?_;simp only [hnl,hN,kh,pnt,zad,zaj,zaa,push_cast,↓reduceIte,reduceCtorEq,zB,zE,zA,zS,zL,zD,zM];refine And.intro (by kernel_rfl) (And.intro (by simp) ?_);obtain ⟨J,hJ⟩:∃J,(l.length-5)/2=J:=⟨_,rfl⟩
      have hodd:(N-5)%2=0:=by
        rw [Int.tmod_eq_emod_of_nonneg (by omega)] at e3;simpa using e3
      have hJN:N=2*J+5:=by omega
      have hres:lq l=mq l (J+1):=by rw [lq,if_pos hcc,hJ]
      rw [hres];clear e0 e1 e2 e3 hc w1 w2 w3 w4 w5 gn d0
      refine run_loop [(6,false),(0,false),(4,false),(5,false)] (fun vs pos los=>∃j:Nat,j≤J∧vs=[int .i64 (4+2*(j:Int)),.r (.sl 1 (ag l)),.ptr 2000000 0 0,.own 2000001 0 0 (j+1)]∧pos=[]∧los=[.box [int .i64 (aae l j).1,int .i64 (aae l j).2],u5 (mq l (j+1))])
        (fun vs _ _=>match vs with | .r (.v (.int _ a))::_=>(N-a).toNat | _=>0) rfl ?_ ?_
      · simp only [u5,pnt,push_cast,↓reduceIte,reduceCtorEq,zB,zE,zA,zS,zL,zD,zM];exact ⟨0,by omega,rfl,rfl⟩
      · rintro vs pos los ⟨j,hj,rfl,rfl,rfl⟩;have w1:IntKind.i64.wrap (4+2*(j:Int)+1)=5+2*(j:Int):=by rw [a5 (by omega)]; omega
        have w2:IntKind.i64.wrap (4+2*(j:Int)+2)=4+2*((j+1:Nat):Int):=by rw [a5 (by omega)]; omega
        have n1:(4+2*(j:Int)).toNat=4+2*j:=by omega
        have n2:(5+2*(j:Int)).toNat=5+2*j:=by omega
        have hcl:(mq l (j+1)).length=j+1:=by simp [mq]
        simp only [hnl,hN,w1,u5,pnt,push_cast,↓reduceIte,reduceCtorEq,zB,zE,zA,zS,zL,zD,zM];refine b9 (fun hd=>?_) (fun hd=>?_)
        · have hd:=of_decide_eq_true hd;simp only [hnl,hN,w1,n1,n2,kh,u5,pnt,zad,zaj,zaa,push_cast,↓reduceIte,reduceCtorEq,zB,zE,zA,zS,zL,zD,zM]
          repeat refine And.intro (by omega) ?_
          refine d9 (a1h h (4+2*j)) rfl trivial ?_;simp only [hnl,hN,w1,n1,n2,kh,u5,pnt,zad,zaj,zaa,push_cast,↓reduceIte,reduceCtorEq,zB,zE,zA,zS,zL,zD,zM]
          repeat refine And.intro (by first | omega | kernel_rfl) ?_
          refine d9 (a1h h (5+2*j)) rfl trivial ?_;simp only [hnl,hN,w1,n1,n2,kh,u5,pnt,zad,zaj,zaa,push_cast,↓reduceIte,reduceCtorEq,zB,zE,zA,zS,zL,zD,zM];refine And.intro (by omega) (And.intro (by kernel_rfl) (And.intro (by simp) (And.intro ⟨by omega,by omega⟩ ?_)));rw [w2];refine ⟨⟨j+1,by omega,rfl,?_⟩,by omega⟩;have htk:zay (j+1) ((mq l (j+1)).map ptR)=(mq l (j+1)).map ptR:=zan (by simp [hcl]);rw [htk,azf l (j+1),zba]
          rfl
        · have hd:=of_decide_eq_false hd;have hjJ:j=J:=by omega
          subst hjJ;simp only [hnl,hN,hcl,u5,pnt,push_cast,↓reduceIte,reduceCtorEq,zB,zE,zA,zS,zL,zD,zM]

def agc:PC:=
  (.seq (.reg [p_a 3 (.box (.t 0)),p_s 6 (.mov (.c (.nils 1 (.v (.int .u8 0)))))])
 (.seq (.reg [p_m 11 2,p_s 12 (.mm true (.t 11) [(o_i 0)]),p_s 13 (.conv .u64 (.t 12)),p_m 7 13])
 (.seq (.reg [p_s 8 (.mov (.c (.nils 1 (.v (.int .u64 0)))))])
 (.seq (.seq (.reg [p_s 14 (.mov (.c (.r (.v (.int .u64 0)))))])
 (.block 0 (.loop (.seq (.reg [p_s 15 (.bin .lss (.t 14) (.c (.r (.v (.int .u64 4)))))])
 (.seq (.cond (.t 15)
 .skip
 (.exit 0))
 (.seq (.block 1 (.seq (.reg [p_m 16 14,p_m 9 16])
 (.reg [p_m 17 8,p_m 18 9,p_m 19 7,p_m 20 9,p_s 21 (.bin .add (.t 19) (.t 20)),p_a 22 (.bsl 1 (.v (.int .u64 0)) [(.t 18),(.t 21)]),p_a 23 (.app 1 (.v (.int .u64 0)) 8 (.t 17) (.t 22)),
 p_m 8 23])))
 (.reg [p_s 24 (.bin .add (.t 14) (.c (.r (.v (.int .u64 1))))),p_m 14 24])))))))
 (.seq (.reg [p_s 25 (.fa 0 (.t 3)),p_s 26 (.ld none (.t 25)),p_c 27 1 55 [(.c (.nils 1 (.v (.int .u8 0)))),(o_i 1),(.t 26)],p_m 10 27])
 (.seq (.reg [p_m 28 10,p_m 29 8,p_c 30 2 56 [(.t 28),(o_i 2),(.t 29)],p_m 10 30])
 (.seq (.reg [p_m 31 10,p_c 32 3 55 [(.t 31),(o_i 3),(.c (.r (.v (.int .u64 3))))],p_m 10 32])
 (.seq (.reg [p_m 33 10,p_m 34 1,p_c 35 4 10 [.t 34],p_c 36 5 56 [(.t 33),(o_i 4),(.t 35)],p_m 6 36])
 .ret))))))))
theorem akx:Fun P0 28 3 [(6,false,none)] agc:=afc func28 rfl (by decide) (by kernel_rfl) (by decide) rfl (by kernel_rfl) (by kernel_rfl) (by decide)
def mf (k:Int):List Int:=[0,k,1,k+1,2,k+2,3,k+3]
def yx (f:Int) (ns:List Int):List UInt8:=o8 f (ns.flatMap fun n=>m6 n.toNat)
def ja (w n:Int) (ring:List P2):List UInt8:=u6 1 w++yx 2 (mf (max n 0))++u6 3 3++yx 4 (s7 ring)
theorem aqw:∀(r:List P2) (p:P2),u64L (v4 p r)
 | [],p=>fun n hn=>by simp [v4] at hn
 | q::r,p=>fun n hn=>by
  rw [v4,zbb] at hn;rcases hn with hn | hn
  ·simp only [am3,zbc,zbt,or_false] at hn;rcases hn with rfl | rfl
   ·exact ahz _ (aer _)
   ·exact ahz _ (aer _)
  ·exact aqw r q n hn
theorem avn (ring:List P2) (hl:ring.length≤100000) (h:i64P ring):u64L (s7 ring):=fun n hn=>by
 cases ring with
 | nil=>simp [s7] at hn
 | cons p r=>
  rw [s7] at hn;split at hn
  ·simp at hn
  ·simp only [zbb,zbc,zbt,or_false] at hn;simp only [zal] at hl;have hp:=h p (by simp);rcases hn with ((rfl | rfl | rfl | rfl) | hn) | rfl
   ·omega
   ·exact ahz _ hp.1
   ·exact ahz _ hp.2
   ·omega
   ·exact aqw _ _ _ hn
   ·omega
theorem amq (ring:List P2):(s7 ring).length≤2*ring.length+3:=by
 cases ring with
 | nil=>simp [s7]
 | cons p r=>
  rw [s7];split
  ·simp
  ·have:=ng r p;simp [this];omega
theorem aoq {ring:List P2} (h:ring.length<3):s7 ring=[]:=by
 cases ring with
 | nil=>rfl
 | cons p r=>rw [s7,if_pos (by rw [zal] at h; omega)]
theorem agm (f:Int) (ns:List Int):(yx f ns).length≤20+10*ns.length:=by
 have h1:=ko f (ns.flatMap fun n=>m6 n.toNat);have h2:=al9 ns;unfold yx;omega
theorem agw (w n:Int) (ring:List P2):(ja w n ring).length≤300+20*ring.length:=by
 have h1:=iv 1 w;have h2:=agm 2 (mf (max n 0));have h3:=iv 3 3;have h4:=agm 4 (s7 ring);have h5:=amq ring;have h6:(mf (max n 0)).length=8:=rfl;simp only [ja,zab];omega
theorem awl {k:Int} (h:0≤k∧k≤9223372036854775807):u64L (mf k):=fun n hn=>by
 simp only [mf,zbc,zbt,or_false] at hn;omega
def a1x (w a b c d:Int):AV:=.r (.agg [.v (.int .u64 w),.v (.int .i64 a),.v (.int .i64 b),.v (.int .i64 c),.v (.int .i64 d)])
def ac6 (k:Int) (i:Nat):List Int:=(zai i).flatMap fun j:Nat=>[(j:Int),k+j]
theorem alb (k:Int) (i:Nat):ac6 k (i+1)=ac6 k i++[(i:Int),k+i]:=by simp [ac6,zax]
theorem awk (k:Int):∀i,(ac6 k i).length=2*i
 | 0=>rfl
 | i+1=>by rw [alb,zab,awk k i]; simp; omega
theorem bfm (k:Int):ac6 k 4=mf k:=by simp [ac6,mf,zax]
set_option maxHeartbeats 1000000 in
theorem tfeat_t (w a b c d n : Int) (ring : List P2) (hw : 0 ≤ w ∧ w < 18446744073709551616) (hn : in64 n) (hl : ring.length ≤ 100000) (h : i64P ring) :
    a8 P0 28 [a1x w a b c d,c7 ring,int .i64 n] [] (.own 1000000 0 0 (ja w n ring).length) [qe (ja w n ring)]:=by
  refine akx rfl (by decide) ?_;have hmx:=k7;have hn':-9223372036854775808≤n∧n≤9223372036854775807:=hn;obtain ⟨K,hK,hK1⟩:∃K,max n 0=K∧0≤K∧K≤9223372036854775807:=⟨_,rfl,by omega,by omega⟩
  have wK:IntKind.u64.wrap K=K:=by rw [IntKind.wrap_u64]; omega
  have l1:=iv 1 w;have l2:=agm 2 (mf K);have l3:=iv 3 3;have l4:=agm 4 (s7 ring);have l5:=amq ring;have l6:(mf K).length=8:=rfl;have hT:=awl hK1;have hC:=avn ring hl h;have hF:ja w n ring=u6 1 w++yx 2 (mf K)++u6 3 3++yx 4 (s7 ring):=by rw [ja,hK]
  obtain ⟨B1,hB1⟩:∃B,u6 1 w=B:=⟨_,rfl⟩
  obtain ⟨B2,hB2⟩:∃B,B1++yx 2 (mf K)=B:=⟨_,rfl⟩
  obtain ⟨B3,hB3⟩:∃B,B2++u6 3 3=B:=⟨_,rfl⟩
  obtain ⟨B4,hB4⟩:∃B,B3++yx 4 (s7 ring)=B:=⟨_,rfl⟩
  have m2:=congrArg List.length hB2;have m3:=congrArg List.length hB3;rw [zab] at m2 m3;rw [hB1] at l1;have t1:=arn [] 1 w (by decide) hw.1 hw.2 (by simp);rw [zao,hB1] at t1;have t2:=pack_t B1 2 (mf K) (by decide) hT (by rw [l6]; decide) (by omega);rw [show o8 2 ((mf K).flatMap fun n=>m6 n.toNat)=yx 2 (mf K) from rfl,hB2] at t2;have t3:=arn B2 3 3 (by decide) (by decide) (by decide) (by omega);rw [hB3] at t3;have t4:=pack_t B3 4 (s7 ring) (by decide) hC (by omega) (by omega);rw [show o8 4 ((s7 ring).flatMap fun n=>m6 n.toNat)=yx 4 (s7 ring) from rfl,hB4] at t4;rw [hF,hB1,hB2,hB3,hB4];clear hB1 hB2 hB3 hB4 hF
  push_cast [agc,a1x,c7,hK,wK,zaf]
  refine run_loop [(14, false), (7, false), (8, false), (1, false), (3, false)] (fun vs pos los => ∃ i : Nat, i ≤ 4 ∧ pos = [] ∧
      (i=0∧vs=[int .u64 i,int .u64 K,.nils 1 (.v (.int .u64 0)),c7 ring,.ptr 2000000 0 0]∧los=[.box [int .u64 w,int .i64 a,int .i64 b,int .i64 c,int .i64 d]] ∨
       0<i∧vs=[int .u64 i,int .u64 K,.own 2000000 0 0 (ac6 K i).length,c7 ring,.ptr 2000001 0 0]∧los=[atb (ac6 K i),.box [int .u64 w,int .i64 a,int .i64 b,int .i64 c,int .i64 d]]))
    (fun vs _ _=>match vs with | .r (.v (.int _ a))::_=>(4-a).toNat | _=>0) rfl ?_ ?_
  · push_cast [c7]
    exact ⟨0,by omega,by simp⟩
  · rintro vs pos los ⟨i,hi,rfl,⟨h0,rfl,rfl⟩ | ⟨h0,rfl,rfl⟩⟩
    · subst h0;have wk:IntKind.u64.wrap (K+0)=K:=by rw [IntKind.wrap_u64]; omega
      have w1:IntKind.u64.wrap (0+1)=1:=rfl;have d4:decide ((0:Int)<4)=true:=rfl
      push_cast [c7,wk,w1,d4,zbe]
      exact ⟨by simp,by omega,⟨1,by omega,.inr ⟨by omega,rfl,by simp [ac6,ag,atb]⟩⟩,by decide⟩
    · have wk:IntKind.u64.wrap (K+i)=K+i:=by rw [IntKind.wrap_u64]; omega
      have w1:IntKind.u64.wrap ((i:Int)+1)=i+1:=by rw [IntKind.wrap_u64]; omega
      push_cast [c7,wk,w1]
      refine b9 (fun hd=>?_) (fun hd=>?_)
      · have hd:=of_decide_eq_true hd
        push_cast [c7,wk,w1]
        have htl:=awk K i;have htk:zay (ac6 K i).length (ag (ac6 K i))=ag (ac6 K i):=zan (by simp [ag]);rw [htk];refine ⟨by simp,⟨by omega,by omega⟩,⟨i+1,by omega,.inr ⟨by omega,?_,?_⟩⟩,by omega⟩
        · rw [alb]; simp
        · rw [alb]; simp [ag,atb]
      · have hd:=of_decide_eq_false hd;obtain rfl:i=4:=by omega
        rw [bfm]
        push_cast [c7]
        refine b7 (as':=[sb [],int .i64 1,int .u64 w]) rfl ?_;refine a7 t1 rfl trivial ?_
        push_cast
        refine l9 ?_;refine b7 (as':=[sb B1,int .i64 2,.r (.sl 1 ((mf K).map fun n=>.v (.int .u64 n)))]) rfl ?_;refine a7 t2 rfl trivial ?_
        push_cast
        refine l9 ?_;refine b7 (as':=[sb B2,int .i64 3,int .u64 3]) rfl ?_;refine a7 t3 rfl trivial ?_
        push_cast
        by_cases h3:ring.length<3
        · refine b7 (as':=[c7 ring]) rfl ?_;refine a7 (a36 ring h3) rfl trivial ?_
          push_cast
          rw [aoq h3] at t4;refine l9 ?_;refine b7 (as':=[sb B3,int .i64 4,.r (.sl 1 [])]) rfl ?_;refine a7 t4 rfl trivial ?_
          push_cast
          done
        · refine b7 (as':=[c7 ring]) rfl ?_;refine a7 (a75 ring hl h (by omega)) rfl trivial ?_;have htk:zay (s7 ring).length (ag (s7 ring))=ag (s7 ring):=zan (by simp [ag])
          push_cast [atb,htk]
          refine l9 ?_;refine b7 (as':=[sb B3,int .i64 4,.r (.sl 1 ((s7 ring).map fun n=>.v (.int .u64 n)))]) rfl ?_;refine a7 t4 rfl trivial ?_
          push_cast
          done

def akf:PC:=
  (.seq (.reg [p_s 2 (.mov (.c (.nils 1 (.v (.int .u8 0)))))])
 (.seq (.reg [p_c 12 1 55 [(.c (.nils 1 (.v (.int .u8 0)))),(o_i 15),(.c (.r (.v (.int .u64 2))))],p_m 3 12])
 (.seq (.reg [p_m 13 3,p_a 14 (.bsl 1 (.v (.int .u8 0)) [(.c (.r (.v (.int .u8 99)))),(.c (.r (.v (.int .u8 101)))),(.c (.r (.v (.int .u8 108)))),(.c (.r (.v (.int .u8 108)))),(.c (.r (.v (.int .u8 115))))]),
 p_a 15 (.mrk (.t 14)),p_c 16 2 79 [(.t 13),(o_i 1),(.t 15)],p_m 3 16])
 (.seq (.seq (.reg [p_m 17 0,p_s 18 (.len false (.t 17)),p_s 19 (.mov (o_i 0))])
 (.block 0 (.loop (.seq (.reg [p_s 20 (.bin .lss (.t 19) (.t 18))])
 (.seq (.cond (.t 20)
 .skip
 (.exit 0))
 (.seq (.block 1 (.seq (.reg [p_m 21 19,p_s 22 (.ia 6 (.agg [(.v (.int .u64 0)),(.sl 2 []),(.v (.int .i64 0)),(.v (.int .i64 0)),(.v (.int .i64 0)),(.v (.int .i64 0))]) (.t 17) (.t 19)),
 p_s 23 (.ld (some 6) (.t 22)),p_a 5 (.new [(.r (.v (.int .u64 0))),(.nils 2 (.agg [(.v (.int .i64 0)),(.v (.int .i64 0))])),(.r (.v (.int .i64 0))),(.r (.v (.int .i64 0))),(.r (.v (.int .i64 0))),(.r (.v (.int .i64 0)))]),
 p_m 4 21,⟨none,none,0,.act (.st 6 (.t 5) (.t 23))⟩])
 (.reg [p_m 24 3,p_s 25 (.fa 0 (.t 5)),p_s 26 (.ld none (.t 25)),p_s 27 (.build [(.r (.v (.int .u64 0))),(.r (.v (.int .i64 0))),(.r (.v (.int .i64 0))),(.r (.v (.int .i64 0))),(.r (.v (.int .i64 0)))] [(0,1,(.t 26))]),
 p_s 28 (.fa 1 (.t 5)),p_s 29 (.ld none (.t 28)),p_m 30 4,p_s 31 (.bin .mul (o_i 4) (.t 30)),p_c 32 3 28 [.t 27,.t 29,.t 31],p_c 33 4 79 [(.c (.nils 1 (.v (.int .u8 0)))),(o_i 2),(.t 32)],
 p_a 34 (.app 1 (.v (.int .u8 0)) 1 (.t 24) (.t 33)),p_m 3 34])))
 (.reg [p_s 35 (.bin .add (.t 19) (o_i 1)),p_m 19 35])))))))
 (.seq (.seq (.reg [p_a 36 (.bsl 1 (.v (.string ⟨#[]⟩)) [(.c (.r (.v (.string ⟨#[99,111,117,110,116]⟩)))),(.c (.r (.v (.string ⟨#[115,117,109]⟩)))),(.c (.r (.v (.string ⟨#[109,105,110]⟩)))),(.c (.r (.v (.string ⟨#[109,97,120]⟩))))]),
 p_s 37 (.len false (.t 36)),p_s 38 (.mov (o_i 0))])
 (.block 2 (.loop (.seq (.reg [p_s 39 (.bin .lss (.t 38) (.t 37))])
 (.seq (.cond (.t 39)
 .skip
 (.exit 2))
 (.seq (.block 3 (.seq (.reg [p_s 40 (.ia 1 (.v (.string ⟨#[]⟩)) (.t 36) (.t 38)),p_s 41 (.ld none (.t 40)),p_m 7 41])
 (.reg [p_m 42 3,p_m 43 7,p_a 44 (.toBytes (.v (.int .u8 0)) (.t 43)),p_c 45 5 79 [(.t 42),(o_i 3),(.t 44)],p_m 3 45])))
 (.reg [p_s 46 (.bin .add (.t 38) (o_i 1)),p_m 38 46])))))))
 (.seq (.seq (.reg [p_m 47 0,p_s 48 (.len false (.t 47)),p_s 49 (.mov (o_i 0))])
 (.block 4 (.loop (.seq (.reg [p_s 50 (.bin .lss (.t 49) (.t 48))])
 (.seq (.cond (.t 50)
 .skip
 (.exit 4))
 (.seq (.block 5 (.seq (.reg [p_s 51 (.ia 6 (.agg [(.v (.int .u64 0)),(.sl 2 []),(.v (.int .i64 0)),(.v (.int .i64 0)),(.v (.int .i64 0)),(.v (.int .i64 0))]) (.t 47) (.t 49)),p_s 52 (.ld (some 6) (.t 51)),
 p_a 9 (.new [(.r (.v (.int .u64 0))),(.nils 2 (.agg [(.v (.int .i64 0)),(.v (.int .i64 0))])),(.r (.v (.int .i64 0))),(.r (.v (.int .i64 0))),(.r (.v (.int .i64 0))),(.r (.v (.int .i64 0)))]),
 ⟨none,none,0,.act (.st 6 (.t 9) (.t 52))⟩])
 (.seq (.reg [p_s 53 (.fa 2 (.t 9)),p_s 54 (.ld none (.t 53)),p_s 55 (.fa 3 (.t 9)),p_s 56 (.ld none (.t 55)),p_s 57 (.fa 4 (.t 9)),p_s 58 (.ld none (.t 57)),p_s 59 (.fa 5 (.t 9)),
 p_s 60 (.ld none (.t 59)),p_a 61 (.bsl 1 (.v (.int .i64 0)) [(.t 54),(.t 56),(.t 58),(.t 60)]),p_s 62 (.len false (.t 61)),p_s 63 (.mov (o_i 0))])
 (.block 6 (.loop (.seq (.reg [p_s 64 (.bin .lss (.t 63) (.t 62))])
 (.seq (.cond (.t 64)
 .skip
 (.exit 6))
 (.seq (.block 7 (.seq (.reg [p_s 65 (.ia 1 (.v (.int .i64 0)) (.t 61) (.t 63)),p_s 66 (.ld none (.t 65)),p_m 11 66])
 (.reg [p_m 67 3,p_m 68 11,p_c 69 6 31 [.t 68],p_c 70 7 55 [(.c (.nils 1 (.v (.int .u8 0)))),(o_i 6),(.t 69)],p_c 71 8 79 [(.c (.nils 1 (.v (.int .u8 0)))),(o_i 4),(.t 70)],
 p_a 72 (.app 1 (.v (.int .u8 0)) 1 (.t 67) (.t 71)),p_m 3 72])))
 (.reg [p_s 73 (.bin .add (.t 63) (o_i 1)),p_m 63 73])))))))))
 (.reg [p_s 74 (.bin .add (.t 49) (o_i 1)),p_m 49 74])))))))
 (.seq (.reg [p_m 75 3,p_c 76 9 55 [(.t 75),(o_i 5),(.c (.r (.v (.int .u64 4096))))],p_m 3 76])
 (.seq (.reg [p_m 77 3,p_c 78 10 79 [(.c (.nils 1 (.v (.int .u8 0)))),(o_i 3),(.t 77)],p_m 2 78])
 .ret))))))))
theorem anp:Fun P0 40 1 [(2,false,none)] akf:=afc func40 rfl (by decide) (by kernel_rfl) (by decide) rfl (by kernel_rfl) (by kernel_rfl) (by decide)
structure Fea where
 w:Int
 ring:List P2
 c:Int
 s:Int
 lo:Int
 hi:Int
instance:Inhabited Fea:=⟨⟨0,[],0,0,0,0⟩⟩
def Fea.rv (f:Fea):RV:=.agg [.v (.int .u64 f.w),.sl 2 (f.ring.map ptR),.v (.int .i64 f.c),.v (.int .i64 f.s),.v (.int .i64 f.lo),.v (.int .i64 f.hi)]
def Fea.ok (f:Fea):Prop:=(0≤f.w∧f.w<18446744073709551616)∧f.ring.length≤100000∧i64P f.ring∧(in64 f.c∧in64 f.s∧in64 f.lo∧in64 f.hi)
def cj (l:List Fea):AV:=.r (.sl 6 (l.map Fea.rv))
def fx (l:List Fea) (j:Nat):List UInt8:=o8 2 (ja (l.getD j default).w (4*(j:Int)) (l.getD j default).ring)
def iw (l:List Fea) (i:Nat):List UInt8:=(zai i).flatMap (fx l)
def vl:Nat→List UInt8
 | 0=>[99,111,117,110,116]
 | 1=>[115,117,109]
 | 2=>[109,105,110]
 | _=>[109,97,120]
def ug (i:Nat):List UInt8:=(zai i).flatMap fun j=>o8 3 (vl j)
def Fea.nums (f:Fea):List Int:=[f.c,f.s,f.lo,f.hi]
def vx (f:Fea) (k:Nat):List UInt8:=o8 4 (u6 6 (zig (f.nums.getD k 0)))
def ym (f:Fea) (k:Nat):List UInt8:=(zai k).flatMap (vx f)
def sp (l:List Fea) (j:Nat):List UInt8:=(zai j).flatMap fun i=>ym (l.getD i default) 4
def zr:List UInt8:=u6 15 2++o8 1 [99,101,108,108,115]
def ah (l:List Fea):List UInt8:=o8 3 (zr++iw l l.length++ug 4++sp l l.length++u6 5 4096)
theorem ahf (l:List Fea) (i:Nat):iw l (i+1)=iw l i++fx l i:=by simp [iw,zax]
theorem ar7 (i:Nat):ug (i+1)=ug i++o8 3 (vl i):=by simp [ug,zax]
theorem aqq (f:Fea) (i:Nat):ym f (i+1)=ym f i++vx f i:=by simp [ym,zax]
theorem ai9 (l:List Fea) (i:Nat):sp l (i+1)=sp l i++ym (l.getD i default) 4:=by simp [sp,zax]
theorem bhl {l:List Fea} (h:∀f∈l,f.ok) (j:Nat):(fx l j).length≤2000400:=by
 have h1:=ko 2 (ja (l.getD j default).w (4*(j:Int)) (l.getD j default).ring);have h2:=agw (l.getD j default).w (4*(j:Int)) (l.getD j default).ring
 have h3:(l.getD j default).ring.length≤100000:=by
  rw [zac];cases e:l[j]? with
  | none=>exact Nat.zero_le _
  | some f=>exact (h f (zaz e)).2.1
 unfold fx;omega
theorem aeg {l:List Fea} (h:∀f∈l,f.ok):∀i,(iw l i).length≤2000400*i
 | 0=>by simp [iw]
 | i+1=>by
  have:=aeg h i;have:=bhl h i;rw [ahf,zab];omega
theorem apv (i:Nat):(vl i).length≤5:=by unfold vl; split<;>simp
theorem acn:∀i,(ug i).length≤25*i
 | 0=>by simp [ug]
 | i+1=>by
  have:=acn i;have:=apv i;have:=ko 3 (vl i);rw [ar7,zab];omega
theorem a3x (f:Fea) (i:Nat):(vx f i).length≤40:=by
 have:=iv 6 (zig (f.nums.getD i 0));have:=ko 4 (u6 6 (zig (f.nums.getD i 0)));unfold vx;omega
theorem ak3 (f:Fea):∀i,(ym f i).length≤40*i
 | 0=>by simp [ym]
 | i+1=>by
  have:=ak3 f i;have:=a3x f i;rw [aqq,zab];omega
theorem acb (l:List Fea):∀i,(sp l i).length≤160*i
 | 0=>by simp [sp]
 | i+1=>by
  have:=acb l i;have:=ak3 (l.getD i default) 4;rw [ai9,zab];omega
theorem agu:zr.length≤50:=by decide
theorem a6i {l:List Fea} {i:Nat} (hi:i<l.length) (z:RV):(l.map Fea.rv).getD i z=.agg [.v (.int .u64 (l.getD i default).w),.sl 2 ((l.getD i default).ring.map ptR),.v (.int .i64 (l.getD i default).c),.v (.int .i64 (l.getD i default).s),.v (.int .i64 (l.getD i default).lo),.v (.int .i64 (l.getD i default).hi)]:=by
 simp [zac,hi,Fea.rv]
theorem ajx {l:List Fea} (h:∀f∈l,f.ok) {i:Nat} (hi:i<l.length):(l.getD i default).ok:=by
 rw [zac,zas hi];exact h _ (zca hi)
set_option maxHeartbeats 2000000 in
theorem a0p (l:List Fea) (hl:l.length≤100000) (h:∀f∈l,f.ok):a8 P0 40 [cj l] [] (.own 1000000 0 0 (ah l).length) [qe (ah l)]:=by
 refine anp rfl (by decide) ?_;have hmx:=k7;obtain ⟨N,hN,hN1⟩:∃N:Int,((l.length:Nat):Int)=N∧0≤N∧N≤100000:=⟨_,rfl,by omega,by omega⟩
 have tn:=arn [] 15 2 (by decide) (by decide) (by decide) (by simp);rw [zao] at tn;have tb:=abw (u6 15 2) 1 [99,101,108,108,115] (by decide) (by decide) (by decide);rw [show u6 15 2++o8 1 [99,101,108,108,115]=zr from rfl] at tb;have hH:=agu;simp only [akf,cj,hN,push_cast,↓reduceIte,reduceCtorEq,zB,zE,zA,zS,zL,zD,zM];refine b7 (as':=[sb [],int .i64 15,int .u64 2]) rfl ?_;refine a7 tn rfl trivial ?_;simp only [push_cast,↓reduceIte,reduceCtorEq,zB,zE,zA,zS,zL,zD,zM];refine And.intro (by simp) (l9 ?_);refine b7 (as':=[sb (u6 15 2),int .i64 1,sb [99,101,108,108,115]]) rfl ?_;refine a7 tb rfl trivial ?_;simp only [push_cast,↓reduceIte,reduceCtorEq,zB,zE,zA,zS,zL,zD,zM];have hF:=aeg h
 refine run_loop [(19,false),(18,false),(17,false),(3,false),(0,false)] (fun vs pos los=>∃(i:Nat) (B:List UInt8),i≤l.length∧B=zr++iw l i∧pos=[] ∧
   vs=[int .i64 i,int .i64 N,cj l,.own 2000000 0 0 B.length,cj l]∧los=[qe B])
  (fun vs _ _=>match vs with | .r (.v (.int _ a))::_=>(N-a).toNat | _=>0) rfl ?_ ?_
 ·simp only [cj,push_cast,↓reduceIte,reduceCtorEq,zB,zE,zA,zS,zL,zD,zM];exact ⟨0,zr,by omega,by simp [iw],by simp [cj,hN]⟩
 ·rintro vs pos los ⟨i,B,hi,hB,rfl,rfl,rfl⟩;have hFi:=hF i;have hBl:B.length=zr.length+(iw l i).length:=by rw [hB,zab]
  have w1:IntKind.i64.wrap ((i:Int)+1)=i+1:=a5 (by omega);have w4:IntKind.i64.wrap (4*(i:Int))=4*i:=a5 (by omega);simp only [cj,w1,w4,hN,push_cast,↓reduceIte,reduceCtorEq,zB,zE,zA,zS,zL,zD,zM];refine b9 (fun hd=>?_) (fun hd=>?_)
  ·have hd:=of_decide_eq_true hd;have hi2:i<l.length:=by omega
   have hg:=a6i hi2;have ho:=ajx h hi2;have hlg:B++fx l i=B++o8 2 (ja (l.getD i default).w (4*(i:Int)) (l.getD i default).ring):=rfl;have hff:=agw (l.getD i default).w (4*(i:Int)) (l.getD i default).ring;generalize l.getD i default=f at *;have tf:=tfeat_t f.w 0 0 0 0 (4*(i:Int)) f.ring ho.1 (by unfold in64; omega) ho.2.1 ho.2.2.1;have tb:=abw [] 2 (ja f.w (4*(i:Int)) f.ring) (by decide) (by have:=ho.2.1; omega) (by simp);rw [zao] at tb;have hbl:=ko 2 (ja f.w (4*(i:Int)) f.ring);generalize ja f.w (4*(i:Int)) f.ring=FL at *;generalize o8 2 FL=BL at *;simp only [cj,hg,w1,w4,hN,zaq,zbd,zaa,push_cast,↓reduceIte,reduceCtorEq,zB,zE,zA,zS,zL,zD,zM];refine And.intro (by omega) ?_
   refine b7 (as':=[a1x f.w 0 0 0 0,c7 f.ring,int .i64 (4*(i:Int))]) rfl ?_;refine a7 tf rfl trivial ?_;simp only [push_cast,↓reduceIte,reduceCtorEq,zB,zE,zA,zS,zL,zD,zM];refine l9 ?_;refine b7 (as':=[sb [],int .i64 2,sb FL]) rfl ?_;refine a7 tb rfl trivial ?_;simp only [w1,push_cast,↓reduceIte,reduceCtorEq,zB,zE,zA,zS,zL,zD,zM];have hrl:=ho.2.1;refine ⟨⟨by omega,by omega⟩,⟨i+1,B++BL,by omega,?_,by simp,by simp⟩,by omega⟩;rw [ahf,← zak,← hB,hlg]
  ·have hd:=of_decide_eq_false hd;have hi2:i=l.length:=by omega
   subst hi2;simp only [cj,push_cast,↓reduceIte,reduceCtorEq,zB,zE,zA,zS,zL,zD,zM];have hHd:B.length≤200040000050:=by omega
   refine And.intro (by simp) (run_loop [(38,false),(37,false),(36,false),(3,false),(0,false)] (fun vs pos los=>∃(k:Nat) (C:List UInt8),k≤4∧C=B++ug k∧pos=[] ∧
     vs=[int .i64 k,int .i64 4,.own 2000000 0 0 4,.own 2000001 0 0 C.length,cj l]∧los=[.row 1 (.v (.string ⟨#[]⟩)) true true [.v (.string ⟨#[99,111,117,110,116]⟩),.v (.string ⟨#[115,117,109]⟩),.v (.string ⟨#[109,105,110]⟩),.v (.string ⟨#[109,97,120]⟩)],qe C])
    (fun vs _ _=>match vs with | .r (.v (.int _ a))::_=>(4-a).toNat | _=>0) rfl ?_ ?_)
   ·simp only [cj,push_cast,↓reduceIte,reduceCtorEq,zB,zE,zA,zS,zL,zD,zM];exact ⟨0,B,by omega,by simp [ug],by simp⟩
   ·rintro vs pos los ⟨k,C,hk,hC,rfl,rfl,rfl⟩;have hKl:=acn k;have hCl:C.length=B.length+(ug k).length:=by rw [hC,zab]
    have hks:=ar7 k;have tk:=abw C 3 (vl k) (by decide) (by have:=apv k; omega) (by omega);rcases (show k=0∨k=1∨k=2∨k=3∨k=4 by omega) with rfl | rfl | rfl | rfl | rfl
    ·have d4:decide ((0:Int)<4)=true:=rfl;have w1:IntKind.i64.wrap ((0:Int)+1)=1:=rfl;have zs:(ByteArray.mk #[99,111,117,110,116]).size=5:=rfl;simp only [cj,d4,w1,zs,hN,zbe,zcb,zad,zbu,zaj,zaa,push_cast,↓reduceIte,reduceCtorEq,zB,zE,zA,zS,zL,zD,zM];refine And.intro (by decide) (And.intro (by omega) (l9 ?_));refine b7 (as':=[sb C,int .i64 3,sb (vl 0)]) rfl ?_;refine a7 tk rfl trivial ?_;simp only [w1,push_cast,↓reduceIte,reduceCtorEq,zB,zE,zA,zS,zL,zD,zM];exact ⟨⟨1,C++o8 3 (vl 0),by omega,by rw [hks,← zak,← hC],by simp,by simp⟩,by decide⟩
    ·have d4:decide ((1:Int)<4)=true:=rfl;have w1:IntKind.i64.wrap ((1:Int)+1)=2:=rfl;have zs:(ByteArray.mk #[115,117,109]).size=3:=rfl;simp only [cj,d4,w1,zs,hN,zbe,zcb,zad,zbu,zaj,zaa,push_cast,↓reduceIte,reduceCtorEq,zB,zE,zA,zS,zL,zD,zM];refine And.intro (by decide) (And.intro (by omega) (l9 ?_));refine b7 (as':=[sb C,int .i64 3,sb (vl 1)]) rfl ?_;refine a7 tk rfl trivial ?_;simp only [w1,push_cast,↓reduceIte,reduceCtorEq,zB,zE,zA,zS,zL,zD,zM];exact ⟨⟨2,C++o8 3 (vl 1),by omega,by rw [hks,← zak,← hC],by simp,by simp⟩,by decide⟩
    ·have d4:decide ((2:Int)<4)=true:=rfl;have w1:IntKind.i64.wrap ((2:Int)+1)=3:=rfl;have zs:(ByteArray.mk #[109,105,110]).size=3:=rfl;simp only [cj,d4,w1,zs,hN,zbe,zcb,zad,zbu,zaj,zaa,push_cast,↓reduceIte,reduceCtorEq,zB,zE,zA,zS,zL,zD,zM];refine And.intro (by decide) (And.intro (by omega) (l9 ?_));refine b7 (as':=[sb C,int .i64 3,sb (vl 2)]) rfl ?_;refine a7 tk rfl trivial ?_;simp only [w1,push_cast,↓reduceIte,reduceCtorEq,zB,zE,zA,zS,zL,zD,zM];exact ⟨⟨3,C++o8 3 (vl 2),by omega,by rw [hks,← zak,← hC],by simp,by simp⟩,by decide⟩
    ·have d4:decide ((3:Int)<4)=true:=rfl;have w1:IntKind.i64.wrap ((3:Int)+1)=4:=rfl;have zs:(ByteArray.mk #[109,97,120]).size=3:=rfl;simp only [cj,d4,w1,zs,hN,zbe,zcb,zad,zbu,zaj,zaa,push_cast,↓reduceIte,reduceCtorEq,zB,zE,zA,zS,zL,zD,zM];refine And.intro (by decide) (And.intro (by omega) (l9 ?_));refine b7 (as':=[sb C,int .i64 3,sb (vl 3)]) rfl ?_;refine a7 tk rfl trivial ?_;simp only [w1,push_cast,↓reduceIte,reduceCtorEq,zB,zE,zA,zS,zL,zD,zM];exact ⟨⟨4,C++o8 3 (vl 3),by omega,by rw [hks,← zak,← hC],by simp,by simp⟩,by decide⟩
    ·have d4:decide ((4:Int)<4)=false:=rfl;simp only [cj,d4,hN,push_cast,↓reduceIte,reduceCtorEq,zB,zE,zA,zS,zL,zD,zM];have hCl2:C.length≤200040000150:=by omega
     clear tk
     refine run_loop [(49,false),(48,false),(47,false),(3,false),(0,false)] (fun vs pos los=>∃(j:Nat) (D:List UInt8),j≤l.length∧D=C++sp l j∧pos=[] ∧
       vs=[int .i64 j,int .i64 N,cj l,.own 2000000 0 0 D.length,cj l]∧los=[qe D])
      (fun vs _ _=>match vs with | .r (.v (.int _ a))::_=>(N-a).toNat | _=>0) rfl ?_ ?_
     ·simp only [cj,push_cast,↓reduceIte,reduceCtorEq,zB,zE,zA,zS,zL,zD,zM];exact ⟨0,C,by omega,by simp [sp],by simp⟩
     ·rintro vs pos los ⟨j,D,hj,hD,rfl,rfl,rfl⟩;have hDi:=acb l j;have hDl:D.length=C.length+(sp l j).length:=by rw [hD,zab]
      have w1:IntKind.i64.wrap ((j:Int)+1)=j+1:=a5 (by omega);have hVs:=ai9 l j;simp only [cj,w1,hN,push_cast,↓reduceIte,reduceCtorEq,zB,zE,zA,zS,zL,zD,zM];refine b9 (fun hd=>?_) (fun hd=>?_)
      ·have hd:=of_decide_eq_true hd;have hi2:j<l.length:=by omega
       have hg:=a6i hi2;have ho:=ajx h hi2;generalize l.getD j default=f at *;simp only [cj,hg,w1,hN,zaq,zbd,zaa,push_cast,↓reduceIte,reduceCtorEq,zB,zE,zA,zS,zL,zD,zM];refine And.intro (by omega) (And.intro (by simp) ?_)
       refine run_loop [(63,false),(62,false),(61,false),(49,false),(48,false),(47,false),(3,false),(0,false)] (fun vs pos los=>∃(k:Nat) (E:List UInt8),k≤4∧E=D++ym f k∧pos=[] ∧
         vs=[int .i64 k,int .i64 4,.own 2000000 0 0 4,int .i64 j,int .i64 N,cj l,.own 2000001 0 0 E.length,cj l]∧los=[.row 1 (.v (.int .i64 0)) true true (f.nums.map fun n=>.v (.int .i64 n)),qe E])
        (fun vs _ _=>match vs with | .r (.v (.int _ a))::_=>(4-a).toNat | _=>0) rfl ?_ ?_
       ·simp only [cj,Fea.nums,push_cast,↓reduceIte,reduceCtorEq,zB,zE,zA,zS,zL,zD,zM];exact ⟨0,D,by omega,by simp [ym],by simp⟩
       ·rintro vs pos los ⟨k,E,hk,hE,rfl,rfl,rfl⟩;have hEi:=ak3 f k;have hEl:E.length=D.length+(ym f k).length:=by rw [hE,zab]
        have hnl:f.nums.length=4:=rfl;have w2:IntKind.i64.wrap ((k:Int)+1)=k+1:=a5 (by omega);have hKs:=aqq f k;simp only [cj,w2,hnl,hN,push_cast,↓reduceIte,reduceCtorEq,zB,zE,zA,zS,zL,zD,zM];refine b9 (fun hd4=>?_) (fun hd4=>?_)
        ·have hd4:=of_decide_eq_true hd4
         have hgn:∀z,(f.nums.map fun n=>RV.v (.int .i64 n)).getD k z=.v (.int .i64 (f.nums.getD k 0)):=fun z=>by
          have:k<f.nums.length:=by omega
          simp [zac,this]
         have hin:in64 (f.nums.getD k 0):=by
          obtain ⟨q1,q2,q3,q4⟩:=ho.2.2.2;rcases (show k=0∨k=1∨k=2∨k=3 by omega) with rfl | rfl | rfl | rfl
          ·exact q1
          ·exact q2
          ·exact q3
          ·exact q4
         have zi:=ahz _ hin;have tz:=aqk _ hin;have tnn:=arn [] 6 (zig (f.nums.getD k 0)) (by decide) zi.1 zi.2 (by simp);have hnn:=iv 6 (zig (f.nums.getD k 0));have tbb:=abw [] 4 (u6 6 (zig (f.nums.getD k 0))) (by decide) (by omega) (by simp);have hvx:=a3x f k;rw [zao] at tnn tbb;rw [show o8 4 (u6 6 (zig (f.nums.getD k 0)))=vx f k from rfl] at tbb;generalize vx f k=V at *;generalize u6 6 (zig (f.nums.getD k 0))=U at *;simp only [cj,hgn,w2,hnl,hN,zaq,zbd,zaa,push_cast,↓reduceIte,reduceCtorEq,zB,zE,zA,zS,zL,zD,zM];refine And.intro (by omega) ?_;refine a7 tz rfl trivial ?_;simp only [push_cast,↓reduceIte,reduceCtorEq,zB,zE,zA,zS,zL,zD,zM]
         refine b7 (as':=[sb [],int .i64 6,int .u64 (zig (f.nums.getD k 0))]) rfl ?_;refine a7 tnn rfl trivial ?_;simp only [push_cast,↓reduceIte,reduceCtorEq,zB,zE,zA,zS,zL,zD,zM];refine l9 ?_;refine b7 (as':=[sb [],int .i64 4,sb U]) rfl ?_;refine a7 tbb rfl trivial ?_;simp only [w2,push_cast,↓reduceIte,reduceCtorEq,zB,zE,zA,zS,zL,zD,zM];exact ⟨⟨by omega,by omega⟩,⟨k+1,E++V,by omega,by rw [hKs,← zak,← hE],by simp,by simp⟩,by omega⟩
        ·have hd4:=of_decide_eq_false hd4;obtain rfl:k=4:=by omega
         simp only [cj,w1,push_cast,↓reduceIte,reduceCtorEq,zB,zE,zA,zS,zL,zD,zM];exact ⟨⟨j+1,E,by omega,by rw [hVs,← zak,← hD,hE],by simp,by simp⟩,by omega⟩
      ·have hd:=of_decide_eq_false hd;have hi2:j=l.length:=by omega
       subst hi2;have te:=arn D 5 4096 (by decide) (by decide) (by decide) (by omega);have hle:=iv 5 4096;have hDF:o8 3 (D++u6 5 4096)=ah l:=by rw [hD,hC,hB]; rfl
       have tf:=abw [] 3 (D++u6 5 4096) (by decide) (by rw [zab]; omega) (by simp);rw [zao,hDF] at tf;simp only [cj,push_cast,↓reduceIte,reduceCtorEq,zB,zE,zA,zS,zL,zD,zM];refine l9 ?_;refine b7 (as':=[sb D,int .i64 5,int .u64 4096]) rfl ?_;refine a7 te rfl trivial ?_;generalize D++u6 5 4096=G at *;simp only [push_cast,↓reduceIte,reduceCtorEq,zB,zE,zA,zS,zL,zD,zM];refine l9 ?_;refine b7 (as':=[sb [],int .i64 3,sb G]) rfl ?_;refine a7 tf rfl trivial ?_;simp only [push_cast,↓reduceIte,reduceCtorEq,zB,zE,zA,zS,zL,zD,zM]

theorem ar4 {l:List Fea} (h:∀f∈l,f.ok):(ah l).length≤2000600*l.length+300:=by
 have h1:=aeg h l.length;have h2:=acb l l.length;have h3:=acn 4;have h4:=agu;have h5:=iv 5 4096;have h6:=ko 3 (zr++iw l l.length++ug 4++sp l l.length++u6 5 4096);unfold ah;simp only [zab] at h6;omega

def qv:Mk P0 f90:={ x:=_ }
theorem ao6:d5 90 1 qv:=c8 func90
def pb:Mk P0 f91:={ x:=_ }
theorem ano:d5 91 1 pb:=c8 func91
def dr (d:List UInt8):List Int:=((jl d).getD []).map fun n:Nat=>(n:Int)
def bq (b:List UInt8):Fea×Bool:=
 match am b with
 | some [x,_,_,y]=>(⟨x.2.2.1,lq (dr y.2.2.2),0,0,0,0⟩,mb (dr y.2.2.2))
 | _=>(⟨0,[],0,0,0,0⟩,false)
def la (b:List UInt8):Int:=
 match am b with
 | some [x]=>zag x.2.2.1
 | _=>0
theorem ap6 {b:List UInt8} (h:∀m,am b=some m→m.length≠4):bq b=(⟨0,[],0,0,0,0⟩,false):=by
 unfold bq;split
 ·rename_i x _ _ y e;exact absurd rfl (h _ e)
 ·rfl
theorem as4 {b:List UInt8} (h:∀m,am b=some m→m.length≠1):la b=0:=by
 unfold la;split
 ·rename_i x e;exact absurd rfl (h _ e)
 ·rfl
theorem a9b {l:List UInt8} {x:Fld} {k:Nat} (h:cz l=some (x,k)):x.1≤1000∧x.2.1≤2∧x.2.2.1<18446744073709551616∧x.2.2.2.length≤l.length:=by
 obtain ⟨h1,h2,h3⟩:=jn (l.drop (take l).2);unfold cz at h;split at h
 ·cases h
 ·split at h
  ·cases h
  ·split at h
   ·cases h;exact ⟨by simp only; omega,by simp,by simp only; omega,by simp⟩
   ·split at h
    ·cases h;refine ⟨by simp only; omega,by simp,by simp,?_⟩;simp only [List.length_take,zcc];omega
    ·cases h
theorem auw:∀(f:Nat) (l:List UInt8) (m:List Fld),fv f l=some m→∀x∈m,x.1≤1000∧x.2.1≤2∧x.2.2.1<18446744073709551616∧x.2.2.2.length≤l.length
 | f,[],m,h,x,hx=>by
  rw [mz] at h;cases h;simp at hx
 | 0,c::l,m,h,x,hx=>by cases h
 | f+1,c::l,m,h,x,hx=>by
  rw [fv] at h;split at h
  ·cases h
  ·rename_i y k e;cases hr:fv f ((c::l).drop k) with
   | none=>rw [hr] at h; cases h
   | some m'=>
    rw [hr] at h;cases h;rcases zbc.1 hx with rfl | hx
    ·exact a9b e
    ·have:=auw f _ m' hr x hx;simp only [zcc] at this;omega
theorem ig {l:List UInt8} {m:List Fld} (h:am l=some m):∀x∈m,x.1≤1000∧x.2.1≤2∧x.2.2.1<18446744073709551616∧x.2.2.2.length≤l.length:=auw _ l m h
theorem auj:∀(f:Nat) (l:List UInt8) (m:List Nat),et f l=some m→∀n∈m,n<18446744073709551616
 | f,[],m,h,x,hx=>by
  rw [mw] at h;cases h;simp at hx
 | 0,c::l,m,h,x,hx=>by cases h
 | f+1,c::l,m,h,x,hx=>by
  rw [et] at h;split at h
  ·cases h
  ·cases hr:et f ((c::l).drop (take (c::l)).2) with
   | none=>rw [hr] at h; cases h
   | some m'=>
    rw [hr] at h;cases h;rcases zbc.1 hx with rfl | hx
    ·exact (jn (c::l)).1
    ·exact auj f _ m' hr x hx
theorem au7 (d:List UInt8):u64L (dr d):=fun n hn=>by
 unfold dr at hn;cases h:jl d with
 | none=>rw [h] at hn; simp at hn
 | some m=>
  rw [h] at hn;obtain ⟨k,hk,rfl⟩:=zam.1 hn;have:=auj _ d m h k hk;omega
theorem au8 (d:List UInt8):(dr d).length≤d.length:=by
 unfold dr;cases h:jl d with
 | none=>simp
 | some m=>
  have:=a31 h;simpa using this
theorem ai8 (b:List UInt8) (hb:b.length≤1000000):a8 P0 91 [sb b] [] (int .i64 (la b)) []:=by
 refine ano rfl (by decide) ?_;have hr:=aq5 b (by omega);have hmx:=k7;have f10:((10:Int) != 0)=true:=rfl;have f00:((0:Int) != 0)=false:=rfl;have f01:((0:Int) != 1)=true:=rfl;cases hm:am b with
 | none=>
  have hv:la b=0:=as4 (fun m h=>by rw [hm] at h; cases h);rw [hm] at hr;rw [hv]
  push_cast [pb,zaf]
  refine a7 hr rfl trivial ?_
  push_cast [ab2,f10]
 | some m=>
  by_cases h0:m=[]
  ·subst h0;have hv:la b=0:=as4 (fun m h=>by rw [hm] at h; cases h; simp);rw [hm] at hr;rw [hv]
   push_cast [pb,zaf]
   refine a7 hr rfl trivial ?_
   push_cast [ab2,f00,f01]
  ·rw [hm,(ei h0).1,(ei h0).2] at hr;have hml:=ack hm;by_cases h1:m.length=1
   ·obtain ⟨x,rfl⟩:∃x,m=[x]:=List.length_eq_one_iff.1 h1;have hx:=ig hm x (by simp);have hv:la b=zag x.2.2.1:=by unfold la; rw [hm]
    have e1:((1:Int) != 1)=false:=rfl;have hz:=baz (x.2.2.1:Nat) (by omega) (by omega);rw [hv]
    push_cast [pb,zaf]
    refine a7 hr rfl trivial ?_
    push_cast [f00,e1,vm,zap,zbh,zal,zaf,zad,zci]
    repeat refine And.intro (by omega) ?_
    refine a7 hz rfl trivial ?_
    push_cast
   ·have hv:la b=0:=as4 (fun m' h=>by rw [hm] at h; cases h; exact h1);have e1:((m.length:Int) != 1)=true:=bne_iff_ne.2 (by omega);rw [hv]
    push_cast [pb,zaf]
    refine a7 hr rfl trivial ?_
    push_cast [f00,e1]
theorem a2g (m:List Nat):kb m=ag (m.map fun n:Nat=>(n:Int)):=by simp [kb,ag]
set_option maxHeartbeats 1000000 in
theorem anf (b:List UInt8) (hb:b.length≤1000000):a8 P0 90 [sb b] [] (.tup [.r (bq b).1.rv,bl (bq b).2]) []:=by
 refine ao6 rfl (by decide) ?_;have hr:=aq5 b (by omega);have hmx:=k7;have f10:((10:Int) != 0)=true:=rfl;have f00:((0:Int) != 0)=false:=rfl;have f04:((0:Int) != 4)=true:=rfl;cases hm:am b with
 | none=>
  have hv:=ap6 (b:=b) (fun m h=>by rw [hm] at h; cases h);rw [hm] at hr;rw [hv];simp only [qv,Fea.rv,push_cast,↓reduceIte,reduceCtorEq,zB,zE,zA,zS,zL,zD,zM];refine a7 hr rfl trivial ?_;simp only [ab2,agj,f10,pnt,push_cast,↓reduceIte,reduceCtorEq,zB,zE,zA,zS,zL,zD,zM]
 | some m=>
  by_cases h0:m=[]
  ·subst h0;have hv:=ap6 (b:=b) (fun m h=>by rw [hm] at h; cases h; simp);rw [hm] at hr;rw [hv];simp only [qv,Fea.rv,push_cast,↓reduceIte,reduceCtorEq,zB,zE,zA,zS,zL,zD,zM];refine a7 hr rfl trivial ?_;simp only [ab2,agj,f00,f04,pnt,push_cast,↓reduceIte,reduceCtorEq,zB,zE,zA,zS,zL,zD,zM]
  ·rw [hm,(ei h0).1,(ei h0).2] at hr;have hml:=ack hm;by_cases h1:m.length=4
   ·obtain ⟨x,y,z,u,rfl⟩:∃x y z u,m=[x,y,z,u]:=by
     rcases m with _ | ⟨x,_ | ⟨y,_ | ⟨z,_ | ⟨u,_ | ⟨v,r⟩⟩⟩⟩⟩<;>simp at h1 ⊢
    have hx:=ig hm x (by simp);have hu:=ig hm u (by simp);have hv:bq b=(⟨x.2.2.1,lq (dr u.2.2.2),0,0,0,0⟩,mb (dr u.2.2.2)):=by unfold bq; rw [hm]
    have e1:((4:Int) != 4)=false:=rfl;have hva:=bff u.2.2.2 (by omega);have hnl:=au8 u.2.2.2;have hnu:=au7 u.2.2.2;have htr:=fun res ro=>tring_t (dr u.2.2.2) (by omega) hnu (res:=res) (ro:=ro);have hnd:dr u.2.2.2=((jl u.2.2.2).getD []).map fun n:Nat=>(n:Int):=rfl;rw [hv];simp only [qv,Fea.rv,push_cast,↓reduceIte,reduceCtorEq,zB,zE,zA,zS,zL,zD,zM];refine a7 hr rfl trivial ?_;simp only [f00,e1,vm,zad,zaj,push_cast,↓reduceIte,reduceCtorEq,zB,zE,zA,zS,zL,zD,zM]
    repeat refine And.intro (by omega) ?_
    have g10:((10:Int) == 0)=false:=rfl;have g00:((0:Int) == 0)=true:=rfl;by_cases hne:∃ns,jl u.2.2.2=some ns∧ns≠[]
    ·obtain ⟨ns,hns,hn0⟩:=hne;have hnd2:dr u.2.2.2=ns.map fun n:Nat=>(n:Int):=by rw [hnd,hns]; rfl
     have e2:aqo (some ns)=.tup [.own 1000000 0 0 ns.length,int .i64 0]∧aqp (some ns)=[a15 ns]:=by
      cases ns with
      | nil=>exact absurd rfl hn0
      | cons=>exact ⟨rfl,rfl⟩
     rw [hns,e2.1,e2.2] at hva;refine a7 hva rfl trivial ?_;have htk:zay ns.length (kb ns)=kb ns:=aul ns;simp only [htk,push_cast,↓reduceIte,reduceCtorEq,zB,zE,zA,zS,zL,zD,zM];refine l9 ?_;refine b7 (as':=[.r (.sl 1 (ag (dr u.2.2.2)))]) (by rw [hnd2,← a2g]; rfl) ?_;have hrt:mb (dr u.2.2.2)=false→lq (dr u.2.2.2)=[]:=fun h=>by rw [lq,if_neg (by rw [h]; decide)]
     cases hck:mb (dr u.2.2.2) with
     | false=>
      refine a7 (htr _ _ (.inl ⟨hck,rfl,rfl⟩)) rfl trivial ?_;simp only [pnt,g00,vm,hrt hck,zap,zbh,zal,zaf,zad,zaj,zci,List.getD_cons_succ,push_cast,↓reduceIte,reduceCtorEq,zB,zE,zA,zS,zL,zD,zM];omega
     | true=>
      refine a7 (htr _ _ (.inr ⟨hck,rfl,rfl⟩)) rfl trivial ?_;generalize lq (dr u.2.2.2)=R at *;have htk2:zay R.length (R.map ptR)=R.map ptR:=o7 R;simp only [pnt,g00,vm,u5,htk2,zad,zaj,push_cast,↓reduceIte,reduceCtorEq,zB,zE,zA,zS,zL,zD,zM];omega
    ·have hnd2:dr u.2.2.2=[]:=by
      rw [hnd];cases hvl:jl u.2.2.2 with
      | none=>rfl
      | some ns=>
       have:ns=[]:=Classical.byContradiction fun h=>hne ⟨ns,hvl,h⟩;rw [this]; rfl
     have hck:mb (dr u.2.2.2)=false:=by rw [hnd2]; rfl
     have hrt:lq (dr u.2.2.2)=[]:=by rw [hnd2]; rfl
     have htr2:=htr _ _ (.inl ⟨hck,rfl,rfl⟩);rw [hnd2] at htr2;rw [hck,hrt];cases hvl:jl u.2.2.2 with
     | none=>
      rw [hvl] at hva;refine a7 hva rfl trivial ?_;simp only [aqo,aqp,push_cast,↓reduceIte,reduceCtorEq,zB,zE,zA,zS,zL,zD,zM];refine b7 (as':=[.r (.sl 1 (ag []))]) rfl ?_;refine a7 htr2 rfl trivial ?_;simp only [pnt,g10,vm,zad,zaj,push_cast,↓reduceIte,reduceCtorEq,zB,zE,zA,zS,zL,zD,zM];omega
     | some ns=>
      have:ns=[]:=Classical.byContradiction fun h=>hne ⟨ns,hvl,h⟩;subst this;rw [hvl] at hva;refine a7 hva rfl trivial ?_;simp only [aqo,aqp,push_cast,↓reduceIte,reduceCtorEq,zB,zE,zA,zS,zL,zD,zM];refine b7 (as':=[.r (.sl 1 (ag []))]) rfl ?_;refine a7 htr2 rfl trivial ?_;simp only [pnt,g00,vm,zad,zaj,push_cast,↓reduceIte,reduceCtorEq,zB,zE,zA,zS,zL,zD,zM];omega
   ·have hv:=ap6 (b:=b) (fun m' h=>by rw [hm] at h; cases h; exact h1);have e1:((m.length:Int) != 4)=true:=bne_iff_ne.2 (by omega);rw [hv];simp only [qv,Fea.rv,push_cast,↓reduceIte,reduceCtorEq,zB,zE,zA,zS,zL,zD,zM];refine a7 hr rfl trivial ?_;simp only [f00,e1,push_cast,↓reduceIte,reduceCtorEq,zB,zE,zA,zS,zL,zD,zM]

def qu:Mk P0 f46:={ x:=_ }
theorem ao5:d5 46 1 qu:=c8 func46
def v7:List Fld→List Fea→List Int→Option (List Fea×List Int)
 | [],o,v=>some (o,v)
 | f::r,o,v=>if f.1=2 then (if (bq f.2.2.2).2 then v7 r (o++[(bq f.2.2.2).1]) v else none) else if f.1=4 then v7 r o (v++[la f.2.2.2]) else v7 r o v
def ase (f:Fea) (v:List Int) (i:Nat):Fea:={ f with c:=v.getD (4*i) 0,s:=v.getD (4*i+1) 0,lo:=v.getD (4*i+2) 0,hi:=v.getD (4*i+3) 0 }
def ab7 (o:List Fea) (v:List Int):List Fea:=(zai o.length).map fun i=>ase (o.getD i default) v i
def qp (o:List Fea) (v:List Int) (j:Nat):List Fea:=(zai o.length).map fun i=>if i<j then ase (o.getD i default) v i else o.getD i default
theorem amc (o:List Fea) (v:List Int) (j:Nat):(qp o v j).length=o.length:=by simp [qp]
theorem beb (o:List Fea) (v:List Int):qp o v 0=o:=by
 apply zbv;intro i;rw [qp,zar];by_cases h:i<o.length
 ·simp [zbw h,h,zac]
 ·simp [zat (Nat.le_of_not_lt h),zat,h]
theorem a91 (o:List Fea) (v:List Int) {j k:Nat} (hjk:j≤k) (h:k<o.length):(qp o v j)[k]?=some (o.getD k default):=by
 simp [qp,h,show ¬k<j by omega]
theorem a21 (o:List Fea) (v:List Int) {j:Nat} (h:j<o.length):qp o v (j+1)=(qp o v j).set j (ase (o.getD j default) v j):=by
 apply zbv;intro i;rw [List.getElem?_set];by_cases hi:i<o.length
 ·by_cases hj:j=i
  ·subst hj;simp [qp,h]
  ·rw [if_neg hj];simp only [qp,zar,zbw hi,zcd];by_cases hlt:i<j
   ·rw [if_pos hlt,if_pos (by omega)]
   ·rw [if_neg hlt,if_neg (by omega)]
 ·rw [if_neg (by omega),zat (by rw [amc]; omega),zat (by rw [amc]; omega)]
theorem bhj (v:List Int) (k:Nat):(v.map fun n=>RV.v (.int .i64 n)).getD k (.v (.int .i64 0))=.v (.int .i64 (v.getD k 0)):=by
 simp only [zac,zar];cases v[k]? <;> rfl
theorem a6n (o:List Fea) (v:List Int):qp o v o.length=ab7 o v:=by
 apply zbi;intro i hi;rw [if_pos (zbf.1 hi)]
def zx:Option (List Fea×List Int)→List Fea×Bool
 | none=>([],false)
 | some (o,v)=>if o=[]∨v.length≠4*o.length then ([],false) else (ab7 o v,true)
def dp (b:List UInt8):List Fea×Bool:=
 match am b with
 | some [x]=>match am x.2.2.2 with
  | some fs=>zx (v7 fs [] [])
  | none=>([],false)
 | _=>([],false)
theorem aja {b:List UInt8} (h:∀m,am b=some m→m.length≠1):dp b=([],false):=by
 unfold dp;split
 ·rename_i x e;exact absurd rfl (h _ e)
 ·rfl
def o5:RV:=.agg [.v (.int .u64 0),.sl 2 [],.v (.int .i64 0),.v (.int .i64 0),.v (.int .i64 0),.v (.int .i64 0)]
abbrev fk (l:List Fea):Ob:=.row 6 o5 true true (l.map Fea.rv)
def su:List Fea×Bool→AV
 | (_,false)=>.tup [.nils 6 o5,bl false]
 | (l,true)=>.tup [.own 1000000 0 0 l.length,bl true]
def sx:List Fea×Bool→List Ob
 | (_,false)=>[]
 | (l,true)=>[fk l]
def aqt (o:List Fea):AV:=if o=[] then .nils 6 o5 else .own 2000001 0 0 o.length
def aqs (o:List Fea) (v:List Int):AV:=if v=[] then .nils 1 (.v (.int .i64 0)) else .own (if o=[] then 2000001 else 2000002) 0 0 v.length
abbrev a1r (v:List Int):Ob:=.row 1 (.v (.int .i64 0)) true true (v.map fun n=>.v (.int .i64 n))
def aqu (o:List Fea) (v:List Int):List Ob:=(if o=[] then [] else [fk o])++(if v=[] then [] else [a1r v])
set_option maxHeartbeats 1000000 in
theorem bfj (b:List UInt8) (hb:b.length≤1000000):a8 P0 46 [sb b] [] (su (dp b)) (sx (dp b)):=by
 refine ao5 rfl (by decide) ?_;have hr:=aq5 b (by omega);have hmx:=k7;have f10:((10:Int) != 0)=true:=rfl;have f00:((0:Int) != 0)=false:=rfl;have f01:((0:Int) != 1)=true:=rfl;have d00:decide ((0:Int)<0)=false:=rfl;cases hm:am b with
 | none=>
  have hv:=aja (b:=b) (fun m h=>by rw [hm] at h; cases h);rw [hm] at hr;rw [hv]
  push_cast [qu,zaf]
  refine a7 hr rfl trivial ?_
  push_cast [ab2,agj,f10,su,sx,o5]
 | some m=>
  by_cases h0:m=[]
  ·subst h0;have hv:=aja (b:=b) (fun m h=>by rw [hm] at h; cases h; simp);rw [hm] at hr;rw [hv]
   push_cast [qu,zaf]
   refine a7 hr rfl trivial ?_
   push_cast [ab2,agj,f00,f01,su,sx,o5]
  rw [hm,(ei h0).1,(ei h0).2] at hr;have hml:=ack hm;by_cases h1:m.length≠1
  ·have hv:=aja (b:=b) (fun m' h=>by rw [hm] at h; cases h; exact h1);have e1:((m.length:Int) != 1)=true:=bne_iff_ne.2 (by omega);rw [hv]
   push_cast [qu,zaf]
   refine a7 hr rfl trivial ?_
   push_cast [f00,e1,su,sx,o5]
  obtain ⟨x,rfl⟩:∃x,m=[x]:=List.length_eq_one_iff.1 (by omega);have hx:=ig hm x (by simp);have e1:((1:Int) != 1)=false:=rfl;have hr2:=aq5 x.2.2.2 (by omega)
  have hv:dp b=match am x.2.2.2 with
   | some fs=>zx (v7 fs [] [])
   | none=>([],false):=by unfold dp; rw [hm]
  rw [hv]
  push_cast [qu,zaf]
  refine a7 hr rfl trivial ?_
  push_cast [f00,e1,vm,zap,zbh,zal,zaf,zad,zaj,zci,List.getD_cons_succ]
  repeat refine And.intro (by omega) ?_
  cases hm2:am x.2.2.2 with
  | none=>
   rw [hm2] at hr2;refine a7 hr2 rfl trivial ?_
   push_cast [ab2,agj,su,sx]
   refine run_loop [(37,false),(36,false),(35,false),(7,false),(8,false),(5,false)] (fun vs pos los=>vs=[int .i64 0,int .i64 0,axg,.nils 6 o5,.nils 1 (.v (.int .i64 0)),int .i64 10]∧pos=[]∧los=[]) (fun _ _ _=>0) rfl ?_ ?_
   ·push_cast [o5]
    done
   ·rintro vs pos los ⟨rfl,rfl,rfl⟩
    push_cast [o5,f10,d00]
    done
  | some fs=>
   by_cases h2:fs=[]
   ·subst h2;rw [hm2] at hr2;refine a7 hr2 rfl trivial ?_
    push_cast [ab2,agj,v7,zx,su,sx]
    refine run_loop [(37,false),(36,false),(35,false),(7,false),(8,false),(5,false)] (fun vs pos los=>vs=[int .i64 0,int .i64 0,axg,.nils 6 o5,.nils 1 (.v (.int .i64 0)),int .i64 0]∧pos=[]∧los=[]) (fun _ _ _=>0) rfl ?_ ?_
    ·push_cast [o5]
     done
    ·rintro vs pos los ⟨rfl,rfl,rfl⟩
     push_cast [o5,f00,d00]
     exact ⟨rfl,rfl⟩
   rw [hm2,(ei h2).1,(ei h2).2] at hr2;have hfl:=ig hm2;have hfn:=ack hm2;obtain ⟨M,hM,hM1⟩:∃M:Int,((fs.length:Nat):Int)=M∧0≤M∧M≤1000000:=⟨_,rfl,by omega,by omega⟩
   refine a7 hr2 rfl trivial ?_
   push_cast [hM]
   refine run_loop [(37,false),(36,false),(35,false),(7,false),(8,false),(5,false)] (fun vs pos los=>∃(i:Nat) (o:List Fea) (v:List Int),i≤fs.length∧o.length≤i∧v.length≤i∧v7 fs [] []=v7 (fs.drop i) o v ∧
     vs=[int .i64 i,int .i64 M,.own 2000000 0 0 fs.length,aqt o,aqs o v,int .i64 0]∧pos=[]∧los=a16 fs::aqu o v)
    (fun vs _ _=>match vs with | .r (.v (.int _ a))::_=>(M-a).toNat | _=>0) rfl ?_ ?_
   ·push_cast [o5]
    exact ⟨0,[],[],by omega,by simp,by simp,rfl,rfl,rfl⟩
   ·rintro vs pos los ⟨i,o,v,hi,ho,hvl,hs,rfl,rfl,rfl⟩;have w1:IntKind.i64.wrap ((i:Int)+1)=i+1:=a5 (by omega)
    have hstep:∀hi2:i<fs.length,v7 (fs.drop i) o v=if fs[i].1=2 then (if (bq fs[i].2.2.2).2 then v7 (fs.drop (i+1)) (o++[(bq fs[i].2.2.2).1]) v else none) else if fs[i].1=4 then v7 (fs.drop (i+1)) o (v++[la fs[i].2.2.2]) else v7 (fs.drop (i+1)) o v:=fun hi2=>by
     rw [List.drop_eq_getElem_cons hi2,v7]
    have hget:∀(hi2:i<fs.length) z,(fs.map vm).getD i z=.agg [.v (.int .i64 (fs[i].1:Nat)),.v (.int .i64 (fs[i].2.1:Nat)),.v (.int .u64 (fs[i].2.2.1:Nat)),.sl 1 (bys fs[i].2.2.2)]:=fun hi2 z=>by
     rw [zac,zar,zas hi2]; rfl
    have hFb:∀hi2:i<fs.length,fs[i].2.2.2.length≤1000000:=fun hi2=>by
     have:=hfl _ (zca hi2);omega
    by_cases ho0:o=[]<;>by_cases hv0:v=[]
    ·push_cast [aqt,aqs,aqu,ho0,hv0,o5,zah,hM,zao,zae]
     refine b9 (fun hd=>?_) (fun hd=>?_)
     ·have hd:=of_decide_eq_true hd;have hi2:i<fs.length:=by omega
      have hg:=hget hi2;have hsp:=hstep hi2;have hdb:=hFb hi2;rw [hsp] at hs;clear hsp;generalize fs[i]=F at *;have hft:=anf F.2.2.2 hdb;have hvt:=ai8 F.2.2.2 hdb;generalize bq F.2.2.2=FD at *;generalize la F.2.2.2=VD at *
      push_cast [hg,zah,hM,zaq,zbd,zaa]
      refine And.intro (by omega) ?_;cases e2:((F.1:Int) == 2) with
      | true=>
       have e2':F.1=2:=by have:=eq_of_beq e2; omega
       push_cast [e2]
       refine a7 hft rfl trivial ?_
       push_cast [Fea.rv]
       cases ok:FD.2 with
       | false=>
        rw [if_pos e2',ok] at hs
        push_cast
        rw [hs];exact ⟨rfl,rfl⟩
       | true=>
        rw [if_pos e2',ok] at hs
        push_cast [w1]
        refine ⟨by simp,by first | omega | exact ⟨by omega,by omega⟩,⟨i+1,o++[FD.1],v,by omega,by simp; omega,by omega,hs,by simp [ho0,hv0],by simp [ho0,hv0,Fea.rv,o5,zan]⟩,by omega⟩
      | false=>
       have e2':¬F.1=2:=by have:=beq_eq_false_iff_ne.1 e2; omega
       rw [if_neg e2'] at hs;cases e4:((F.1:Int) == 4) with
       | true=>
        have e4':F.1=4:=by have:=eq_of_beq e4; omega
        rw [if_pos e4'] at hs
        push_cast [e2,e4]
        refine a7 hvt rfl trivial ?_
        push_cast [w1]
        refine ⟨by simp,by first | omega | exact ⟨by omega,by omega⟩,⟨i+1,o,v++[VD],by omega,by omega,by simp; omega,hs,by simp [ho0,hv0],by simp [ho0,hv0,Fea.rv,o5,zan]⟩,by omega⟩
       | false=>
        have e4':¬F.1=4:=by have:=beq_eq_false_iff_ne.1 e4; omega
        rw [if_neg e4'] at hs
        push_cast [e2,e4,w1]
        exact ⟨⟨i+1,o,v,by omega,by omega,by omega,hs,by simp [ho0,hv0],by simp [ho0,hv0,Fea.rv,o5]⟩,by omega⟩
     ·have hd:=of_decide_eq_false hd;have hi2:i=fs.length:=by omega
      subst hi2;rw [zce,v7] at hs;rw [hs];have hE:zx (some (o,v))=([],false):=if_pos (.inl ho0);have g00:((0:Int) == 0)=true:=rfl;rw [hE]
      push_cast [f00,g00,ho0,su,sx,o5]
    ·push_cast [aqt,aqs,aqu,ho0,hv0,o5,zah,hM,zao,zae]
     refine b9 (fun hd=>?_) (fun hd=>?_)
     ·have hd:=of_decide_eq_true hd;have hi2:i<fs.length:=by omega
      have hg:=hget hi2;have hsp:=hstep hi2;have hdb:=hFb hi2;rw [hsp] at hs;clear hsp;generalize fs[i]=F at *;have hft:=anf F.2.2.2 hdb;have hvt:=ai8 F.2.2.2 hdb;generalize bq F.2.2.2=FD at *;generalize la F.2.2.2=VD at *
      push_cast [hg,zah,hM,zaq,zbd,zaa]
      refine And.intro (by omega) ?_;cases e2:((F.1:Int) == 2) with
      | true=>
       have e2':F.1=2:=by have:=eq_of_beq e2; omega
       push_cast [e2]
       refine a7 hft rfl trivial ?_
       push_cast [Fea.rv]
       cases ok:FD.2 with
       | false=>
        rw [if_pos e2',ok] at hs
        push_cast
        rw [hs];exact ⟨rfl,rfl⟩
       | true=>
        rw [if_pos e2',ok] at hs
        push_cast [w1]
        refine ⟨by simp,by first | omega | exact ⟨by omega,by omega⟩,⟨i+1,o++[FD.1],v,by omega,by simp; omega,by omega,hs,by simp [ho0,hv0],by simp [ho0,hv0,Fea.rv,o5,zan]⟩,by omega⟩
      | false=>
       have e2':¬F.1=2:=by have:=beq_eq_false_iff_ne.1 e2; omega
       rw [if_neg e2'] at hs;cases e4:((F.1:Int) == 4) with
       | true=>
        have e4':F.1=4:=by have:=eq_of_beq e4; omega
        rw [if_pos e4'] at hs
        push_cast [e2,e4]
        refine a7 hvt rfl trivial ?_
        push_cast [w1]
        refine ⟨by simp,by first | omega | exact ⟨by omega,by omega⟩,⟨i+1,o,v++[VD],by omega,by omega,by simp; omega,hs,by simp [ho0,hv0],by simp [ho0,hv0,Fea.rv,o5,zan]⟩,by omega⟩
       | false=>
        have e4':¬F.1=4:=by have:=beq_eq_false_iff_ne.1 e4; omega
        rw [if_neg e4'] at hs
        push_cast [e2,e4,w1]
        exact ⟨⟨i+1,o,v,by omega,by omega,by omega,hs,by simp [ho0,hv0],by simp [ho0,hv0,Fea.rv,o5]⟩,by omega⟩
     ·have hd:=of_decide_eq_false hd;have hi2:i=fs.length:=by omega
      subst hi2;rw [zce,v7] at hs;rw [hs];have hE:zx (some (o,v))=([],false):=if_pos (.inl ho0);have g00:((0:Int) == 0)=true:=rfl;rw [hE]
      push_cast [f00,g00,ho0,su,sx,o5]
    ·push_cast [aqt,aqs,aqu,ho0,hv0,o5,zah,hM,zao,zae]
     refine b9 (fun hd=>?_) (fun hd=>?_)
     ·have hd:=of_decide_eq_true hd;have hi2:i<fs.length:=by omega
      have hg:=hget hi2;have hsp:=hstep hi2;have hdb:=hFb hi2;rw [hsp] at hs;clear hsp;generalize fs[i]=F at *;have hft:=anf F.2.2.2 hdb;have hvt:=ai8 F.2.2.2 hdb;generalize bq F.2.2.2=FD at *;generalize la F.2.2.2=VD at *
      push_cast [hg,zah,hM,zaq,zbd,zaa]
      refine And.intro (by omega) ?_;cases e2:((F.1:Int) == 2) with
      | true=>
       have e2':F.1=2:=by have:=eq_of_beq e2; omega
       push_cast [e2]
       refine a7 hft rfl trivial ?_
       push_cast [Fea.rv]
       cases ok:FD.2 with
       | false=>
        rw [if_pos e2',ok] at hs
        push_cast
        rw [hs];exact ⟨rfl,rfl⟩
       | true=>
        rw [if_pos e2',ok] at hs
        push_cast [w1]
        refine ⟨by simp,by first | omega | exact ⟨by omega,by omega⟩,⟨i+1,o++[FD.1],v,by omega,by simp; omega,by omega,hs,by simp [ho0,hv0],by simp [ho0,hv0,Fea.rv,o5,zan]⟩,by omega⟩
      | false=>
       have e2':¬F.1=2:=by have:=beq_eq_false_iff_ne.1 e2; omega
       rw [if_neg e2'] at hs;cases e4:((F.1:Int) == 4) with
       | true=>
        have e4':F.1=4:=by have:=eq_of_beq e4; omega
        rw [if_pos e4'] at hs
        push_cast [e2,e4]
        refine a7 hvt rfl trivial ?_
        push_cast [w1]
        refine ⟨by simp,by first | omega | exact ⟨by omega,by omega⟩,⟨i+1,o,v++[VD],by omega,by omega,by simp; omega,hs,by simp [ho0,hv0],by simp [ho0,hv0,Fea.rv,o5,zan]⟩,by omega⟩
       | false=>
        have e4':¬F.1=4:=by have:=beq_eq_false_iff_ne.1 e4; omega
        rw [if_neg e4'] at hs
        push_cast [e2,e4,w1]
        exact ⟨⟨i+1,o,v,by omega,by omega,by omega,hs,by simp [ho0,hv0],by simp [ho0,hv0,Fea.rv,o5]⟩,by omega⟩
     ·have hd:=of_decide_eq_false hd;have hi2:i=fs.length:=by omega
      subst hi2;rw [zce,v7] at hs;rw [hs];have hL:o.length≠0:=fun e=>ho0 (zbx.1 e);have hE:zx (some (o,v))=([],false):=if_pos (.inr (by rw [hv0,zaf]; omega));have n0:((o.length:Int) == 0)=false:=beq_eq_false_iff_ne.2 (by omega);have w4:IntKind.i64.wrap (4*(o.length:Int))=4*o.length:=a5 (by omega);have n4:((0:Int) != 4*(o.length:Int))=true:=bne_iff_ne.2 (by omega);rw [hE]
      push_cast [f00,n0,w4,n4,su,sx,o5]
      done
    ·push_cast [aqt,aqs,aqu,ho0,hv0,o5,zah,hM,zao,zae]
     refine b9 (fun hd=>?_) (fun hd=>?_)
     ·have hd:=of_decide_eq_true hd;have hi2:i<fs.length:=by omega
      have hg:=hget hi2;have hsp:=hstep hi2;have hdb:=hFb hi2;rw [hsp] at hs;clear hsp;generalize fs[i]=F at *;have hft:=anf F.2.2.2 hdb;have hvt:=ai8 F.2.2.2 hdb;generalize bq F.2.2.2=FD at *;generalize la F.2.2.2=VD at *
      push_cast [hg,zah,hM,zaq,zbd,zaa]
      refine And.intro (by omega) ?_;cases e2:((F.1:Int) == 2) with
      | true=>
       have e2':F.1=2:=by have:=eq_of_beq e2; omega
       push_cast [e2]
       refine a7 hft rfl trivial ?_
       push_cast [Fea.rv]
       cases ok:FD.2 with
       | false=>
        rw [if_pos e2',ok] at hs
        push_cast
        rw [hs];exact ⟨rfl,rfl⟩
       | true=>
        rw [if_pos e2',ok] at hs
        push_cast [w1]
        refine ⟨by simp,by first | omega | exact ⟨by omega,by omega⟩,⟨i+1,o++[FD.1],v,by omega,by simp; omega,by omega,hs,by simp [ho0,hv0],by simp [ho0,hv0,Fea.rv,o5,zan]⟩,by omega⟩
      | false=>
       have e2':¬F.1=2:=by have:=beq_eq_false_iff_ne.1 e2; omega
       rw [if_neg e2'] at hs;cases e4:((F.1:Int) == 4) with
       | true=>
        have e4':F.1=4:=by have:=eq_of_beq e4; omega
        rw [if_pos e4'] at hs
        push_cast [e2,e4]
        refine a7 hvt rfl trivial ?_
        push_cast [w1]
        refine ⟨by simp,by first | omega | exact ⟨by omega,by omega⟩,⟨i+1,o,v++[VD],by omega,by omega,by simp; omega,hs,by simp [ho0,hv0],by simp [ho0,hv0,Fea.rv,o5,zan]⟩,by omega⟩
       | false=>
        have e4':¬F.1=4:=by have:=beq_eq_false_iff_ne.1 e4; omega
        rw [if_neg e4'] at hs
        push_cast [e2,e4,w1]
        exact ⟨⟨i+1,o,v,by omega,by omega,by omega,hs,by simp [ho0,hv0],by simp [ho0,hv0,Fea.rv,o5]⟩,by omega⟩
     ·have hd:=of_decide_eq_false hd;have hi2:i=fs.length:=by omega
      subst hi2;rw [zce,v7] at hs;rw [hs];have hL:o.length≠0:=fun e=>ho0 (zbx.1 e);have n0:((o.length:Int) == 0)=false:=beq_eq_false_iff_ne.2 (by omega);have w4:IntKind.i64.wrap (4*(o.length:Int))=4*o.length:=a5 (by omega);by_cases h4:v.length=4*o.length
      ·have hE:zx (some (o,v))=(ab7 o v,true):=if_neg (fun h=>h.elim ho0 (fun h=>h h4));have n4:((v.length:Int) != 4*(o.length:Int))=false:=by rw [h4]; simp
       rw [hE]
       push_cast [f00,n0,w4,n4,su,sx]
       refine run_loop [(83,false),(82,false),(7,false),(8,false)] (fun vs pos los=>∃j:Nat,j≤o.length∧vs=[int .i64 j,int .i64 o.length,.own 2000000 0 0 o.length,.own 2000001 0 0 v.length]∧pos=[]∧los=[fk (qp o v j),a1r v])
        (fun vs _ _=>match vs with | .r (.v (.int _ a))::_=>(o.length-a).toNat | _=>0) rfl ?_ ?_
       ·push_cast [o5]
        exact ⟨0,by omega,rfl,by rw [beb]; rfl⟩
       ·rintro vs pos los ⟨j,hj,rfl,rfl,rfl⟩;have w1:IntKind.i64.wrap ((j:Int)+1)=j+1:=a5 (by omega);have w5:IntKind.i64.wrap (4*(j:Int))=4*j:=a5 (by omega);have hfl2:=amc o v j
        push_cast [hfl2,o5,zah]
        refine b9 (fun hd=>?_) (fun hd=>?_)
        ·have hd:=of_decide_eq_true hd;have hi2:j<o.length:=by omega
         have n5:(4*(j:Int)).toNat=4*j:=by omega
         have hP:=a91 o v (Nat.le_refl j) hi2;have hnx:=a21 o v hi2;generalize o.getD j default=P at *
         have hgF:((qp o v j).map Fea.rv).getD j o5=.agg [.v (.int .u64 P.w),.sl 2 (P.ring.map ptR),.v (.int .i64 P.c),.v (.int .i64 P.s),.v (.int .i64 P.lo),.v (.int .i64 P.hi)]:=by
          rw [zac,zar,hP]; rfl
         have hset:∀x,(((qp o v j).map Fea.rv).set j x).getD j o5=x:=fun x=>by
          rw [zac,List.getElem?_set_self (by rw [zah,hfl2]; exact hi2)]; rfl
         push_cast [w1,w5,hfl2,n5,bhj,hgF,hset,List.set_set,List.take_succ_cons,List.take_zero,List.drop_succ_cons,List.drop_zero,zae,zao,zad,zbu,zaj,Nat.add_zero,zah,List.length_set,zaq,zbd,zaa]
         repeat refine And.intro (by omega) ?_
         refine And.intro (by kernel_rfl) ⟨⟨j+1,by omega,rfl,?_⟩,by omega⟩;rw [hnx];simp only [fk,List.map_set,ase,Fea.rv,a1r]
        ·have hd:=of_decide_eq_false hd;obtain rfl:j=o.length:=by omega
         rw [a6n]
         push_cast [hfl2,o5,zah]
         rw [show (ab7 o v).length=o.length by simp [ab7]];exact ⟨rfl,rfl⟩
      ·have hE:zx (some (o,v))=([],false):=if_pos (.inr h4);have n4:((v.length:Int) != 4*(o.length:Int))=true:=bne_iff_ne.2 (by omega);rw [hE]
       push_cast [f00,n0,w4,n4,su,sx,o5]

def aix:Mk P0 f47:={ x:=_ }
theorem amu:d5 47 2 aix:=c8 func47
def yq:Mk P0 f22:={ x:=_ }
theorem ao8:d5 22 1 yq:=c8 func22
theorem bab {l:List Int} (h:u64L l):∀j,in64 (aae l j).1∧in64 (aae l j).2
 | 0=>⟨av6 _ (aes h 1).1 (aes h 1).2,av6 _ (aes h 2).1 (aes h 2).2⟩
 | j+1=>⟨aer _,aer _⟩
theorem a8p {l:List Int} (h:u64L l):i64P (lq l):=fun p hp=>by
 unfold lq at hp;split at hp
 ·obtain ⟨j,_,rfl⟩:=zam.1 hp;exact bab h j
 ·simp at hp
theorem a4y (l:List Int):(lq l).length≤l.length:=by
 unfold lq;split
 ·rename_i h
  have:9≤l.length:=by
   simp only [mb,zbs,decide_eq_true_eq] at h;exact h.1
  simp only [mq,zah,List.length_range];omega
 ·simp
theorem a92 (b:List UInt8) (hb:b.length≤100000):(bq b).1.ok:=by
 unfold bq;split
 ·rename_i x y z u e;have hx:=ig e x (by simp);have hu:=ig e u (by simp);have hn:=au8 u.2.2.2;have hr:=a4y (dr u.2.2.2);refine ⟨by simp only; omega,?_,a8p (au7 _),by refine ⟨?_,?_,?_,?_⟩<;>(show in64 0; decide)⟩;simp only;omega
 ·exact ⟨by decide,by decide,fun p hp=>by simp at hp,by decide⟩
theorem bb8 (b:List UInt8):in64 (la b):=by
 unfold la;split
 ·rename_i x e;have hx:=ig e x (by simp);exact av6 _ (by omega) (by omega)
 ·decide
theorem aje:∀(fs:List Fld) (o:List Fea) (v:List Int),(∀x∈fs,x.2.2.2.length≤100000)→(∀f∈o,f.ok)→(∀n∈v,in64 n)→∀p,v7 fs o v=some p→(∀f∈p.1,f.ok)∧(∀n∈p.2,in64 n)∧p.1.length≤o.length+fs.length
 | [],o,v,h,ho,hv,p,e=>by
  cases e;exact ⟨ho,hv,by simp⟩
 | x::r,o,v,h,ho,hv,p,e=>by
  have hr:∀y∈r,y.2.2.2.length≤100000:=fun y hy=>h y (by simp [hy]);rw [v7] at e;split at e
  ·split at e
   ·obtain ⟨a,b,c⟩:=aje r _ _ hr (fun f hf=>by
     rcases zbb.1 hf with hf | hf
     ·exact ho f hf
     ·rw [zaw.1 hf]
      exact a92 _ (h x (by simp))) hv p e
    refine ⟨a,b,?_⟩;simp only [zab,zal,zaf] at c ⊢;omega
   ·cases e
  ·split at e
   ·obtain ⟨a,b,c⟩:=aje r _ _ hr ho (fun n hn=>by
     rcases zbb.1 hn with hn | hn
     ·exact hv n hn
     ·rw [zaw.1 hn]
      exact bb8 _) p e
    refine ⟨a,b,?_⟩;simp only [zal];omega
   ·obtain ⟨a,b,c⟩:=aje r _ _ hr ho hv p e;refine ⟨a,b,?_⟩;simp only [zal];omega
theorem anb {v:List Int} (h:∀n∈v,in64 n) (i:Nat):in64 (v.getD i 0):=by
 rw [zac];cases e:v[i]? with
 | none=>decide
 | some x=>exact h x (zaz e)
theorem a76 (b:List UInt8) (hb:b.length≤100000):(∀f∈(dp b).1,f.ok)∧(dp b).1.length≤b.length∧((dp b).2=true→(dp b).1≠[]):=by
 unfold dp;split
 ·rename_i x e;have hx:=ig e x (by simp);split
  ·rename_i fs e2;have hl:=ack e2;have hf:=ig e2;cases hs:v7 fs [] [] with
   | none=>exact ⟨by simp [zx],by simp [zx],by simp [zx]⟩
   | some p=>
    obtain ⟨o,v⟩:=p;obtain ⟨a,b,c⟩:=aje fs [] [] (fun y hy=>by have:=hf y hy; omega) (by simp) (by simp) _ hs;simp only [zaf] at c;simp only [zx];split
    ·exact ⟨by simp,by simp,by simp⟩
    ·rename_i hn;have hL:o.length≠0:=fun e=>hn (.inl (zbx.1 e));refine ⟨fun f hf=>?_,?_,fun _ e=>hL ?_⟩
     ·obtain ⟨i,hi,rfl⟩:=zam.1 hf;have hg:=ajx a (zbf.1 hi);exact ⟨hg.1,hg.2.1,hg.2.2.1,anb b _,anb b _,anb b _,anb b _⟩
     ·simp only [ab7,zah,List.length_range];omega
     ·have:=congrArg List.length e;simpa [ab7] using this
  ·exact ⟨by simp,by simp,by simp⟩
 ·exact ⟨by simp,by simp,by simp⟩
theorem ban (a b:List UInt8) (ha:a.length≤1000000000000) (hb:b.length≤1000000000000):a8 P0 47 [sb a,sb b] [] (bl (decide (a=b))) []:=by
 refine amu rfl (by decide) ?_;have hmx:=k7
 push_cast [aix,a3f,azh,a7c,zaf]
 by_cases h:a=b
 ·subst h; simp
 ·rw [decide_eq_false h,beq_eq_false_iff_ne.2 h]
theorem a6k (l:List UInt8):mc (qe l):=fun x hx=>by
 obtain ⟨c,_,rfl⟩:=zam.1 hx;exact trivial
def rdT (b:List UInt8):Option (List Fea):=if b=[] then some [] else if (dp b).2=true∧ah (dp b).1=b then some (dp b).1 else none
def rdR:Option (List Fea)→AV
 | none=>.tup [.nils 6 o5,int .i64 10]
 | some []=>.tup [.nils 6 o5,int .i64 0]
 | some (f::l)=>.tup [.own 1000000 0 0 (f::l).length,int .i64 0]
def rdO:Option (List Fea)→List Ob
 | none=>[]
 | some []=>[]
 | some (f::l)=>[fk (f::l)]
theorem aji {m:List Fea} (hm:m≠[]):rdR (some m)=.tup [.own 1000000 0 0 m.length,int .i64 0]∧rdO (some m)=[fk m]:=by
 cases m with
 | nil=>exact absurd rfl hm
 | cons=>exact ⟨rfl,rfl⟩
set_option maxHeartbeats 1000000 in
theorem am0 (b:List UInt8) (hb:b.length≤100000):a8 P0 22 [sb b] [] (rdR (rdT b)) (rdO (rdT b)):=by
 refine ao8 rfl (by decide) ?_;have hmx:=k7;by_cases h0:b=[]
 ·subst h0
  push_cast [yq,zbh,zaf]
  rw [show rdT []=some [] from if_pos rfl];exact ⟨rfl,rfl⟩
 have hL:b.length≠0:=fun e=>h0 (zbx.1 e);have n0:((b.length:Int) == 0)=false:=beq_eq_false_iff_ne.2 (by omega);obtain ⟨q1,q2,q3⟩:=a76 b hb;have ht:=bfj b (by omega);have hrd:rdT b=if (dp b).2=true∧ah (dp b).1=b then some (dp b).1 else none:=if_neg h0
 rw [hrd];generalize dp b=T at *;obtain ⟨l,ok⟩:=T;cases ok with
 | false=>
  push_cast [yq,n0,zaf]
  refine a7 ht rfl trivial ?_
  push_cast [su,sx]
  exact ⟨rfl,rfl⟩
 | true=>
  have hly:=a0p l (by simp only at q2; omega) q1;have hll:=ar4 q1;simp only at hll q2 q3;have heq:=ban (ah l) b (by omega) (by omega)
  push_cast [yq,n0,zaf]
  refine a7 ht rfl trivial ?_
  push_cast [su,sx]
  refine ox ?_;refine b7 (as':=[cj l]) rfl ?_;refine rz hly rfl trivial trivial (by intro o ho; rw [zaw.1 ho]; exact a6k _) ?_;generalize ah l=LL at *
  push_cast
  refine l9 ?_;refine b7 (as':=[sb LL,sb b]) rfl ?_;refine a7 heq rfl trivial ?_;have q3:=q3 trivial;by_cases he:LL=b
  ·have hd:decide (LL=b)=true:=decide_eq_true he;rw [if_pos he,(aji q3).1,(aji q3).2]
   push_cast [hd]
   done
  ·have hd:decide (LL=b)=false:=decide_eq_false he;rw [if_neg he]
   push_cast [hd,rdR,rdO,o5]
   done

def ak8:Mk P0 f19:={ x:=_ }
theorem ao9:d5 19 2 ak8:=c8 func19
def aw (L:List Pt) (t:Til) (n:Int):Fea:=⟨n,aa t (z8 n.toNat t.r.toNat),((mem L n.toNat).length:Nat),cg (mem L n.toNat),loV (mem L n.toNat),hiV (mem L n.toNat)⟩
def x9 (L:List Pt) (t:Til):List Fea:=(v6 L t).map (aw L t)
def ui (L:List Pt) (t:Til):List UInt8:=if v6 L t=[] then [] else ah (x9 L t)
theorem awr {L:List Pt} {t:Til} {n:Int} (h:n∈v6 L t):∃p∈L,n=((p.w t.r.toNat:Nat):Int):=by
 unfold v6 at h;obtain ⟨i,hi,e⟩:=List.mem_iff_getElem.1 (zbj.1 h).1;exact asr (i:=i) (by rw [zas hi,e])
theorem as5 {L:List Pt} {p:Pt} (hp:p∈L) {r:Nat} (hr:r<13):mem L (p.w r)≠[]:=fun e=>by
 have:p∈mem L (p.w r):=zbj.2 ⟨hp,ain.2 ⟨r,hr,rfl⟩⟩;rw [e] at this;simp at this
theorem as6:∀{M:List Pt},(∀p∈M,p.ok)→-2147483648*(M.length:Int)≤cg M∧cg M≤2147483648*(M.length:Int)
 | [],_=>by simp [cg]
 | p::M,h=>by
  have h1:=as6 (M:=M) fun q hq=>h q (by simp [hq]);have h2:=(h p (by simp)).2.2;simp only [cg,zap,zbk,zal] at h1 ⊢;omega
theorem bdf {t:Til} {z:Ei} (ht:tis t=true) (hb:zq z t.r.toNat):∀p∈nu t z,(-1099511627776≤p.1∧p.1≤1099511627776)∧(-1099511627776≤p.2∧p.2≤1099511627776):=fun p hp=>by
 have hin:=aib ht;have hr:0≤t.z∧t.z≤18∧0≤t.r∧t.r≤12∧0≤t.x∧t.x<2^t.z.toNat∧0≤t.y∧t.y<2^t.z.toNat:=by simpa [tis] using ht
 have hsd:=xy ⟨hr.1,hr.2.1⟩;obtain ⟨q,hq,rfl⟩:=zam.1 hp;obtain ⟨i,hi,rfl⟩:=zam.1 hq;have:=hb i (zbf.1 hi);have e:ajd t=2^(30-t.z).toNat:=rfl;rw [zbl,zbm,zbl,zbm] at hin;simp only [shP,e];generalize t.x*2^(30-t.z).toNat=A at *;generalize t.y*2^(30-t.z).toNat=B at *;omega
theorem a6o {L:List Pt} (hL:L.length<50) (hok:∀p∈L,p.ok) {t:Til} (hti:tis t=true) {p:Pt} (hp:p∈L):(aw L t ((p.w t.r.toNat:Nat):Int)).ok:=by
 have hr:0≤t.z∧t.z≤18∧0≤t.r∧t.r≤12∧0≤t.x∧t.x<2^t.z.toNat∧0≤t.y∧t.y<2^t.z.toNat:=by simpa [tis] using hti
 have hpo:=hok p hp;have hwr:=Pt.w_res hpo (show t.r.toNat<13 by omega);have hk:=ri p.x p.y t.r.toNat hpo.2.1.1 hpo.2.1.2 (by omega);obtain ⟨c1,c2,c3,c4⟩:=xp t.r.toNat _ hk;have hz:z8 (p.w t.r.toNat) t.r.toNat=g9 p.x p.y t.r.toNat:=by rw [show p.w t.r.toNat=x8 t.r.toNat (g9 p.x p.y t.r.toNat) from rfl,c3]
 have hl:=axs p.x p.y t.r.toNat (by omega);have hb:zq (g9 p.x p.y t.r.toNat) t.r.toNat:=aeb (by omega) hpo.2.1 hl;have hM:∀q∈mem L (p.w t.r.toNat),q.ok:=fun q hq=>hok q (zbj.1 hq).1;have hml:(mem L (p.w t.r.toNat)).length≤L.length:=List.length_filter_le ..;have hne:=as5 hp (r:=t.r.toNat) (by omega);have hs:=as6 hM;obtain ⟨⟨a,a1,a2⟩,_⟩:=a57 hne;obtain ⟨⟨b,b1,b2⟩,_⟩:=a6f hne;have ha:=(hM a a1).2.2;have hbb:=(hM b b1).2.2;unfold aw;rw [zaq,hz];refine ⟨⟨by simp only; omega,by simp only; omega⟩,?_,fun q hq=>?_,?_,?_,?_,?_⟩
 ·have:=aup t hr.2.2.2.1 (g9 p.x p.y t.r.toNat);simp only;omega
 ·have:=a8e t ⟨hr.1,hr.2.1⟩ _ (bdf hti hb) q hq;unfold in64;omega
 ·unfold in64; simp only; omega
 ·unfold in64; simp only; omega
 ·unfold in64; simp only; omega
 ·unfold in64; simp only; omega
theorem aml {L:List Pt} (hL:L.length<50) (hok:∀p∈L,p.ok) {t:Til} (hti:tis t=true):∀f∈x9 L t,f.ok:=fun f hf=>by
 obtain ⟨n,hn,rfl⟩:=zam.1 hf;obtain ⟨p,hp,rfl⟩:=awr hn;exact a6o hL hok hti hp
theorem agf (L:List Pt) (t:Til):(v6 L t).length≤L.length:=Nat.le_trans (List.length_filter_le ..) (uo L _)
set_option maxHeartbeats 2000000 in
theorem draw_t (L : List Pt) (hL : L.length < 50) (hok : ∀ p ∈ L, p.ok) (t : Til) (ht : t.ok) (hti : tis t = true) (hf : fine t = false) {res : AV} {ro : List Ob}
    (hres:(v6 L t=[]∧res=.tup [.nils 1 (.v (.int .u8 0)),int .i64 0]∧ro=[.abs (sT L)])∨(v6 L t≠[]∧res=.tup [.own 1000001 0 0 (ui L t).length,int .i64 0]∧ro=[.abs (sT L),qe (ui L t)])) :
    a8 P0 19 [t.v,.ptr 1000000 0 0] [.abs (sT L)] res ro:=by
  refine ao9 rfl (by simp) ?_;have hmx:=k7;have hc:=a7y L hL hok t ht hti hf;have hsl:=agf L t;have hsa:=fun n h=>awr (L:=L) (t:=t) (n:=n) h;have f00:((0:Int) != 0)=false:=rfl;have hdk:=aml hL hok hti;have hdl:ui L t=if v6 L t=[] then [] else ah (x9 L t):=rfl
  rw [hdl] at hres;have hdn:x9 L t=(v6 L t).map (aw L t):=rfl;rw [hdn] at hdk hres;clear hdl hdn;generalize v6 L t=S at *;simp only [ak8,Til.v,push_cast,↓reduceIte,reduceCtorEq,zB,zE,zA,zS,zL,zD,zM];refine b7 (as':=[t.v,.ptr 1000000 0 0]) rfl ?_;refine a7 hc rfl ⟨rfl,trivial⟩ ?_;by_cases hS:S=[]
  · subst hS;have g00:((0:Int) == 0)=true:=rfl;rcases hres with ⟨_,rfl,rfl⟩ | ⟨h,_⟩
    · simp only [z5,f00,g00,push_cast,↓reduceIte,reduceCtorEq,zB,zE,zA,zS,zL,zD,zM]
    · exact absurd rfl h
  have hSl:S.length≠0:=fun e=>hS (zbx.1 e);have n0:((S.length:Int) == 0)=false:=beq_eq_false_iff_ne.2 (by omega);simp only [z5,f00,n0,push_cast,↓reduceIte,reduceCtorEq,zB,zE,zA,zS,zL,zD,zM];rcases hres with ⟨h,_⟩ | ⟨_,rfl,rfl⟩
  · exact absurd h hS
  rw [if_neg hS];have hT:∀i,((S.take i).map (aw L t)).length≤50:=fun i=>by simp; omega
  refine run_loop [(29, false), (28, false), (27, false), (8, false), (2, false), (1, false)] (fun vs pos los => ∃ i : Nat, i ≤ S.length ∧ pos = [.abs (sT L)] ∧
      (i=0∧vs=[int .i64 i,int .i64 S.length,.own 2000000 0 0 S.length,.nils 6 o5,.ptr 2000001 0 0,.ptr 1000000 0 0]∧los=[z5 S,.box [int .i64 t.z,int .i64 t.x,int .i64 t.y,int .i64 t.r]] ∨
       0<i∧vs=[int .i64 i,int .i64 S.length,.own 2000000 0 0 S.length,.own 2000001 0 0 i,.ptr 2000002 0 0,.ptr 1000000 0 0]∧los=[z5 S,fk ((S.take i).map (aw L t)),.box [int .i64 t.z,int .i64 t.x,int .i64 t.y,int .i64 t.r]]))
    (fun vs _ _=>match vs with | .r (.v (.int _ a))::_=>(S.length-a).toNat | _=>0) rfl ?_ ?_
  · simp only [o5,z5,push_cast,↓reduceIte,reduceCtorEq,zB,zE,zA,zS,zL,zD,zM];exact ⟨0,by omega,by simp⟩
  · rintro vs pos los ⟨i,hi,rfl,hc⟩;have w1:IntKind.i64.wrap ((i:Int)+1)=i+1:=a5 (by omega)
    have hstep:i<S.length→∃p∈L,S[i]?=some ((p.w t.r.toNat:Nat):Int):=fun h=>by
      obtain ⟨p,hp,e⟩:=hsa S[i] (zca h);exact ⟨p,hp,by rw [zas h,e]⟩
    have hr:0≤t.z∧t.z≤18∧0≤t.r∧t.r≤12∧0≤t.x∧t.x<2^t.z.toNat∧0≤t.y∧t.y<2^t.z.toNat:=by simpa [tis] using hti
    rcases hc with ⟨h0,rfl,rfl⟩ | ⟨h0,rfl,rfl⟩
    · subst h0;have dS:decide ((0:Int)<(S.length:Int))=true:=decide_eq_true (by omega);obtain ⟨p,hp,hn⟩:=hstep (by omega);have hpo:=hok p hp;have hk:=ri p.x p.y t.r.toNat hpo.2.1.1 hpo.2.1.2 (by omega);obtain ⟨c1,c2,c3,c4⟩:=xp t.r.toNat _ hk;have hz:z8 (p.w t.r.toNat) t.r.toNat=g9 p.x p.y t.r.toNat:=by rw [show p.w t.r.toNat=x8 t.r.toNat (g9 p.x p.y t.r.toNat) from rfl,c3]
      have hb:=aeb (by omega) hpo.2.1 (axs p.x p.y t.r.toNat (by omega));have hvs:=awf t hti hf (g9 p.x p.y t.r.toNat) hk hb;have hcy:=aym L (p.w t.r.toNat) (as5 hp (by omega));have hfe:aw L t ((p.w t.r.toNat:Nat):Int)=⟨(p.w t.r.toNat:Nat),aa t (g9 p.x p.y t.r.toNat),((mem L (p.w t.r.toNat)).length:Nat),cg (mem L (p.w t.r.toNat)),loV (mem L (p.w t.r.toNat)),hiV (mem L (p.w t.r.toNat))⟩:=by unfold aw; rw [zaq,hz]
      have hwe:p.w t.r.toNat=x8 t.r.toNat (g9 p.x p.y t.r.toNat):=rfl;rw [← hwe] at hvs;have hgU:=fun z=>acj hn z;have hgU0:=fun z=>ad7 hn z;simp only [zbe] at hgU hgU0 w1
      have hnx:(S.take 1).map (aw L t)=[aw L t ((p.w t.r.toNat:Nat):Int)]:=by
        rw [zbn,hn]; rfl
      generalize aa t (g9 p.x p.y t.r.toNat)=Q at *;have htq:zay Q.length (Q.map ptR)=Q.map ptR:=o7 Q;simp only [o5,z5,dS,hgU,hgU0,zbe,push_cast,↓reduceIte,reduceCtorEq,zB,zE,zA,zS,zL,zD,zM];refine And.intro (by omega) ?_;refine a7 hcy rfl ⟨rfl,trivial⟩ ?_;simp only [push_cast,↓reduceIte,reduceCtorEq,zB,zE,zA,zS,zL,zD,zM];refine q8 (as':=[t.v,uw (p.w t.r.toNat:Nat)]) rfl ?_;refine d9 hvs rfl trivial ?_;simp only [u5,pnt,htq,w1,push_cast,↓reduceIte,reduceCtorEq,zB,zE,zA,zS,zL,zD,zM];refine And.intro (by simp) (And.intro (by omega) (And.intro (by kernel_rfl) ⟨⟨1,by omega,.inr ⟨by omega,rfl,?_⟩⟩,by omega⟩));rw [hnx,hfe]; rfl
    · simp only [o5,z5,fk,push_cast,↓reduceIte,reduceCtorEq,zB,zE,zA,zS,zL,zD,zM];refine b9 (fun hd=>?_) (fun hd=>?_)
      · have hd:=of_decide_eq_true hd;obtain ⟨p,hp,hn⟩:=hstep (by omega);have hpo:=hok p hp;have hk:=ri p.x p.y t.r.toNat hpo.2.1.1 hpo.2.1.2 (by omega);obtain ⟨c1,c2,c3,c4⟩:=xp t.r.toNat _ hk;have hz:z8 (p.w t.r.toNat) t.r.toNat=g9 p.x p.y t.r.toNat:=by rw [show p.w t.r.toNat=x8 t.r.toNat (g9 p.x p.y t.r.toNat) from rfl,c3]
        have hb:=aeb (by omega) hpo.2.1 (axs p.x p.y t.r.toNat (by omega));have hvs:=awf t hti hf (g9 p.x p.y t.r.toNat) hk hb;have hcy:=aym L (p.w t.r.toNat) (as5 hp (by omega));have hfe:aw L t ((p.w t.r.toNat:Nat):Int)=⟨(p.w t.r.toNat:Nat),aa t (g9 p.x p.y t.r.toNat),((mem L (p.w t.r.toNat)).length:Nat),cg (mem L (p.w t.r.toNat)),loV (mem L (p.w t.r.toNat)),hiV (mem L (p.w t.r.toNat))⟩:=by unfold aw; rw [zaq,hz]
        have hwe:p.w t.r.toNat=x8 t.r.toNat (g9 p.x p.y t.r.toNat):=rfl;rw [← hwe] at hvs;have hgU:=fun z=>acj hn z;have hgU0:=fun z=>ad7 hn z;generalize aa t (g9 p.x p.y t.r.toNat)=Q at *;have htq:zay Q.length (Q.map ptR)=Q.map ptR:=o7 Q;have hTi:=hT i;have htk:zay i (((S.take i).map (aw L t)).map Fea.rv)=((S.take i).map (aw L t)).map Fea.rv:=zan (by simp; omega)
        have hnx:(S.take (i+1)).map (aw L t)=(S.take i).map (aw L t)++[aw L t ((p.w t.r.toNat:Nat):Int)]:=by
          rw [zbn,hn,zba]; rfl
        simp only [o5,z5,hgU,hgU0,push_cast,↓reduceIte,reduceCtorEq,zB,zE,zA,zS,zL,zD,zM];refine And.intro (by omega) ?_;refine a7 hcy rfl ⟨rfl,trivial⟩ ?_;simp only [push_cast,↓reduceIte,reduceCtorEq,zB,zE,zA,zS,zL,zD,zM];refine q8 (as':=[t.v,uw (p.w t.r.toNat:Nat)]) rfl ?_;refine d9 hvs rfl trivial ?_;simp only [u5,pnt,htq,htk,w1,push_cast,↓reduceIte,reduceCtorEq,zB,zE,zA,zS,zL,zD,zM];refine And.intro (by simp) (And.intro ⟨by omega,by omega⟩ (And.intro (by kernel_rfl) ⟨⟨i+1,by omega,.inr ⟨by omega,rfl,?_⟩⟩,by omega⟩));rw [hnx,hfe,zba]; rfl
      · have hd:=of_decide_eq_false hd;obtain rfl:i=S.length:=by omega
        rw [List.take_length];have hly:=a0p (S.map (aw L t)) (by simp; omega) hdk;have htk:zay S.length ((S.map (aw L t)).map Fea.rv)=(S.map (aw L t)).map Fea.rv:=zan (by simp);simp only [htk,push_cast,↓reduceIte,reduceCtorEq,zB,zE,zA,zS,zL,zD,zM];refine l9 ?_;refine b7 (as':=[cj (S.map (aw L t))]) rfl ?_;refine a7 hly rfl trivial ?_;simp only [push_cast,↓reduceIte,reduceCtorEq,zB,zE,zA,zS,zL,zD,zM]

theorem a8u {L:List Pt} {os:List Ob} (h:SS L os) (p:Pt) (hpo:p.ok) (hk:has L p.k=false) (hlt:L.length<2000):∃os',SS (L++[p]) os'∧a8 P0 36 [.ptr 1000000 0 0,p.av] os (bl true) (os'++[]):=by
 obtain ⟨es,c,ns,ce,cc,h,rfl⟩:=h;have hn:=a0x.1 hk;obtain ⟨a1,a2,a3,a4⟩:=bbg h.pm hn;refine ⟨_,⟨_,_,_,_,_,h.put hpo hn (by omega),rfl⟩,?_⟩;rw [List.append_nil];refine a8v h hpo hn hlt (bhr h p.k hn) a1 ⟨⟨0,0,0,0⟩,a3 _⟩ ?_;rw [a2,bga h.pm];exact .inr ⟨rfl,by omega⟩
theorem bdk (L:List Pt) (p:Pt) (hpo:p.ok) (hk:has L p.k=false) (hlt:L.length<2000):a8 P0 36 [.ptr 1000000 0 0,p.av] [.abs (sT L)] (bl true) [.abs (sT (L++[p]))]:=
 a86 (F:=SF L) (F':=SF (L++[p])) rfl (fun os h=>a8u h p hpo hk hlt) rfl (by simp) (by simp [bn,jc])
theorem bbj (l:List Pt) (hl:l.length<2000) (hok:∀p∈l,p.ok) (hnd:(l.map (·.k)).Nodup):a8 P0 18 [.r (pts l)] [] (.ptr 1000000 0 0) [.abs (sT l)]:=by
 refine aqy rfl (by decide) ?_
 push_cast [aoa,pts,zaf,zah]
 refine a7 bbm rfl trivial ?_
 push_cast [zah]
 refine run_loop [(3,false),(7,false),(8,false),(9,false)] (fun vs pos los=>∃(i:Nat),i≤l.length∧vs=[.ptr 2000000 0 0,.r (pts l),int .i64 l.length,int .i64 i]∧pos=[]∧los=[.abs (sT (l.take i))])
  (fun vs _ _=>match vs with | [_,_,_,.r (.v (.int _ j))]=>(l.length-j).toNat | _=>0) rfl ?_ ?_
 ·push_cast [pts]
  exact ⟨0,by omega,by simp⟩
 ·rintro vs pos los ⟨i,hi,rfl,rfl,rfl⟩
  push_cast [pts,zah]
  refine b9 (fun h=>?_) (fun h=>?_)
  ·have h':i<l.length:=by simpa using h
   obtain ⟨p,hp⟩:∃p,l[i]?=some p:=⟨l[i],by simp [h']⟩
   have hj1:IntKind.i64.wrap ((i:Int)+1)=(i:Int)+1:=a5 ⟨by omega,by omega⟩;have hpm:=zaz hp;have htk:l.take (i+1)=l.take i++[p]:=by rw [zbn,hp]; rfl
   have hno:has (l.take i) p.k=false:=a0x.2 fun q hq e=>by
    have hs:((l.take (i+1)).map (·.k)).Nodup:=hnd.sublist ((List.take_sublist _ _).map _);rw [htk,zba,List.nodup_append] at hs;exact hs.2.2 q.k (List.mem_map_of_mem hq) p.k (by simp) e
   push_cast [az5 hp,zah]
   refine And.intro ⟨by omega,by omega⟩ ?_;refine b7 (as':=[.ptr 1000000 0 0,p.av]) rfl ?_;refine a7 (bdk (l.take i) p (hok p hpm) hno (by simp; omega)) rfl ⟨rfl,trivial⟩ ?_
   push_cast [hj1]
   refine ⟨⟨i+1,by omega,rfl,by rw [htk]⟩,by omega⟩
  ·have h':¬i<l.length:=by simpa using h
   push_cast
   rw [zan (by omega)]

def aam:Mk P0 f11:={ x:=_ }
theorem afu:d5 11 0 aam:=c8 func11
def awP:Pt:=⟨1,500,600,7⟩
def awT:Til:=⟨0,0,0,0⟩
theorem bap:l7 [awP] 0=[((awP.w 0:Nat):Int)]:=by
 unfold l7 ww ah3 asI;rw [show dd (List.map (fun q:Pt=>q.w 0) [awP])=[awP.w 0] from rfl];exact List.mergeSort_singleton _
theorem bjz:tw awT ((awP.w 0:Nat):Int)=true:=by decide +kernel
theorem ayp:v6 [awP] awT=[((awP.w 0:Nat):Int)]:=by
 unfold v6;rw [show awT.r.toNat=0 from rfl,bap,List.filter_cons,if_pos bjz]
 rfl
theorem a7g:v6 [] awT=[]:=by
 unfold v6;rw [show l7 [] awT.r.toNat=[] from zcf (by have:=uo [] awT.r.toNat; simpa using this)]
 rfl
def awF:Fea:=aw [awP] awT ((awP.w 0:Nat):Int)
theorem bey:ui [awP] awT=ah [awF]:=by
 unfold ui x9;rw [ayp,if_neg (by simp)]
 rfl
def awB (o:Option (List Fea)):Bool:=match o with | some [f]=>f.s == 7&&f.c == 1 | _=>false
theorem bex:awB (rdT (ah [awF]))=true:=by decide +kernel
theorem a7h:(ah [awF]).length≤10000:=by decide +kernel
theorem bbx:∀p∈[awP],p.ok:=fun p hp=>by rw [zaw.1 hp]; decide
theorem a7f:awT.ok:=by unfold Til.ok in64; decide
theorem ag3:a8 P0 11 [] [] (bl true) []:=by
 refine afu rfl (by decide) ?_;have h1:=bbj [awP] (by simp) bbx (by simp);have h2:=draw_t [awP] (by simp) bbx awT a7f (by decide) (by decide +kernel) (.inr ⟨by rw [ayp]; simp,rfl,rfl⟩);rw [bey] at h2;have h3:=am0 (ah [awF]) (by have:=a7h; omega);have h4:=draw_t [] (by simp) (by simp) awT a7f (by decide) (by decide +kernel) (.inl ⟨a7g,rfl,rfl⟩);have hr:=bex;have hll:=a7h;generalize ah [awF]=B at *
 obtain ⟨f,hf,f1,f2⟩:∃f,rdT B=some [f]∧f.s=7∧f.c=1:=by
  cases h:rdT B with
  | none=>rw [h] at hr; cases hr
  | some l=>
   rw [h] at hr;rcases l with _ | ⟨f,_ | ⟨g,r⟩⟩
   ·cases hr
   ·simp only [awB,zbs,beq_iff_eq] at hr;exact ⟨f,rfl,hr⟩
   ·cases hr
 rw [hf] at h3;have g1:((0:Int) == 0)=true:=rfl;have g2:((1:Int) == 1)=true:=rfl;have g3:((7:Int) == 7)=true:=rfl;simp only [aam,push_cast,↓reduceIte,reduceCtorEq,zB,zE,zA,zS,zL,zD,zM];refine And.intro (by simp) ?_;refine l9 ?_;refine b7 (as':=[.r (pts [awP])]) rfl ?_;refine a7 h1 rfl trivial ?_;simp only [push_cast,↓reduceIte,reduceCtorEq,zB,zE,zA,zS,zL,zD,zM];refine b7 (as':=[awT.v,.ptr 1000000 0 0]) rfl ?_;refine a7 h2 rfl ⟨rfl,trivial⟩ ?_;simp only [push_cast,↓reduceIte,reduceCtorEq,zB,zE,zA,zS,zL,zD,zM];refine l9 ?_;refine b7 (as':=[sb B]) rfl ?_;refine a7 h3 rfl trivial ?_;simp only [rdR,rdO,push_cast,↓reduceIte,reduceCtorEq,zB,zE,zA,zS,zL,zD,zM];refine a7 bbm rfl trivial ?_
 simp only [push_cast,↓reduceIte,reduceCtorEq,zB,zE,zA,zS,zL,zD,zM];refine b7 (as':=[awT.v,.ptr 1000000 0 0]) rfl ?_;refine a7 h4 rfl ⟨rfl,trivial⟩ ?_;simp only [g1,g2,g3,f1,f2,Fea.rv,zad,push_cast,↓reduceIte,reduceCtorEq,zB,zE,zA,zS,zL,zD,zM];omega

def upc (c p:P2):Bool:=decide (c.2<p.2)
def wcx (c p q:P2):Int:=(q.2-c.2)*(p.1-c.1)-(q.1-c.1)*(p.2-c.2)
def wcr (c p q:P2):Int:=if upc c p=upc c q then 0 else if upc c q=true then (if 0<wcx c p q then 1 else 0) else if wcx c p q<0 then -1 else 0
def pth (c:P2):P2→List P2→Int
 | _,[]=>0
 | p,q::l=>wcr c p q+pth c q l
def wnd (c:P2):List P2→Int
 | []=>0
 | p::l=>pth c p (l++[p])
def hv (c:P2) (a b:Int) (p:P2):Int:=a*(p.1-c.1)+b*(p.2-c.2)
def phi (c:P2) (a:Int) (p:P2):Int:=if 0<a then (if upc c p=true then 1 else 0) else 0
theorem a6g {a b u v s t:Int} (hp:0<a*u+b*v) (hq:0<a*s+b*t) (hv:v≤0) (ht:0<t):0<a*(t*u-s*v):=by
 have h1:0<t*(a*u+b*v):=Int.mul_pos ht hp;have h2:0≤(-v)*(a*s+b*t):=zau (by omega) (by omega);have e:a*(t*u-s*v)=t*(a*u+b*v)+(-v)*(a*s+b*t):=by grind
 omega
theorem a4j {a w:Int} (h:0<a*w):(0<a∧0<w)∨(a<0∧w<0):=by
 rcases Int.lt_trichotomy 0 a with ha | ha | ha
 ·refine .inl ⟨ha,?_⟩;rcases Int.lt_or_le 0 w with hw | hw
  ·exact hw
  ·have:=zcj (zav ha) hw;omega
 ·rw [← ha,Int.zero_mul] at h; omega
 ·refine .inr ⟨ha,?_⟩;rcases Int.lt_or_le w 0 with hw | hw
  ·exact hw
  ·have:=Int.mul_nonpos_of_nonpos_of_nonneg (zav ha) hw;omega
theorem nc {c p q:P2} {a b:Int} (hp:0<hv c a b p) (hq:0<hv c a b q):wcr c p q=phi c a q-phi c a p:=by
 unfold wcr phi;unfold hv at hp hq;cases h1:upc c p<;>cases h2:upc c q<;>simp only [upc,decide_eq_true_eq,decide_eq_false_iff_not] at h1 h2
 ·simp
 ·have k:=a4j (a6g hp hq (by omega) (by omega:0<q.2-c.2));have e:wcx c p q=(q.2-c.2)*(p.1-c.1)-(q.1-c.1)*(p.2-c.2):=rfl;rw [← e] at k;rcases k with ⟨k1,k2⟩ | ⟨k1,k2⟩
  ·simp [k1,k2]
  ·simp [show ¬0<a by omega,show ¬0<wcx c p q by omega]
 ·have k:=a4j (a6g hq hp (by omega) (by omega:0<p.2-c.2));have e:wcx c p q=-((p.2-c.2)*(q.1-c.1)-(p.1-c.1)*(q.2-c.2)):=by unfold wcx; grind
  rcases k with ⟨k1,k2⟩ | ⟨k1,k2⟩
  ·simp [k1,show wcx c p q<0 by omega]
  ·simp [show ¬0<a by omega,show ¬wcx c p q<0 by omega]
 ·simp
theorem atc (c:P2):∀(X:List P2) (p q:P2) (Y:List P2),pth c p (X++q::Y)=pth c p (X++[q])+pth c q Y
 | [],p,q,Y=>by simp [pth]
 | x::X,p,q,Y=>by
  have:=atc c X x q Y;simp only [zae,pth] at this ⊢;omega
theorem azn (c:P2) (A B:List P2):wnd c (A++B)=wnd c (B++A):=by
 cases A with
 | nil=>simp
 | cons a A=>
  cases B with
  | nil=>simp
  | cons b B=>
   have h1:=atc c A a b (B++[a]);have h2:=atc c B b a (A++[b]);simp only [zae,wnd,zak,zae] at h1 h2 ⊢;omega
def RP (R:P2→P2→Prop):P2→List P2→Prop
 | _,[]=>True
 | p,q::l=>R p q∧RP R q l
def RG (R:P2→P2→Prop):List P2→Prop
 | []=>True
 | p::l=>RP R p (l++[p])
theorem ayx (R:P2→P2→Prop):∀(X:List P2) (p q:P2) (Y:List P2),RP R p (X++q::Y)↔RP R p (X++[q])∧RP R q Y
 | [],p,q,Y=>by simp [RP]
 | x::X,p,q,Y=>by
  have:=ayx R X x q Y;simp only [zae,RP] at this ⊢;rw [this,and_assoc]
theorem a7s (R:P2→P2→Prop) (A B:List P2) (h:RG R (A++B)):RG R (B++A):=by
 cases A with
 | nil=>simpa using h
 | cons a A=>
  cases B with
  | nil=>simpa using h
  | cons b B=>
   have h1:=ayx R A a b (B++[a]);have h2:=ayx R B b a (A++[b]);simp only [zae,RG,zak,zae] at h h1 h2 ⊢;rw [h1] at h;rw [h2];exact ⟨h.2,h.1⟩
theorem aw3 {c:P2} {a b:Int}:∀{l:List P2} {p:P2} (z:P2),0<hv c a b p→(∀q∈l,0<hv c a b q)→(p::l).getLast?=some z→pth c p l=phi c a z-phi c a p
 | [],p,z,hp,_,hz=>by simp at hz; subst hz; simp [pth]
 | q::l,p,z,hp,hl,hz=>by
  have h1:=nc hp (hl q (by simp));have h2:=aw3 (l:=l) (p:=q) z (hl q (by simp)) (fun x hx=>hl x (by simp [hx])) (by simpa using hz);rw [pth,h1,h2];omega
theorem aox {c:P2} {a b:Int} {l:List P2} (h:∀q∈l,0<hv c a b q):wnd c l=0:=by
 cases l with
 | nil=>rfl
 | cons p l=>
  have:=aw3 (c:=c) (a:=a) (b:=b) (l:=l++[p]) (p:=p) p (h p (by simp)) (fun q hq=>by
   rcases zbb.1 hq with hq | hq
   ·exact h q (by simp [hq])
   ·rw [zaw.1 hq]; exact h p (by simp)) (by simp [List.getLast?_cons])
  rw [wnd,this];omega
theorem a7w {c:P2} {a b k:Int} (hab:a≠0∨b≠0) {l:List P2} (h:∀q∈l,a*q.1+b*q.2=k):wnd c l=0:=by
 have hm:∀q∈l,hv c a b q=k-(a*c.1+b*c.2):=fun q hq=>by
  have:=h q hq;unfold hv
  grind
 rcases Int.lt_trichotomy 0 (k-(a*c.1+b*c.2)) with hk | hk | hk
 ·exact aox (a:=a) (b:=b) fun q hq=>by rw [hm q hq]; exact hk
 ·have hz:∀p∈l,∀q∈l,wcr c p q=0:=fun p hp q hq=>by
   have h1:=hm p hp;have h2:=hm q hq;rw [← hk] at h1 h2;unfold hv at h1 h2
   have e:wcx c p q=0:=by
    have e1:a*wcx c p q=0:=by unfold wcx; grind
    have e2:b*wcx c p q=0:=by unfold wcx; grind
    rcases hab with ha | hb
    ·exact (zcg.1 e1).resolve_left ha
    ·exact (zcg.1 e2).resolve_left hb
   unfold wcr;rw [e];simp
  have hp:∀(m:List P2) (p:P2),p∈l→(∀q∈m,q∈l)→pth c p m=0:=by
   intro m
   induction m with
   | nil=>intro p _ _; rfl
   | cons q m ih=>
    intro p hp hq;rw [pth,hz p hp q (hq q (by simp)),ih q (hq q (by simp)) (fun x hx=>hq x (by simp [hx]))]
    rfl
  cases l with
  | nil=>rfl
  | cons p l=>
   refine hp _ p (by simp) fun q hq=>?_;rcases zbb.1 hq with hq | hq
   ·simp [hq]
   ·rw [zaw.1 hq]; simp
 ·refine aox (a:=-a) (b:=-b) fun q hq=>?_;have:=hm q hq;have e:hv c (-a) (-b) q=- hv c a b q:=by unfold hv; grind
  omega

def Edg (c:P2) (r:Int) (p q:P2):Prop:=∃a b A B:Int,(-A≤a∧a≤A)∧(-B≤b∧b≤B)∧0<A+B∧r*(A+B)≤hv c a b p∧r*(A+B)≤hv c a b q
theorem alw {a d A D:Int} (ha:-A≤a∧a≤A) (hd:-D≤d∧d≤D):-(A*D)≤a*d∧a*d≤A*D:=by
 have hA:0≤A:=by omega
 have hD:0≤D:=by omega
 rcases Int.le_total 0 d with h | h
 ·have h1:=zby ha.1 h;have h2:=zby ha.2 h;have h3:=zbo hd.2 hA;rw [Int.neg_mul] at h1;omega
 ·have h1:=Int.mul_le_mul_of_nonpos_right ha.1 h;have h2:=Int.mul_le_mul_of_nonpos_right ha.2 h;have h3:=zbo hd.1 hA;rw [Int.neg_mul] at h1;rw [Int.mul_neg] at h3;omega
theorem a0u {c:P2} {a b A B δ:Int} {p x:P2} (ha:-A≤a∧a≤A) (hb:-B≤b∧b≤B) (h1:-δ≤x.1-p.1∧x.1-p.1≤δ) (h2:-δ≤x.2-p.2∧x.2-p.2≤δ):hv c a b p-δ*(A+B)≤hv c a b x:=by
 have k1:=alw ha h1;have k2:=alw hb h2;have e:hv c a b x=hv c a b p+(a*(x.1-p.1)+b*(x.2-p.2)):=by unfold hv; grind
 rw [e,Int.mul_add,zbz δ A,zbz δ B];omega
theorem aw2 {c:P2} {r:Int} {f:P2→P2} {δ:Int} (hδ:δ<r) (hf:∀p,(-δ≤(f p).1-p.1∧(f p).1-p.1≤δ)∧(-δ≤(f p).2-p.2∧(f p).2-p.2≤δ)) :
  ∀{l:List P2} {p:P2} (z:P2),RP (Edg c r) p l→(p::l).getLast?=some z→pth c (f p) (l.map f)=pth c p l-wcr c p (f p)+wcr c z (f z)
 | [],p,z,_,hz=>by simp at hz; subst hz; simp [pth]; omega
 | q::l,p,z,hR,hz=>by
  have ih:=aw2 hδ hf (l:=l) (p:=q) z hR.2 (by simpa using hz);obtain ⟨a,b,A,B,ha,hb,hAB,hp,hq⟩:=hR.1;have hδ0:0≤δ:=by have:=(hf p).1; omega
  have hm:=Int.mul_lt_mul_of_pos_right hδ hAB;have g1:=a0u (c:=c) ha hb (hf p).1 (hf p).2;have g2:=a0u (c:=c) ha hb (hf q).1 (hf q).2;have hd:0≤δ*(A+B):=zau hδ0 (zav hAB);have c1:=nc (c:=c) (a:=a) (b:=b) (p:=p) (q:=q) (by omega) (by omega);have c2:=nc (c:=c) (a:=a) (b:=b) (p:=f p) (q:=f q) (by omega) (by omega);have c3:=nc (c:=c) (a:=a) (b:=b) (p:=p) (q:=f p) (by omega) (by omega);have c4:=nc (c:=c) (a:=a) (b:=b) (p:=q) (q:=f q) (by omega) (by omega);simp only [zap,pth];rw [ih,c1,c2,c3,c4];omega
theorem a7v {c:P2} {r:Int} {f:P2→P2} {δ:Int} (hδ:δ<r) (hf:∀p,(-δ≤(f p).1-p.1∧(f p).1-p.1≤δ)∧(-δ≤(f p).2-p.2∧(f p).2-p.2≤δ)) {l:List P2} (h:RG (Edg c r) l):wnd c (l.map f)=wnd c l:=by
 cases l with
 | nil=>rfl
 | cons p l=>
  have:=aw2 hδ hf (l:=l++[p]) (p:=p) p h (by simp [List.getLast?_cons]);simp only [zap,wnd];rw [zba] at this;simp only [zap,zbh] at this;rw [this];omega
theorem baa {l:Lin} (hl:l.ok) {c p q:P2} (hb':fi l p q=true) {a b A B r:Int} (ha:-A≤a∧a≤A) (hb:-B≤b∧b≤B) (hp:r*(A+B)≤hv c a b p) (hq:r*(A+B)≤hv c a b q):(r-1)*(A+B)≤hv c a b (s6 l p q):=by
 have key:∀(d w e hp hq hx B' K:Int),0<d→0<w→w<d→0≤e→e<d→K≤hp→K≤hq→(∃b',-B'≤b'∧b'≤B'∧d*hx=(d-w)*hp+w*hq-b'*e)→K-B'≤hx:=by
  intro d w e hp hq hx B' K hd hw hwd he hed h1 h2 ⟨b',b1,b2,h3⟩;have m1:=zbo h1 (show 0≤d-w by omega);have m2:=zbo h2 (zav hw);have m3:=(alw (D:=d) ⟨b1,b2⟩ (⟨by omega,by omega⟩:-d≤e∧e≤d)).2
  have m4:d*(K-B')≤d*hx:=by
   rw [h3];have:d*(K-B')=(d-w)*K+w*K-B'*d:=by grind
   omega
  exact zck m4 hd
 have hAB:(r-1)*(A+B)=r*(A+B)-(A+B):=by grind
 have hA0:0≤A:=by omega
 have hB0:0≤B:=by omega
 obtain ⟨ax,at',ab⟩:=l;have fdm:∀e d:Int,0<d→∃ε,0≤ε∧ε<d∧d*(e/d)=e-ε:=fun e d hd=>⟨e%d,zbp _ (by omega),zbq _ hd,by have:=zbr e d; omega⟩
 rcases hl with h | h<;>simp only at h<;>subst h
 ·simp only [fi,sel,if_true,Bool.or_eq_true,zbs,decide_eq_true_eq] at hb';rcases hb' with ⟨h1,h2⟩ | ⟨h1,h2⟩
  ·obtain ⟨ε,e0,e1,e2⟩:=fdm ((q.2-p.2)*(at'-p.1)) (q.1-p.1) (by omega)
   have hx:s6 ⟨0,at',ab⟩ p q=(at',p.2+(q.2-p.2)*(at'-p.1)/(q.1-p.1)):=by
    simp [s6,sel,show ¬q.1-p.1<0 by omega,show 0<q.1-p.1 by omega];intro h; omega
   have:=key (q.1-p.1) (at'-p.1) ε (hv c a b p) (hv c a b q) (hv c a b (s6 ⟨0,at',ab⟩ p q)) B (r*(A+B)) (by omega) (by omega) (by omega) e0 e1 hp hq ⟨b,hb.1,hb.2,by
    rw [hx]; unfold hv; simp only; generalize (q.2-p.2)*(at'-p.1)/(q.1-p.1)=n at e2 ⊢; grind⟩
   omega
  ·obtain ⟨ε,e0,e1,e2⟩:=fdm (-((q.2-p.2)*(at'-p.1))) (-(q.1-p.1)) (by omega)
   have hx:s6 ⟨0,at',ab⟩ p q=(at',p.2 + -((q.2-p.2)*(at'-p.1)) / -(q.1-p.1)):=by
    simp [s6,sel,show q.1-p.1<0 by omega]
   have:=key (-(q.1-p.1)) (-(at'-p.1)) ε (hv c a b p) (hv c a b q) (hv c a b (s6 ⟨0,at',ab⟩ p q)) B (r*(A+B)) (by omega) (by omega) (by omega) e0 e1 hp hq ⟨b,hb.1,hb.2,by
    rw [hx]; unfold hv; simp only; generalize -((q.2-p.2)*(at'-p.1)) / -(q.1-p.1)=n at e2 ⊢; grind⟩
   omega
 ·simp only [fi,sel,show ¬((1:Int)=0) by decide,if_false,Bool.or_eq_true,zbs,decide_eq_true_eq] at hb';rcases hb' with ⟨h1,h2⟩ | ⟨h1,h2⟩
  ·obtain ⟨ε,e0,e1,e2⟩:=fdm ((q.1-p.1)*(at'-p.2)) (q.2-p.2) (by omega)
   have hx:s6 ⟨1,at',ab⟩ p q=(p.1+(q.1-p.1)*(at'-p.2)/(q.2-p.2),at'):=by
    simp [s6,sel,show ¬q.2-p.2<0 by omega,show 0<q.2-p.2 by omega];intro h; omega
   have:=key (q.2-p.2) (at'-p.2) ε (hv c a b p) (hv c a b q) (hv c a b (s6 ⟨1,at',ab⟩ p q)) A (r*(A+B)) (by omega) (by omega) (by omega) e0 e1 hp hq ⟨a,ha.1,ha.2,by
    rw [hx]; unfold hv; simp only; generalize (q.1-p.1)*(at'-p.2)/(q.2-p.2)=n at e2 ⊢; grind⟩
   omega
  ·obtain ⟨ε,e0,e1,e2⟩:=fdm (-((q.1-p.1)*(at'-p.2))) (-(q.2-p.2)) (by omega)
   have hx:s6 ⟨1,at',ab⟩ p q=(p.1 + -((q.1-p.1)*(at'-p.2)) / -(q.2-p.2),at'):=by
    simp [s6,sel,show q.2-p.2<0 by omega]
   have:=key (-(q.2-p.2)) (-(at'-p.2)) ε (hv c a b p) (hv c a b q) (hv c a b (s6 ⟨1,at',ab⟩ p q)) A (r*(A+B)) (by omega) (by omega) (by omega) e0 e1 hp hq ⟨a,ha.1,ha.2,by
    rw [hx]; unfold hv; simp only; generalize -((q.1-p.1)*(at'-p.2)) / -(q.2-p.2)=n at e2 ⊢; grind⟩
   omega

def ajf (l:Lin):P2→List P2→List P2
 | _,[]=>[]
 | p,q::r=>qh l p q++q::ajf l q r
theorem aut (l:Lin):∀(r:List P2) (p n:P2),cu l (prs n (p::r))++[n]=p::ajf l p (r++[n])
 | [],p,n=>by simp [prs,cu,ajf]
 | q::r,p,n=>by
  have:=aut l r q n;rw [prs];unfold cu at this ⊢;rw [List.flatMap_cons];simp only [zae,zak,ajf];rw [this]
def loP (l:Lin) (v:P2):Prop:=if l.above=true then sel l.axis v≤l.at' else l.at'≤sel l.axis v
def Stp (l:Lin) (u v:P2):Prop:=(p9 l u=false→loP l v)∧(p9 l v=false→loP l u)
theorem a4z {l:Lin} {v:P2} (h:p9 l v=false):loP l v:=by
 unfold p9 at h;unfold loP;split at h<;>rename_i h'<;>simp only [decide_eq_false_iff_not] at h<;>simp [h']<;>omega
theorem bfo {l:Lin} {p q:P2} (h:fi l p q=false):Stp l p q:=by
 unfold fi at h;unfold Stp loP p9;simp only [Bool.or_eq_false_iff,Bool.and_eq_false_iff,decide_eq_false_iff_not] at h;split<;>simp only [decide_eq_false_iff_not]<;>omega
theorem bbn {l:Lin} (hl:l.ok) (p q:P2):loP l (s6 l p q):=by
 unfold loP;rw [a99 hl];split<;>omega
theorem aw1 {l:Lin} (hl:l.ok) {c:P2} {ρ:Int} (hρ:2≤ρ):∀{r:List P2} {p:P2},RP (Edg c ρ) p r→pth c p (ajf l p r)=pth c p r∧RP (fun u v=>Edg c (ρ-1) u v∧Stp l u v) p (ajf l p r)
 | [],p,_=>⟨rfl,trivial⟩
 | q::r,p,h=>by
  obtain ⟨i1,i2⟩:=aw1 hl hρ h.2;obtain ⟨a,b,A,B,ha,hb,hAB,hp,hq⟩:=h.1;have hs:(ρ-1)*(A+B)=ρ*(A+B)-(A+B):=by grind
  have h0:0<(ρ-1)*(A+B):=Int.mul_pos (by omega) hAB;rw [ajf];unfold qh;cases hx:fi l p q with
  | false=>
   simp only [Bool.false_eq_true,if_false,zao,pth,RP,i1];exact ⟨trivial,⟨⟨a,b,A,B,ha,hb,hAB,by omega,by omega⟩,bfo hx⟩,i2⟩
  | true=>
   have hh:=baa hl hx ha hb hp hq;have c1:=nc (c:=c) (a:=a) (b:=b) (p:=p) (q:=s6 l p q) (by omega) (by omega);have c2:=nc (c:=c) (a:=a) (b:=b) (p:=s6 l p q) (q:=q) (by omega) (by omega);have c3:=nc (c:=c) (a:=a) (b:=b) (p:=p) (q:=q) (by omega) (by omega);have hk:=ahi l hl p q;simp only [if_true,zae,zao,pth,RP,i1,c1,c2,c3];refine ⟨by omega,⟨⟨a,b,A,B,ha,hb,hAB,by omega,hh⟩,fun _=>bbn hl p q,fun h=>?_⟩,⟨⟨a,b,A,B,ha,hb,hAB,hh,by omega⟩,fun h=>?_,fun _=>bbn hl p q⟩,i2⟩
   ·rw [hk] at h; cases h
   ·rw [hk] at h; cases h
theorem ax8 {c:P2} {E:P2→P2→Prop} {k:P2→Bool} {Lo:P2→Prop} {φ:P2→Int} (hlow:∀u v,Lo u→Lo v→E u v∧wcr c u v=φ v-φ u) (hk:∀v,k v=false→Lo v) :
  ∀(l:List P2) (p:P2),RP (fun u v=>E u v∧((k u=false→Lo v)∧(k v=false→Lo u))) p l→(∃z,(p::l).getLast?=some z∧k z=true) →
   (k p=true→pth c p (l.filter k)=pth c p l∧RP E p (l.filter k))∧(k p=false→∀u,Lo u→pth c u (l.filter k)=pth c p l+(φ p-φ u)∧RP E u (l.filter k))
 | [],p,_,⟨z,hz,hkz⟩=>by
  simp at hz;subst hz;exact ⟨fun _=>⟨rfl,trivial⟩,fun h=>by rw [hkz] at h; cases h⟩
 | q::l,p,h,⟨z,hz,hkz⟩=>by
  obtain ⟨⟨h1,h2,h3⟩,h4⟩:=h;obtain ⟨i1,i2⟩:=ax8 hlow hk l q h4 ⟨z,by simpa using hz,hkz⟩;cases hq:k q with
  | true=>
   obtain ⟨j1,j2⟩:=i1 hq;rw [zcl hq];refine ⟨fun hp=>⟨by rw [pth,pth,j1],h1,j2⟩,fun hp u hu=>?_⟩;have g1:=hlow u q hu (h2 hp);have g2:=hlow p q (hk p hp) (h2 hp);rw [pth,pth,j1,g1.2,g2.2];exact ⟨by omega,g1.1,j2⟩
  | false=>
   rw [List.filter_cons_of_neg (by simp [hq])];refine ⟨fun hp=>?_,fun hp u hu=>?_⟩
   ·obtain ⟨j1,j2⟩:=i2 hq p (h3 hq);have g2:=hlow p q (h3 hq) (hk q hq);rw [j1,pth,g2.2];exact ⟨by omega,j2⟩
   ·obtain ⟨j1,j2⟩:=i2 hq u hu;have g2:=hlow p q (hk p hp) (hk q hq);rw [j1,pth,g2.2];exact ⟨by omega,j2⟩
def Ins (l:Lin) (r:Int) (c:P2):Prop:=if l.above=true then l.at'+r≤sel l.axis c else sel l.axis c+r≤l.at'
theorem bg8 {l:Lin} (hl:l.ok) {r:Int} {c:P2} (h:Ins l r c):∃a b A B:Int,(-A≤a∧a≤A)∧(-B≤b∧b≤B)∧A+B=1∧∀v,loP l v→r≤hv c a b v:=by
 obtain ⟨ax,at',ab⟩:=l;unfold Ins at h;unfold loP hv;rcases hl with e | e<;>simp only at e<;>subst e<;>cases ab<;>simp [sel] at h
 ·exact ⟨1,0,1,0,by omega,by omega,by omega,fun v hv'=>by simp [sel] at hv'; simp; omega⟩
 ·exact ⟨-1,0,1,0,by omega,by omega,by omega,fun v hv'=>by simp [sel] at hv'; simp; omega⟩
 ·exact ⟨0,1,0,1,by omega,by omega,by omega,fun v hv'=>by simp [sel] at hv'; simp; omega⟩
 ·exact ⟨0,-1,0,1,by omega,by omega,by omega,fun v hv'=>by simp [sel] at hv'; simp; omega⟩
theorem ang {l:Lin} (hl:l.ok) {c:P2} {ρ:Int} (hρ:2≤ρ) {rg:List P2} (hc:Ins l ρ c) (h:RG (Edg c ρ) rg) (hw:wnd c rg≠0):RG (Edg c (ρ-1)) (x6 l rg)∧wnd c (x6 l rg)=wnd c rg:=by
 obtain ⟨a,b,A,B,ha,hb,hAB,hlo⟩:=bg8 hl hc;cases rg with
 | nil=>exact absurd rfl hw
 | cons p r=>
  rw [ab8 l hl (p::r) p rfl];obtain ⟨X,hX⟩:∃X,cu l (prs p (p::r))=X:=⟨_,rfl⟩
  have e:=aut l r p p;rw [hX] at e ⊢;obtain ⟨k1,k2⟩:=aw1 hl hρ h
  have hXw:wnd c X=wnd c (p::r)∧RG (fun u v=>Edg c (ρ-1) u v∧Stp l u v) X:=by
   cases X with
   | nil=>
    exfalso;have:ajf l p (r++[p])=[]:=by simpa using e.symm
    cases r<;>simp [ajf] at this
   | cons x Y=>
    simp only [zae,List.cons.injEq] at e;obtain ⟨rfl,e⟩:=e;exact ⟨by show pth c x (Y++[x]) = _; rw [e]; exact k1,by show RP _ x (Y++[x]); rw [e]; exact k2⟩
  obtain ⟨w1,w2⟩:=hXw
  have:∃k∈X,p9 l k=true:=by
   apply Classical.byContradiction;intro hn;refine hw ?_;rw [← w1];refine aox (a:=a) (b:=b) fun q hq=>?_
   have:p9 l q=false:=by
    cases hq':p9 l q with
    | false=>rfl
    | true=>exact absurd ⟨q,hq,hq'⟩ hn
   have:=hlo q (a4z this);omega
  obtain ⟨k,hk,hkk⟩:=this;obtain ⟨A',B',rfl⟩:=List.append_of_mem hk;rw [azn] at w1;have w3:=a7s _ _ _ w2
  have hf:=ax8 (c:=c) (E:=Edg c (ρ-1)) (k:=p9 l) (Lo:=loP l) (φ:=phi c a) (fun u v hu hv'=>by
   have g1:=hlo u hu;have g2:=hlo v hv';exact ⟨⟨a,b,A,B,ha,hb,by omega,by rw [hAB]; omega,by rw [hAB]; omega⟩,nc (b:=b) (by omega) (by omega)⟩) (fun v=>a4z) (B'++A'++[k]) k (by
   rw [zae] at w3
   exact w3) ⟨k,by simp [List.getLast?_cons],hkk⟩
  obtain ⟨f1,f2⟩:=hf.1 hkk;have e2:(A'++k::B').filter (p9 l)=A'.filter (p9 l)++(k::B'.filter (p9 l)):=by rw [List.filter_append,zcl hkk]
  have e3:(B'++A'++[k]).filter (p9 l)=B'.filter (p9 l)++A'.filter (p9 l)++[k]:=by rw [List.filter_append,List.filter_append,zcl hkk]; rfl
  rw [e3] at f1 f2;rw [e2];refine ⟨a7s _ (k::B'.filter (p9 l)) _ f2,?_⟩;rw [azn,← w1];exact f1
theorem beu {lo hi c:P2} {ρ:Int} (hρ:5≤ρ) {rg:List P2} (h1:lo.1+ρ≤c.1∧c.1+ρ≤hi.1) (h2:lo.2+ρ≤c.2∧c.2+ρ≤hi.2) (h:RG (Edg c ρ) rg) (hw:wnd c rg≠0):RG (Edg c (ρ-4)) (xm lo hi rg)∧wnd c (xm lo hi rg)=wnd c rg:=by
 obtain ⟨a1,b1⟩:=ang (l:=⟨0,lo.1,true⟩) (.inl rfl) (by omega) (by simp [Ins,sel]; omega) h hw;obtain ⟨a2,b2⟩:=ang (l:=⟨0,hi.1,false⟩) (.inl rfl) (by omega) (by simp [Ins,sel]; omega) a1 (by rw [b1]; exact hw);obtain ⟨a3,b3⟩:=ang (l:=⟨1,lo.2,true⟩) (.inr rfl) (by omega) (by simp [Ins,sel]; omega) a2 (by rw [b2,b1]; exact hw);obtain ⟨a4,b4⟩:=ang (l:=⟨1,hi.2,false⟩) (.inr rfl) (by omega) (by simp [Ins,sel]; omega) a3 (by rw [b3,b2,b1]; exact hw);have e:xm lo hi rg=x6 ⟨1,hi.2,false⟩ (x6 ⟨1,lo.2,true⟩ (x6 ⟨0,hi.1,false⟩ (x6 ⟨0,lo.1,true⟩ rg))):=rfl;rw [e,show ρ-4=ρ-1-1-1-1 by omega];exact ⟨a4,by rw [b4,b3,b2,b1]⟩
def ayz (l:List P2):Prop:=¬∃a b k:Int,(a≠0∨b≠0)∧∀q∈l,a*q.1+b*q.2=k
theorem a20 {c:P2} {ρ u:Int} (hu:0<u) (hρ:u<ρ) {rg:List P2} (h:RG (Edg c ρ) rg) (hw:wnd c rg≠0):ayz (gh u rg):=by
 rintro ⟨a,b,k,hab,hl⟩
 have hm:=a7v (c:=c) (r:=ρ) (f:=fun p=>(u*(p.1/u),u*(p.2/u))) (δ:=u) hρ (fun p=>by
  have e1:=zbr p.1 u;have e2:=zbr p.2 u;have m1:=zbp p.1 (show u≠0 by omega);have m2:=zbp p.2 (show u≠0 by omega);have m3:=zbq p.1 hu;have m4:=zbq p.2 hu;simp only
  omega) h
 refine hw ?_;rw [← hm];refine a7w (a:=a) (b:=b) (k:=u*k) hab fun q hq=>?_;obtain ⟨p,hp,rfl⟩:=zam.1 hq;have:=hl (p.1/u,p.2/u) (zam.2 ⟨p,hp,rfl⟩);simp only at this ⊢;rw [← this]
 grind

def hAb (x:Int):Int:=max x (-x)
def hN (r i:Nat):Int:=hAb (eA r i)+hAb (eB r i)
def hH (r i:Nat):Int:=eB r i*kx r i-eA r i*ky r i
def hO (r:Nat):Int:=(zai 6).foldl (fun m i=>max m (max (hAb (kx r i)) (hAb (ky r i)))) 0
theorem bd1:∀r,r<13→∀e,e<19→16*2^e*(2:Int)^e≤169*7^(12-r)→∀i,i<6→8*2^e*hN r i≤hH r i:=by decide +kernel
theorem abo:∀r,r<13→∀i,i<6→0<hN r i∧(hAb (kx r i)≤hO r∧hAb (ky r i)≤hO r)∧(hO r+1)*hN r i≤2*hH r i:=by decide +kernel
theorem bd0:∀r,r<13→∃m,m<6∧eB r m≤0∧0≤eB r ((m+5)%6)∧eB r m<eB r ((m+5)%6)∧0<eA r ((m+5)%6)*eB r m-eA r m*eB r ((m+5)%6):=by decide +kernel
theorem bd2:∀r,r<13→∃m,m<6∧0≤eB r m∧eB r ((m+5)%6)≤0∧eB r ((m+5)%6)<eB r m∧0<eA r ((m+5)%6)*eB r m-eA r m*eB r ((m+5)%6):=by decide +kernel
theorem awq {z:Ei} {r:Nat} (hr:r<13) {ly uy:Int} (hy:ly≤uy):∀(n:Nat) (lx ux:Int),lx≤ux→ux-lx≤n→ak z r lx ly ux uy=true→∃a a',lx≤a∧a≤a'∧a'≤ux∧a'≤a+1∧ak z r a ly a' uy=true
 | 0,lx,ux,h,hn,ht=>⟨lx,ux,by omega,h,by omega,by omega,ht⟩
 | n+1,lx,ux,h,hn,ht=>by
  by_cases h1:ux≤lx+1
  ·exact ⟨lx,ux,by omega,h,by omega,h1,ht⟩
  ·rcases bcc hr (m:=lx+1) (by omega) (by omega) hy ht with ht | ht
   ·exact ⟨lx,lx+1,by omega,by omega,by omega,by omega,ht⟩
   ·obtain ⟨a,a',h2,h3,h4,h5,h6⟩:=awq hr hy n (lx+1) ux (by omega) (by omega) ht;exact ⟨a,a',by omega,h3,h4,h5,h6⟩
theorem awp {z:Ei} {r:Nat} (hr:r<13) {lx ux:Int} (hx:lx≤ux):∀(n:Nat) (ly uy:Int),ly≤uy→uy-ly≤n→ak z r lx ly ux uy=true→∃a a',ly≤a∧a≤a'∧a'≤uy∧a'≤a+1∧ak z r lx a ux a'=true
 | 0,ly,uy,h,hn,ht=>⟨ly,uy,by omega,h,by omega,by omega,ht⟩
 | n+1,ly,uy,h,hn,ht=>by
  by_cases h1:uy≤ly+1
  ·exact ⟨ly,uy,by omega,h,by omega,h1,ht⟩
  ·rcases bcb hr (m:=ly+1) (by omega) (by omega) hx ht with ht | ht
   ·exact ⟨ly,ly+1,by omega,by omega,by omega,by omega,ht⟩
   ·obtain ⟨a,a',h2,h3,h4,h5,h6⟩:=awp hr hx n (ly+1) uy (by omega) (by omega) ht;exact ⟨a,a',by omega,h3,h4,h5,h6⟩
theorem a7q {A d:Int} (hd:0≤d∧d≤1):-(hAb A)≤A*d∧A*d≤hAb A:=by
 have:d=0∨d=1:=by omega
 unfold hAb;rcases this with rfl | rfl<;>omega
theorem bdv {z:Ei} {r:Nat} (hr:r<13) {lx ly ux uy:Int} (hx':lx≤ux) (hy':ly≤uy) (ht:ak z r lx ly ux uy=true) :
  ∃a b:Int,(lx≤a∧a≤ux)∧(ly≤b∧b≤uy)∧(-(hO r+1)≤3*cx z r-a∧3*cx z r-a≤hO r+1)∧(-(hO r+1)≤3*cy z r-b∧3*cy z r-b≤hO r+1)∧∀i,i<6→-(hN r i)≤sd (eA r) (eB r) (eC z r) i a b:=by
 obtain ⟨a,a',a1,a2,a3,a4,h1⟩:=awq hr hy' (ux-lx).toNat lx ux hx' (by omega) ht;obtain ⟨b,b',b1,b2,b3,b4,h2⟩:=awp hr a2 (uy-ly).toNat ly uy hy' (by omega) h1;obtain ⟨t1,t2,t3⟩:=xw.1 h2;obtain ⟨j1,l1,e1⟩:=ar0 (hx z r) 6 (by decide);obtain ⟨j2,l2,e2⟩:=ary (hx z r) 6 (by decide);obtain ⟨j3,l3,e3⟩:=ar0 (hy z r) 6 (by decide);obtain ⟨j4,l4,e4⟩:=ary (hy z r) 6 (by decide);rw [ao] at e1 e2;rw [an] at e3 e4;have n1:=(abo r hr j1 l1).2.1;have n2:=(abo r hr j2 l2).2.1;have n3:=(abo r hr j3 l3).2.1;have n4:=(abo r hr j4 l4).2.1;unfold hAb at n1 n2 n3 n4;refine ⟨a,b,by omega,by omega,by omega,by omega,fun i hi=>?_⟩;have h3:=t3 i hi
 have key:∀x y,(x=a∨x=a')→(y=b∨y=b')→sd (eA r) (eB r) (eC z r) i x y≤sd (eA r) (eB r) (eC z r) i a b+hN r i:=fun x y hx hy=>by
  have m1:=a7q (A:=eA r i) (d:=y-b) (by omega);have m2:=a7q (A:=eB r i) (d:=x-a) (by omega);unfold sd hN;rw [Int.mul_sub] at m1 m2;omega
 have k1:=key a b (.inl rfl) (.inl rfl);have k2:=key a' b (.inr rfl) (.inl rfl);have k3:=key a' b' (.inr rfl) (.inr rfl);have k4:=key a b' (.inl rfl) (.inr rfl);omega
theorem a6s {D T M:Int} (hM:0<M) (hT:0≤T) (hD:-M≤D∧D≤M):∃n ε,D*T/M=n∧0≤ε∧ε<M∧M*n=D*T-ε∧-T≤n∧n≤T:=by
 have e1:=zbr (D*T) M;have e2:=zbp (D*T) (show M≠0 by omega);have e3:=zbq (D*T) hM;have m1:=zby hD.2 hT;have m2:=zby hD.1 hT;refine ⟨_,_,rfl,e2,e3,by omega,?_,?_⟩
 ·have:M*(-T-1)<M*(D*T/M):=by
   rw [Int.mul_sub,Int.mul_neg,Int.mul_one];rw [Int.neg_mul] at m2;omega
  have:=Int.lt_of_mul_lt_mul_left this (zav hM);omega
 ·have:M*(D*T/M)≤M*T:=by omega
  exact zck this hM
theorem a4p (z:Ei) (r i:Nat):sd (eA r) (eB r) (eC z r) i (3*cx z r) (3*cy z r)=hH r i:=by
 unfold sd eC hH;rw [ao,an]
 grind
theorem a2y {z:Ei} {r:Nat} (hr:r<13) {e:Nat} (he:e<19) (hf:16*2^e*(2:Int)^e≤169*7^(12-r)) {lx ly ux uy:Int} (hx':lx≤ux) (hy':ly≤uy) (ht:ak z r lx ly ux uy=true) :
  ∃x y:Int,(lx-96*2^e≤x∧x≤ux+96*2^e)∧(ly-96*2^e≤y∧y≤uy+96*2^e)∧∀i,i<6→8*2^e*hN r i≤sd (eA r) (eB r) (eC z r) i x y:=by
 obtain ⟨a,b,ha,hb,dx,dy,hs⟩:=bdv hr hx' hy' ht;have hfar:=bd1 r hr e he hf;have hnum:=abo r hr
 have hU1:(1:Int)≤2^e:=by
  have:=Int.pow_pos (n:=2) (m:=e) (by decide);omega
 obtain ⟨U,hU⟩:∃U:Int,2^e=U:=⟨_,rfl⟩
 rw [hU] at hfar hU1 ⊢;by_cases hc:hO r+1≤96*U
 ·refine ⟨3*cx z r,3*cy z r,by omega,by omega,fun i hi=>?_⟩;rw [a4p];exact hfar i hi
 ·obtain ⟨M,hM⟩:∃M,hO r+1=M:=⟨_,rfl⟩
  rw [hM] at hc dx dy;obtain ⟨n1,ε1,e1,p1,p2,p3,p4,p5⟩:=a6s (D:=3*cx z r-a) (T:=96*U) (M:=M) (by omega) (by omega) dx;obtain ⟨n2,ε2,e2,q1,q2,q3,q4,q5⟩:=a6s (D:=3*cy z r-b) (T:=96*U) (M:=M) (by omega) (by omega) dy;refine ⟨a+n1,b+n2,by omega,by omega,fun i hi=>?_⟩;obtain ⟨g1,_,g2⟩:=hnum i hi;rw [hM] at g2;have g3:=hs i hi;have g4:=a4p z r i;obtain ⟨S,hS⟩:∃S,sd (eA r) (eB r) (eC z r) i a b=S:=⟨_,rfl⟩
  obtain ⟨H,hH'⟩:∃H,hH r i=H:=⟨_,rfl⟩
  obtain ⟨N,hN'⟩:∃N,hN r i=N:=⟨_,rfl⟩
  obtain ⟨R,hR⟩:∃R,sd (eA r) (eB r) (eC z r) i (a+n1) (b+n2)=R:=⟨_,rfl⟩
  rw [hS] at g3;rw [hH'] at g2 g4;rw [hN'] at g1 g2 g3 ⊢;rw [hR];have b1:=(alw (a:=eA r i) (d:=ε2) (A:=hAb (eA r i)) (D:=M) (by unfold hAb; omega) (by omega)).2;have b2:=(alw (a:=eB r i) (d:=ε1) (A:=hAb (eB r i)) (D:=M) (by unfold hAb; omega) (by omega)).1
  have key:M*R=(M-96*U)*S+96*U*H-eA r i*ε2+eB r i*ε1:=by
   unfold sd at hS hR g4
   grind
  have hNe:hAb (eA r i)*M+hAb (eB r i)*M=N*M:=by rw [← hN']; unfold hN; grind
  have c1:-((M-96*U)*N)≤(M-96*U)*S:=by
   have:=zbo g3 (show 0≤M-96*U by omega);rw [Int.mul_neg] at this;exact this
  have c2:=zbo g2 (show 0≤48*U by omega);have NM:0<N*M:=Int.mul_pos g1 (by omega)
  have UNM:N*M≤U*(N*M):=by
   have:=zby hU1 (zav NM);omega
  have UN:0≤U*N:=zau (by omega) (zav g1);have f1:(M-96*U)*N=N*M-96*(U*N):=by grind
  have f2:48*U*(M*N)=48*(U*(N*M)):=by grind
  have f3:48*U*(2*H)=96*U*H:=by grind
  have f4:M*(8*U*N)=8*(U*(N*M)):=by grind
  have:M*(8*U*N)≤M*R:=by
   rw [f4,key];rw [f2,f3] at c2;rw [f1] at c1;omega
  exact zck this (by omega)

theorem a0o {X Y:Int} {a b p:P2} (hX:0≤X) (h1:jf a b) (h2:jf b p) (h3:ad1 a b p≤0):X*a.2-Y*a.1≤X*b.2-Y*b.1∨X*p.2-Y*p.1≤X*b.2-Y*b.1:=by
 apply Classical.byContradiction;intro hn;rw [not_or] at hn;obtain ⟨n1,n2⟩:=hn;unfold jf at h1 h2;unfold ad1 at h3;have α0:0≤b.1-a.1:=by omega
 have β0:0≤p.1-b.1:=by omega
 have A:0<X*(a.2-b.2)+Y*(b.1-a.1):=by grind
 have B:0<X*(p.2-b.2)-Y*(p.1-b.1):=by grind
 have m1:=zau β0 (zav A);have m2:=zau α0 (zav B);have e:(p.1-b.1)*(X*(a.2-b.2)+Y*(b.1-a.1))+(b.1-a.1)*(X*(p.2-b.2)-Y*(p.1-b.1))=X*((b.1-a.1)*(p.2-a.2)-(b.2-a.2)*(p.1-a.1)):=by grind
 have m3:=zcj hX h3
 have z1:p.1-b.1=0:=by
  rcases zcg.1 (show (p.1-b.1)*(X*(a.2-b.2)+Y*(b.1-a.1))=0 by omega) with h | h<;>omega
 have z2:b.1-a.1=0:=by
  rcases zcg.1 (show (b.1-a.1)*(X*(p.2-b.2)-Y*(p.1-b.1))=0 by omega) with h | h<;>omega
 rw [z2,Int.mul_zero] at A;have:=zcj hX (show a.2-b.2≤0 by omega);omega
theorem bb9 {X Y:Int} {a b p:P2} (hX:0≤X) (h1:jf b a) (h2:jf p b) (h3:ad1 a b p≤0):X*b.2-Y*b.1≤X*a.2-Y*a.1∨X*b.2-Y*b.1≤X*p.2-Y*p.1:=by
 have h:∀q:P2,X*(-q.2)-Y*(-q.1)=-(X*q.2-Y*q.1):=fun q=>by grind
 have:=a0o (X:=X) (Y:=Y) (a:=(-a.1,-a.2)) (b:=(-b.1,-b.2)) (p:=(-p.1,-p.2)) hX (by unfold jf at h1 ⊢; simp only; omega) (by unfold jf at h2 ⊢; simp only; omega) (by unfold ad1 at h3 ⊢; simp only; grind);simp only [h] at this;omega
theorem azr {l:List P2} {x y:P2} {m:List P2} (hl:l=x::(m++[y])) (h:(ae l).length≤2):ae l=[y,x]:=by
 obtain ⟨T,hT,hn⟩:=azt x (m++[y]);have h2:=my (x::m) y;rw [zae,← hl] at h2;rw [← hl] at hT;have hne:=hn (by simp);rw [h2] at hT h ⊢;cases hp:je y (ae (x::m)) with
 | nil=>
  rw [hp] at hT;cases T with
  | nil=>exact absurd rfl hne
  | cons t T=>simp at hT
 | cons a r=>
  rw [hp] at hT h;cases r with
  | cons b r=>simp at h
  | nil=>
   cases T with
   | nil=>simp at hT
   | cons t T=>
    cases T with
    | nil=>simp at hT; rw [hT.2]
    | cons u T=>simp at hT
theorem a6a {l:List P2} (h:2≤l.length) (hs:l.Pairwise jf) (hb:ayz l):3≤(bj l++bj l.reverse).length:=by
 apply Classical.byContradiction;intro hn
 obtain ⟨x,m,y,hl⟩:∃x m y,l=x::(m++[y]):=by
  cases l with
  | nil=>simp at h
  | cons x r=>
   rcases List.eq_nil_or_concat r with rfl | ⟨r',y,rfl⟩
   ·simp at h
   ·exact ⟨x,r',y,by rw [List.concat_eq_append]⟩
 have hr:l.reverse=y::(m.reverse++[x]):=by rw [hl]; simp
 have c1:(bj l).length=(ae l).length-1:=by unfold bj; simp
 have c2:(bj l.reverse).length=(ae l.reverse).length-1:=by unfold bj; simp
 have len2:∀(x:P2) (m:List P2) (y:P2),2≤(ae (x::(m++[y]))).length:=fun x m y=>by
  obtain ⟨T,hT,hn⟩:=azt x (m++[y]);rw [hT,zab];have:=hn (by simp);cases T with
  | nil=>exact absurd rfl this
  | cons t T=>simp
 have l1:=len2 x m y;have l2:=len2 y m.reverse x;rw [← hl] at l1;rw [← hr] at l2;rw [zab,c1,c2] at hn;have s1:=azr hl (by omega);have s2:=azr hr (by omega)
 have hxq:∀q∈l,jf x q∧jf q y:=fun q hq=>by
  have hs':=hs;rw [hl] at hs' hq;have p1:=List.pairwise_cons.1 hs';have p2:=List.pairwise_append.1 p1.2;have rfl':∀p:P2,jf p p:=fun p=>.inr ⟨rfl,Int.le_refl _⟩;rcases zbc.1 hq with rfl | hq
  ·exact ⟨rfl' _,p1.1 y (by simp)⟩
  ·refine ⟨p1.1 q hq,?_⟩;rcases zbb.1 hq with hq | hq
   ·exact p2.2.2 q hq y (by simp)
   ·rw [zaw.1 hq]; exact rfl' _
 have hxy:=(hxq x (by rw [hl]; simp)).2;obtain ⟨X,hX⟩:∃X,y.1-x.1=X:=⟨_,rfl⟩
 obtain ⟨Y,hY⟩:∃Y,y.2-x.2=Y:=⟨_,rfl⟩
 have hX0:0≤X:=by unfold jf at hxy; omega
 have hF:X*y.2-Y*y.1=X*x.2-Y*x.1:=by rw [← hX,← hY]; grind
 refine hb ?_;by_cases h0:X=0∧Y=0
 ·refine ⟨1,0,x.1,.inl (by decide),fun q hq=>?_⟩;have:=hxq q hq;unfold jf at this;omega
 ·refine ⟨-Y,X,X*x.2-Y*x.1,by omega,fun q hq=>?_⟩;obtain ⟨c,hc,hd⟩:=azs (D:=fun c q=>X*c.2-Y*c.1≤X*q.2-Y*q.1) (o:=jf) (fun a=>Int.le_refl _) (fun a b c=>Int.le_trans) (fun a b p h1 h2 h3=>a0o hX0 h1 h2 h3) l hs q hq;obtain ⟨c',hc',hd'⟩:=azs (D:=fun c q=>X*q.2-Y*q.1≤X*c.2-Y*c.1) (o:=fun p q=>jf q p) (fun a=>Int.le_refl _) (fun a b c h1 h2=>Int.le_trans h2 h1) (fun a b p h1 h2 h3=>bb9 hX0 h1 h2 h3) l.reverse (List.pairwise_reverse.2 hs) q (by simpa using hq);rw [s1] at hc;rw [s2] at hc'
  have e1:X*c.2-Y*c.1=X*x.2-Y*x.1:=by
   simp at hc;rcases hc with rfl | rfl
   ·exact hF
   ·rfl
  have e2:X*c'.2-Y*c'.1=X*x.2-Y*x.1:=by
   simp at hc';rcases hc' with rfl | rfl
   ·rfl
   ·exact hF
  rw [Int.neg_mul];omega
theorem bao {l:List P2} (h:l.length≤2):¬ayz l:=by
 intro hb;refine hb ?_
 match l,h with
 | [],_=>exact ⟨1,0,0,.inl (by decide),fun q hq=>by simp at hq⟩
 | [p],_=>exact ⟨1,0,p.1,.inl (by decide),fun q hq=>by simp at hq; subst hq; omega⟩
 | [p,q],_=>
  by_cases h0:p.1=q.1
  ·exact ⟨1,0,p.1,.inl (by decide),fun r hr=>by simp at hr; rcases hr with rfl | rfl<;>omega⟩
  ·refine ⟨q.2-p.2,p.1-q.1,(q.2-p.2)*p.1+(p.1-q.1)*p.2,.inr (by omega),fun r hr=>?_⟩;simp at hr;rcases hr with rfl | rfl
   ·rfl
   ·grind
 | _::_::_::_,h=>simp at h
theorem a2x {rg:List P2} (hb:ayz rg):3≤(oc rg).length:=by
 have hb':ayz (cd (y7 rg)):=fun ⟨a,b,k,h1,h2⟩=>hb ⟨a,b,k,h1,fun q hq=>h2 q (a24 (a1y hq))⟩;have h3:¬(cd (y7 rg)).length<3:=fun h=>bao (by omega) hb';have:=a6a (by omega) ((a4g rg).sublist (a61 _)) hb';unfold oc;rw [if_neg h3,if_neg (by omega)];exact this
section
variable {z:Ei} {r:Nat} {x y:Int}
theorem bgo (r i:Nat) (z:Ei):hx z r ((i+1)%6)=hx z r i+eA r i:=by rw [ao,ao]; unfold eA; omega
theorem bgn (r i:Nat) (z:Ei):hy z r ((i+1)%6)=hy z r i+eB r i:=by rw [an,an]; unfold eB; omega
theorem a11 (z:Ei) (r i:Nat) (x y:Int):sd (eA r) (eB r) (eC z r) i x y=eA r i*(y-hy z r ((i+1)%6))-eB r i*(x-hx z r ((i+1)%6)):=by
 rw [bgo,bgn];unfold sd eC
 grind
theorem avy (z:Ei) (r i:Nat) (x y:Int):sd (eA r) (eB r) (eC z r) i x y=eA r i*(y-hy z r i)-eB r i*(x-hx z r i):=by
 unfold sd eC
 grind
theorem a9g (hr:r<13) (hs:∀i,i<6→0<sd (eA r) (eB r) (eC z r) i x y):¬∀i,i<6→hy z r i≤y:=by
 intro h;obtain ⟨m,hm,h1,h2,h3,h4⟩:=bd0 r hr;have hn:((m+5)%6+1)%6=m:=by omega
 have s1:=hs m hm;have s2:=hs ((m+5)%6) (by omega);rw [avy] at s1;rw [a11,hn] at s2;have he:=h m hm;have m1:=zau h2 (show 0≤eA r m*(y-hy z r m)-eB r m*(x-hx z r m)-1 by omega);have m2:=zau (show 0≤-eB r m by omega) (show 0≤eA r ((m+5)%6)*(y-hy z r m)-eB r ((m+5)%6)*(x-hx z r m)-1 by omega);have m3:=zau (show 0≤y-hy z r m by omega) (zav h4);generalize eA r m=A at *;generalize eB r m=B at *;generalize eA r ((m+5)%6)=A' at *;generalize eB r ((m+5)%6)=B' at *;generalize y-hy z r m=e at *;generalize x-hx z r m=d at *;have e:B'*(A*e-B*d-1) + -B*(A'*e-B'*d-1)=-(e*(A'*B-A*B'))-(B'-B):=by grind
 omega
theorem bgq (hr:r<13) (hs:∀i,i<6→0<sd (eA r) (eB r) (eC z r) i x y):¬∀i,i<6→y<hy z r i:=by
 intro h;obtain ⟨m,hm,h1,h2,h3,h4⟩:=bd2 r hr;have hn:((m+5)%6+1)%6=m:=by omega
 have s1:=hs m hm;have s2:=hs ((m+5)%6) (by omega);rw [avy] at s1;rw [a11,hn] at s2;have he:=h m hm;have m1:=zau (show 0≤-eB r ((m+5)%6) by omega) (show 0≤eA r m*(y-hy z r m)-eB r m*(x-hx z r m)-1 by omega);have m2:=zau h1 (show 0≤eA r ((m+5)%6)*(y-hy z r m)-eB r ((m+5)%6)*(x-hx z r m)-1 by omega);have m3:=zau (show 0≤-(y-hy z r m) by omega) (zav h4);generalize eA r m=A at *;generalize eB r m=B at *;generalize eA r ((m+5)%6)=A' at *;generalize eB r ((m+5)%6)=B' at *;generalize y-hy z r m=e at *;generalize x-hx z r m=d at *;have e:-B'*(A*e-B*d-1)+B*(A'*e-B'*d-1)=-(-e*(A'*B-A*B'))-(B-B'):=by grind
 omega
end
theorem awy (z:Ei) (r:Nat) (d:P2):(adg z r).map (shP d)=[(hx z r 0+d.1,hy z r 0+d.2),(hx z r 1+d.1,hy z r 1+d.2),(hx z r 2+d.1,hy z r 2+d.2),(hx z r 3+d.1,hy z r 3+d.2),(hx z r 4+d.1,hy z r 4+d.2),(hx z r 5+d.1,hy z r 5+d.2)]:=rfl
theorem a8o {z:Ei} {r:Nat} (hr:r<13) {x y K:Int} (hs:∀i,i<6→K*hN r i≤sd (eA r) (eB r) (eC z r) i x y) (d:P2) (i:Nat) (hi:i<6):Edg (x+d.1,y+d.2) K (hx z r i+d.1,hy z r i+d.2) (hx z r ((i+1)%6)+d.1,hy z r ((i+1)%6)+d.2):=by
 have h1:=hs i hi;have h2:=(abo r hr i hi).1;have g:hAb (eB r i)+hAb (eA r i)=hN r i:=by unfold hN; omega
 refine ⟨eB r i,-eA r i,hAb (eB r i),hAb (eA r i),by unfold hAb; omega,by unfold hAb; omega,by omega,?_,?_⟩
 ·rw [g];rw [avy] at h1;unfold hv;simp only
  grind
 ·rw [g];rw [a11] at h1;unfold hv;simp only
  grind
theorem a8n {z:Ei} {r:Nat} {x y:Int} (hs:∀i,i<6→0<sd (eA r) (eB r) (eC z r) i x y) (d:P2) (i:Nat) (hi:i<6):wcr (x+d.1,y+d.2) (hx z r i+d.1,hy z r i+d.2) (hx z r ((i+1)%6)+d.1,hy z r ((i+1)%6)+d.2)=if decide (y<hy z r i)=false∧decide (y<hy z r ((i+1)%6))=true then 1 else 0:=by
 have h1:=hs i hi
 have e:wcx (x+d.1,y+d.2) (hx z r i+d.1,hy z r i+d.2) (hx z r ((i+1)%6)+d.1,hy z r ((i+1)%6)+d.2)=sd (eA r) (eB r) (eC z r) i x y:=by
  rw [avy,bgo,bgn];unfold wcx;simp only
  grind
 unfold wcr;rw [e];have u:∀q:Int,upc (x+d.1,y+d.2) (q,hy z r i+d.2)=decide (y<hy z r i):=fun q=>by unfold upc; simp
 have u':∀q:Int,upc (x+d.1,y+d.2) (q,hy z r ((i+1)%6)+d.2)=decide (y<hy z r ((i+1)%6)):=fun q=>by unfold upc; simp
 rw [u,u'];cases decide (y<hy z r i)<;>cases decide (y<hy z r ((i+1)%6))<;>simp [h1];omega
theorem a8m {z:Ei} {r:Nat} (hr:r<13) {x y:Int} (hs:∀i,i<6→0<sd (eA r) (eB r) (eC z r) i x y) (d:P2):wnd (x+d.1,y+d.2) ((adg z r).map (shP d))≠0:=by
 have w:=fun i hi=>a8n hs d i hi;have w0:=w 0 (by decide);have w1:=w 1 (by decide);have w2:=w 2 (by decide);have w3:=w 3 (by decide);have w4:=w 4 (by decide);have w5:=w 5 (by decide);simp only [zaa,Nat.reduceAdd,Nat.reduceMod] at w0 w1 w2 w3 w4 w5;rw [awy];simp only [wnd,zae,zao,pth];rw [w0,w1,w2,w3,w4,w5];have n1:=bgq hr hs;have n2:=a9g hr hs
 have all6:∀P:Nat→Prop,P 0→P 1→P 2→P 3→P 4→P 5→∀i,i<6→P i:=fun P a b c d e f i hi=>by
  match i,hi with
  | 0,_=>exact a
  | 1,_=>exact b
  | 2,_=>exact c
  | 3,_=>exact d
  | 4,_=>exact e
  | 5,_=>exact f
 cases h0:decide (y<hy z r 0)<;>cases h1:decide (y<hy z r 1)<;>cases h2:decide (y<hy z r 2)<;>cases h3:decide (y<hy z r 3)<;>cases h4:decide (y<hy z r 4)<;>cases h5:decide (y<hy z r 5)<;>simp
 ·simp only [decide_eq_false_iff_not,Int.not_lt] at h0 h1 h2 h3 h4 h5;exact n2 (all6 _ h0 h1 h2 h3 h4 h5)
 ·simp only [decide_eq_true_eq] at h0 h1 h2 h3 h4 h5;exact n1 (all6 _ h0 h1 h2 h3 h4 h5)
set_option maxHeartbeats 2000000 in
theorem ay3 {t:Til} {z:Ei} (ht:tis t=true) (hf:fine t=false) (hT:tch z t.r.toNat (2^(30-t.z).toNat) t.x t.y=true):3≤(aa t z).length:=by
 have hr:0≤t.z∧t.z≤18∧0≤t.r∧t.r≤12∧0≤t.x∧t.x<2^t.z.toNat∧0≤t.y∧t.y<2^t.z.toNat:=by simpa [tis] using ht
 have hR:t.r.toNat<13:=by omega
 have hf':16*2^(18-t.z).toNat*(2:Int)^(18-t.z).toNat≤169*7^(12-t.r.toNat):=by
  unfold fine at hf;rw [ht,Bool.true_and,decide_eq_false_iff_not] at hf;rw [show 12-t.r.toNat=(12-t.r).toNat by omega];omega
 have hS:(2:Int)^(30-t.z).toNat=4096*2^(18-t.z).toNat:=by
  rw [show (30-t.z).toNat=(18-t.z).toNat+12 by omega,Int.pow_add,zbz]
  rfl
 have hU1:(1:Int)≤2^(18-t.z).toNat:=by
  have:=Int.pow_pos (n:=2) (m:=(18-t.z).toNat) (by decide);omega
 unfold tch at hT;have e1:(t.x+1)*2^(30-t.z).toNat=t.x*2^(30-t.z).toNat+2^(30-t.z).toNat:=by rw [zbl,zbm]
 have e2:(t.y+1)*2^(30-t.z).toNat=t.y*2^(30-t.z).toNat+2^(30-t.z).toNat:=by rw [zbl,zbm]
 have hT':=hT;rw [e1,e2] at hT;obtain ⟨x,y,bx,by',hs⟩:=a2y hR (e:=(18-t.z).toNat) (by omega) hf' (by omega) (by omega) hT
 have hsh:aa t z=oc (gh (3*bo t) (ag7 t z)):=by
  unfold aa tch;rw [hT'];exact if_pos rfl
 rw [hsh];refine a2x ?_;unfold ag7 nu ajd bo;obtain ⟨X0,hX0⟩:∃X0,t.x*2^(30-t.z).toNat=X0:=⟨_,rfl⟩
 obtain ⟨Y0,hY0⟩:∃Y0,t.y*2^(30-t.z).toNat=Y0:=⟨_,rfl⟩
 simp only [hX0,hY0] at bx by' ⊢;simp only [hS] at bx by' ⊢;obtain ⟨U,hU⟩:∃U:Int,2^(18-t.z).toNat=U:=⟨_,rfl⟩
 simp only [hU] at bx by' hs hU1 ⊢
 have hs0:∀i,i<6→0<sd (eA t.r.toNat) (eB t.r.toNat) (eC z t.r.toNat) i x y:=fun i hi=>by
  have g:=(abo t.r.toNat hR i hi).1;have:=hs i hi;have:=Int.mul_pos (show 0<8*U by omega) g;omega
 obtain ⟨d,hd⟩:∃d:P2,(-(3*X0),-(3*Y0))=d:=⟨_,rfl⟩
 have d1:d.1=-(3*X0):=by rw [← hd]
 have d2:d.2=-(3*Y0):=by rw [← hd]
 rw [hd];have hw:=a8m hR hs0 d;have hE:=fun i hi=>a8o hR hs d i hi
 have hG:RG (Edg (x+d.1,y+d.2) (8*U)) ((adg z t.r.toNat).map (shP d)):=by
  rw [awy];exact ⟨hE 0 (by decide),hE 1 (by decide),hE 2 (by decide),hE 3 (by decide),hE 4 (by decide),hE 5 (by decide),trivial⟩
 obtain ⟨g1,g2⟩:=beu (lo:=(-192*U,-192*U)) (hi:=(12480*U,12480*U)) (c:=(x+d.1,y+d.2)) (by omega) (by simp only; omega) (by simp only; omega) hG hw;exact a20 (by omega) (by omega) g1 (by rw [g2]; exact hw)


theorem aqx:∀(r:List P2) (p:P2) (i:Nat) (q o:P2),r[i]?=some q→(p::r)[i]?=some o→(v4 p r).getD (2*i) 0=zig (IntKind.i64.wrap (q.1-o.1))∧(v4 p r).getD (2*i+1) 0=zig (IntKind.i64.wrap (q.2-o.2))
 | [],p,i,q,o,h,_=>by simp at h
 | a::r,p,0,q,o,h,g=>by
  simp at h g;subst h; subst g;exact ⟨rfl,rfl⟩
 | a::r,p,i+1,q,o,h,g=>by
  have ih:=aqx r a i q o (by simpa using h) (by simpa using g);rw [show 2*(i+1)=2*i+1+1 by omega,v4];exact ih
theorem ahl {p:P2} {r:List P2} (h:2≤r.length):s7 (p::r)=[9,zig p.1,zig p.2,8*(r.length:Int)+2]++v4 p r++[15]:=by
 rw [s7,if_neg (by omega)]
theorem asm {ring:List P2} (h:3≤ring.length):(s7 ring).length=2*ring.length+3:=by
 cases ring with
 | nil=>simp at h
 | cons p r=>
  simp only [zal] at h;rw [ahl (by omega)];have:=ng r p;simp [this];omega
theorem asn {ring:List P2} (h:3≤ring.length):mb (s7 ring)=true:=by
 have hs:=asm h;cases ring with
 | nil=>simp at h
 | cons p r=>
  simp only [zal] at h hs;have hsh:=ahl (p:=p) (r:=r) (by omega);have hl:=ng r p;unfold mb;rw [hs];have e1:(s7 (p::r)).getD 0 0=9:=by rw [hsh]; rfl
  have e2:(s7 (p::r)).getD (2*(r.length+1)+3-1) 0=15:=by
   rw [hsh,zac,List.getElem?_append_right (by simp [hl]; omega)];rw [show 2*(r.length+1)+3-1-([9,zig p.1,zig p.2,8*(r.length:Int)+2]++v4 p r).length=0 by simp [hl]; omega]
   rfl
  have e3:(s7 (p::r)).getD 3 0=8*(r.length:Int)+2:=by rw [hsh]; rfl
  rw [e1,e2,e3];have a1:decide (9≤2*(r.length+1)+3)=true:=decide_eq_true (by omega);have a2:((2*(r.length+1)+3)%2 == 1)=true:=by rw [beq_iff_eq]; omega
  have a3:(8*(r.length:Int)+2 == 8*((((2*(r.length+1)+3:Nat):Int)-5)/2)+2)=true:=by rw [beq_iff_eq]; omega
  rw [a1,a2,a3]
  rfl
theorem a17 {ring:List P2} (h:3≤ring.length) (hin:i64P ring):lq (s7 ring)=ring:=by
 rw [lq,if_pos (asn h),asm h];cases ring with
 | nil=>simp at h
 | cons p r=>
  simp only [zal] at h ⊢;have hsh:=ahl (p:=p) (r:=r) (by omega);have hl:=ng r p
  have hc:∀j,j<r.length+1→∀o,(p::r)[j]?=some o→aae (s7 (p::r)) j=o:=fun j=>by
   induction j with
   | zero=>
    intro _ o ho;simp at ho;subst ho;rw [aae,hsh];show (zag (zig p.1),zag (zig p.2))=p;rw [ah2,ah2]
   | succ j ih=>
    intro hj q hq;obtain ⟨o,ho⟩:∃o,(p::r)[j]?=some o:=⟨(p::r)[j]'(by simp; omega),by simp [show j<r.length+1 by omega]⟩
    have hq2:r[j]?=some q:=by simpa using hq
    obtain ⟨g1,g2⟩:=aqx r p j q o hq2 ho;have hqi:=hin q (by simp [zaz hq2]);have hoi:=hin o (zaz ho)
    have hd:∀k,k<2*r.length→(s7 (p::r)).getD (4+k) 0=(v4 p r).getD k 0:=fun k hk=>by
     rw [hsh,zak,zac,List.getElem?_append_right (by simp),zac];rw [show 4+k-[9,zig p.1,zig p.2,8*(r.length:Int)+2].length=k by simp];rw [List.getElem?_append_left (by omega)]
    rw [aae,ih (by omega) o ho,hd (2*j) (by omega),show 5+2*j=4+(2*j+1) by omega,hd (2*j+1) (by omega),g1,g2,ah2,ah2]
    have wr:∀a b:Int,in64 a→in64 b→IntKind.i64.wrap (b+IntKind.i64.wrap (a-b))=a:=fun a b ha hb=>by
     rw [IntKind.wrap_i64,IntKind.wrap_i64];unfold in64 at ha hb;omega
    rw [wr _ _ hqi.1 hoi.1,wr _ _ hqi.2 hoi.2]
  apply zbv;intro i;by_cases hi:i<r.length+1
  ·rw [mq,zar,zbw (by omega),zas (by simpa using hi)];rw [zcd,hc i hi _ (zas (by simpa using hi))]
  ·rw [zat (by simp [mq]; omega),zat (by simp; omega)]

def bgj (b:List UInt8):Option Nat:=
 match am b with
 | some [x]=>if x.1=6∧x.2.1=0 then some x.2.2.1 else none
 | _=>none

theorem a19:∀(f g:Nat) (l:List UInt8),l.length≤f→l.length≤g→fv f l=fv g l:=by
 intro f
 induction f with
 | zero=>
  intro g l hf _;have:l=[]:=zcf (by omega);subst this;rw [mz,mz]
 | succ f ih=>
  intro g l hf hg
  match l with
  | []=>rw [mz,mz]
  | c::t=>
   match g with
   | 0=>simp at hg
   | g+1=>
    rw [fv,fv];rcases h:cz (c::t) with _ | ⟨x,k⟩
    ·rfl
    ·obtain ⟨h2,h3⟩:=ze h;have hl:((c::t).drop k).length≤t.length-1:=by rw [zcc,zal]; omega
     have h4:0<t.length:=by rw [zal] at h3; omega
     simp only;rw [zal] at hf hg;rw [ih g _ (by omega) (by omega)]
theorem a1o:∀(f g:Nat) (l:List UInt8),l.length≤f→l.length≤g→et f l=et g l:=by
 intro f
 induction f with
 | zero=>
  intro g l hf _;have:l=[]:=zcf (by omega);subst this;rw [mw,mw]
 | succ f ih=>
  intro g l hf hg
  match l with
  | []=>rw [mw,mw]
  | c::t=>
   match g with
   | 0=>simp at hg
   | g+1=>
    rw [et,et];split
    ·rfl
    ·rename_i h;rw [zal] at hf hg;have hl:((c::t).drop (take (c::t)).2).length≤t.length:=by rw [zcc,zal]; omega
     rw [ih g _ (by omega) (by omega)]
theorem a18 {x:Fld} {c rest:List UInt8} (h:cz (c++rest)=some (x,c.length)):am (c++rest)=(am rest).map (x :: ·):=by
 obtain ⟨h2,h3⟩:=ze h;obtain ⟨f',hf,e⟩:=ajg (by rw [zab] at h3 ⊢; omega) (Nat.le_refl _) h;unfold am;rw [e,List.drop_left,a19 f' rest.length rest (by rw [zab] at hf; omega) (Nat.le_refl _)]
theorem a1n (n:Nat) (rest:List UInt8) (h:n<18446744073709551616):jl (m6 n++rest)=(jl rest).map (n :: ·):=by
 have hp:=ai6 n;rw [a1l (by rw [zab]; omega) (ajb n rest h) (by omega),List.drop_left];unfold jl;rw [a1o _ rest.length rest (by rw [zab]; omega) (Nat.le_refl _)]
theorem a1m (l:List Nat) (h:∀n∈l,n<18446744073709551616):jl (l.flatMap m6)=some l:=by
 induction l with
 | nil=>rfl
 | cons n l ih=>
  rw [List.flatMap_cons,a1n n _ (h n (by simp)),ih fun x hx=>h x (by simp [hx])]
  rfl
theorem yu (cs:List (List UInt8×Fld)) (h:∀c∈cs,∀rest,cz (c.1++rest)=some (c.2,c.1.length)):am (cs.flatMap (·.1))=some (cs.map (·.2)):=by
 induction cs with
 | nil=>rfl
 | cons c cs ih=>
  rw [List.flatMap_cons,a18 (h c (by simp) _),ih fun x hx=>h x (by simp [hx])]
  rfl
theorem axa (t:Nat) (rest:List UInt8) (ht:t<18446744073709551616) (h1:1≤t/8) (h2:t/8≤1000) (n j:Nat) (hn:take rest=(n,j)) :
  cz (m6 t++rest)=if j=0 then none else if t%8=0 then some ((t/8,0,n,[]),(m6 t).length+j)
   else if t%8=2∧n≤rest.length-j then some ((t/8,2,0,(rest.drop j).take n),(m6 t).length+j+n) else none:=by
 have hp:=ai6 t;have hd:(m6 t++rest).drop (m6 t).length=rest:=by simp
 unfold cz;rw [ajb t rest ht];simp only [hd,hn];rw [if_neg (by omega)];split
 ·rfl
 ·split
  ·rfl
  ·have e1:(m6 t++rest).length-(m6 t).length-j=rest.length-j:=by simp
   have e2:(m6 t++rest).drop ((m6 t).length+j)=rest.drop j:=by rw [← List.drop_drop,hd]
   rw [e1,e2]
theorem acl (f:Nat) (n:Int) (rest:List UInt8) (hf:1≤f∧f≤1000) (h0:0≤n) (h1:n<18446744073709551616):cz (u6 (f:Int) n++rest)=some ((f,0,n.toNat,[]),(u6 (f:Int) n).length):=by
 have hk:okB (f:Int)=true:=by simp [okB]; omega
 have hp:=ai6 n.toNat;have e:((f:Int)*8).toNat=8*f:=by omega
 unfold u6;rw [if_pos hk,e,zak,axa (8*f) _ (by omega) (by omega) (by omega) n.toNat (m6 n.toNat).length (ajb _ rest (by omega)),if_neg (by omega),if_pos (by omega),zab];rw [show 8*f/8=f by omega]
theorem lf (f:Nat) (x rest:List UInt8) (hf:1≤f∧f≤1000) (hx:x.length<18446744073709551616):cz (o8 (f:Int) x++rest)=some ((f,2,0,x),(o8 (f:Int) x).length):=by
 have hk:okB (f:Int)=true:=by simp [okB]; omega
 have hp:=ai6 x.length;have e:((f:Int)*8+2).toNat=8*f+2:=by omega
 unfold o8;rw [if_pos hk,e,zak,zak,axa (8*f+2) _ (by omega) (by omega) (by omega) x.length (m6 x.length).length (ajb _ _ hx),if_neg (by omega),if_neg (by omega),if_pos ⟨by omega,by simp⟩];rw [List.drop_left,List.take_left,show (8*f+2)/8=f by omega];simp;omega
theorem a2h (l:List Int) (h:u64L l):dr (l.flatMap fun n=>m6 n.toNat)=l:=by
 have e:(l.flatMap fun n=>m6 n.toNat)=(l.map Int.toNat).flatMap m6:=by rw [List.flatMap_map]
 unfold dr
 rw [e,a1m _ (fun n hn=>by
  obtain ⟨k,hk,rfl⟩:=zam.1 hn;have:=h k hk
  omega)]
 simp only [Option.getD_some,zbg]
 conv=>rhs; rw [← List.map_id l]
 apply zbi;intro n hn;have:=h n hn;simp only [Function.comp,id];omega
def zf (f:Fea):Fea:=⟨f.w,f.ring,0,0,0,0⟩
theorem azd {f:Fea} (hf:f.ok) (n:Int) (hn:in64 n):bq (ja f.w n f.ring)=(if 3≤f.ring.length then zf f else ⟨f.w,[],0,0,0,0⟩,decide (3≤f.ring.length)):=by
 obtain ⟨hw,hl,hi,_⟩:=hf;have hC:=avn f.ring hl hi;have hn':-9223372036854775808≤n∧n≤9223372036854775807:=hn;have hT:=awl (k:=max n 0) (by omega);have h2:=al9 (mf (max n 0));have h4:=al9 (s7 f.ring);have h5:=amq f.ring;have h6:(mf (max n 0)).length=8:=rfl
 have hr:am (ja f.w n f.ring)=some [(1,0,f.w.toNat,[]),(2,2,0,(mf (max n 0)).flatMap fun n=>m6 n.toNat),(3,0,3,[]),(4,2,0,(s7 f.ring).flatMap fun n=>m6 n.toNat)]:=by
  have e:ja f.w n f.ring=[(u6 ((1:Nat):Int) f.w,((1,0,f.w.toNat,[]):Fld)),(o8 ((2:Nat):Int) ((mf (max n 0)).flatMap fun n=>m6 n.toNat),(2,2,0,(mf (max n 0)).flatMap fun n=>m6 n.toNat)),(u6 ((3:Nat):Int) 3,(3,0,3,[])),(o8 ((4:Nat):Int) ((s7 f.ring).flatMap fun n=>m6 n.toNat),(4,2,0,(s7 f.ring).flatMap fun n=>m6 n.toNat))].flatMap (·.1):=by
   simp [ja,yx]
  rw [e,yu]
  ·rfl
  ·intro c hc rest;simp only [zbc,zbt,or_false] at hc;rcases hc with rfl | rfl | rfl | rfl
   ·exact acl 1 f.w rest (by omega) hw.1 hw.2
   ·exact lf 2 _ rest (by omega) (by omega)
   ·exact acl 3 3 rest (by omega) (by omega) (by omega)
   ·exact lf 4 _ rest (by omega) (by omega)
 unfold bq;rw [hr];simp only;rw [a2h _ hC];have hwn:((f.w.toNat:Nat):Int)=f.w:=by omega
 rw [hwn];by_cases h3:3≤f.ring.length
 ·rw [if_pos h3,asn h3,a17 h3 hi,decide_eq_true h3]
  rfl
 ·rw [if_neg h3,aoq (by omega),decide_eq_false h3]
  rfl
theorem a40 {z:Int} (h:0≤z∧z<18446744073709551616):am (u6 6 z)=some [(6,0,z.toNat,[])]:=by
 have e:u6 6 z=[(u6 ((6:Nat):Int) z,((6,0,z.toNat,[]):Fld))].flatMap (·.1):=by simp
 rw [e,yu]
 ·rfl
 ·intro c hc rest;rw [zaw.1 hc];exact acl 6 z rest (by omega) h.1 h.2
theorem a72 {n:Int} (h:in64 n):la (u6 6 (zig n))=n∧bgj (u6 6 (zig n))=some (zig n).toNat:=by
 have hz:=ahz n h;unfold la bgj;rw [a40 hz];simp only;have:(((zig n).toNat:Nat):Int)=zig n:=by omega
 exact ⟨by rw [this,ah2],rfl⟩

def ftc (l:List Fea) (j:Nat):List UInt8×Fld:=(fx l j,(2,2,0,ja (l.getD j default).w (4*(j:Int)) (l.getD j default).ring))
def kyc (j:Nat):List UInt8×Fld:=(o8 3 (vl j),(3,2,0,vl j))
def wh (l:List Fea) (m:Nat):Int:=(l.getD (m/4) default).nums.getD (m%4) 0
def vlc (l:List Fea) (m:Nat):List UInt8×Fld:=(o8 4 (u6 6 (zig (wh l m))),(4,2,0,u6 6 (zig (wh l m))))
def hdc:List (List UInt8×Fld):=[(u6 15 2,(15,0,2,[])),(o8 1 [99,101,108,108,115],(1,2,0,[99,101,108,108,115]))]
def tlc:List (List UInt8×Fld):=[(u6 5 4096,(5,0,4096,[]))]
def fts (l:List Fea):List (List UInt8×Fld):=(zai l.length).map (ftc l)
def vls (l:List Fea) (n:Nat):List (List UInt8×Fld):=(zai n).map (vlc l)
def chs (l:List Fea):List (List UInt8×Fld):=hdc++(fts l++((zai 4).map kyc++(vls l (4*l.length)++tlc)))
theorem aui (l:List Fea):∀n,(vls l (4*n)).flatMap (·.1)=sp l n
 | 0=>rfl
 | n+1=>by
  have e:vls l (4*(n+1))=vls l (4*n)++[vlc l (4*n),vlc l (4*n+1),vlc l (4*n+2),vlc l (4*n+3)]:=by
   unfold vls;rw [show 4*(n+1)=4*n+1+1+1+1 by omega];simp only [zax,zba,zap,zbh,zak,zae,zao]
  have h:∀k,k<4→(vlc l (4*n+k)).1=vx (l.getD n default) k:=fun k hk=>by
   unfold vlc wh vx;rw [show (4*n+k)/4=n by omega,show (4*n+k)%4=k by omega]
  rw [e,List.flatMap_append,aui l n,ai9];have h0:=h 0 (by omega);have h1:=h 1 (by omega);have h2:=h 2 (by omega);have h3:=h 3 (by omega);simp only [Nat.add_zero] at h0;simp [ym,zax,h0,h1,h2,h3]
theorem avo (l:List Fea):(chs l).flatMap (·.1)=zr++iw l l.length++ug 4++sp l l.length++u6 5 4096:=by
 simp only [chs,List.flatMap_append,aui];have h1:hdc.flatMap (·.1)=zr:=by simp [hdc,zr]
 have h2:(fts l).flatMap (·.1)=iw l l.length:=by rw [fts,List.flatMap_map]; rfl
 have h3:((zai 4).map kyc).flatMap (·.1)=ug 4:=by rw [List.flatMap_map]; rfl
 have h4:tlc.flatMap (·.1)=u6 5 4096:=by simp [tlc]
 rw [h1,h2,h3,h4];simp only [zak]
theorem ay6 {l:List Fea} (hl:l.length≤100000) (h:∀f∈l,f.ok):am (ah l)=some [(3,2,0,(chs l).flatMap (·.1))]∧am ((chs l).flatMap (·.1))=some ((chs l).map (·.2)):=by
 have hll:=ar4 h
 have hg:∀m,in64 (wh l m):=fun m=>by
  unfold wh
  have hd:(l.getD (m/4) default).ok:=by
   by_cases hm:m/4<l.length
   ·exact ajx h hm
   ·rw [zac,zat (by omega)];exact ⟨by decide,by decide,fun p hp=>by simp [show (default:Fea).ring=[] from rfl] at hp,by decide,by decide,by decide,by decide⟩
  obtain ⟨_,_,_,q1,q2,q3,q4⟩:=hd;rcases (show m%4=0∨m%4=1∨m%4=2∨m%4=3 by omega) with e | e | e | e<;>rw [e]
  ·exact q1
  ·exact q2
  ·exact q3
  ·exact q4
 constructor
 ·have e:ah l=[(o8 ((3:Nat):Int) ((chs l).flatMap (·.1)),((3,2,0,(chs l).flatMap (·.1)):Fld))].flatMap (·.1):=by
   rw [avo];simp [ah]
  have hb:((chs l).flatMap (·.1)).length<18446744073709551616:=by
   have h1:=aeg h l.length;have h2:=acb l l.length;have h3:=acn 4;have h4:=agu;have h5:=iv 5 4096;rw [avo];simp only [zab];omega
  rw [e,yu]
  ·rfl
  ·intro c hc rest;rw [zaw.1 hc];exact lf 3 _ rest (by omega) hb
 ·refine yu _ fun c hc rest=>?_;simp only [chs,zbb] at hc;rcases hc with hc | hc | hc | hc | hc
  ·simp only [hdc,zbc,zbt,or_false] at hc;rcases hc with rfl | rfl
   ·exact acl 15 2 rest (by omega) (by omega) (by omega)
   ·exact lf 1 _ rest (by omega) (by decide)
  ·obtain ⟨j,hj,rfl⟩:=zam.1 hc;have hj:=zbf.1 hj;have hf:=agw (l.getD j default).w (4*(j:Int)) (l.getD j default).ring;have:=(ajx h hj).2.1;exact lf 2 _ rest (by omega) (by omega)
  ·obtain ⟨j,hj,rfl⟩:=zam.1 hc;have:=apv j;exact lf 3 _ rest (by omega) (by omega)
  ·obtain ⟨m,hm,rfl⟩:=zam.1 hc;have:=iv 6 (zig (wh l m));exact lf 4 _ rest (by omega) (by omega)
  ·rw [zaw.1 (show c∈[_] from hc)];exact acl 5 4096 rest (by omega) (by omega) (by omega)
theorem aq1:∀(X:List Fld) (R:List Fld) (o:List Fea) (v:List Int),(∀x∈X,x.1=2)→(v7 (X++R) o v=if (X.all fun x=>(bq x.2.2.2).2)=true then v7 R (o++X.map fun x=>(bq x.2.2.2).1) v else none)
 | [],R,o,v,_=>by simp
 | x::X,R,o,v,h=>by
  rw [zae,v7,if_pos (h x (by simp)),List.all_cons];by_cases hx:(bq x.2.2.2).2=true
  ·rw [if_pos hx,aq1 X R _ v fun y hy=>h y (by simp [hy]),hx,Bool.true_and,zap,zak]
   rfl
  ·rw [if_neg hx];have:(bq x.2.2.2).2=false:=by simpa using hx
   rw [this]
   rfl
theorem agh:∀(X R:List Fld) (o:List Fea) (v:List Int),(∀x∈X,x.1≠2∧x.1≠4)→v7 (X++R) o v=v7 R o v
 | [],R,o,v,_=>rfl
 | x::X,R,o,v,h=>by
  have:=h x (by simp);rw [zae,v7,if_neg this.1,if_neg this.2];exact agh X R o v fun y hy=>h y (by simp [hy])
theorem auq:∀(X R:List Fld) (o:List Fea) (v:List Int),(∀x∈X,x.1=4)→v7 (X++R) o v=v7 R o (v++X.map fun x=>la x.2.2.2)
 | [],R,o,v,_=>by simp
 | x::X,R,o,v,h=>by
  have h4:=h x (by simp);rw [zae,v7,if_neg (by omega),if_pos h4,auq X R o _ fun y hy=>h y (by simp [hy]),zap,zak]
  rfl

theorem a9f {l:List Fea} (h:∀f∈l,f.ok) {m:Nat} (hm:m<4*l.length):in64 (wh l m):=by
 obtain ⟨_,_,_,q1,q2,q3,q4⟩:=ajx h (show m/4<l.length by omega);unfold wh;rcases (show m%4=0∨m%4=1∨m%4=2∨m%4=3 by omega) with e | e | e | e<;>rw [e]
 ·exact q1
 ·exact q2
 ·exact q3
 ·exact q4
def aqi (l:List Fea):Bool:=l.all fun f=>decide (3≤f.ring.length)
theorem bhm {l:List Fea} (h:∀f∈l,f.ok) (hl:l.length≤100000):((fts l).map (·.2)).all (fun x=>(bq x.2.2.2).2)=aqi l∧(aqi l=true→((fts l).map (·.2)).map (fun x=>(bq x.2.2.2).1)=l.map zf):=by
 have hj:∀j,j<l.length→bq (ftc l j).2.2.2.2=(if 3≤(l.getD j default).ring.length then zf (l.getD j default) else ⟨(l.getD j default).w,[],0,0,0,0⟩,decide (3≤(l.getD j default).ring.length)):=fun j hj=>azd (ajx h hj) _ (by unfold in64; omega)
 have hlr:l=(zai l.length).map fun j=>l.getD j default:=by
  apply zbv;intro i;by_cases hi:i<l.length
  ·simp [hi]
  ·rw [zat (by omega),zat (by simp; omega)]
 constructor
 ·unfold aqi
  conv=>rhs; rw [hlr]
  unfold fts;rw [zbg,List.all_map,List.all_map,Bool.eq_iff_iff,zch,zch];refine forall_congr' fun j=>forall_congr' fun hjm=>?_;simp only [Function.comp];rw [hj j (zbf.1 hjm)]
 ·intro hA
  have hA2:∀j,j<l.length→3≤(l.getD j default).ring.length:=fun j hj2=>by
   have:=zch.1 hA (l.getD j default) (by rw [zac,zas hj2]; exact zca hj2);simpa using this
  conv=>rhs; rw [hlr]
  unfold fts;rw [zbg,zbg,zbg];apply zbi;intro j hjm;have hjl:=zbf.1 hjm;simp only [Function.comp];rw [hj j hjl,if_pos (hA2 j hjl)]
theorem a6m {l:List Fea}:ab7 (l.map zf) ((zai (4*l.length)).map (wh l))=l:=by
 apply zbv;intro i;by_cases hi:i<l.length
 ·have hd:l.getD i default=l[i]:=by rw [zac,zas hi]; rfl
  have hv:∀k,k<4→((zai (4*l.length)).map (wh l)).getD (4*i+k) 0=(l[i]).nums.getD k 0:=fun k hk=>by
   have hlt:4*i+k<4*l.length:=by omega
   rw [zac,zar,zbw hlt];simp only [zcd,Option.getD_some,wh];rw [show (4*i+k)/4=i by omega,show (4*i+k)%4=k by omega,hd]
  have h0:=hv 0 (by omega);have h1:=hv 1 (by omega);have h2:=hv 2 (by omega);have h3:=hv 3 (by omega);simp only [Nat.add_zero] at h0;have hz:(l.map zf).getD i default=zf l[i]:=by rw [zac,zar,zas hi]; rfl
  rw [ab7,zar,zah,zbw hi,zcd,hz,zas hi];unfold ase;rw [h0,h1,h2,h3]
  rfl
 ·rw [zat (by simp [ab7]; omega),zat (by omega)]
theorem a1t {l:List Fea} (hl:l.length≤100000) (h:∀f∈l,f.ok):dp (ah l)=if aqi l=true∧l≠[] then (l,true) else ([],false):=by
 obtain ⟨r1,r2⟩:=ay6 hl h;obtain ⟨f1,f2⟩:=bhm h hl
 have hs:dp (ah l)=zx (v7 ((chs l).map (·.2)) [] []):=by
  unfold dp;rw [r1];simp only;rw [r2]
 rw [hs];simp only [chs,zba];rw [agh (hdc.map (·.2)) _ _ _ (by simp [hdc])];rw [aq1 _ _ _ _ (by simp [fts,ftc]),f1];by_cases hA:aqi l=true
 ·rw [if_pos hA,f2 hA,zao];rw [agh (((zai 4).map kyc).map (·.2)) _ _ _ (by simp [kyc])];rw [auq _ _ _ _ (by simp [vls,vlc]),zao];have e3:=agh (tlc.map (·.2)) [] (l.map zf) (((vls l (4*l.length)).map (·.2)).map fun x=>la x.2.2.2) (by simp [tlc]);rw [List.append_nil] at e3;rw [e3,v7]
  have hvals:((vls l (4*l.length)).map (·.2)).map (fun x=>la x.2.2.2)=(zai (4*l.length)).map (wh l):=by
   unfold vls;rw [zbg,zbg];apply zbi;intro m hm;exact (a72 (a9f h (zbf.1 hm))).1
  rw [hvals,zx];by_cases h0:l=[]
  ·subst h0
   rfl
  ·rw [if_neg (by simp [h0]),if_pos ⟨hA,h0⟩,a6m]
 ·rw [if_neg hA,if_neg (fun q=>hA q.1)]
  rfl

theorem azq (x g:Int):∀(C:List Int),C.Nodup→(C.map fun n=>if x=n then g else 0).sum=if x∈C then g else 0
 | [],_=>by simp
 | a::C,h=>by
  rw [List.nodup_cons] at h;rw [zap,zbk,azq x g C h.2];by_cases hx:x=a
  ·subst hx;simp [h.1]
  ·simp [hx]
theorem alc (key g:Pt→Int) (C:List Int) (hnd:C.Nodup):∀(l:List Pt),(∀p∈l,key p∈C)→(C.map fun n=>((l.filter fun p=>key p == n).map g).sum).sum=(l.map g).sum
 | [],_=>by
  have:∀C:List Int,(C.map fun _=>(0:Int)).sum=0:=fun C=>by induction C with
   | nil=>rfl
   | cons a C ih=>simp [ih]
  simpa using this C
 | p::l,h=>by
  have ih:=alc key g C hnd l fun q hq=>h q (by simp [hq])
  have e:∀D:List Int,(D.map fun n=>(((p::l).filter fun p=>key p == n).map g).sum).sum=(D.map fun n=>if key p=n then g p else 0).sum+(D.map fun n=>((l.filter fun p=>key p == n).map g).sum).sum:=fun D=>by
   induction D with
   | nil=>rfl
   | cons n D ihD=>
    simp only [zap,zbk,ihD];rw [List.filter_cons];by_cases hx:key p=n
    ·simp [hx]; omega
    ·simp [hx]; omega
  rw [e,ih,azq _ _ _ hnd,if_pos (h p (by simp)),zap,zbk]
theorem a7k {ws:List Nat} (h:ws.Nodup):(asI ws).Nodup:=List.pairwise_map.2 (h.imp fun {a b} hab e=>hab (by omega))
theorem afm (L:List Pt) (r:Nat):(l7 L r).Nodup:=(List.mergeSort_perm _ _).nodup_iff.2 (a7k (aj0 _))
theorem ou {L:List Pt} {r:Nat} {n:Int}:n∈l7 L r↔∃p∈L,((p.w r:Nat):Int)=n:=by
 unfold l7 ww asI;rw [List.mem_mergeSort,zam];constructor
 ·rintro ⟨w,hw,rfl⟩;obtain ⟨p,hp,e⟩:=ady.1 hw;exact ⟨p,hp,by rw [e]⟩
 ·rintro ⟨p,hp,rfl⟩;exact ⟨p.w r,ady.2 ⟨p,hp,rfl⟩,rfl⟩
theorem a67 (L:List Pt) (r:Nat) {i:Nat} {a b:Int} (h1:(l7 L r)[i]?=some a) (h2:(l7 L r)[i+1]?=some b):a<b:=by
 have tr:∀x y z:Int,decide (x≤y)=true→decide (y≤z)=true→decide (x≤z)=true:=by simp; omega
 have tot:∀x y:Int,(decide (x≤y)||decide (y≤x))=true:=by simp; omega
 have s1:(l7 L r).Pairwise fun x y=>decide (x≤y)=true:=List.pairwise_mergeSort tr tot _;have hnd:=afm L r;obtain ⟨l1,rfl⟩:=List.getElem?_eq_some_iff.1 h1;obtain ⟨l2,rfl⟩:=List.getElem?_eq_some_iff.1 h2;have a1:=(zcm.1 s1) i (i+1) l1 l2 (by omega);have a2:=(zcm.1 hnd) i (i+1) l1 l2 (by omega);simp at a1;omega
theorem a0n {L:List Pt} (hok:∀p∈L,p.ok) {r:Nat} (hr:r<13) {w:Nat} (hw:∃p∈L,p.w r=w):mem L w=L.filter fun p=>((p.w r:Nat):Int) == (w:Int):=by
 obtain ⟨q,hq,e⟩:=hw;have hres:=(Pt.w_res (hok q hq) hr).2.1;rw [e] at hres;unfold mem;apply List.filter_congr;intro p hp;rw [a9r (hok p hp) hr hres];rw [Bool.eq_iff_iff];simp;omega
def rq (L:List Pt) (n:Int):Int:=(mem L n.toNat).length
def ac7 (L:List Pt) (n:Int):Int:=cg (mem L n.toNat)
theorem a62 {L:List Pt} (hok:∀p∈L,p.ok) {r:Nat} (hr:r<13):((l7 L r).map (rq L)).sum=L.length:=by
 have h:=alc (fun p=>((p.w r:Nat):Int)) (fun _=>1) (l7 L r) (afm L r) L fun p hp=>ou.2 ⟨p,hp,rfl⟩
 have e1:∀M:List Pt,(M.map fun _=>(1:Int)).sum=M.length:=fun M=>by induction M with
  | nil=>rfl
  | cons a M ih=>simp [ih]; omega
 rw [e1] at h;rw [← h];congr 1;apply zbi;intro n hn;obtain ⟨p,hp,rfl⟩:=ou.1 hn;unfold rq;rw [zaq,a0n hok hr ⟨p,hp,rfl⟩,e1]
theorem a4d {L:List Pt} (hok:∀p∈L,p.ok) {r:Nat} (hr:r<13):((l7 L r).map (ac7 L)).sum=cg L:=by
 have h:=alc (fun p=>((p.w r:Nat):Int)) (·.v) (l7 L r) (afm L r) L fun p hp=>ou.2 ⟨p,hp,rfl⟩;unfold cg;rw [← h];congr 1;apply zbi;intro n hn;obtain ⟨p,hp,rfl⟩:=ou.1 hn;unfold ac7 cg;rw [zaq,a0n hok hr ⟨p,hp,rfl⟩]
theorem bae (L:List Pt) (C:List Int) (i:Nat):0≤((C.take i).map (rq L)).sum∧((C.take i).map (rq L)).sum≤(C.map (rq L)).sum:=by
 have nn:∀D:List Int,0≤(D.map (rq L)).sum:=fun D=>by induction D with
  | nil=>simp
  | cons a D ih=>simp only [zap,zbk,rq] at ih ⊢; omega
 refine ⟨nn _,?_⟩
 conv=>rhs; rw [← List.take_append_drop i C,zba,List.sum_append]
 have:=nn (C.drop i);omega
theorem awm {L:List Pt} (hok:∀p∈L,p.ok):∀(D:List Int),-2147483648*(D.map (rq L)).sum≤(D.map (ac7 L)).sum∧(D.map (ac7 L)).sum≤2147483648*(D.map (rq L)).sum
 | []=>by simp
 | a::D=>by
  have ih:=awm hok D;have hb:=aum (mem L a.toNat) fun p hp=>hok p (zbj.1 hp).1;simp only [zap,zbk,ac7,rq] at ih ⊢;omega
theorem awj {f:Int→Int} {C:List Int} {i:Nat} {n:Int} (h:C[i]?=some n):((C.take (i+1)).map f).sum=((C.take i).map f).sum+f n:=by
 rw [zbn,h];simp

theorem aze {L:List Pt} {t:Til} (hti:tis t=true) (hf:fine t=false):aqi (x9 L t)=true:=by
 unfold aqi;refine zch.2 fun f hf'=>?_;obtain ⟨n,hn,rfl⟩:=zam.1 hf';exact decide_eq_true (ay3 hti hf (zbj.1 hn).2)
theorem agy (L:List Pt) (t:Til):(x9 L t).length=(v6 L t).length:=by unfold x9; rw [zah]
theorem agx {L:List Pt} {t:Til}:x9 L t=[]↔v6 L t=[]:=by unfold x9; exact List.map_eq_nil_iff
theorem amd {l:List Fea} (h:∀f∈l,f.ring.length≤20):∀i,(iw l i).length≤1000*i
 | 0=>by simp [iw]
 | j+1=>by
  have:=amd h j;have h1:=ko 2 (ja (l.getD j default).w (4*(j:Int)) (l.getD j default).ring);have h2:=agw (l.getD j default).w (4*(j:Int)) (l.getD j default).ring
  have h3:(l.getD j default).ring.length≤20:=by
   rw [zac];cases e:l[j]? with
   | none=>exact Nat.zero_le _
   | some f=>exact h f (zaz e)
  rw [ahf,zab];unfold fx;omega
theorem avj {L:List Pt} (hL:L.length≤40) {t:Til} (hti:tis t=true):(ui L t).length≤60000:=by
 have hr:0≤t.z∧t.z≤18∧0≤t.r∧t.r≤12∧0≤t.x∧t.x<2^t.z.toNat∧0≤t.y∧t.y<2^t.z.toNat:=by simpa [tis] using hti
 unfold ui
 have hl:(x9 L t).length≤40:=by
  have:=agf L t;rw [agy];omega
 have hk:∀f∈x9 L t,f.ring.length≤20:=fun f hf=>by
  obtain ⟨n,hn,rfl⟩:=zam.1 hf;exact aup t hr.2.2.2.1 _
 generalize x9 L t=l at *;split
 ·simp
 ·have h1:=amd hk l.length;have h2:=acb l l.length;have h3:=acn 4;have h4:=agu;have h5:=iv 5 4096;have h6:=ko 3 (zr++iw l l.length++ug 4++sp l l.length++u6 5 4096);unfold ah;simp only [zab] at h6;omega
theorem aq6 {L:List Pt} (hL:L.length<50) (hok:∀p∈L,p.ok) {t:Til} (hti:tis t=true) (hf:fine t=false):rdT (ui L t)=some (x9 L t):=by
 unfold ui;by_cases hS:v6 L t=[]
 ·rw [if_pos hS,agx.2 hS];exact if_pos rfl
 ·rw [if_neg hS];have hne:x9 L t≠[]:=fun h=>hS (agx.1 h);have hl:(x9 L t).length≤100000:=by have:=agf L t; rw [agy]; omega
  have h1:=a1t hl (aml hL hok hti);rw [if_pos ⟨aze hti hf,hne⟩] at h1
  have h0:ah (x9 L t)≠[]:=fun h=>by
   rw [h] at h1
   have:dp []=([],false):=aja fun m hm=>by
    have:m=[]:=by
     have h2:am []=some []:=rfl;rw [h2] at hm
     injection hm with hm
     exact hm.symm
    rw [this]; decide
   rw [this] at h1;exact hne (congrArg Prod.fst h1).symm
  unfold rdT;rw [if_neg h0,h1,if_pos ⟨rfl,rfl⟩]
theorem a5l {p:Pt} (hp:p.ok) {t:Til} (hti:tis t=true) (hx:t.x*2^(30-t.z).toNat≤p.x∧p.x<(t.x+1)*2^(30-t.z).toNat) (hy:t.y*2^(30-t.z).toNat≤p.y∧p.y<(t.y+1)*2^(30-t.z).toNat):tw t ((p.w t.r.toNat:Nat):Int)=true:=by
 have hr:0≤t.z∧t.z≤18∧0≤t.r∧t.r≤12∧0≤t.x∧t.x<2^t.z.toNat∧0≤t.y∧t.y<2^t.z.toNat:=by simpa [tis] using hti
 have hk:=ri p.x p.y t.r.toNat hp.2.1.1 hp.2.1.2 (by omega);obtain ⟨c1,c2,c3,c4⟩:=xp t.r.toNat _ hk;have hz:z8 (p.w t.r.toNat) t.r.toNat=g9 p.x p.y t.r.toNat:=by rw [show p.w t.r.toNat=x8 t.r.toNat (g9 p.x p.y t.r.toNat) from rfl,c3]
 unfold tw;rw [zaq,hz];unfold tch;exact a5m (axs p.x p.y t.r.toNat (by omega)) ⟨by omega,by omega⟩ ⟨by omega,by omega⟩
theorem a87 {p:Pt} (hp:p.ok) (z r:Int):tw (u3 p.x p.y z r) ((p.w (u3 p.x p.y z r).r.toNat:Nat):Int)=true:=by
 have hti:=awi p.x p.y z r;have hr:0≤(u3 p.x p.y z r).z∧(u3 p.x p.y z r).z≤18∧0≤(u3 p.x p.y z r).r∧(u3 p.x p.y z r).r≤12∧0≤(u3 p.x p.y z r).x∧(u3 p.x p.y z r).x<2^(u3 p.x p.y z r).z.toNat∧0≤(u3 p.x p.y z r).y∧(u3 p.x p.y z r).y<2^(u3 p.x p.y z r).z.toNat:=by simpa [tis] using hti
 have hx:(u3 p.x p.y z r).x=(p.x%1073741824)/2^(30-(u3 p.x p.y z r).z).toNat:=rfl;have hy:(u3 p.x p.y z r).y=(p.y%1073741824)/2^(30-(u3 p.x p.y z r).z).toNat:=rfl;have hw:=hp.2.1;unfold inW at hw;have m1:p.x%1073741824=p.x:=Int.emod_eq_of_lt (by omega) (by omega);have m2:p.y%1073741824=p.y:=Int.emod_eq_of_lt (by omega) (by omega);rw [m1] at hx;rw [m2] at hy;refine a5l hp hti ?_ ?_<;>generalize u3 p.x p.y z r=t at *
 ·have hs:=xy (show 0≤t.z∧t.z≤18 by omega);generalize (2:Int)^(30-t.z).toNat=s at *;have q1:=zbr p.x s;have q2:=zbp p.x (show s≠0 by omega);have q3:=zbq p.x (show 0<s by omega);rw [← hx,zbz] at q1;rw [zbl,zbm];omega
 ·have hs:=xy (show 0≤t.z∧t.z≤18 by omega);generalize (2:Int)^(30-t.z).toNat=s at *;have q1:=zbr p.y s;have q2:=zbp p.y (show s≠0 by omega);have q3:=zbq p.y (show 0<s by omega);rw [← hy,zbz] at q1;rw [zbl,zbm];omega
theorem au4 {L:List Pt} {p:Pt} (h:p∈L) (hp:p.ok) (z r:Int):((p.w (u3 p.x p.y z r).r.toNat:Nat):Int)∈v6 L (u3 p.x p.y z r):=
 zbj.2 ⟨ou.2 ⟨p,h,rfl⟩,a87 hp z r⟩
def t00:Til:=⟨0,0,0,0⟩
theorem ag5 {L:List Pt} (hok:∀p∈L,p.ok):v6 L t00=l7 L 0:=by
 refine List.filter_eq_self.2 fun n hn=>?_;change n∈l7 L 0 at hn;obtain ⟨p,hp,rfl⟩:=ou.1 hn;have hw:=(hok p hp).2.1;unfold inW at hw;have hS:(2:Int)^(30-t00.z).toNat=1073741824:=rfl;have hx0:t00.x=0:=rfl;have hy0:t00.y=0:=rfl;exact a5l (hok p hp) (t:=t00) (by decide) (by rw [hS,hx0]; omega) (by rw [hS,hy0]; omega)
theorem a7m {L:List Pt} (hok:∀p∈L,p.ok):x9 L t00=(l7 L 0).map fun n=>(⟨n,aa t00 (z8 n.toNat 0),rq L n,ac7 L n,loV (mem L n.toNat),hiV (mem L n.toNat)⟩:Fea):=by
 unfold x9;rw [ag5 hok]
 rfl

def jh:Mk P0 f7:={ x:=_ }
theorem ac4:d5 7 3 jh:=c8 func7
abbrev ae4 (L:List Pt):Ob:=.row 4 (.agg [.v (.int .i64 0),.v (.int .i64 0),.v (.int .i64 0),.v (.int .i64 0)]) true true (L.map Pt.rv)
theorem a9w {L:List Pt} (h:GP L):(L.map (·.k)).Nodup:=by
 rw [List.nodup_iff_pairwise_ne,List.pairwise_map];refine zcm.2 fun i j hi hj hij=>?_;have h1:=(h i _ (zas hi)).1;have h2:=(h j _ (zas hj)).1;omega
theorem at2 {F:List Fea} {i:Nat} {f:Fea} (h:F[i]?=some f) (z:RV):(F.map Fea.rv).getD i z=.agg [.v (.int .u64 f.w),.sl 2 (f.ring.map ptR),.v (.int .i64 f.c),.v (.int .i64 f.s),.v (.int .i64 f.lo),.v (.int .i64 f.hi)]:=by
 rw [zac,zar,h]; rfl
theorem a4e {L:List Pt} {i:Nat} {p:Pt} (h:L[i]?=some p):cg (L.take (i+1))=cg (L.take i)+p.v:=by
 unfold cg;rw [zbn,h];simp
def apl (F:List Fea) (w:Int):Bool:=F.any fun f=>f.w == w
theorem a5p {F:List Fea} {k:Nat} {f:Fea} (h:F[k]?=some f) (w:Int):apl (F.take (k+1)) w=(apl (F.take k) w||f.w == w):=by
 unfold apl;rw [zbn,h];simp
theorem a88 {L:List Pt} {p:Pt} (h:p∈L) (hp:p.ok) (z r:Int):apl (x9 L (u3 p.x p.y z r)) (p.w (u3 p.x p.y z r).r.toNat:Nat)=true:=by
 refine List.any_eq_true.2 ⟨_,zam.2 ⟨_,au4 h hp z r,rfl⟩,?_⟩;exact beq_iff_eq.2 rfl
set_option maxHeartbeats 8000000 in
theorem tsums_t (xs:List Int) (hx:∀x∈xs,-9223372036854775808≤x∧x≤9223372036854775807) (z r:Int) (hz:in64 z) (hr:in64 r) :
  a8 P0 7 [.r (abn xs),int .i64 z,int .i64 r] [] (bl true) []:=by
 refine ac4 rfl (by decide) ?_;have hmx:=k7;by_cases h60:xs.length>60
 ·have e1:decide ((xs.length:Int)>60)=true:=by simp; omega
  simp only [jh,abn,e1,push_cast,↓reduceIte,reduceCtorEq,zB,zE,zA,zS,zL,zD,zM];refine a7 ag3 rfl trivial ?_;simp only [push_cast,↓reduceIte,reduceCtorEq,zB,zE,zA,zS,zL,zD,zM]
 have e1:decide ((xs.length:Int)>60)=false:=by simp; omega
 have hgp:GP (jg xs []):=a0z xs [] (by simp [GP]);have hle:=a0y xs [] (by decide);have hPt:=a82 xs hx;simp only [jh,abn,e1,push_cast,↓reduceIte,reduceCtorEq,zB,zE,zA,zS,zL,zD,zM];refine b7 (as':=[.r (abn xs)]) rfl ?_;refine a7 hPt rfl trivial ?_;generalize hG:jg xs []=L at *;have hlen0:L.length≤40:=hle
 have hok:∀p∈L,p.ok:=fun p hp=>by
  obtain ⟨j,hj⟩:=List.getElem?_of_mem hp;exact (hgp j p hj).2
 have hO:=bbj L (by omega) hok (a9w hgp);simp only [Pt.rv,abn,push_cast,↓reduceIte,reduceCtorEq,zB,zE,zA,zS,zL,zD,zM];refine ox ?_;simp only [push_cast,↓reduceIte,reduceCtorEq,zB,zE,zA,zS,zL,zD,zM];refine rz hO rfl trivial (by simp [bn]) (by simp [mc]) ?_;simp only [push_cast,↓reduceIte,reduceCtorEq,zB,zE,zA,zS,zL,zD,zM];refine b7 (as':=[t00.v,.ptr 1000000 0 0]) rfl ?_;have htk:t00.ok:=by unfold Til.ok in64; decide
 have hti0:tis t00=true:=by decide
 have hfi0:fine t00=false:=by decide +kernel
 have hrd:=aq6 (by omega) hok hti0 hfi0;have hbl:=avj hlen0 hti0;have hrt:=am0 (ui L t00) (by omega);rw [hrd] at hrt;have hF:=a7m hok;have hFok:=aml (by omega) hok hti0;have hCl:=uo L 0;have hct:=a62 hok (show 0<13 by decide);have hst:=a4d hok (show 0<13 by decide);have hasc:=fun (i:Nat) (a b:Int)=>a67 L 0 (i:=i) (a:=a) (b:=b);have f00:((0:Int) != 0)=false:=rfl;by_cases h0:L=[]
 ·have hS0:v6 L t00=[]:=by rw [ag5 hok,h0]; exact zcf (by have:=uo [] 0; simpa using this)
  have hD:=draw_t L (by omega) hok t00 htk hti0 hfi0 (.inl ⟨hS0,rfl,rfl⟩);refine a7 hD rfl ⟨rfl,trivial⟩ ?_;have hrt0:=am0 [] (by simp);rw [show rdT []=some [] from if_pos rfl] at hrt0;simp only [push_cast,↓reduceIte,reduceCtorEq,zB,zE,zA,zS,zL,zD,zM];refine b7 (as':=[sb []]) rfl ?_;refine a7 hrt0 rfl trivial ?_;subst h0;have d00:decide ((0:Int)<0)=false:=rfl;simp only [rdR,rdO,o5,f00,push_cast,↓reduceIte,reduceCtorEq,zB,zE,zA,zS,zL,zD,zM]
  refine run_loop [(16,false),(11,false),(13,false),(14,false),(15,false),(7,false),(8,false),(1,false),(2,false)] (fun vs pos los=>vs=[int .i64 0,.nils 6 o5,int .i64 0,int .i64 0,int .i64 0,.own 2000000 0 0 0,.ptr 2000001 0 0,int .i64 z,int .i64 r]∧pos=[]∧los=[ae4 [],.abs (sT [])]) (fun _ _ _=>0) rfl ?_ ?_
  ·simp only [o5,push_cast,↓reduceIte,reduceCtorEq,zB,zE,zA,zS,zL,zD,zM]
   try rfl
  ·rintro vs pos los ⟨rfl,rfl,rfl⟩;simp only [o5,d00,push_cast,↓reduceIte,reduceCtorEq,zB,zE,zA,zS,zL,zD,zM];refine run_loop [(17,false),(7,false),(13,false),(14,false),(15,false),(8,false),(1,false),(2,false)] (fun vs pos los=>vs=[int .i64 0,.own 2000000 0 0 0,int .i64 0,int .i64 0,int .i64 0,.ptr 2000001 0 0,int .i64 z,int .i64 r]∧pos=[]∧los=[ae4 [],.abs (sT [])]) (fun _ _ _=>0) rfl ?_ ?_
   ·simp only [o5,push_cast,↓reduceIte,reduceCtorEq,zB,zE,zA,zS,zL,zD,zM]
    try rfl
   ·rintro vs pos los ⟨rfl,rfl,rfl⟩;simp only [o5,d00,f00,push_cast,↓reduceIte,reduceCtorEq,zB,zE,zA,zS,zL,zD,zM];refine run_loop [(18,false),(7,false),(8,false),(1,false),(2,false)] (fun vs pos los=>vs=[int .i64 0,.own 2000000 0 0 0,.ptr 2000001 0 0,int .i64 z,int .i64 r]∧pos=[]∧los=[ae4 [],.abs (sT [])]) (fun _ _ _=>0) rfl ?_ ?_
    ·simp only [o5,push_cast,↓reduceIte,reduceCtorEq,zB,zE,zA,zS,zL,zD,zM]
     try rfl
    ·rintro vs pos los ⟨rfl,rfl,rfl⟩;simp only [o5,d00,f00,push_cast,↓reduceIte,reduceCtorEq,zB,zE,zA,zS,zL,zD,zM];refine a7 ag3 rfl trivial ?_;simp only [push_cast,↓reduceIte,reduceCtorEq,zB,zE,zA,zS,zL,zD,zM]
 ·have hS0:v6 L t00≠[]:=by
   obtain ⟨p,hp⟩:=List.exists_mem_of_ne_nil L h0;rw [ag5 hok];exact List.ne_nil_of_mem (ou.2 ⟨p,hp,rfl⟩)
  have hFn:x9 L t00≠[]:=fun h=>hS0 (agx.1 h);have hD:=draw_t L (by omega) hok t00 htk hti0 hfi0 (.inr ⟨hS0,rfl,rfl⟩);refine a7 hD rfl ⟨rfl,trivial⟩ ?_;have hrr:=aji hFn;rw [hrr.1,hrr.2] at hrt;have hFl:=agy L t00;rw [ag5 hok] at hFl;generalize x9 L t00=F at *;generalize ui L t00=B at *;simp only [push_cast,↓reduceIte,reduceCtorEq,zB,zE,zA,zS,zL,zD,zM];refine l9 ?_;refine b7 (as':=[sb B]) rfl ?_;refine a7 hrt rfl trivial ?_;simp only [fk,f00,push_cast,↓reduceIte,reduceCtorEq,zB,zE,zA,zS,zL,zD,zM];have hCe:(l7 L 0).length=F.length:=hFl.symm
  have hFg:∀(i:Nat) (n:Int),(l7 L 0)[i]?=some n→∃f:Fea,F[i]?=some f∧f.w=n∧f.c=rq L n∧f.s=ac7 L n:=fun i n h=>by
   rw [hF,zar,h];exact ⟨_,rfl,rfl,rfl,rfl⟩
  have hcp:=bae L (l7 L 0);have hsp:=awm hok;rw [hct] at hcp;refine run_loop [(16,false),(11,false),(13,false),(14,false),(15,false),(7,false),(8,false),(1,false),(2,false)] (fun vs pos los=>∃i:Nat,i≤F.length∧vs=[int .i64 i,.own 2000000 0 0 F.length,int .i64 (((l7 L 0).take i).map (rq L)).sum,int .i64 (((l7 L 0).take i).map (ac7 L)).sum,int .i64 0,.own 2000001 0 0 L.length,.ptr 2000002 0 0,int .i64 z,int .i64 r]∧pos=[]∧los=[fk F,ae4 L,.abs (sT L)]) (fun vs _ _=>match vs with | .r (.v (.int _ j))::_=>(F.length-j).toNat | _=>0) rfl ?_ ?_
  ·simp only [fk,push_cast,↓reduceIte,reduceCtorEq,zB,zE,zA,zS,zL,zD,zM];exact ⟨0,by omega,by simp⟩
  ·rintro vs pos los ⟨i,hi,rfl,rfl,rfl⟩;obtain ⟨SN,hSN⟩:∃SN,(((l7 L 0).take i).map (rq L)).sum=SN:=⟨_,rfl⟩
   obtain ⟨SS,hSS⟩:∃SS,(((l7 L 0).take i).map (ac7 L)).sum=SS:=⟨_,rfl⟩
   obtain ⟨I,hI⟩:∃I:Int,(i:Int)=I:=⟨_,rfl⟩
   rw [hSN,hSS,hI];simp only [fk,push_cast,↓reduceIte,reduceCtorEq,zB,zE,zA,zS,zL,zD,zM];refine b9 (fun hd=>?_) (fun hd=>?_)
   ·have hd:=of_decide_eq_true hd;obtain ⟨n,hn⟩:∃n,(l7 L 0)[i]?=some n:=⟨(l7 L 0)[i]'(by omega),by simp [show i<(l7 L 0).length by omega]⟩
    obtain ⟨f,hf,fw,fc,fs⟩:=hFg i n hn;have hg:=at2 hf;rw [fw,fc,fs] at hg;have t1:=awj (f:=rq L) hn;have t2:=awj (f:=ac7 L) hn;have b1:=hcp (i+1);have b2:=hsp ((l7 L 0).take (i+1));rw [hSN] at t1;rw [hSS] at t2;rw [t1] at b1 b2;rw [t2] at b2;have w1:IntKind.i64.wrap (SN+rq L n)=SN+rq L n:=a5 (by omega);have w2:IntKind.i64.wrap (SS+ac7 L n)=SS+ac7 L n:=a5 (by omega);have wi:IntKind.i64.wrap (I+1)=I+1:=a5 (by omega);have hl0:0≤I:=by omega
    have hl1:I<F.length:=by omega
    have iT:I.toNat=i:=by omega
    by_cases hi0:i=0
    ·have I0:I=0:=by omega
     subst hi0;subst I0;have d1:decide ((0:Int)>0)=false:=rfl;have wm:(IntKind.i64.wrap ((0:Int)-1)).toNat=0:=by decide
     simp only [zad,Nat.add_zero,wm,hg,w1,w2,wi,d1,push_cast,↓reduceIte,reduceCtorEq,zB,zE,zA,zS,zL,zD,zM]
     repeat refine And.intro (by first | decide | omega | exact fun _=>by decide | (simp +contextual; done) | kernel_rfl) ?_
     refine ⟨⟨1,by omega,?_⟩,by omega⟩;rw [t1,t2];simp
    ·obtain ⟨j,rfl⟩:∃j,i=j+1:=⟨i-1,by omega⟩
     have d1:decide (I>0)=true:=decide_eq_true (by omega);obtain ⟨m,hm⟩:∃m,(l7 L 0)[j]?=some m:=⟨(l7 L 0)[j]'(by omega),by simp [show j<(l7 L 0).length by omega]⟩
     obtain ⟨g,hgg,gw,_,_⟩:=hFg j m hm;have hg':=at2 hgg;rw [gw] at hg';have hlt:=hasc j m n hm hn;have d2:decide (m≥n)=false:=decide_eq_false (by omega);have wj:IntKind.i64.wrap (I-1)=I-1:=a5 (by omega);have jT:(I-1).toNat=j:=by omega
     simp only [iT,jT,zaa,hg,hg',w1,w2,wi,wj,d1,d2,push_cast,↓reduceIte,reduceCtorEq,zB,zE,zA,zS,zL,zD,zM]
     repeat refine And.intro (by first | decide | omega | exact fun _=>by decide | (simp +contextual; done) | kernel_rfl) ?_
     refine ⟨⟨j+1+1,by omega,?_⟩,by omega⟩;rw [t1,t2];simp [hI]
   ·have hd:=of_decide_eq_false hd;obtain rfl:i=F.length:=by omega
    have eSN:SN=L.length:=by rw [← hSN,← hct,zan (by omega)]
    have eSS:SS=cg L:=by rw [← hSS,← hst,zan (by omega)]
    rw [eSN,eSS];clear hSN hSS hd hI hFg;simp only [push_cast,↓reduceIte,reduceCtorEq,zB,zE,zA,zS,zL,zD,zM];refine run_loop [(17,false),(7,false),(13,false),(14,false),(15,false),(8,false),(1,false),(2,false)] (fun vs pos los=>∃i:Nat,i≤L.length∧vs=[int .i64 i,.own 2000000 0 0 L.length,int .i64 L.length,int .i64 (cg L),int .i64 (cg (L.take i)),.ptr 2000001 0 0,int .i64 z,int .i64 r]∧pos=[]∧los=[ae4 L,.abs (sT L)]) (fun vs _ _=>match vs with | .r (.v (.int _ j))::_=>(L.length-j).toNat | _=>0) rfl ?_ ?_
    ·simp only [push_cast,↓reduceIte,reduceCtorEq,zB,zE,zA,zS,zL,zD,zM];exact ⟨0,by omega,by simp [cg]⟩
    ·rintro vs pos los ⟨i,hi,rfl,rfl,rfl⟩;obtain ⟨I,hI⟩:∃I:Int,(i:Int)=I:=⟨_,rfl⟩
     obtain ⟨W,hW⟩:∃W,cg (L.take i)=W:=⟨_,rfl⟩
     rw [hW,hI];simp only [push_cast,↓reduceIte,reduceCtorEq,zB,zE,zA,zS,zL,zD,zM];refine b9 (fun hd=>?_) (fun hd=>?_)
     ·have hd:=of_decide_eq_true hd;obtain ⟨q,hq⟩:∃q,L[i]?=some q:=⟨L[i]'(by omega),by simp [show i<L.length by omega]⟩
      have gq:∀z,(L.map Pt.rv).getD i z=.agg [.v (.int .i64 q.k),.v (.int .i64 q.x),.v (.int .i64 q.y),.v (.int .i64 q.v)]:=fun z=>by simp [List.getD,hq,Pt.rv]
      have b1:=as6 (M:=L.take (i+1)) fun p hp=>hok p (List.mem_of_mem_take hp);have b2:(L.take (i+1)).length≤40:=by rw [List.length_take]; omega
      have b3:=a4e hq;rw [b3,hW] at b1;rw [hW] at b3;have wW:IntKind.i64.wrap (W+q.v)=W+q.v:=a5 (by omega);have wi:IntKind.i64.wrap (I+1)=I+1:=a5 (by omega);have hl0:0≤I:=by omega
      have hl1:I<L.length:=by omega
      have iT:I.toNat=i:=by omega
      simp only [iT,zaa,gq,wW,wi,push_cast,↓reduceIte,reduceCtorEq,zB,zE,zA,zS,zL,zD,zM]
      repeat refine And.intro (by first | decide | omega | exact fun _=>by decide | (simp +contextual; done) | kernel_rfl) ?_
      refine ⟨⟨i+1,by omega,?_⟩,by omega⟩;rw [b3];simp [hI]
     ·have hd:=of_decide_eq_false hd;obtain rfl:i=L.length:=by omega
      have eW:W=cg L:=by rw [← hW,List.take_length]
      subst eW;have n1:((L.length:Int) != (L.length:Int))=false:=by simp
      have n2:(cg L != cg L)=false:=by simp
      clear hW hd hI;simp only [n1,n2,push_cast,↓reduceIte,reduceCtorEq,zB,zE,zA,zS,zL,zD,zM]
      repeat refine And.intro (by first | decide | omega | exact fun _=>by decide | (simp +contextual; done) | kernel_rfl) ?_
      refine run_loop [(18,false),(7,false),(8,false),(1,false),(2,false)] (fun vs pos los=>∃i:Nat,i≤L.length∧vs=[int .i64 i,.own 2000000 0 0 L.length,.ptr 2000001 0 0,int .i64 z,int .i64 r]∧pos=[]∧los=[ae4 L,.abs (sT L)]) (fun vs _ _=>match vs with | .r (.v (.int _ j))::_=>(L.length-j).toNat | _=>0) rfl ?_ ?_
      ·simp only [push_cast,↓reduceIte,reduceCtorEq,zB,zE,zA,zS,zL,zD,zM];exact ⟨0,by omega,by simp⟩
      ·clear hrd;rintro vs pos los ⟨i,hi,rfl,rfl,rfl⟩;obtain ⟨I,hI⟩:∃I:Int,(i:Int)=I:=⟨_,rfl⟩
       rw [hI];have hl0:0≤I:=by omega
       have iT:I.toNat=i:=by omega
       by_cases hlt:i<L.length
       ·have d1:decide (I<(L.length:Int))=true:=decide_eq_true (by omega);by_cases h6:I<6
        ·have d2:decide (I<6)=true:=decide_eq_true h6;obtain ⟨q,hq⟩:∃q,L[i]?=some q:=⟨L[i],by simp [hlt]⟩
         have gq:∀z,(L.map Pt.rv).getD i z=.agg [.v (.int .i64 q.k),.v (.int .i64 q.x),.v (.int .i64 q.y),.v (.int .i64 q.v)]:=fun z=>by simp [List.getD,hq,Pt.rv]
         have hqm:q∈L:=zaz hq;have hqo:=hok q hqm
         have hqx:in64 q.x∧in64 q.y:=by
          have:=hqo.2.1;unfold inW at this;unfold in64;omega
         have hT:=bfl q.x q.y z r hqx.1 hqx.2 hz hr;have hti:=awi q.x q.y z r;have hfi:=bd9 q.x q.y z r;have hOS:=au4 hqm hqo z r;have hOW:=a88 hqm hqo z r;generalize u3 q.x q.y z r=t at *;have hto:=a37 hti;have hTO:=a4x t hto;rw [if_pos hti,hfi] at hTO;have hS1:v6 L t≠[]:=List.ne_nil_of_mem hOS;have hD1:=draw_t L (by omega) hok t hto hti hfi (.inr ⟨hS1,rfl,rfl⟩);have hrt1:=am0 (ui L t) (by have:=avj hlen0 (t:=t) hti; omega);have hrr1:=aji (m:=x9 L t) (fun h=>hS1 (agx.1 h));rw [aq6 (by omega) hok hti hfi,hrr1.1,hrr1.2] at hrt1;have hGl:(x9 L t).length≤40:=by have:=agf L t; rw [agy]; omega
         have hb:0≤t.z∧t.z≤18∧0≤t.r∧t.r≤12∧0≤t.x∧t.x<2^t.z.toNat∧0≤t.y∧t.y<2^t.z.toNat:=by simpa [tis] using hti
         have hWO:=a4q q.x q.y t.r hqo.2.1 ⟨hb.2.2.1,hb.2.2.2.1⟩;have hww:(awc q.x q.y t.r.toNat:Nat)=q.w t.r.toNat:=rfl;rw [hww] at hWO;generalize x9 L t=G at *;generalize ui L t=D at *;have wi:IntKind.i64.wrap (I+1)=I+1:=a5 (by omega);simp only [d1,d2,iT,zaa,gq,push_cast,↓reduceIte,reduceCtorEq,zB,zE,zA,zS,zL,zD,zM]
         repeat refine And.intro (by first | decide | omega | exact fun _=>by decide | (simp +contextual; done) | kernel_rfl) ?_
         refine d9 hT rfl trivial ?_;simp only [Til.v,push_cast,↓reduceIte,reduceCtorEq,zB,zE,zA,zS,zL,zD,zM]
         repeat refine And.intro (by first | decide | omega | exact fun _=>by decide | (simp +contextual; done) | kernel_rfl) ?_
         refine b7 (as':=[t.v]) rfl ?_;refine a7 hTO rfl trivial ?_;have v00:((if False then (14:Int) else 0) != 0)=false:=rfl;simp only [f00,push_cast,↓reduceIte,reduceCtorEq,zB,zE,zA,zS,zL,zD,zM];refine b7 (as':=[t.v,.ptr 1000000 0 0]) rfl ?_;refine a7 hD1 rfl ⟨rfl,trivial⟩ ?_;simp only [push_cast,↓reduceIte,reduceCtorEq,zB,zE,zA,zS,zL,zD,zM];refine l9 ?_;refine b7 (as':=[sb D]) rfl ?_;refine a7 hrt1 rfl trivial ?_;simp only [fk,f00,push_cast,↓reduceIte,reduceCtorEq,zB,zE,zA,zS,zL,zD,zM];obtain ⟨Wd,hWd⟩:∃Wd:Int,(q.w t.r.toNat:Nat)=Wd:=⟨_,rfl⟩
         rw [hWd] at hOW;have hWO':a8 P0 27 [int .i64 q.x,int .i64 q.y,int .i64 t.r] [] (int .u64 Wd) []:=by rw [← hWd]; exact hWO
         refine run_loop [(25,false),(22,false),(24,false),(7,false),(18,false),(19,false),(8,false),(1,false),(2,false),(21,false),(23,false)] (fun vs pos los=>∃k:Nat,k≤G.length∧vs=[int .i64 k,.own 2000000 0 0 G.length,bl (apl (G.take k) Wd),.own 2000001 0 0 L.length,int .i64 I,.ptr 2000002 0 0,.ptr 2000003 0 0,int .i64 z,int .i64 r,int .i64 0,int .i64 0]∧pos=[]∧los=[fk G,ae4 L,.box [int .i64 t.z,int .i64 t.x,int .i64 t.y,int .i64 t.r],.abs (sT L)]) (fun vs _ _=>match vs with | .r (.v (.int _ j))::_=>(G.length-j).toNat | _=>0) rfl ?_ ?_
         ·simp only [fk,push_cast,↓reduceIte,reduceCtorEq,zB,zE,zA,zS,zL,zD,zM];exact ⟨0,by omega,by simp [apl]⟩
         ·rintro vs pos los ⟨k,hk,rfl,rfl,rfl⟩;obtain ⟨K,hK⟩:∃K:Int,(k:Int)=K:=⟨_,rfl⟩
          obtain ⟨o,ho⟩:∃o,apl (G.take k) Wd=o:=⟨_,rfl⟩
          rw [hK,ho];have hk0:0≤K:=by omega
          have kT:K.toNat=k:=by omega
          simp only [fk,push_cast,↓reduceIte,reduceCtorEq,zB,zE,zA,zS,zL,zD,zM];refine b9 (fun hd=>?_) (fun hd=>?_)
          ·have hd:=of_decide_eq_true hd;obtain ⟨f,hf⟩:∃f,G[k]?=some f:=⟨G[k]'(by omega),by simp [show k<G.length by omega]⟩
           have hg:=at2 hf;have hst:=a5p hf Wd;rw [ho] at hst;have wk:IntKind.i64.wrap (K+1)=K+1:=a5 (by omega);cases o with
           | true=>
            simp only [iT,kT,zaa,hg,gq,wk,push_cast,↓reduceIte,reduceCtorEq,zB,zE,zA,zS,zL,zD,zM]
            repeat refine And.intro (by first | decide | omega | exact fun _=>by decide | (simp +contextual; done) | kernel_rfl) ?_
            refine ⟨⟨k+1,by omega,?_⟩,by omega⟩;rw [hst];simp [hK]
           | false=>
            simp only [iT,kT,zaa,hg,gq,wk,push_cast,↓reduceIte,reduceCtorEq,zB,zE,zA,zS,zL,zD,zM]
            repeat refine And.intro (by first | decide | omega | exact fun _=>by decide | (simp +contextual; done) | kernel_rfl) ?_
            refine d9 hWO' rfl trivial ?_;simp only [iT,kT,zaa,hg,gq,wk,push_cast,↓reduceIte,reduceCtorEq,zB,zE,zA,zS,zL,zD,zM]
            repeat refine And.intro (by first | decide | omega | exact fun _=>by decide | (simp +contextual; done) | kernel_rfl) ?_
            refine ⟨⟨k+1,by omega,?_⟩,by omega⟩;rw [hst];simp [hK]
          ·have hd:=of_decide_eq_false hd;obtain rfl:k=G.length:=by omega
           rw [List.take_length] at ho;have:o=true:=by rw [← ho]; exact hOW
           subst this;simp only [f00,wi,push_cast,↓reduceIte,reduceCtorEq,zB,zE,zA,zS,zL,zD,zM];exact ⟨⟨i+1,by omega,by simp [hI]⟩,by omega⟩
        ·have d2:decide (I<6)=false:=decide_eq_false h6;simp only [d1,d2,push_cast,↓reduceIte,reduceCtorEq,zB,zE,zA,zS,zL,zD,zM];refine a7 ag3 rfl trivial ?_;simp only [push_cast,↓reduceIte,reduceCtorEq,zB,zE,zA,zS,zL,zD,zM]
       ·have d1:decide (I<(L.length:Int))=false:=decide_eq_false (by omega);simp only [d1,push_cast,↓reduceIte,reduceCtorEq,zB,zE,zA,zS,zL,zD,zM];refine a7 ag3 rfl trivial ?_;simp only [push_cast,↓reduceIte,reduceCtorEq,zB,zE,zA,zS,zL,zD,zM]

end
end Go.Ev

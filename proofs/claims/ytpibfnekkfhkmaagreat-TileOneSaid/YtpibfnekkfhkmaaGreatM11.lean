import Derived.Test.YtpibfnekkfhkmaaGreatM10
open Nat renaming reduceBEq → zB, reduceEqDiff → zE, reduceAdd → zA, reduceSub → zS, reduceLT → zL, reduceLeDiff → zD, reduceMul → zM
open Go.Proofs.Tryz renaming prog → P0
open Go.Proofs.Tryz
open List renaming length_map → zaa, length_nil → zab, length_cons → zac, cons_append → zad, length_append → zae, getD_eq_getElem?_getD → zah, nil_append → zai, range → zal, append_assoc → zam, mem_map → zan, take_of_length_le → zao, getElem?_map → zaq, getElem?_eq_none → zar, take → zav, getElem?_eq_getElem → zaw, map_cons → zax, mem_singleton → zay, range_succ → zaz, mem_append → zba, mem_cons → zbb, drop_eq_getElem_cons → zbc, map_append → zbd, map_nil → zbf, mem_range → zbg, map_map → zbh, getElem?_eq_some_iff → zbi, mem_of_getElem? → zbj, length_eq_zero_iff → zbk, mem_filter → zbl, drop_eq_nil_of_le → zbn, take_add_one → zbo, not_mem_nil → zbq, ext_getElem? → zbs, getElem?_range → zbt, getElem_mem → zbw, length_drop → zby, map_congr_left → zca, drop_length → zcb, append_nil → zcc, filter_append → zch, getD_cons_zero → zcj, eq_nil_of_length_eq_zero → zck, filter_cons_of_pos → zcn, filter_sublist → zco
open Nat renaming zero_add → zaf
open Int renaming toNat_zero → zaj, reduceToNat → zak, toNat_natCast → zap, mul_nonneg → zas, le_of_lt → zat, toNat_natCast_add_one → zau, natCast_zero → zbe, mul_le_mul_of_nonneg_left → zbm, toNat_one → zbr, mul_le_mul_of_nonneg_right → zbu, natCast_one → zbx, mul_eq_zero → zcd, emod_nonneg → zce, emod_lt_of_pos → zcf, mul_ediv_add_emod → zcg, mul_nonpos_of_nonneg_of_nonpos → zcl, le_of_mul_le_mul_left → zcm
open Bool renaming and_eq_true → zbp, not_eq_true' → zbv, not_false → zci
open Option renaming map_some → zbz
namespace Go.Ev
set_option maxRecDepth 100000
noncomputable section
open Go
set_option linter.unusedSectionVars false
set_option linter.unnecessarySimpa false
set_option linter.unusedSimpArgs false
set_option linter.unusedVariables false
def lz:Mk P0 f15:={ x:=_ }
theorem adc:d5 15 2 lz:=c8 func15
theorem bbb (a b:List P2) (ha:a.length≤1000000) (hb:b.length≤1000000):a8 P0 15 [b8 a,b8 b] [] (bl (decide (a=b))) []:=by
 refine adc rfl (by decide) ?_;by_cases hL:a.length=b.length
 ·have n0:(((a.length:Nat):Int) != (b.length:Int))=false:=by rw [hL]; simp
  push_cast [lz,b8,zaa,n0,zab]
  refine run_loop [(5,false),(0,false),(1,false)] (fun vs pos los=>∃i:Nat,i≤a.length∧a.take i=b.take i∧vs=[int .i64 i,b8 a,b8 b]∧pos=[]∧los=[])
   (fun vs _ _=>match vs with | .r (.v (.int _ n))::_=>(a.length-n).toNat | _=>0) rfl ?_ ?_
  ·push_cast [b8]
   exact ⟨0,by omega,rfl,rfl⟩
  ·rintro vs pos los ⟨i,hi,hab,rfl,rfl,rfl⟩
   push_cast [b8,zaa]
   refine c7 (fun hd=>?_) (fun hd=>?_)
   ·have hi2:i<a.length:=by simpa using hd
    obtain ⟨q,hq⟩:∃q,a[i]?=some q:=⟨a[i],by simp [hi2]⟩
    obtain ⟨o,ho⟩:∃o,b[i]?=some o:=⟨b[i]'(by omega),by simp [hL▸hi2]⟩
    have wi:IntKind.i64.wrap ((i:Int)+1)=(i:Int)+1:=a7 (by omega)
    have g1:∀z,(a.map ptR).getD i z=.agg [.v (.int .i64 q.1),.v (.int .i64 q.2)]:=fun z=>by
     rw [zah,zaq,hq]; rfl
    have g2:∀z,(b.map ptR).getD i z=.agg [.v (.int .i64 o.1),.v (.int .i64 o.2)]:=fun z=>by
     rw [zah,zaq,ho]; rfl
    have he:=a2d q o
    push_cast [b8,g1,g2,wi,zaa,zaj,zak,zaf,zap,zau,zaf]
    refine And.intro ⟨by omega,by omega⟩ (And.intro ⟨by omega,by omega⟩ (And.intro (by kernel_rfl) ?_));by_cases hqo:q=o
    ·subst hqo;have he2:(q.1 == q.1&&q.2 == q.2)=true:=by simp
     push_cast [he2,wi,b8]
     refine ⟨⟨i+1,by omega,?_,by simp⟩,by omega⟩;rw [zbo,zbo,hab,hq,ho]
    ·have he2:(q.1 == o.1&&q.2 == o.2)=false:=he.trans (decide_eq_false hqo);have hne:decide (a=b)=false:=decide_eq_false (fun h=>hqo (by rw [h,ho] at hq; exact (Option.some.inj hq).symm))
     push_cast [he2,hne]
   ·have hi2:i=a.length:=by
     have:¬i<a.length:=by simpa using hd
     omega
    have hE:decide (a=b)=true:=decide_eq_true (by rw [hi2,List.take_length,hL,List.take_length] at hab; exact hab)
    push_cast [hE]
 ·have n0:(((a.length:Nat):Int) != (b.length:Int))=true:=by simp; omega
  have hE:decide (a=b)=false:=decide_eq_false (fun h=>hL (by rw [h]))
  push_cast [lz,b8,zaa,n0,hE,zab]


def yy:Mk P0 f12:={ x:=_ }
theorem aoi:d5 12 1 yy:=c8 func12
def mj (l:List Int):Bool:=decide (9≤l.length)&&(l.length%2 == 1&&(l.getD 0 0 == 9&&(l.getD (l.length-1) 0 == 15&&l.getD 3 0 == 8*(((l.length:Int)-5)/2)+2)))
def aal (l:List Int):Nat→P2
 | 0=>(zag (l.getD 1 0),zag (l.getD 2 0))
 | j+1=>(IntKind.i64.wrap ((aal l j).1+zag (l.getD (4+2*j) 0)),IntKind.i64.wrap ((aal l j).2+zag (l.getD (5+2*j) 0)))
def mw (l:List Int) (n:Nat):List P2:=(zal n).map (aal l)
theorem ayl (l:List Int) (n:Nat):mw l (n+1)=mw l n++[aal l n]:=by simp [mw,zaz]
def mc (l:List Int):List P2:=if mj l then mw l ((l.length-5)/2+1) else []
def u64L (l:List Int):Prop:=∀n∈l,0≤n∧n<18446744073709551616
theorem km (l:List Int) (i:Nat):(ai l).getD i (.v (.int .u64 0))=.v (.int .u64 (l.getD i 0)):=by
 simp only [ai,zah,zaq];cases l[i]? <;> rfl
theorem aei {l:List Int} (h:u64L l) (i:Nat):0≤l.getD i 0∧l.getD i 0<18446744073709551616:=by
 rw [zah];cases e:l[i]? with
 | none=>simp
 | some x=>exact h x (zbj e)
theorem a0o {l:List Int} (h:u64L l) (i:Nat):a8 P0 33 [int .u64 (l.getD i 0)] [] (int .i64 (zag (l.getD i 0))) []:=a94 _ (aei h i).1 (aei h i).2
set_option maxHeartbeats 1000000 in
theorem tring_t (l : List Int) (hl : l.length ≤ 1000000) (h : u64L l) {res : AV} {ro : List Ob}
    (hres:(mj l=false∧res=.tup [.nils 2 (pnt 0 0),bl false]∧ro=[])∨(mj l=true∧res=.tup [.own 1000000 0 0 (mc l).length,bl true]∧ro=[u4 (mc l)])) :
    a8 P0 12 [.r (.sl 1 (ai l))] [] res ro:=by
  refine aoi rfl (by decide) ?_;have hmx:=j7;have hnl:(ai l).length=l.length:=by simp [ai]
  by_cases h9:l.length<9
  · have d0:decide (((l.length:Nat):Int)<9)=true:=decide_eq_true (by omega);have hc:mj l=false:=by simp [mj]; omega
    rcases hres with ⟨_,rfl,rfl⟩ | ⟨h,_⟩
    · simp only [yy,hnl,d0,pnt,km,push_cast,↓reduceIte,reduceCtorEq,zB,zE,zA,zS,zL,zD,zM]
    · rw [hc] at h; cases h
  · obtain ⟨N,hN,hN1,hN2⟩:∃N:Int,((l.length:Nat):Int)=N∧9≤N∧N≤1000000:=⟨_,rfl,by omega,by omega⟩
    have d0:decide (N<9)=false:=decide_eq_false (by omega);have gn:(N-1).toNat=l.length-1:=by omega
    have w1:IntKind.i64.wrap (N-1)=N-1:=a7 (by omega);have w2:IntKind.i64.wrap (N-4)=N-4:=a7 (by omega);have w3:IntKind.i64.wrap (N-4-1)=N-5:=by rw [a7 (by omega)]; omega
    obtain ⟨K,hK⟩:∃K:Int,(N-5)/2=K:=⟨_,rfl⟩
    have w4:(N-5).tdiv 2=K:=by rw [Int.tdiv_eq_ediv_of_nonneg (by omega),hK]
    have w5:IntKind.u64.wrap (IntKind.i64.wrap (IntKind.i64.wrap (8*IntKind.i64.wrap K)+2))=8*K+2:=by
      rw [a7 (x:=K) (by omega),a7 (x:=8*K) (by omega),a7 (x:=8*K+2) (by omega),IntKind.wrap_u64];omega
    have hc:mj l=(!(l.getD 0 0 != 9)&&(!(l.getD (l.length-1) 0 != 15)&&(!(l.getD 3 0 != 8*K+2) && !((N-5).tmod 2 != 0)))):=by
      unfold mj;have t1:decide (9≤l.length)=true:=decide_eq_true (by omega)
      have t2:(l.length%2 == 1)=!((N-5).tmod 2 != 0):=by
        rw [Int.tmod_eq_emod_of_nonneg (by omega),Bool.eq_iff_iff];simp;omega
      rw [hN,hK,t1,t2];simp only [bne];generalize (l.getD 0 0 == 9)=A;generalize (l.getD (l.length-1) 0 == 15)=B;generalize (l.getD 3 0 == 8*K+2)=C;generalize ((N-5).tmod 2 == 0)=D;cases A<;>cases B<;>cases C<;>cases D<;>rfl
    cases hcc:mj l with
    | false=>
      rw [hcc] at hc hres;rcases hres with ⟨_,rfl,rfl⟩ | ⟨h,_⟩
      · cases e0:(l.getD 0 0 != 9)<;>cases e1:(l.getD (l.length-1) 0 != 15)<;>cases e2:(l.getD 3 0 != 8*K+2)<;>cases e3:((N-5).tmod 2 != 0) <;>
          first
          | (rw [e0,e1,e2,e3] at hc; cases hc; done)
          | (simp only [yy,hnl,hN,d0,gn,km,w1,w2,w3,w4,w5,e0,e1,e2,e3,pnt,zaj,zak,zaf,push_cast,↓reduceIte,reduceCtorEq,zB,zE,zA,zS,zL,zD,zM]
             first | done | omega | (refine ⟨by omega,?_⟩; simp; try omega))
      · cases h
    | true=>
      rw [hcc] at hc hres;have hc2:=hc.symm;simp only [zbp,zbv] at hc2;obtain ⟨e0,e1,e2,e3⟩:=hc2;rcases hres with ⟨h,_⟩ | ⟨_,rfl,rfl⟩
      · cases h
      simp only [yy,hnl,hN,d0,gn,km,w1,w2,w3,w4,w5,e0,e1,e2,e3,pnt,zaj,zak,zaf,push_cast,↓reduceIte,reduceCtorEq,zB,zE,zA,zS,zL,zD,zM]
      repeat refine And.intro (by omega) ?_
      refine d9 (a0o h 1) rfl trivial ?_;simp only [hnl,hN,km,zaj,zak,zaf,push_cast,↓reduceIte,reduceCtorEq,zB,zE,zA,zS,zL,zD,zM]
      repeat refine And.intro (by omega) ?_
      refine d9 (a0o h 2) rfl trivial ?_;simp only [hnl,hN,km,pnt,zaj,zak,zaf,push_cast,↓reduceIte,reduceCtorEq,zB,zE,zA,zS,zL,zD,zM];refine And.intro (by kernel_rfl) (And.intro (by simp) ?_);obtain ⟨J,hJ⟩:∃J,(l.length-5)/2=J:=⟨_,rfl⟩
      have hodd:(N-5)%2=0:=by
        rw [Int.tmod_eq_emod_of_nonneg (by omega)] at e3;simpa using e3
      have hJN:N=2*J+5:=by omega
      have hres:mc l=mw l (J+1):=by rw [mc,if_pos hcc,hJ]
      rw [hres];clear e0 e1 e2 e3 hc w1 w2 w3 w4 w5 gn d0
      refine run_loop [(6,false),(0,false),(4,false),(5,false)] (fun vs pos los=>∃j:Nat,j≤J∧vs=[int .i64 (4+2*(j:Int)),.r (.sl 1 (ai l)),.ptr 2000000 0 0,.own 2000001 0 0 (j+1)]∧pos=[]∧los=[.box [int .i64 (aal l j).1,int .i64 (aal l j).2],u4 (mw l (j+1))])
        (fun vs _ _=>match vs with | .r (.v (.int _ a))::_=>(N-a).toNat | _=>0) rfl ?_ ?_
      · simp only [u4,pnt,push_cast,↓reduceIte,reduceCtorEq,zB,zE,zA,zS,zL,zD,zM];exact ⟨0,by omega,rfl,rfl⟩
      · rintro vs pos los ⟨j,hj,rfl,rfl,rfl⟩;have w1:IntKind.i64.wrap (4+2*(j:Int)+1)=5+2*(j:Int):=by rw [a7 (by omega)]; omega
        have w2:IntKind.i64.wrap (4+2*(j:Int)+2)=4+2*((j+1:Nat):Int):=by rw [a7 (by omega)]; omega
        have n1:(4+2*(j:Int)).toNat=4+2*j:=by omega
        have n2:(5+2*(j:Int)).toNat=5+2*j:=by omega
        have hcl:(mw l (j+1)).length=j+1:=by simp [mw]
        simp only [hnl,hN,w1,u4,pnt,push_cast,↓reduceIte,reduceCtorEq,zB,zE,zA,zS,zL,zD,zM];refine c7 (fun hd=>?_) (fun hd=>?_)
        · have hd:=of_decide_eq_true hd;simp only [hnl,hN,w1,n1,n2,km,u4,pnt,zaj,zak,zaf,push_cast,↓reduceIte,reduceCtorEq,zB,zE,zA,zS,zL,zD,zM]
          repeat refine And.intro (by omega) ?_
          refine d9 (a0o h (4+2*j)) rfl trivial ?_;simp only [hnl,hN,w1,n1,n2,km,u4,pnt,zaj,zak,zaf,push_cast,↓reduceIte,reduceCtorEq,zB,zE,zA,zS,zL,zD,zM]
          repeat refine And.intro (by first | omega | kernel_rfl) ?_
          refine d9 (a0o h (5+2*j)) rfl trivial ?_;simp only [hnl,hN,w1,n1,n2,km,u4,pnt,zaj,zak,zaf,push_cast,↓reduceIte,reduceCtorEq,zB,zE,zA,zS,zL,zD,zM];refine And.intro (by omega) (And.intro (by kernel_rfl) (And.intro (by simp) (And.intro ⟨by omega,by omega⟩ ?_)));rw [w2];refine ⟨⟨j+1,by omega,rfl,?_⟩,by omega⟩;have htk:zav (j+1) ((mw l (j+1)).map ptR)=(mw l (j+1)).map ptR:=zao (by simp [hcl]);rw [htk,ayl l (j+1),zbd]
          rfl
        · have hd:=of_decide_eq_false hd;have hjJ:j=J:=by omega
          subst hjJ;simp only [hnl,hN,hcl,u4,pnt,push_cast,↓reduceIte,reduceCtorEq,zB,zE,zA,zS,zL,zD,zM]

def afs:PC:=
  (.seq (.reg [p_a 3 (.box (.t 0)),p_s 6 (.mov (.c (.nils 1 (.v (.int .u8 0)))))])
 (.seq (.reg [p_m 11 2,p_s 12 (.mm true (.t 11) [(o_i 0)]),p_s 13 (.conv .u64 (.t 12)),p_m 7 13])
 (.seq (.reg [p_s 8 (.mov (.c (.nils 1 (.v (.int .u64 0)))))])
 (.seq (.seq (.reg [p_s 14 (.mov (.c (.r (.v (.int .u64 0)))))])
 (.block 0 (.loop (.seq (.reg [p_s 15 (.bin .lss (.t 14) (.c (.r (.v (.int .u64 4)))))])
 (.seq (.cond (.t 15)
 .skip
 (.exit 0))
 (.seq (.block 1 (.seq (.reg [p_m 16 14,p_m 9 16])
 (.reg [p_m 17 8,p_m 18 9,p_m 19 7,p_m 20 9,p_s 21 (.bin .add (.t 19) (.t 20)),p_a 22 (.bsl 1 (.v (.int .u64 0)) [(.t 18),(.t 21)]),p_a 23 (.app 1 (.v (.int .u64 0)) 8 (.t 17) (.t 22)),
 p_m 8 23])))
 (.reg [p_s 24 (.bin .add (.t 14) (.c (.r (.v (.int .u64 1))))),p_m 14 24])))))))
 (.seq (.reg [p_s 25 (.fa 0 (.t 3)),p_s 26 (.ld none (.t 25)),p_c 27 1 55 [(.c (.nils 1 (.v (.int .u8 0)))),(o_i 1),(.t 26)],p_m 10 27])
 (.seq (.reg [p_m 28 10,p_m 29 8,p_c 30 2 56 [(.t 28),(o_i 2),(.t 29)],p_m 10 30])
 (.seq (.reg [p_m 31 10,p_c 32 3 55 [(.t 31),(o_i 3),(.c (.r (.v (.int .u64 3))))],p_m 10 32])
 (.seq (.reg [p_m 33 10,p_m 34 1,p_c 35 4 10 [.t 34],p_c 36 5 56 [(.t 33),(o_i 4),(.t 35)],p_m 6 36])
 .ret))))))))
theorem aj2:Fun P0 28 3 [(6,false,none)] afs:=ae3 func28 rfl (by decide) (by kernel_rfl) (by decide) rfl (by kernel_rfl) (by kernel_rfl) (by decide)
def mn (k:Int):List Int:=[0,k,1,k+1,2,k+2,3,k+3]
def ze (f:Int) (ns:List Int):List UInt8:=o9 f (ns.flatMap fun n=>m7 n.toNat)
def je (w n:Int) (ring:List P2):List UInt8:=u5 1 w++ze 2 (mn (max n 0))++u5 3 3++ze 4 (s7 ring)
theorem ap9:∀(r:List P2) (p:P2),u64L (v6 p r)
 | [],p=>fun n hn=>by simp [v6] at hn
 | q::r,p=>fun n hn=>by
  rw [v6,zba] at hn;rcases hn with hn | hn
  ·simp only [ame,zbb,zbq,or_false] at hn;rcases hn with rfl | rfl
   ·exact ag7 _ (aeh _)
   ·exact ag7 _ (aeh _)
  ·exact ap9 r q n hn
theorem aus (ring:List P2) (hl:ring.length≤100000) (h:i64P ring):u64L (s7 ring):=fun n hn=>by
 cases ring with
 | nil=>simp [s7] at hn
 | cons p r=>
  rw [s7] at hn;split at hn
  ·simp at hn
  ·simp only [zba,zbb,zbq,or_false] at hn;simp only [zac] at hl;have hp:=h p (by simp);rcases hn with ((rfl | rfl | rfl | rfl) | hn) | rfl
   ·omega
   ·exact ag7 _ hp.1
   ·exact ag7 _ hp.2
   ·omega
   ·exact ap9 _ _ _ hn
   ·omega
theorem al1 (ring:List P2):(s7 ring).length≤2*ring.length+3:=by
 cases ring with
 | nil=>simp [s7]
 | cons p r=>
  rw [s7];split
  ·simp
  ·have:=nq r p;simp [this];omega
theorem an3 {ring:List P2} (h:ring.length<3):s7 ring=[]:=by
 cases ring with
 | nil=>rfl
 | cons p r=>rw [s7,if_pos (by rw [zac] at h; omega)]
theorem af2 (f:Int) (ns:List Int):(ze f ns).length≤20+10*ns.length:=by
 have h1:=kw f (ns.flatMap fun n=>m7 n.toNat);have h2:=ali ns;unfold ze;omega
theorem agd (w n:Int) (ring:List P2):(je w n ring).length≤300+20*ring.length:=by
 have h1:=iz 1 w;have h2:=af2 2 (mn (max n 0));have h3:=iz 3 3;have h4:=af2 4 (s7 ring);have h5:=al1 ring;have h6:(mn (max n 0)).length=8:=rfl;simp only [je,zae];omega
theorem avq {k:Int} (h:0≤k∧k≤9223372036854775807):u64L (mn k):=fun n hn=>by
 simp only [mn,zbb,zbq,or_false] at hn;omega
def a03 (w a b c d:Int):AV:=.r (.agg [.v (.int .u64 w),.v (.int .i64 a),.v (.int .i64 b),.v (.int .i64 c),.v (.int .i64 d)])
def acy (k:Int) (i:Nat):List Int:=(zal i).flatMap fun j:Nat=>[(j:Int),k+j]
theorem akh (k:Int) (i:Nat):acy k (i+1)=acy k i++[(i:Int),k+i]:=by simp [acy,zaz]
theorem avp (k:Int):∀i,(acy k i).length=2*i
 | 0=>rfl
 | i+1=>by rw [akh,zae,avp k i]; simp; omega
theorem bex (k:Int):acy k 4=mn k:=by simp [acy,mn,zaz]
set_option maxHeartbeats 1000000 in
theorem tfeat_t (w a b c d n : Int) (ring : List P2) (hw : 0 ≤ w ∧ w < 18446744073709551616) (hn : in64 n) (hl : ring.length ≤ 100000) (h : i64P ring) :
    a8 P0 28 [a03 w a b c d,b8 ring,int .i64 n] [] (.own 1000000 0 0 (je w n ring).length) [qg (je w n ring)]:=by
  refine aj2 rfl (by decide) ?_;have hmx:=j7;have hn':-9223372036854775808≤n∧n≤9223372036854775807:=hn;obtain ⟨K,hK,hK1⟩:∃K,max n 0=K∧0≤K∧K≤9223372036854775807:=⟨_,rfl,by omega,by omega⟩
  have wK:IntKind.u64.wrap K=K:=by rw [IntKind.wrap_u64]; omega
  have l1:=iz 1 w;have l2:=af2 2 (mn K);have l3:=iz 3 3;have l4:=af2 4 (s7 ring);have l5:=al1 ring;have l6:(mn K).length=8:=rfl;have hT:=avq hK1;have hC:=aus ring hl h;have hF:je w n ring=u5 1 w++ze 2 (mn K)++u5 3 3++ze 4 (s7 ring):=by rw [je,hK]
  obtain ⟨B1,hB1⟩:∃B,u5 1 w=B:=⟨_,rfl⟩
  obtain ⟨B2,hB2⟩:∃B,B1++ze 2 (mn K)=B:=⟨_,rfl⟩
  obtain ⟨B3,hB3⟩:∃B,B2++u5 3 3=B:=⟨_,rfl⟩
  obtain ⟨B4,hB4⟩:∃B,B3++ze 4 (s7 ring)=B:=⟨_,rfl⟩
  have m2:=congrArg List.length hB2;have m3:=congrArg List.length hB3;rw [zae] at m2 m3;rw [hB1] at l1;have t1:=aqz [] 1 w (by decide) hw.1 hw.2 (by simp);rw [zai,hB1] at t1;have t2:=pack_t B1 2 (mn K) (by decide) hT (by rw [l6]; decide) (by omega);rw [show o9 2 ((mn K).flatMap fun n=>m7 n.toNat)=ze 2 (mn K) from rfl,hB2] at t2;have t3:=aqz B2 3 3 (by decide) (by decide) (by decide) (by omega);rw [hB3] at t3;have t4:=pack_t B3 4 (s7 ring) (by decide) hC (by omega) (by omega);rw [show o9 4 ((s7 ring).flatMap fun n=>m7 n.toNat)=ze 4 (s7 ring) from rfl,hB4] at t4;rw [hF,hB1,hB2,hB3,hB4];clear hB1 hB2 hB3 hB4 hF
  push_cast [afs,a03,b8,hK,wK,zab]
  refine run_loop [(14, false), (7, false), (8, false), (1, false), (3, false)] (fun vs pos los => ∃ i : Nat, i ≤ 4 ∧ pos = [] ∧
      (i=0∧vs=[int .u64 i,int .u64 K,.nils 1 (.v (.int .u64 0)),b8 ring,.ptr 2000000 0 0]∧los=[.box [int .u64 w,int .i64 a,int .i64 b,int .i64 c,int .i64 d]] ∨
       0<i∧vs=[int .u64 i,int .u64 K,.own 2000000 0 0 (acy K i).length,b8 ring,.ptr 2000001 0 0]∧los=[asi (acy K i),.box [int .u64 w,int .i64 a,int .i64 b,int .i64 c,int .i64 d]]))
    (fun vs _ _=>match vs with | .r (.v (.int _ a))::_=>(4-a).toNat | _=>0) rfl ?_ ?_
  · push_cast [b8]
    exact ⟨0,by omega,by simp⟩
  · rintro vs pos los ⟨i,hi,rfl,⟨h0,rfl,rfl⟩ | ⟨h0,rfl,rfl⟩⟩
    · subst h0;have wk:IntKind.u64.wrap (K+0)=K:=by rw [IntKind.wrap_u64]; omega
      have w1:IntKind.u64.wrap (0+1)=1:=rfl;have d4:decide ((0:Int)<4)=true:=rfl
      push_cast [b8,wk,w1,d4,zbe]
      exact ⟨by simp,by omega,⟨1,by omega,.inr ⟨by omega,rfl,by simp [acy,ai,asi]⟩⟩,by decide⟩
    · have wk:IntKind.u64.wrap (K+i)=K+i:=by rw [IntKind.wrap_u64]; omega
      have w1:IntKind.u64.wrap ((i:Int)+1)=i+1:=by rw [IntKind.wrap_u64]; omega
      push_cast [b8,wk,w1]
      refine c7 (fun hd=>?_) (fun hd=>?_)
      · have hd:=of_decide_eq_true hd
        push_cast [b8,wk,w1]
        have htl:=avp K i;have htk:zav (acy K i).length (ai (acy K i))=ai (acy K i):=zao (by simp [ai]);rw [htk];refine ⟨by simp,⟨by omega,by omega⟩,⟨i+1,by omega,.inr ⟨by omega,?_,?_⟩⟩,by omega⟩
        · rw [akh]; simp
        · rw [akh]; simp [ai,asi]
      · have hd:=of_decide_eq_false hd;obtain rfl:i=4:=by omega
        rw [bex]
        push_cast [b8]
        refine b9 (as':=[sb [],int .i64 1,int .u64 w]) rfl ?_;refine a5 t1 rfl trivial ?_
        push_cast
        refine m0 ?_;refine b9 (as':=[sb B1,int .i64 2,.r (.sl 1 ((mn K).map fun n=>.v (.int .u64 n)))]) rfl ?_;refine a5 t2 rfl trivial ?_
        push_cast
        refine m0 ?_;refine b9 (as':=[sb B2,int .i64 3,int .u64 3]) rfl ?_;refine a5 t3 rfl trivial ?_
        push_cast
        by_cases h3:ring.length<3
        · refine b9 (as':=[b8 ring]) rfl ?_;refine a5 (a3j ring h3) rfl trivial ?_
          push_cast
          rw [an3 h3] at t4;refine m0 ?_;refine b9 (as':=[sb B3,int .i64 4,.r (.sl 1 [])]) rfl ?_;refine a5 t4 rfl trivial ?_
          push_cast
          done
        · refine b9 (as':=[b8 ring]) rfl ?_;refine a5 (a7c ring hl h (by omega)) rfl trivial ?_;have htk:zav (s7 ring).length (ai (s7 ring))=ai (s7 ring):=zao (by simp [ai])
          push_cast [asi,htk]
          refine m0 ?_;refine b9 (as':=[sb B3,int .i64 4,.r (.sl 1 ((s7 ring).map fun n=>.v (.int .u64 n)))]) rfl ?_;refine a5 t4 rfl trivial ?_
          push_cast
          done

def ajk:PC:=
  (.seq (.reg [p_s 2 (.mov (.c (.nils 1 (.v (.int .u8 0)))))])
 (.seq (.reg [p_c 12 1 55 [(.c (.nils 1 (.v (.int .u8 0)))),(o_i 15),(.c (.r (.v (.int .u64 2))))],p_m 3 12])
 (.seq (.reg [p_m 13 3,p_a 14 (.bsl 1 (.v (.int .u8 0)) [(.c (.r (.v (.int .u8 99)))),(.c (.r (.v (.int .u8 101)))),(.c (.r (.v (.int .u8 108)))),(.c (.r (.v (.int .u8 108)))),(.c (.r (.v (.int .u8 115))))]),
 p_a 15 (.mrk (.t 14)),p_c 16 2 79 [(.t 13),(o_i 1),(.t 15)],p_m 3 16])
 (.seq (.seq (.reg [p_m 17 0,p_s 18 (.len false (.t 17)),p_s 19 (.mov (o_i 0))])
 (.block 0 (.loop (.seq (.reg [p_s 20 (.bin .lss (.t 19) (.t 18))])
 (.seq (.cond (.t 20)
 .skip
 (.exit 0))
 (.seq (.block 1 (.seq (.reg [p_m 21 19,p_s 22 (.ia 6 (.agg [(.v (.int .u64 0)),(.sl 2 []),(.v (.int .i64 0)),(.v (.int .i64 0)),(.v (.int .i64 0)),(.v (.int .i64 0))]) (.t 17) (.t 19)),
 p_s 23 (.ld (some 6) (.t 22)),p_a 5 (.new [(.r (.v (.int .u64 0))),(.nils 2 (.agg [(.v (.int .i64 0)),(.v (.int .i64 0))])),(.r (.v (.int .i64 0))),(.r (.v (.int .i64 0))),(.r (.v (.int .i64 0))),(.r (.v (.int .i64 0)))]),
 p_m 4 21,⟨none,none,0,.act (.st 6 (.t 5) (.t 23))⟩])
 (.reg [p_m 24 3,p_s 25 (.fa 0 (.t 5)),p_s 26 (.ld none (.t 25)),p_s 27 (.build [(.r (.v (.int .u64 0))),(.r (.v (.int .i64 0))),(.r (.v (.int .i64 0))),(.r (.v (.int .i64 0))),(.r (.v (.int .i64 0)))] [(0,1,(.t 26))]),
 p_s 28 (.fa 1 (.t 5)),p_s 29 (.ld none (.t 28)),p_m 30 4,p_s 31 (.bin .mul (o_i 4) (.t 30)),p_c 32 3 28 [.t 27,.t 29,.t 31],p_c 33 4 79 [(.c (.nils 1 (.v (.int .u8 0)))),(o_i 2),(.t 32)],
 p_a 34 (.app 1 (.v (.int .u8 0)) 1 (.t 24) (.t 33)),p_m 3 34])))
 (.reg [p_s 35 (.bin .add (.t 19) (o_i 1)),p_m 19 35])))))))
 (.seq (.seq (.reg [p_a 36 (.bsl 1 (.v (.string ⟨#[]⟩)) [(.c (.r (.v (.string ⟨#[99,111,117,110,116]⟩)))),(.c (.r (.v (.string ⟨#[115,117,109]⟩)))),(.c (.r (.v (.string ⟨#[109,105,110]⟩)))),(.c (.r (.v (.string ⟨#[109,97,120]⟩))))]),
 p_s 37 (.len false (.t 36)),p_s 38 (.mov (o_i 0))])
 (.block 2 (.loop (.seq (.reg [p_s 39 (.bin .lss (.t 38) (.t 37))])
 (.seq (.cond (.t 39)
 .skip
 (.exit 2))
 (.seq (.block 3 (.seq (.reg [p_s 40 (.ia 1 (.v (.string ⟨#[]⟩)) (.t 36) (.t 38)),p_s 41 (.ld none (.t 40)),p_m 7 41])
 (.reg [p_m 42 3,p_m 43 7,p_a 44 (.toBytes (.v (.int .u8 0)) (.t 43)),p_c 45 5 79 [(.t 42),(o_i 3),(.t 44)],p_m 3 45])))
 (.reg [p_s 46 (.bin .add (.t 38) (o_i 1)),p_m 38 46])))))))
 (.seq (.seq (.reg [p_m 47 0,p_s 48 (.len false (.t 47)),p_s 49 (.mov (o_i 0))])
 (.block 4 (.loop (.seq (.reg [p_s 50 (.bin .lss (.t 49) (.t 48))])
 (.seq (.cond (.t 50)
 .skip
 (.exit 4))
 (.seq (.block 5 (.seq (.reg [p_s 51 (.ia 6 (.agg [(.v (.int .u64 0)),(.sl 2 []),(.v (.int .i64 0)),(.v (.int .i64 0)),(.v (.int .i64 0)),(.v (.int .i64 0))]) (.t 47) (.t 49)),p_s 52 (.ld (some 6) (.t 51)),
 p_a 9 (.new [(.r (.v (.int .u64 0))),(.nils 2 (.agg [(.v (.int .i64 0)),(.v (.int .i64 0))])),(.r (.v (.int .i64 0))),(.r (.v (.int .i64 0))),(.r (.v (.int .i64 0))),(.r (.v (.int .i64 0)))]),
 ⟨none,none,0,.act (.st 6 (.t 9) (.t 52))⟩])
 (.seq (.reg [p_s 53 (.fa 2 (.t 9)),p_s 54 (.ld none (.t 53)),p_s 55 (.fa 3 (.t 9)),p_s 56 (.ld none (.t 55)),p_s 57 (.fa 4 (.t 9)),p_s 58 (.ld none (.t 57)),p_s 59 (.fa 5 (.t 9)),
 p_s 60 (.ld none (.t 59)),p_a 61 (.bsl 1 (.v (.int .i64 0)) [(.t 54),(.t 56),(.t 58),(.t 60)]),p_s 62 (.len false (.t 61)),p_s 63 (.mov (o_i 0))])
 (.block 6 (.loop (.seq (.reg [p_s 64 (.bin .lss (.t 63) (.t 62))])
 (.seq (.cond (.t 64)
 .skip
 (.exit 6))
 (.seq (.block 7 (.seq (.reg [p_s 65 (.ia 1 (.v (.int .i64 0)) (.t 61) (.t 63)),p_s 66 (.ld none (.t 65)),p_m 11 66])
 (.reg [p_m 67 3,p_m 68 11,p_c 69 6 31 [.t 68],p_c 70 7 55 [(.c (.nils 1 (.v (.int .u8 0)))),(o_i 6),(.t 69)],p_c 71 8 79 [(.c (.nils 1 (.v (.int .u8 0)))),(o_i 4),(.t 70)],
 p_a 72 (.app 1 (.v (.int .u8 0)) 1 (.t 67) (.t 71)),p_m 3 72])))
 (.reg [p_s 73 (.bin .add (.t 63) (o_i 1)),p_m 63 73])))))))))
 (.reg [p_s 74 (.bin .add (.t 49) (o_i 1)),p_m 49 74])))))))
 (.seq (.reg [p_m 75 3,p_c 76 9 55 [(.t 75),(o_i 5),(.c (.r (.v (.int .u64 4096))))],p_m 3 76])
 (.seq (.reg [p_m 77 3,p_c 78 10 79 [(.c (.nils 1 (.v (.int .u8 0)))),(o_i 3),(.t 77)],p_m 2 78])
 .ret))))))))
theorem am0:Fun P0 40 1 [(2,false,none)] ajk:=ae3 func40 rfl (by decide) (by kernel_rfl) (by decide) rfl (by kernel_rfl) (by kernel_rfl) (by decide)
structure Fea where
 w:Int
 ring:List P2
 c:Int
 s:Int
 lo:Int
 hi:Int
instance:Inhabited Fea:=⟨⟨0,[],0,0,0,0⟩⟩
def Fea.rv (f:Fea):RV:=.agg [.v (.int .u64 f.w),.sl 2 (f.ring.map ptR),.v (.int .i64 f.c),.v (.int .i64 f.s),.v (.int .i64 f.lo),.v (.int .i64 f.hi)]
def Fea.ok (f:Fea):Prop:=(0≤f.w∧f.w<18446744073709551616)∧f.ring.length≤100000∧i64P f.ring∧(in64 f.c∧in64 f.s∧in64 f.lo∧in64 f.hi)
def v8 (l:List Fea):AV:=.r (.sl 6 (l.map Fea.rv))
def fx (l:List Fea) (j:Nat):List UInt8:=o9 2 (je (l.getD j default).w (4*(j:Int)) (l.getD j default).ring)
def ja (l:List Fea) (i:Nat):List UInt8:=(zal i).flatMap (fx l)
def vm:Nat→List UInt8
 | 0=>[99,111,117,110,116]
 | 1=>[115,117,109]
 | 2=>[109,105,110]
 | _=>[109,97,120]
def ui (i:Nat):List UInt8:=(zal i).flatMap fun j=>o9 3 (vm j)
def Fea.nums (f:Fea):List Int:=[f.c,f.s,f.lo,f.hi]
def vx (f:Fea) (k:Nat):List UInt8:=o9 4 (u5 6 (zig (f.nums.getD k 0)))
def yu (f:Fea) (k:Nat):List UInt8:=(zal k).flatMap (vx f)
def sr (l:List Fea) (j:Nat):List UInt8:=(zal j).flatMap fun i=>yu (l.getD i default) 4
def aac:List UInt8:=u5 15 2++o9 1 [99,101,108,108,115]
def ak (l:List Fea):List UInt8:=o9 3 (aac++ja l l.length++ui 4++sr l l.length++u5 5 4096)
theorem agt (l:List Fea) (i:Nat):ja l (i+1)=ja l i++fx l i:=by simp [ja,zaz]
theorem arg (i:Nat):ui (i+1)=ui i++o9 3 (vm i):=by simp [ui,zaz]
theorem ap3 (f:Fea) (i:Nat):yu f (i+1)=yu f i++vx f i:=by simp [yu,zaz]
theorem aie (l:List Fea) (i:Nat):sr l (i+1)=sr l i++yu (l.getD i default) 4:=by simp [sr,zaz]
theorem bgx {l:List Fea} (h:∀f∈l,f.ok) (j:Nat):(fx l j).length≤2000400:=by
 have h1:=kw 2 (je (l.getD j default).w (4*(j:Int)) (l.getD j default).ring);have h2:=agd (l.getD j default).w (4*(j:Int)) (l.getD j default).ring
 have h3:(l.getD j default).ring.length≤100000:=by
  rw [zah];cases e:l[j]? with
  | none=>exact Nat.zero_le _
  | some f=>exact (h f (zbj e)).2.1
 unfold fx;omega
theorem ad5 {l:List Fea} (h:∀f∈l,f.ok):∀i,(ja l i).length≤2000400*i
 | 0=>by simp [ja]
 | i+1=>by
  have:=ad5 h i;have:=bgx h i;rw [agt,zae];omega
theorem ao6 (i:Nat):(vm i).length≤5:=by unfold vm; split<;>simp
theorem acm:∀i,(ui i).length≤25*i
 | 0=>by simp [ui]
 | i+1=>by
  have:=acm i;have:=ao6 i;have:=kw 3 (vm i);rw [arg,zae];omega
theorem a3b (f:Fea) (i:Nat):(vx f i).length≤40:=by
 have:=iz 6 (zig (f.nums.getD i 0));have:=kw 4 (u5 6 (zig (f.nums.getD i 0)));unfold vx;omega
theorem aj8 (f:Fea):∀i,(yu f i).length≤40*i
 | 0=>by simp [yu]
 | i+1=>by
  have:=aj8 f i;have:=a3b f i;rw [ap3,zae];omega
theorem acb (l:List Fea):∀i,(sr l i).length≤160*i
 | 0=>by simp [sr]
 | i+1=>by
  have:=acb l i;have:=aj8 (l.getD i default) 4;rw [aie,zae];omega
theorem aga:aac.length≤50:=by decide
theorem aw8 {l:List Fea} {i:Nat} (hi:i<l.length) (z:RV):(l.map Fea.rv).getD i z=.agg [.v (.int .u64 (l.getD i default).w),.sl 2 ((l.getD i default).ring.map ptR),.v (.int .i64 (l.getD i default).c),.v (.int .i64 (l.getD i default).s),.v (.int .i64 (l.getD i default).lo),.v (.int .i64 (l.getD i default).hi)]:=by
 simp [zah,hi,Fea.rv]
theorem agb {l:List Fea} (h:∀f∈l,f.ok) {i:Nat} (hi:i<l.length):(l.getD i default).ok:=by
 rw [zah,zaw hi];exact h _ (zbw hi)
set_option maxHeartbeats 2000000 in
theorem azw (l:List Fea) (hl:l.length≤100000) (h:∀f∈l,f.ok):a8 P0 40 [v8 l] [] (.own 1000000 0 0 (ak l).length) [qg (ak l)]:=by
 refine am0 rfl (by decide) ?_;have hmx:=j7;obtain ⟨N,hN,hN1⟩:∃N:Int,((l.length:Nat):Int)=N∧0≤N∧N≤100000:=⟨_,rfl,by omega,by omega⟩
 have tn:=aqz [] 15 2 (by decide) (by decide) (by decide) (by simp);rw [zai] at tn;have tb:=abu (u5 15 2) 1 [99,101,108,108,115] (by decide) (by decide) (by decide);rw [show u5 15 2++o9 1 [99,101,108,108,115]=aac from rfl] at tb;have hH:=aga;simp only [ajk,v8,hN,push_cast,↓reduceIte,reduceCtorEq,zB,zE,zA,zS,zL,zD,zM];refine b9 (as':=[sb [],int .i64 15,int .u64 2]) rfl ?_;refine a5 tn rfl trivial ?_;simp only [push_cast,↓reduceIte,reduceCtorEq,zB,zE,zA,zS,zL,zD,zM];refine And.intro (by simp) (m0 ?_);refine b9 (as':=[sb (u5 15 2),int .i64 1,sb [99,101,108,108,115]]) rfl ?_;refine a5 tb rfl trivial ?_;simp only [push_cast,↓reduceIte,reduceCtorEq,zB,zE,zA,zS,zL,zD,zM];have hF:=ad5 h
 refine run_loop [(19,false),(18,false),(17,false),(3,false),(0,false)] (fun vs pos los=>∃(i:Nat) (B:List UInt8),i≤l.length∧B=aac++ja l i∧pos=[] ∧
   vs=[int .i64 i,int .i64 N,v8 l,.own 2000000 0 0 B.length,v8 l]∧los=[qg B])
  (fun vs _ _=>match vs with | .r (.v (.int _ a))::_=>(N-a).toNat | _=>0) rfl ?_ ?_
 ·simp only [v8,push_cast,↓reduceIte,reduceCtorEq,zB,zE,zA,zS,zL,zD,zM];exact ⟨0,aac,by omega,by simp [ja],by simp [v8,hN]⟩
 ·rintro vs pos los ⟨i,B,hi,hB,rfl,rfl,rfl⟩;have hFi:=hF i;have hBl:B.length=aac.length+(ja l i).length:=by rw [hB,zae]
  have w1:IntKind.i64.wrap ((i:Int)+1)=i+1:=a7 (by omega);have w4:IntKind.i64.wrap (4*(i:Int))=4*i:=a7 (by omega);simp only [v8,w1,w4,hN,push_cast,↓reduceIte,reduceCtorEq,zB,zE,zA,zS,zL,zD,zM];refine c7 (fun hd=>?_) (fun hd=>?_)
  ·have hd:=of_decide_eq_true hd;have hi2:i<l.length:=by omega
   have hg:=aw8 hi2;have ho:=agb h hi2;have hlg:B++fx l i=B++o9 2 (je (l.getD i default).w (4*(i:Int)) (l.getD i default).ring):=rfl;have hff:=agd (l.getD i default).w (4*(i:Int)) (l.getD i default).ring;generalize l.getD i default=f at *;have tf:=tfeat_t f.w 0 0 0 0 (4*(i:Int)) f.ring ho.1 (by unfold in64; omega) ho.2.1 ho.2.2.1;have tb:=abu [] 2 (je f.w (4*(i:Int)) f.ring) (by decide) (by have:=ho.2.1; omega) (by simp);rw [zai] at tb;have hbl:=kw 2 (je f.w (4*(i:Int)) f.ring);generalize je f.w (4*(i:Int)) f.ring=FL at *;generalize o9 2 FL=BL at *;simp only [v8,hg,w1,w4,hN,zap,zau,zaf,push_cast,↓reduceIte,reduceCtorEq,zB,zE,zA,zS,zL,zD,zM];refine And.intro (by omega) ?_
   refine b9 (as':=[a03 f.w 0 0 0 0,b8 f.ring,int .i64 (4*(i:Int))]) rfl ?_;refine a5 tf rfl trivial ?_;simp only [push_cast,↓reduceIte,reduceCtorEq,zB,zE,zA,zS,zL,zD,zM];refine m0 ?_;refine b9 (as':=[sb [],int .i64 2,sb FL]) rfl ?_;refine a5 tb rfl trivial ?_;simp only [w1,push_cast,↓reduceIte,reduceCtorEq,zB,zE,zA,zS,zL,zD,zM];have hrl:=ho.2.1;refine ⟨⟨by omega,by omega⟩,⟨i+1,B++BL,by omega,?_,by simp,by simp⟩,by omega⟩;rw [agt,← zam,← hB,hlg]
  ·have hd:=of_decide_eq_false hd;have hi2:i=l.length:=by omega
   subst hi2;simp only [v8,push_cast,↓reduceIte,reduceCtorEq,zB,zE,zA,zS,zL,zD,zM];have hHd:B.length≤200040000050:=by omega
   refine And.intro (by simp) (run_loop [(38,false),(37,false),(36,false),(3,false),(0,false)] (fun vs pos los=>∃(k:Nat) (C:List UInt8),k≤4∧C=B++ui k∧pos=[] ∧
     vs=[int .i64 k,int .i64 4,.own 2000000 0 0 4,.own 2000001 0 0 C.length,v8 l]∧los=[.row 1 (.v (.string ⟨#[]⟩)) true true [.v (.string ⟨#[99,111,117,110,116]⟩),.v (.string ⟨#[115,117,109]⟩),.v (.string ⟨#[109,105,110]⟩),.v (.string ⟨#[109,97,120]⟩)],qg C])
    (fun vs _ _=>match vs with | .r (.v (.int _ a))::_=>(4-a).toNat | _=>0) rfl ?_ ?_)
   ·simp only [v8,push_cast,↓reduceIte,reduceCtorEq,zB,zE,zA,zS,zL,zD,zM];exact ⟨0,B,by omega,by simp [ui],by simp⟩
   ·rintro vs pos los ⟨k,C,hk,hC,rfl,rfl,rfl⟩;have hKl:=acm k;have hCl:C.length=B.length+(ui k).length:=by rw [hC,zae]
    have hks:=arg k;have tk:=abu C 3 (vm k) (by decide) (by have:=ao6 k; omega) (by omega);rcases (show k=0∨k=1∨k=2∨k=3∨k=4 by omega) with rfl | rfl | rfl | rfl | rfl
    ·have d4:decide ((0:Int)<4)=true:=rfl;have w1:IntKind.i64.wrap ((0:Int)+1)=1:=rfl;have zs:(ByteArray.mk #[99,111,117,110,116]).size=5:=rfl;simp only [v8,d4,w1,zs,hN,zbe,zbx,zaj,zbr,zak,zaf,push_cast,↓reduceIte,reduceCtorEq,zB,zE,zA,zS,zL,zD,zM];refine And.intro (by decide) (And.intro (by omega) (m0 ?_));refine b9 (as':=[sb C,int .i64 3,sb (vm 0)]) rfl ?_;refine a5 tk rfl trivial ?_;simp only [w1,push_cast,↓reduceIte,reduceCtorEq,zB,zE,zA,zS,zL,zD,zM];exact ⟨⟨1,C++o9 3 (vm 0),by omega,by rw [hks,← zam,← hC],by simp,by simp⟩,by decide⟩
    ·have d4:decide ((1:Int)<4)=true:=rfl;have w1:IntKind.i64.wrap ((1:Int)+1)=2:=rfl;have zs:(ByteArray.mk #[115,117,109]).size=3:=rfl;simp only [v8,d4,w1,zs,hN,zbe,zbx,zaj,zbr,zak,zaf,push_cast,↓reduceIte,reduceCtorEq,zB,zE,zA,zS,zL,zD,zM];refine And.intro (by decide) (And.intro (by omega) (m0 ?_));refine b9 (as':=[sb C,int .i64 3,sb (vm 1)]) rfl ?_;refine a5 tk rfl trivial ?_;simp only [w1,push_cast,↓reduceIte,reduceCtorEq,zB,zE,zA,zS,zL,zD,zM];exact ⟨⟨2,C++o9 3 (vm 1),by omega,by rw [hks,← zam,← hC],by simp,by simp⟩,by decide⟩
    ·have d4:decide ((2:Int)<4)=true:=rfl;have w1:IntKind.i64.wrap ((2:Int)+1)=3:=rfl;have zs:(ByteArray.mk #[109,105,110]).size=3:=rfl;simp only [v8,d4,w1,zs,hN,zbe,zbx,zaj,zbr,zak,zaf,push_cast,↓reduceIte,reduceCtorEq,zB,zE,zA,zS,zL,zD,zM];refine And.intro (by decide) (And.intro (by omega) (m0 ?_));refine b9 (as':=[sb C,int .i64 3,sb (vm 2)]) rfl ?_;refine a5 tk rfl trivial ?_;simp only [w1,push_cast,↓reduceIte,reduceCtorEq,zB,zE,zA,zS,zL,zD,zM];exact ⟨⟨3,C++o9 3 (vm 2),by omega,by rw [hks,← zam,← hC],by simp,by simp⟩,by decide⟩
    ·have d4:decide ((3:Int)<4)=true:=rfl;have w1:IntKind.i64.wrap ((3:Int)+1)=4:=rfl;have zs:(ByteArray.mk #[109,97,120]).size=3:=rfl;simp only [v8,d4,w1,zs,hN,zbe,zbx,zaj,zbr,zak,zaf,push_cast,↓reduceIte,reduceCtorEq,zB,zE,zA,zS,zL,zD,zM];refine And.intro (by decide) (And.intro (by omega) (m0 ?_));refine b9 (as':=[sb C,int .i64 3,sb (vm 3)]) rfl ?_;refine a5 tk rfl trivial ?_;simp only [w1,push_cast,↓reduceIte,reduceCtorEq,zB,zE,zA,zS,zL,zD,zM];exact ⟨⟨4,C++o9 3 (vm 3),by omega,by rw [hks,← zam,← hC],by simp,by simp⟩,by decide⟩
    ·have d4:decide ((4:Int)<4)=false:=rfl;simp only [v8,d4,hN,push_cast,↓reduceIte,reduceCtorEq,zB,zE,zA,zS,zL,zD,zM];have hCl2:C.length≤200040000150:=by omega
     clear tk
     refine run_loop [(49,false),(48,false),(47,false),(3,false),(0,false)] (fun vs pos los=>∃(j:Nat) (D:List UInt8),j≤l.length∧D=C++sr l j∧pos=[] ∧
       vs=[int .i64 j,int .i64 N,v8 l,.own 2000000 0 0 D.length,v8 l]∧los=[qg D])
      (fun vs _ _=>match vs with | .r (.v (.int _ a))::_=>(N-a).toNat | _=>0) rfl ?_ ?_
     ·simp only [v8,push_cast,↓reduceIte,reduceCtorEq,zB,zE,zA,zS,zL,zD,zM];exact ⟨0,C,by omega,by simp [sr],by simp⟩
     ·rintro vs pos los ⟨j,D,hj,hD,rfl,rfl,rfl⟩;have hDi:=acb l j;have hDl:D.length=C.length+(sr l j).length:=by rw [hD,zae]
      have w1:IntKind.i64.wrap ((j:Int)+1)=j+1:=a7 (by omega);have hVs:=aie l j;simp only [v8,w1,hN,push_cast,↓reduceIte,reduceCtorEq,zB,zE,zA,zS,zL,zD,zM];refine c7 (fun hd=>?_) (fun hd=>?_)
      ·have hd:=of_decide_eq_true hd;have hi2:j<l.length:=by omega
       have hg:=aw8 hi2;have ho:=agb h hi2;generalize l.getD j default=f at *;simp only [v8,hg,w1,hN,zap,zau,zaf,push_cast,↓reduceIte,reduceCtorEq,zB,zE,zA,zS,zL,zD,zM];refine And.intro (by omega) (And.intro (by simp) ?_)
       refine run_loop [(63,false),(62,false),(61,false),(49,false),(48,false),(47,false),(3,false),(0,false)] (fun vs pos los=>∃(k:Nat) (E:List UInt8),k≤4∧E=D++yu f k∧pos=[] ∧
         vs=[int .i64 k,int .i64 4,.own 2000000 0 0 4,int .i64 j,int .i64 N,v8 l,.own 2000001 0 0 E.length,v8 l]∧los=[.row 1 (.v (.int .i64 0)) true true (f.nums.map fun n=>.v (.int .i64 n)),qg E])
        (fun vs _ _=>match vs with | .r (.v (.int _ a))::_=>(4-a).toNat | _=>0) rfl ?_ ?_
       ·simp only [v8,Fea.nums,push_cast,↓reduceIte,reduceCtorEq,zB,zE,zA,zS,zL,zD,zM];exact ⟨0,D,by omega,by simp [yu],by simp⟩
       ·rintro vs pos los ⟨k,E,hk,hE,rfl,rfl,rfl⟩;have hEi:=aj8 f k;have hEl:E.length=D.length+(yu f k).length:=by rw [hE,zae]
        have hnl:f.nums.length=4:=rfl;have w2:IntKind.i64.wrap ((k:Int)+1)=k+1:=a7 (by omega);have hKs:=ap3 f k;simp only [v8,w2,hnl,hN,push_cast,↓reduceIte,reduceCtorEq,zB,zE,zA,zS,zL,zD,zM];refine c7 (fun hd4=>?_) (fun hd4=>?_)
        ·have hd4:=of_decide_eq_true hd4
         have hgn:∀z,(f.nums.map fun n=>RV.v (.int .i64 n)).getD k z=.v (.int .i64 (f.nums.getD k 0)):=fun z=>by
          have:k<f.nums.length:=by omega
          simp [zah,this]
         have hin:in64 (f.nums.getD k 0):=by
          obtain ⟨q1,q2,q3,q4⟩:=ho.2.2.2;rcases (show k=0∨k=1∨k=2∨k=3 by omega) with rfl | rfl | rfl | rfl
          ·exact q1
          ·exact q2
          ·exact q3
          ·exact q4
         have zi:=ag7 _ hin;have tz:=apw _ hin;have tnn:=aqz [] 6 (zig (f.nums.getD k 0)) (by decide) zi.1 zi.2 (by simp);have hnn:=iz 6 (zig (f.nums.getD k 0));have tbb:=abu [] 4 (u5 6 (zig (f.nums.getD k 0))) (by decide) (by omega) (by simp);have hvx:=a3b f k;rw [zai] at tnn tbb;rw [show o9 4 (u5 6 (zig (f.nums.getD k 0)))=vx f k from rfl] at tbb;generalize vx f k=V at *;generalize u5 6 (zig (f.nums.getD k 0))=U at *;simp only [v8,hgn,w2,hnl,hN,zap,zau,zaf,push_cast,↓reduceIte,reduceCtorEq,zB,zE,zA,zS,zL,zD,zM];refine And.intro (by omega) ?_;refine a5 tz rfl trivial ?_;simp only [push_cast,↓reduceIte,reduceCtorEq,zB,zE,zA,zS,zL,zD,zM]
         refine b9 (as':=[sb [],int .i64 6,int .u64 (zig (f.nums.getD k 0))]) rfl ?_;refine a5 tnn rfl trivial ?_;simp only [push_cast,↓reduceIte,reduceCtorEq,zB,zE,zA,zS,zL,zD,zM];refine m0 ?_;refine b9 (as':=[sb [],int .i64 4,sb U]) rfl ?_;refine a5 tbb rfl trivial ?_;simp only [w2,push_cast,↓reduceIte,reduceCtorEq,zB,zE,zA,zS,zL,zD,zM];exact ⟨⟨by omega,by omega⟩,⟨k+1,E++V,by omega,by rw [hKs,← zam,← hE],by simp,by simp⟩,by omega⟩
        ·have hd4:=of_decide_eq_false hd4;obtain rfl:k=4:=by omega
         simp only [v8,w1,push_cast,↓reduceIte,reduceCtorEq,zB,zE,zA,zS,zL,zD,zM];exact ⟨⟨j+1,E,by omega,by rw [hVs,← zam,← hD,hE],by simp,by simp⟩,by omega⟩
      ·have hd:=of_decide_eq_false hd;have hi2:j=l.length:=by omega
       subst hi2;have te:=aqz D 5 4096 (by decide) (by decide) (by decide) (by omega);have hle:=iz 5 4096;have hDF:o9 3 (D++u5 5 4096)=ak l:=by rw [hD,hC,hB]; rfl
       have tf:=abu [] 3 (D++u5 5 4096) (by decide) (by rw [zae]; omega) (by simp);rw [zai,hDF] at tf;simp only [v8,push_cast,↓reduceIte,reduceCtorEq,zB,zE,zA,zS,zL,zD,zM];refine m0 ?_;refine b9 (as':=[sb D,int .i64 5,int .u64 4096]) rfl ?_;refine a5 te rfl trivial ?_;generalize D++u5 5 4096=G at *;simp only [push_cast,↓reduceIte,reduceCtorEq,zB,zE,zA,zS,zL,zD,zM];refine m0 ?_;refine b9 (as':=[sb [],int .i64 3,sb G]) rfl ?_;refine a5 tf rfl trivial ?_;simp only [push_cast,↓reduceIte,reduceCtorEq,zB,zE,zA,zS,zL,zD,zM]

theorem arf {l:List Fea} (h:∀f∈l,f.ok):(ak l).length≤2000600*l.length+300:=by
 have h1:=ad5 h l.length;have h2:=acb l l.length;have h3:=acm 4;have h4:=aga;have h5:=iz 5 4096;have h6:=kw 3 (aac++ja l l.length++ui 4++sr l l.length++u5 5 4096);unfold ak;simp only [zae] at h6;omega

def ra:Mk P0 f90:={ x:=_ }
theorem aoh:d5 90 1 ra:=c8 func90
def pe:Mk P0 f91:={ x:=_ }
theorem amz:d5 91 1 pe:=c8 func91
def dv (d:List UInt8):List Int:=((jp d).getD []).map fun n:Nat=>(n:Int)
def bt (b:List UInt8):Fea×Bool:=
 match ar b with
 | some [x,_,_,y]=>(⟨x.2.2.1,mc (dv y.2.2.2),0,0,0,0⟩,mj (dv y.2.2.2))
 | _=>(⟨0,[],0,0,0,0⟩,false)
def lj (b:List UInt8):Int:=
 match ar b with
 | some [x]=>zag x.2.2.1
 | _=>0
theorem aph {b:List UInt8} (h:∀m,ar b=some m→m.length≠4):bt b=(⟨0,[],0,0,0,0⟩,false):=by
 unfold bt;split
 ·rename_i x _ _ y e;exact absurd rfl (h _ e)
 ·rfl
theorem ase {b:List UInt8} (h:∀m,ar b=some m→m.length≠1):lj b=0:=by
 unfold lj;split
 ·rename_i x e;exact absurd rfl (h _ e)
 ·rfl
theorem a8h {l:List UInt8} {x:Fld} {k:Nat} (h:cz l=some (x,k)):x.1≤1000∧x.2.1≤2∧x.2.2.1<18446744073709551616∧x.2.2.2.length≤l.length:=by
 obtain ⟨h1,h2,h3⟩:=jr (l.drop (take l).2);unfold cz at h;split at h
 ·cases h
 ·split at h
  ·cases h
  ·split at h
   ·cases h;exact ⟨by simp only; omega,by simp,by simp only; omega,by simp⟩
   ·split at h
    ·cases h;refine ⟨by simp only; omega,by simp,by simp,?_⟩;simp only [List.length_take,zby];omega
    ·cases h
theorem at3:∀(f:Nat) (l:List UInt8) (m:List Fld),gk f l=some m→∀x∈m,x.1≤1000∧x.2.1≤2∧x.2.2.1<18446744073709551616∧x.2.2.2.length≤l.length
 | f,[],m,h,x,hx=>by
  rw [ni] at h;cases h;simp at hx
 | 0,c::l,m,h,x,hx=>by cases h
 | f+1,c::l,m,h,x,hx=>by
  rw [gk] at h;split at h
  ·cases h
  ·rename_i y k e;cases hr:gk f ((c::l).drop k) with
   | none=>rw [hr] at h; cases h
   | some m'=>
    rw [hr] at h;cases h;rcases zbb.1 hx with rfl | hx
    ·exact a8h e
    ·have:=at3 f _ m' hr x hx;simp only [zby] at this;omega
theorem ip {l:List UInt8} {m:List Fld} (h:ar l=some m):∀x∈m,x.1≤1000∧x.2.1≤2∧x.2.2.1<18446744073709551616∧x.2.2.2.length≤l.length:=at3 _ l m h
theorem ats:∀(f:Nat) (l:List UInt8) (m:List Nat),ff f l=some m→∀n∈m,n<18446744073709551616
 | f,[],m,h,x,hx=>by
  rw [nf] at h;cases h;simp at hx
 | 0,c::l,m,h,x,hx=>by cases h
 | f+1,c::l,m,h,x,hx=>by
  rw [ff] at h;split at h
  ·cases h
  ·cases hr:ff f ((c::l).drop (take (c::l)).2) with
   | none=>rw [hr] at h; cases h
   | some m'=>
    rw [hr] at h;cases h;rcases zbb.1 hx with rfl | hx
    ·exact (jr (c::l)).1
    ·exact ats f _ m' hr x hx
theorem aud (d:List UInt8):u64L (dv d):=fun n hn=>by
 unfold dv at hn;cases h:jp d with
 | none=>rw [h] at hn; simp at hn
 | some m=>
  rw [h] at hn;obtain ⟨k,hk,rfl⟩:=zan.1 hn;have:=ats _ d m h k hk;omega
theorem aue (d:List UInt8):(dv d).length≤d.length:=by
 unfold dv;cases h:jp d with
 | none=>simp
 | some m=>
  have:=a3f h;simpa using this
theorem aid (b:List UInt8) (hb:b.length≤1000000):a8 P0 91 [sb b] [] (int .i64 (lj b)) []:=by
 refine amz rfl (by decide) ?_;have hr:=aqi b (by omega);have hmx:=j7;have f10:((10:Int) != 0)=true:=rfl;have f00:((0:Int) != 0)=false:=rfl;have f01:((0:Int) != 1)=true:=rfl;cases hm:ar b with
 | none=>
  have hv:lj b=0:=ase (fun m h=>by rw [hm] at h; cases h);rw [hm] at hr;rw [hv]
  push_cast [pe,zab]
  refine a5 hr rfl trivial ?_
  push_cast [ab2,f10]
 | some m=>
  by_cases h0:m=[]
  ·subst h0;have hv:lj b=0:=ase (fun m h=>by rw [hm] at h; cases h; simp);rw [hm] at hr;rw [hv]
   push_cast [pe,zab]
   refine a5 hr rfl trivial ?_
   push_cast [ab2,f00,f01]
  ·rw [hm,(em h0).1,(em h0).2] at hr;have hml:=ack hm;by_cases h1:m.length=1
   ·obtain ⟨x,rfl⟩:∃x,m=[x]:=List.length_eq_one_iff.1 h1;have hx:=ip hm x (by simp);have hv:lj b=zag x.2.2.1:=by unfold lj; rw [hm]
    have e1:((1:Int) != 1)=false:=rfl;have hz:=a94 (x.2.2.1:Nat) (by omega) (by omega);rw [hv]
    push_cast [pe,zab]
    refine a5 hr rfl trivial ?_
    push_cast [f00,e1,vn,zax,zbf,zac,zab,zaj,zcj]
    repeat refine And.intro (by omega) ?_
    refine a5 hz rfl trivial ?_
    push_cast
   ·have hv:lj b=0:=ase (fun m' h=>by rw [hm] at h; cases h; exact h1);have e1:((m.length:Int) != 1)=true:=bne_iff_ne.2 (by omega);rw [hv]
    push_cast [pe,zab]
    refine a5 hr rfl trivial ?_
    push_cast [f00,e1]
theorem a1o (m:List Nat):ki m=ai (m.map fun n:Nat=>(n:Int)):=by simp [ki,ai]
set_option maxHeartbeats 1000000 in
theorem amq (b:List UInt8) (hb:b.length≤1000000):a8 P0 90 [sb b] [] (.tup [.r (bt b).1.rv,bl (bt b).2]) []:=by
 refine aoh rfl (by decide) ?_;have hr:=aqi b (by omega);have hmx:=j7;have f10:((10:Int) != 0)=true:=rfl;have f00:((0:Int) != 0)=false:=rfl;have f04:((0:Int) != 4)=true:=rfl;cases hm:ar b with
 | none=>
  have hv:=aph (b:=b) (fun m h=>by rw [hm] at h; cases h);rw [hm] at hr;rw [hv];simp only [ra,Fea.rv,push_cast,↓reduceIte,reduceCtorEq,zB,zE,zA,zS,zL,zD,zM];refine a5 hr rfl trivial ?_;simp only [ab2,afz,f10,pnt,push_cast,↓reduceIte,reduceCtorEq,zB,zE,zA,zS,zL,zD,zM]
 | some m=>
  by_cases h0:m=[]
  ·subst h0;have hv:=aph (b:=b) (fun m h=>by rw [hm] at h; cases h; simp);rw [hm] at hr;rw [hv];simp only [ra,Fea.rv,push_cast,↓reduceIte,reduceCtorEq,zB,zE,zA,zS,zL,zD,zM];refine a5 hr rfl trivial ?_;simp only [ab2,afz,f00,f04,pnt,push_cast,↓reduceIte,reduceCtorEq,zB,zE,zA,zS,zL,zD,zM]
  ·rw [hm,(em h0).1,(em h0).2] at hr;have hml:=ack hm;by_cases h1:m.length=4
   ·obtain ⟨x,y,z,u,rfl⟩:∃x y z u,m=[x,y,z,u]:=by
     rcases m with _ | ⟨x,_ | ⟨y,_ | ⟨z,_ | ⟨u,_ | ⟨v,r⟩⟩⟩⟩⟩<;>simp at h1 ⊢
    have hx:=ip hm x (by simp);have hu:=ip hm u (by simp);have hv:bt b=(⟨x.2.2.1,mc (dv u.2.2.2),0,0,0,0⟩,mj (dv u.2.2.2)):=by unfold bt; rw [hm]
    have e1:((4:Int) != 4)=false:=rfl;have hva:=ben u.2.2.2 (by omega);have hnl:=aue u.2.2.2;have hnu:=aud u.2.2.2;have htr:=fun res ro=>tring_t (dv u.2.2.2) (by omega) hnu (res:=res) (ro:=ro);have hnd:dv u.2.2.2=((jp u.2.2.2).getD []).map fun n:Nat=>(n:Int):=rfl;rw [hv];simp only [ra,Fea.rv,push_cast,↓reduceIte,reduceCtorEq,zB,zE,zA,zS,zL,zD,zM];refine a5 hr rfl trivial ?_;simp only [f00,e1,vn,zaj,zak,push_cast,↓reduceIte,reduceCtorEq,zB,zE,zA,zS,zL,zD,zM]
    repeat refine And.intro (by omega) ?_
    have g10:((10:Int) == 0)=false:=rfl;have g00:((0:Int) == 0)=true:=rfl;by_cases hne:∃ns,jp u.2.2.2=some ns∧ns≠[]
    ·obtain ⟨ns,hns,hn0⟩:=hne;have hnd2:dv u.2.2.2=ns.map fun n:Nat=>(n:Int):=by rw [hnd,hns]; rfl
     have e2:ap1 (some ns)=.tup [.own 1000000 0 0 ns.length,int .i64 0]∧ap2 (some ns)=[a1a ns]:=by
      cases ns with
      | nil=>exact absurd rfl hn0
      | cons=>exact ⟨rfl,rfl⟩
     rw [hns,e2.1,e2.2] at hva;refine a5 hva rfl trivial ?_;have htk:zav ns.length (ki ns)=ki ns:=atu ns;simp only [htk,push_cast,↓reduceIte,reduceCtorEq,zB,zE,zA,zS,zL,zD,zM];refine m0 ?_;refine b9 (as':=[.r (.sl 1 (ai (dv u.2.2.2)))]) (by rw [hnd2,← a1o]; rfl) ?_;have hrt:mj (dv u.2.2.2)=false→mc (dv u.2.2.2)=[]:=fun h=>by rw [mc,if_neg (by rw [h]; decide)]
     cases hck:mj (dv u.2.2.2) with
     | false=>
      refine a5 (htr _ _ (.inl ⟨hck,rfl,rfl⟩)) rfl trivial ?_;simp only [pnt,g00,vn,hrt hck,zax,zbf,zac,zab,zaj,zak,zcj,List.getD_cons_succ,push_cast,↓reduceIte,reduceCtorEq,zB,zE,zA,zS,zL,zD,zM];omega
     | true=>
      refine a5 (htr _ _ (.inr ⟨hck,rfl,rfl⟩)) rfl trivial ?_;generalize mc (dv u.2.2.2)=R at *;have htk2:zav R.length (R.map ptR)=R.map ptR:=o8 R;simp only [pnt,g00,vn,u4,htk2,zaj,zak,push_cast,↓reduceIte,reduceCtorEq,zB,zE,zA,zS,zL,zD,zM];omega
    ·have hnd2:dv u.2.2.2=[]:=by
      rw [hnd];cases hvl:jp u.2.2.2 with
      | none=>rfl
      | some ns=>
       have:ns=[]:=Classical.byContradiction fun h=>hne ⟨ns,hvl,h⟩;rw [this]; rfl
     have hck:mj (dv u.2.2.2)=false:=by rw [hnd2]; rfl
     have hrt:mc (dv u.2.2.2)=[]:=by rw [hnd2]; rfl
     have htr2:=htr _ _ (.inl ⟨hck,rfl,rfl⟩);rw [hnd2] at htr2;rw [hck,hrt];cases hvl:jp u.2.2.2 with
     | none=>
      rw [hvl] at hva;refine a5 hva rfl trivial ?_;simp only [ap1,ap2,push_cast,↓reduceIte,reduceCtorEq,zB,zE,zA,zS,zL,zD,zM];refine b9 (as':=[.r (.sl 1 (ai []))]) rfl ?_;refine a5 htr2 rfl trivial ?_;simp only [pnt,g10,vn,zaj,zak,push_cast,↓reduceIte,reduceCtorEq,zB,zE,zA,zS,zL,zD,zM];omega
     | some ns=>
      have:ns=[]:=Classical.byContradiction fun h=>hne ⟨ns,hvl,h⟩;subst this;rw [hvl] at hva;refine a5 hva rfl trivial ?_;simp only [ap1,ap2,push_cast,↓reduceIte,reduceCtorEq,zB,zE,zA,zS,zL,zD,zM];refine b9 (as':=[.r (.sl 1 (ai []))]) rfl ?_;refine a5 htr2 rfl trivial ?_;simp only [pnt,g00,vn,zaj,zak,push_cast,↓reduceIte,reduceCtorEq,zB,zE,zA,zS,zL,zD,zM];omega
   ·have hv:=aph (b:=b) (fun m' h=>by rw [hm] at h; cases h; exact h1);have e1:((m.length:Int) != 4)=true:=bne_iff_ne.2 (by omega);rw [hv];simp only [ra,Fea.rv,push_cast,↓reduceIte,reduceCtorEq,zB,zE,zA,zS,zL,zD,zM];refine a5 hr rfl trivial ?_;simp only [f00,e1,push_cast,↓reduceIte,reduceCtorEq,zB,zE,zA,zS,zL,zD,zM]

def qz:Mk P0 f46:={ x:=_ }
theorem aog:d5 46 1 qz:=c8 func46
def x7:List Fld→List Fea→List Int→Option (List Fea×List Int)
 | [],o,v=>some (o,v)
 | f::r,o,v=>if f.1=2 then (if (bt f.2.2.2).2 then x7 r (o++[(bt f.2.2.2).1]) v else none) else if f.1=4 then x7 r o (v++[lj f.2.2.2]) else x7 r o v
def aro (f:Fea) (v:List Int) (i:Nat):Fea:={ f with c:=v.getD (4*i) 0,s:=v.getD (4*i+1) 0,lo:=v.getD (4*i+2) 0,hi:=v.getD (4*i+3) 0 }
def ab7 (o:List Fea) (v:List Int):List Fea:=(zal o.length).map fun i=>aro (o.getD i default) v i
def qu (o:List Fea) (v:List Int) (j:Nat):List Fea:=(zal o.length).map fun i=>if i<j then aro (o.getD i default) v i else o.getD i default
theorem alm (o:List Fea) (v:List Int) (j:Nat):(qu o v j).length=o.length:=by simp [qu]
theorem bdi (o:List Fea) (v:List Int):qu o v 0=o:=by
 apply zbs;intro i;rw [qu,zaq];by_cases h:i<o.length
 ·simp [zbt h,h,zah]
 ·simp [zar (Nat.le_of_not_lt h),zar,h]
theorem a89 (o:List Fea) (v:List Int) {j k:Nat} (hjk:j≤k) (h:k<o.length):(qu o v j)[k]?=some (o.getD k default):=by
 simp [qu,h,show ¬k<j by omega]
theorem a2c (o:List Fea) (v:List Int) {j:Nat} (h:j<o.length):qu o v (j+1)=(qu o v j).set j (aro (o.getD j default) v j):=by
 apply zbs;intro i;rw [List.getElem?_set];by_cases hi:i<o.length
 ·by_cases hj:j=i
  ·subst hj;simp [qu,h]
  ·rw [if_neg hj];simp only [qu,zaq,zbt hi,zbz];by_cases hlt:i<j
   ·rw [if_pos hlt,if_pos (by omega)]
   ·rw [if_neg hlt,if_neg (by omega)]
 ·rw [if_neg (by omega),zar (by rw [alm]; omega),zar (by rw [alm]; omega)]
theorem bgv (v:List Int) (k:Nat):(v.map fun n=>RV.v (.int .i64 n)).getD k (.v (.int .i64 0))=.v (.int .i64 (v.getD k 0)):=by
 simp only [zah,zaq];cases v[k]? <;> rfl
theorem a5x (o:List Fea) (v:List Int):qu o v o.length=ab7 o v:=by
 apply zca;intro i hi;rw [if_pos (zbg.1 hi)]
def aaf:Option (List Fea×List Int)→List Fea×Bool
 | none=>([],false)
 | some (o,v)=>if o=[]∨v.length≠4*o.length then ([],false) else (ab7 o v,true)
def dt (b:List UInt8):List Fea×Bool:=
 match ar b with
 | some [x]=>match ar x.2.2.2 with
  | some fs=>aaf (x7 fs [] [])
  | none=>([],false)
 | _=>([],false)
theorem aif {b:List UInt8} (h:∀m,ar b=some m→m.length≠1):dt b=([],false):=by
 unfold dt;split
 ·rename_i x e;exact absurd rfl (h _ e)
 ·rfl
def t9:RV:=.agg [.v (.int .u64 0),.sl 2 [],.v (.int .i64 0),.v (.int .i64 0),.v (.int .i64 0),.v (.int .i64 0)]
abbrev n7 (l:List Fea):Ob:=.row 6 t9 true true (l.map Fea.rv)
def td:List Fea×Bool→AV
 | (_,false)=>.tup [.nils 6 t9,bl false]
 | (l,true)=>.tup [.own 1000000 0 0 l.length,bl true]
def tg:List Fea×Bool→List Ob
 | (_,false)=>[]
 | (l,true)=>[n7 l]
def ap6 (o:List Fea):AV:=if o=[] then .nils 6 t9 else .own 2000001 0 0 o.length
def ap5 (o:List Fea) (v:List Int):AV:=if v=[] then .nils 1 (.v (.int .i64 0)) else .own (if o=[] then 2000001 else 2000002) 0 0 v.length
abbrev a0x (v:List Int):Ob:=.row 1 (.v (.int .i64 0)) true true (v.map fun n=>.v (.int .i64 n))
def ap7 (o:List Fea) (v:List Int):List Ob:=(if o=[] then [] else [n7 o])++(if v=[] then [] else [a0x v])
set_option maxHeartbeats 1000000 in
theorem beu (b:List UInt8) (hb:b.length≤1000000):a8 P0 46 [sb b] [] (td (dt b)) (tg (dt b)):=by
 refine aog rfl (by decide) ?_;have hr:=aqi b (by omega);have hmx:=j7;have f10:((10:Int) != 0)=true:=rfl;have f00:((0:Int) != 0)=false:=rfl;have f01:((0:Int) != 1)=true:=rfl;have d00:decide ((0:Int)<0)=false:=rfl;cases hm:ar b with
 | none=>
  have hv:=aif (b:=b) (fun m h=>by rw [hm] at h; cases h);rw [hm] at hr;rw [hv]
  push_cast [qz,zab]
  refine a5 hr rfl trivial ?_
  push_cast [ab2,afz,f10,td,tg,t9]
 | some m=>
  by_cases h0:m=[]
  ·subst h0;have hv:=aif (b:=b) (fun m h=>by rw [hm] at h; cases h; simp);rw [hm] at hr;rw [hv]
   push_cast [qz,zab]
   refine a5 hr rfl trivial ?_
   push_cast [ab2,afz,f00,f01,td,tg,t9]
  rw [hm,(em h0).1,(em h0).2] at hr;have hml:=ack hm;by_cases h1:m.length≠1
  ·have hv:=aif (b:=b) (fun m' h=>by rw [hm] at h; cases h; exact h1);have e1:((m.length:Int) != 1)=true:=bne_iff_ne.2 (by omega);rw [hv]
   push_cast [qz,zab]
   refine a5 hr rfl trivial ?_
   push_cast [f00,e1,td,tg,t9]
  obtain ⟨x,rfl⟩:∃x,m=[x]:=List.length_eq_one_iff.1 (by omega);have hx:=ip hm x (by simp);have e1:((1:Int) != 1)=false:=rfl;have hr2:=aqi x.2.2.2 (by omega)
  have hv:dt b=match ar x.2.2.2 with
   | some fs=>aaf (x7 fs [] [])
   | none=>([],false):=by unfold dt; rw [hm]
  rw [hv]
  push_cast [qz,zab]
  refine a5 hr rfl trivial ?_
  push_cast [f00,e1,vn,zax,zbf,zac,zab,zaj,zak,zcj,List.getD_cons_succ]
  repeat refine And.intro (by omega) ?_
  cases hm2:ar x.2.2.2 with
  | none=>
   rw [hm2] at hr2;refine a5 hr2 rfl trivial ?_
   push_cast [ab2,afz,td,tg]
   refine run_loop [(37,false),(36,false),(35,false),(7,false),(8,false),(5,false)] (fun vs pos los=>vs=[int .i64 0,int .i64 0,awl,.nils 6 t9,.nils 1 (.v (.int .i64 0)),int .i64 10]∧pos=[]∧los=[]) (fun _ _ _=>0) rfl ?_ ?_
   ·push_cast [t9]
    done
   ·rintro vs pos los ⟨rfl,rfl,rfl⟩
    push_cast [t9,f10,d00]
    done
  | some fs=>
   by_cases h2:fs=[]
   ·subst h2;rw [hm2] at hr2;refine a5 hr2 rfl trivial ?_
    push_cast [ab2,afz,x7,aaf,td,tg]
    refine run_loop [(37,false),(36,false),(35,false),(7,false),(8,false),(5,false)] (fun vs pos los=>vs=[int .i64 0,int .i64 0,awl,.nils 6 t9,.nils 1 (.v (.int .i64 0)),int .i64 0]∧pos=[]∧los=[]) (fun _ _ _=>0) rfl ?_ ?_
    ·push_cast [t9]
     done
    ·rintro vs pos los ⟨rfl,rfl,rfl⟩
     push_cast [t9,f00,d00]
     exact ⟨rfl,rfl⟩
   rw [hm2,(em h2).1,(em h2).2] at hr2;have hfl:=ip hm2;have hfn:=ack hm2;obtain ⟨M,hM,hM1⟩:∃M:Int,((fs.length:Nat):Int)=M∧0≤M∧M≤1000000:=⟨_,rfl,by omega,by omega⟩
   refine a5 hr2 rfl trivial ?_
   push_cast [hM]
   refine run_loop [(37,false),(36,false),(35,false),(7,false),(8,false),(5,false)] (fun vs pos los=>∃(i:Nat) (o:List Fea) (v:List Int),i≤fs.length∧o.length≤i∧v.length≤i∧x7 fs [] []=x7 (fs.drop i) o v ∧
     vs=[int .i64 i,int .i64 M,.own 2000000 0 0 fs.length,ap6 o,ap5 o v,int .i64 0]∧pos=[]∧los=a1b fs::ap7 o v)
    (fun vs _ _=>match vs with | .r (.v (.int _ a))::_=>(M-a).toNat | _=>0) rfl ?_ ?_
   ·push_cast [t9]
    exact ⟨0,[],[],by omega,by simp,by simp,rfl,rfl,rfl⟩
   ·rintro vs pos los ⟨i,o,v,hi,ho,hvl,hs,rfl,rfl,rfl⟩;have w1:IntKind.i64.wrap ((i:Int)+1)=i+1:=a7 (by omega)
    have hstep:∀hi2:i<fs.length,x7 (fs.drop i) o v=if fs[i].1=2 then (if (bt fs[i].2.2.2).2 then x7 (fs.drop (i+1)) (o++[(bt fs[i].2.2.2).1]) v else none) else if fs[i].1=4 then x7 (fs.drop (i+1)) o (v++[lj fs[i].2.2.2]) else x7 (fs.drop (i+1)) o v:=fun hi2=>by
     rw [zbc hi2,x7]
    have hget:∀(hi2:i<fs.length) z,(fs.map vn).getD i z=.agg [.v (.int .i64 (fs[i].1:Nat)),.v (.int .i64 (fs[i].2.1:Nat)),.v (.int .u64 (fs[i].2.2.1:Nat)),.sl 1 (bys fs[i].2.2.2)]:=fun hi2 z=>by
     rw [zah,zaq,zaw hi2]; rfl
    have hFb:∀hi2:i<fs.length,fs[i].2.2.2.length≤1000000:=fun hi2=>by
     have:=hfl _ (zbw hi2);omega
    by_cases ho0:o=[]<;>by_cases hv0:v=[]
    ·push_cast [ap6,ap5,ap7,ho0,hv0,t9,zaa,hM,zai,zad]
     refine c7 (fun hd=>?_) (fun hd=>?_)
     ·have hd:=of_decide_eq_true hd;have hi2:i<fs.length:=by omega
      have hg:=hget hi2;have hsp:=hstep hi2;have hdb:=hFb hi2;rw [hsp] at hs;clear hsp;generalize fs[i]=F at *;have hft:=amq F.2.2.2 hdb;have hvt:=aid F.2.2.2 hdb;generalize bt F.2.2.2=FD at *;generalize lj F.2.2.2=VD at *
      push_cast [hg,zaa,hM,zap,zau,zaf]
      refine And.intro (by omega) ?_;cases e2:((F.1:Int) == 2) with
      | true=>
       have e2':F.1=2:=by have:=eq_of_beq e2; omega
       push_cast [e2]
       refine a5 hft rfl trivial ?_
       push_cast [Fea.rv]
       cases ok:FD.2 with
       | false=>
        rw [if_pos e2',ok] at hs
        push_cast
        rw [hs];exact ⟨rfl,rfl⟩
       | true=>
        rw [if_pos e2',ok] at hs
        push_cast [w1]
        refine ⟨by simp,by first | omega | exact ⟨by omega,by omega⟩,⟨i+1,o++[FD.1],v,by omega,by simp; omega,by omega,hs,by simp [ho0,hv0],by simp [ho0,hv0,Fea.rv,t9,zao]⟩,by omega⟩
      | false=>
       have e2':¬F.1=2:=by have:=beq_eq_false_iff_ne.1 e2; omega
       rw [if_neg e2'] at hs;cases e4:((F.1:Int) == 4) with
       | true=>
        have e4':F.1=4:=by have:=eq_of_beq e4; omega
        rw [if_pos e4'] at hs
        push_cast [e2,e4]
        refine a5 hvt rfl trivial ?_
        push_cast [w1]
        refine ⟨by simp,by first | omega | exact ⟨by omega,by omega⟩,⟨i+1,o,v++[VD],by omega,by omega,by simp; omega,hs,by simp [ho0,hv0],by simp [ho0,hv0,Fea.rv,t9,zao]⟩,by omega⟩
       | false=>
        have e4':¬F.1=4:=by have:=beq_eq_false_iff_ne.1 e4; omega
        rw [if_neg e4'] at hs
        push_cast [e2,e4,w1]
        exact ⟨⟨i+1,o,v,by omega,by omega,by omega,hs,by simp [ho0,hv0],by simp [ho0,hv0,Fea.rv,t9]⟩,by omega⟩
     ·have hd:=of_decide_eq_false hd;have hi2:i=fs.length:=by omega
      subst hi2;rw [zcb,x7] at hs;rw [hs];have hE:aaf (some (o,v))=([],false):=if_pos (.inl ho0);have g00:((0:Int) == 0)=true:=rfl;rw [hE]
      push_cast [f00,g00,ho0,td,tg,t9]
    ·push_cast [ap6,ap5,ap7,ho0,hv0,t9,zaa,hM,zai,zad]
     refine c7 (fun hd=>?_) (fun hd=>?_)
     ·have hd:=of_decide_eq_true hd;have hi2:i<fs.length:=by omega
      have hg:=hget hi2;have hsp:=hstep hi2;have hdb:=hFb hi2;rw [hsp] at hs;clear hsp;generalize fs[i]=F at *;have hft:=amq F.2.2.2 hdb;have hvt:=aid F.2.2.2 hdb;generalize bt F.2.2.2=FD at *;generalize lj F.2.2.2=VD at *
      push_cast [hg,zaa,hM,zap,zau,zaf]
      refine And.intro (by omega) ?_;cases e2:((F.1:Int) == 2) with
      | true=>
       have e2':F.1=2:=by have:=eq_of_beq e2; omega
       push_cast [e2]
       refine a5 hft rfl trivial ?_
       push_cast [Fea.rv]
       cases ok:FD.2 with
       | false=>
        rw [if_pos e2',ok] at hs
        push_cast
        rw [hs];exact ⟨rfl,rfl⟩
       | true=>
        rw [if_pos e2',ok] at hs
        push_cast [w1]
        refine ⟨by simp,by first | omega | exact ⟨by omega,by omega⟩,⟨i+1,o++[FD.1],v,by omega,by simp; omega,by omega,hs,by simp [ho0,hv0],by simp [ho0,hv0,Fea.rv,t9,zao]⟩,by omega⟩
      | false=>
       have e2':¬F.1=2:=by have:=beq_eq_false_iff_ne.1 e2; omega
       rw [if_neg e2'] at hs;cases e4:((F.1:Int) == 4) with
       | true=>
        have e4':F.1=4:=by have:=eq_of_beq e4; omega
        rw [if_pos e4'] at hs
        push_cast [e2,e4]
        refine a5 hvt rfl trivial ?_
        push_cast [w1]
        refine ⟨by simp,by first | omega | exact ⟨by omega,by omega⟩,⟨i+1,o,v++[VD],by omega,by omega,by simp; omega,hs,by simp [ho0,hv0],by simp [ho0,hv0,Fea.rv,t9,zao]⟩,by omega⟩
       | false=>
        have e4':¬F.1=4:=by have:=beq_eq_false_iff_ne.1 e4; omega
        rw [if_neg e4'] at hs
        push_cast [e2,e4,w1]
        exact ⟨⟨i+1,o,v,by omega,by omega,by omega,hs,by simp [ho0,hv0],by simp [ho0,hv0,Fea.rv,t9]⟩,by omega⟩
     ·have hd:=of_decide_eq_false hd;have hi2:i=fs.length:=by omega
      subst hi2;rw [zcb,x7] at hs;rw [hs];have hE:aaf (some (o,v))=([],false):=if_pos (.inl ho0);have g00:((0:Int) == 0)=true:=rfl;rw [hE]
      push_cast [f00,g00,ho0,td,tg,t9]
    ·push_cast [ap6,ap5,ap7,ho0,hv0,t9,zaa,hM,zai,zad]
     refine c7 (fun hd=>?_) (fun hd=>?_)
     ·have hd:=of_decide_eq_true hd;have hi2:i<fs.length:=by omega
      have hg:=hget hi2;have hsp:=hstep hi2;have hdb:=hFb hi2;rw [hsp] at hs;clear hsp;generalize fs[i]=F at *;have hft:=amq F.2.2.2 hdb;have hvt:=aid F.2.2.2 hdb;generalize bt F.2.2.2=FD at *;generalize lj F.2.2.2=VD at *
      push_cast [hg,zaa,hM,zap,zau,zaf]
      refine And.intro (by omega) ?_;cases e2:((F.1:Int) == 2) with
      | true=>
       have e2':F.1=2:=by have:=eq_of_beq e2; omega
       push_cast [e2]
       refine a5 hft rfl trivial ?_
       push_cast [Fea.rv]
       cases ok:FD.2 with
       | false=>
        rw [if_pos e2',ok] at hs
        push_cast
        rw [hs];exact ⟨rfl,rfl⟩
       | true=>
        rw [if_pos e2',ok] at hs
        push_cast [w1]
        refine ⟨by simp,by first | omega | exact ⟨by omega,by omega⟩,⟨i+1,o++[FD.1],v,by omega,by simp; omega,by omega,hs,by simp [ho0,hv0],by simp [ho0,hv0,Fea.rv,t9,zao]⟩,by omega⟩
      | false=>
       have e2':¬F.1=2:=by have:=beq_eq_false_iff_ne.1 e2; omega
       rw [if_neg e2'] at hs;cases e4:((F.1:Int) == 4) with
       | true=>
        have e4':F.1=4:=by have:=eq_of_beq e4; omega
        rw [if_pos e4'] at hs
        push_cast [e2,e4]
        refine a5 hvt rfl trivial ?_
        push_cast [w1]
        refine ⟨by simp,by first | omega | exact ⟨by omega,by omega⟩,⟨i+1,o,v++[VD],by omega,by omega,by simp; omega,hs,by simp [ho0,hv0],by simp [ho0,hv0,Fea.rv,t9,zao]⟩,by omega⟩
       | false=>
        have e4':¬F.1=4:=by have:=beq_eq_false_iff_ne.1 e4; omega
        rw [if_neg e4'] at hs
        push_cast [e2,e4,w1]
        exact ⟨⟨i+1,o,v,by omega,by omega,by omega,hs,by simp [ho0,hv0],by simp [ho0,hv0,Fea.rv,t9]⟩,by omega⟩
     ·have hd:=of_decide_eq_false hd;have hi2:i=fs.length:=by omega
      subst hi2;rw [zcb,x7] at hs;rw [hs];have hL:o.length≠0:=fun e=>ho0 (zbk.1 e);have hE:aaf (some (o,v))=([],false):=if_pos (.inr (by rw [hv0,zab]; omega));have n0:((o.length:Int) == 0)=false:=beq_eq_false_iff_ne.2 (by omega);have w4:IntKind.i64.wrap (4*(o.length:Int))=4*o.length:=a7 (by omega);have n4:((0:Int) != 4*(o.length:Int))=true:=bne_iff_ne.2 (by omega);rw [hE]
      push_cast [f00,n0,w4,n4,td,tg,t9]
      done
    ·push_cast [ap6,ap5,ap7,ho0,hv0,t9,zaa,hM,zai,zad]
     refine c7 (fun hd=>?_) (fun hd=>?_)
     ·have hd:=of_decide_eq_true hd;have hi2:i<fs.length:=by omega
      have hg:=hget hi2;have hsp:=hstep hi2;have hdb:=hFb hi2;rw [hsp] at hs;clear hsp;generalize fs[i]=F at *;have hft:=amq F.2.2.2 hdb;have hvt:=aid F.2.2.2 hdb;generalize bt F.2.2.2=FD at *;generalize lj F.2.2.2=VD at *
      push_cast [hg,zaa,hM,zap,zau,zaf]
      refine And.intro (by omega) ?_;cases e2:((F.1:Int) == 2) with
      | true=>
       have e2':F.1=2:=by have:=eq_of_beq e2; omega
       push_cast [e2]
       refine a5 hft rfl trivial ?_
       push_cast [Fea.rv]
       cases ok:FD.2 with
       | false=>
        rw [if_pos e2',ok] at hs
        push_cast
        rw [hs];exact ⟨rfl,rfl⟩
       | true=>
        rw [if_pos e2',ok] at hs
        push_cast [w1]
        refine ⟨by simp,by first | omega | exact ⟨by omega,by omega⟩,⟨i+1,o++[FD.1],v,by omega,by simp; omega,by omega,hs,by simp [ho0,hv0],by simp [ho0,hv0,Fea.rv,t9,zao]⟩,by omega⟩
      | false=>
       have e2':¬F.1=2:=by have:=beq_eq_false_iff_ne.1 e2; omega
       rw [if_neg e2'] at hs;cases e4:((F.1:Int) == 4) with
       | true=>
        have e4':F.1=4:=by have:=eq_of_beq e4; omega
        rw [if_pos e4'] at hs
        push_cast [e2,e4]
        refine a5 hvt rfl trivial ?_
        push_cast [w1]
        refine ⟨by simp,by first | omega | exact ⟨by omega,by omega⟩,⟨i+1,o,v++[VD],by omega,by omega,by simp; omega,hs,by simp [ho0,hv0],by simp [ho0,hv0,Fea.rv,t9,zao]⟩,by omega⟩
       | false=>
        have e4':¬F.1=4:=by have:=beq_eq_false_iff_ne.1 e4; omega
        rw [if_neg e4'] at hs
        push_cast [e2,e4,w1]
        exact ⟨⟨i+1,o,v,by omega,by omega,by omega,hs,by simp [ho0,hv0],by simp [ho0,hv0,Fea.rv,t9]⟩,by omega⟩
     ·have hd:=of_decide_eq_false hd;have hi2:i=fs.length:=by omega
      subst hi2;rw [zcb,x7] at hs;rw [hs];have hL:o.length≠0:=fun e=>ho0 (zbk.1 e);have n0:((o.length:Int) == 0)=false:=beq_eq_false_iff_ne.2 (by omega);have w4:IntKind.i64.wrap (4*(o.length:Int))=4*o.length:=a7 (by omega);by_cases h4:v.length=4*o.length
      ·have hE:aaf (some (o,v))=(ab7 o v,true):=if_neg (fun h=>h.elim ho0 (fun h=>h h4));have n4:((v.length:Int) != 4*(o.length:Int))=false:=by rw [h4]; simp
       rw [hE]
       push_cast [f00,n0,w4,n4,td,tg]
       refine run_loop [(83,false),(82,false),(7,false),(8,false)] (fun vs pos los=>∃j:Nat,j≤o.length∧vs=[int .i64 j,int .i64 o.length,.own 2000000 0 0 o.length,.own 2000001 0 0 v.length]∧pos=[]∧los=[n7 (qu o v j),a0x v])
        (fun vs _ _=>match vs with | .r (.v (.int _ a))::_=>(o.length-a).toNat | _=>0) rfl ?_ ?_
       ·push_cast [t9]
        exact ⟨0,by omega,rfl,by rw [bdi]; rfl⟩
       ·rintro vs pos los ⟨j,hj,rfl,rfl,rfl⟩;have w1:IntKind.i64.wrap ((j:Int)+1)=j+1:=a7 (by omega);have w5:IntKind.i64.wrap (4*(j:Int))=4*j:=a7 (by omega);have hfl2:=alm o v j
        push_cast [hfl2,t9,zaa]
        refine c7 (fun hd=>?_) (fun hd=>?_)
        ·have hd:=of_decide_eq_true hd;have hi2:j<o.length:=by omega
         have n5:(4*(j:Int)).toNat=4*j:=by omega
         have hP:=a89 o v (Nat.le_refl j) hi2;have hnx:=a2c o v hi2;generalize o.getD j default=P at *
         have hgF:((qu o v j).map Fea.rv).getD j t9=.agg [.v (.int .u64 P.w),.sl 2 (P.ring.map ptR),.v (.int .i64 P.c),.v (.int .i64 P.s),.v (.int .i64 P.lo),.v (.int .i64 P.hi)]:=by
          rw [zah,zaq,hP]; rfl
         have hset:∀x,(((qu o v j).map Fea.rv).set j x).getD j t9=x:=fun x=>by
          rw [zah,List.getElem?_set_self (by rw [zaa,hfl2]; exact hi2)]; rfl
         push_cast [w1,w5,hfl2,n5,bgv,hgF,hset,List.set_set,List.take_succ_cons,List.take_zero,List.drop_succ_cons,List.drop_zero,zad,zai,zaj,zbr,zak,Nat.add_zero,zaa,List.length_set,zap,zau,zaf]
         repeat refine And.intro (by omega) ?_
         refine And.intro (by kernel_rfl) ⟨⟨j+1,by omega,rfl,?_⟩,by omega⟩;rw [hnx];simp only [n7,List.map_set,aro,Fea.rv,a0x]
        ·have hd:=of_decide_eq_false hd;obtain rfl:j=o.length:=by omega
         rw [a5x]
         push_cast [hfl2,t9,zaa]
         rw [show (ab7 o v).length=o.length by simp [ab7]];exact ⟨rfl,rfl⟩
      ·have hE:aaf (some (o,v))=([],false):=if_pos (.inr h4);have n4:((v.length:Int) != 4*(o.length:Int))=true:=bne_iff_ne.2 (by omega);rw [hE]
       push_cast [f00,n0,w4,n4,td,tg,t9]

def ah5:Mk P0 f47:={ x:=_ }
theorem al5:d5 47 2 ah5:=c8 func47
def yz:Mk P0 f22:={ x:=_ }
theorem aoj:d5 22 1 yz:=c8 func22
theorem a9k {l:List Int} (h:u64L l):∀j,in64 (aal l j).1∧in64 (aal l j).2
 | 0=>⟨avb _ (aei h 1).1 (aei h 1).2,avb _ (aei h 2).1 (aei h 2).2⟩
 | j+1=>⟨aeh _,aeh _⟩
theorem a7v {l:List Int} (h:u64L l):i64P (mc l):=fun p hp=>by
 unfold mc at hp;split at hp
 ·obtain ⟨j,_,rfl⟩:=zan.1 hp;exact a9k h j
 ·simp at hp
theorem a37 (l:List Int):(mc l).length≤l.length:=by
 unfold mc;split
 ·rename_i h
  have:9≤l.length:=by
   simp only [mj,zbp,decide_eq_true_eq] at h;exact h.1
  simp only [mw,zaa,List.length_range];omega
 ·simp
theorem a9a (b:List UInt8) (hb:b.length≤100000):(bt b).1.ok:=by
 unfold bt;split
 ·rename_i x y z u e;have hx:=ip e x (by simp);have hu:=ip e u (by simp);have hn:=aue u.2.2.2;have hr:=a37 (dv u.2.2.2);refine ⟨by simp only; omega,?_,a7v (aud _),by refine ⟨?_,?_,?_,?_⟩<;>(show in64 0; decide)⟩;simp only;omega
 ·exact ⟨by decide,by decide,fun p hp=>by simp at hp,by decide⟩
theorem ba8 (b:List UInt8):in64 (lj b):=by
 unfold lj;split
 ·rename_i x e;have hx:=ip e x (by simp);exact avb _ (by omega) (by omega)
 ·decide
theorem ain:∀(fs:List Fld) (o:List Fea) (v:List Int),(∀x∈fs,x.2.2.2.length≤100000)→(∀f∈o,f.ok)→(∀n∈v,in64 n)→∀p,x7 fs o v=some p→(∀f∈p.1,f.ok)∧(∀n∈p.2,in64 n)∧p.1.length≤o.length+fs.length
 | [],o,v,h,ho,hv,p,e=>by
  cases e;exact ⟨ho,hv,by simp⟩
 | x::r,o,v,h,ho,hv,p,e=>by
  have hr:∀y∈r,y.2.2.2.length≤100000:=fun y hy=>h y (by simp [hy]);rw [x7] at e;split at e
  ·split at e
   ·obtain ⟨a,b,c⟩:=ain r _ _ hr (fun f hf=>by
     rcases zba.1 hf with hf | hf
     ·exact ho f hf
     ·rw [zay.1 hf]
      exact a9a _ (h x (by simp))) hv p e
    refine ⟨a,b,?_⟩;simp only [zae,zac,zab] at c ⊢;omega
   ·cases e
  ·split at e
   ·obtain ⟨a,b,c⟩:=ain r _ _ hr ho (fun n hn=>by
     rcases zba.1 hn with hn | hn
     ·exact hv n hn
     ·rw [zay.1 hn]
      exact ba8 _) p e
    refine ⟨a,b,?_⟩;simp only [zac];omega
   ·obtain ⟨a,b,c⟩:=ain r _ _ hr ho hv p e;refine ⟨a,b,?_⟩;simp only [zac];omega
theorem amo {v:List Int} (h:∀n∈v,in64 n) (i:Nat):in64 (v.getD i 0):=by
 rw [zah];cases e:v[i]? with
 | none=>decide
 | some x=>exact h x (zbj e)
theorem a7d (b:List UInt8) (hb:b.length≤100000):(∀f∈(dt b).1,f.ok)∧(dt b).1.length≤b.length∧((dt b).2=true→(dt b).1≠[]):=by
 unfold dt;split
 ·rename_i x e;have hx:=ip e x (by simp);split
  ·rename_i fs e2;have hl:=ack e2;have hf:=ip e2;cases hs:x7 fs [] [] with
   | none=>exact ⟨by simp [aaf],by simp [aaf],by simp [aaf]⟩
   | some p=>
    obtain ⟨o,v⟩:=p;obtain ⟨a,b,c⟩:=ain fs [] [] (fun y hy=>by have:=hf y hy; omega) (by simp) (by simp) _ hs;simp only [zab] at c;simp only [aaf];split
    ·exact ⟨by simp,by simp,by simp⟩
    ·rename_i hn;have hL:o.length≠0:=fun e=>hn (.inl (zbk.1 e));refine ⟨fun f hf=>?_,?_,fun _ e=>hL ?_⟩
     ·obtain ⟨i,hi,rfl⟩:=zan.1 hf;have hg:=agb a (zbg.1 hi);exact ⟨hg.1,hg.2.1,hg.2.2.1,amo b _,amo b _,amo b _,amo b _⟩
     ·simp only [ab7,zaa,List.length_range];omega
     ·have:=congrArg List.length e;simpa [ab7] using this
  ·exact ⟨by simp,by simp,by simp⟩
 ·exact ⟨by simp,by simp,by simp⟩
theorem a9u (a b:List UInt8) (ha:a.length≤1000000000000) (hb:b.length≤1000000000000):a8 P0 47 [sb a,sb b] [] (bl (decide (a=b))) []:=by
 refine al5 rfl (by decide) ?_;have hmx:=j7
 push_cast [ah5,a2s,ayn,a6l,zab]
 by_cases h:a=b
 ·subst h; simp
 ·rw [decide_eq_false h,beq_eq_false_iff_ne.2 h]
theorem a5u (l:List UInt8):ea (qg l):=fun x hx=>by
 obtain ⟨c,_,rfl⟩:=zan.1 hx;exact trivial
def rdT (b:List UInt8):Option (List Fea):=if b=[] then some [] else if (dt b).2=true∧ak (dt b).1=b then some (dt b).1 else none
def rdR:Option (List Fea)→AV
 | none=>.tup [.nils 6 t9,int .i64 10]
 | some []=>.tup [.nils 6 t9,int .i64 0]
 | some (f::l)=>.tup [.own 1000000 0 0 (f::l).length,int .i64 0]
def rdO:Option (List Fea)→List Ob
 | none=>[]
 | some []=>[]
 | some (f::l)=>[n7 (f::l)]
theorem aou {m:List Fea} (hm:m≠[]):rdR (some m)=.tup [.own 1000000 0 0 m.length,int .i64 0]∧rdO (some m)=[n7 m]:=by
 cases m with
 | nil=>exact absurd rfl hm
 | cons=>exact ⟨rfl,rfl⟩
set_option maxHeartbeats 1000000 in
theorem asf (b:List UInt8) (hb:b.length≤100000):a8 P0 22 [sb b] [] (rdR (rdT b)) (rdO (rdT b)):=by
 refine aoj rfl (by decide) ?_;have hmx:=j7;by_cases h0:b=[]
 ·subst h0
  push_cast [yz,zbf,zab]
  rw [show rdT []=some [] from if_pos rfl];exact ⟨rfl,rfl⟩
 have hL:b.length≠0:=fun e=>h0 (zbk.1 e);have n0:((b.length:Int) == 0)=false:=beq_eq_false_iff_ne.2 (by omega);obtain ⟨q1,q2,q3⟩:=a7d b hb;have ht:=beu b (by omega);have hrd:rdT b=if (dt b).2=true∧ak (dt b).1=b then some (dt b).1 else none:=if_neg h0
 rw [hrd];generalize dt b=T at *;obtain ⟨l,ok⟩:=T;cases ok with
 | false=>
  push_cast [yz,n0,zab]
  refine a5 ht rfl trivial ?_
  push_cast [td,tg]
  exact ⟨rfl,rfl⟩
 | true=>
  have hly:=azw l (by simp only at q2; omega) q1;have hll:=arf q1;simp only at hll q2 q3;have heq:=a9u (ak l) b (by omega) (by omega)
  push_cast [yz,n0,zab]
  refine a5 ht rfl trivial ?_
  push_cast [td,tg]
  refine ku ?_;refine b9 (as':=[v8 l]) rfl ?_;refine nj hly rfl trivial trivial (by intro o ho; rw [zay.1 ho]; exact a5u _) ?_;generalize ak l=LL at *
  push_cast
  refine m0 ?_;refine b9 (as':=[sb LL,sb b]) rfl ?_;refine a5 heq rfl trivial ?_;have q3:=q3 trivial;by_cases he:LL=b
  ·have hd:decide (LL=b)=true:=decide_eq_true he;rw [if_pos he,(aou q3).1,(aou q3).2]
   push_cast [hd]
   done
  ·have hd:decide (LL=b)=false:=decide_eq_false he;rw [if_neg he]
   push_cast [hd,rdR,rdO,t9]
   done

def ake:Mk P0 f19:={ x:=_ }
theorem aok:d5 19 2 ake:=c8 func19
def x6 (L:List Pt) (t:Til) (n:Int):Fea:=⟨n,aj t (ah n.toNat t.r.toNat),((mem L n.toNat).length:Nat),aeq (mem L n.toNat),loV (mem L n.toNat),hiV (mem L n.toNat)⟩
def am (L:List Pt) (t:Til):List Fea:=(v3 L t).map (x6 L t)
def uk (L:List Pt) (t:Til):List UInt8:=if v3 L t=[] then [] else ak (am L t)
theorem aop {L:List Pt} {t:Til} {n:Int} (h:n∈v3 L t):∃p∈L,n=((p.w t.r.toNat:Nat):Int):=by
 unfold v3 at h;obtain ⟨i,hi,e⟩:=List.mem_iff_getElem.1 (zbl.1 h).1;exact ar1 (i:=i) (by rw [zaw hi,e])
theorem amc {L:List Pt} {p:Pt} (hp:p∈L) {r:Nat} (hr:r<13):mem L (p.w r)≠[]:=fun e=>by
 have:p∈mem L (p.w r):=zbl.2 ⟨hp,abl.2 ⟨r,hr,rfl⟩⟩;rw [e] at this;simp at this
theorem ayz:∀{M:List Pt},(∀p∈M,p.ok)→-2147483648*(M.length:Int)≤aeq M∧aeq M≤2147483648*(M.length:Int)
 | [],_=>by simp [aeq]
 | p::M,h=>by
  have h1:=ayz (M:=M) fun q hq=>h q (by simp [hq]);have h2:=(h p (by simp)).2.2;simp only [aeq,zax,List.sum_cons,zac] at h1 ⊢;omega
theorem bcf {t:Til} {z:Ei} (ht:tis t=true) (hb:aab z t.r.toNat):∀p∈oc t z,(-1099511627776≤p.1∧p.1≤1099511627776)∧(-1099511627776≤p.2∧p.2≤1099511627776):=fun p hp=>by
 have hin:=ahh ht;have hr:0≤t.z∧t.z≤18∧0≤t.r∧t.r≤12∧0≤t.x∧t.x<2^t.z.toNat∧0≤t.y∧t.y<2^t.z.toNat:=by simpa [tis] using ht
 have hsd:=yg ⟨hr.1,hr.2.1⟩;obtain ⟨q,hq,rfl⟩:=zan.1 hp;obtain ⟨i,hi,rfl⟩:=zan.1 hq;have:=hb i (zbg.1 hi);have e:aim t=2^(30-t.z).toNat:=rfl;rw [Int.add_mul,Int.one_mul,Int.add_mul,Int.one_mul] at hin;simp only [shP,e];generalize t.x*2^(30-t.z).toNat=A at *;generalize t.y*2^(30-t.z).toNat=B at *;omega
theorem a5y {L:List Pt} (hL:L.length<50) (hok:∀p∈L,p.ok) {t:Til} (hti:tis t=true) {p:Pt} (hp:p∈L):(x6 L t ((p.w t.r.toNat:Nat):Int)).ok:=by
 have hr:0≤t.z∧t.z≤18∧0≤t.r∧t.r≤12∧0≤t.x∧t.x<2^t.z.toNat∧0≤t.y∧t.y<2^t.z.toNat:=by simpa [tis] using hti
 have hpo:=hok p hp;have hwr:=Pt.w_res hpo (show t.r.toNat<13 by omega);have hk:=xi p.x p.y t.r.toNat hpo.2.1.1 hpo.2.1.2 (by omega);obtain ⟨c1,c2,c3,c4⟩:=xz t.r.toNat _ hk;have hz:ah (p.w t.r.toNat) t.r.toNat=i5 p.x p.y t.r.toNat:=by rw [show p.w t.r.toNat=ao t.r.toNat (i5 p.x p.y t.r.toNat) from rfl,c3]
 have hl:=awx p.x p.y t.r.toNat (by omega);have hb:aab (i5 p.x p.y t.r.toNat) t.r.toNat:=ad0 (by omega) hpo.2.1 hl;have hM:∀q∈mem L (p.w t.r.toNat),q.ok:=fun q hq=>hok q (zbl.1 hq).1;have hml:(mem L (p.w t.r.toNat)).length≤L.length:=List.length_filter_le ..;have hne:=amc hp (r:=t.r.toNat) (by omega);have hs:=ayz hM;obtain ⟨⟨a,a1,a2⟩,_⟩:=a5g hne;obtain ⟨⟨b,b1,b2⟩,_⟩:=a5p hne;have ha:=(hM a a1).2.2;have hbb:=(hM b b1).2.2;unfold x6;rw [zap,hz];refine ⟨⟨by simp only; omega,by simp only; omega⟩,?_,fun q hq=>?_,?_,?_,?_,?_⟩
 ·have:=atx t hr.2.2.2.1 (i5 p.x p.y t.r.toNat);simp only;omega
 ·have:=a7l t ⟨hr.1,hr.2.1⟩ _ (bcf hti hb) q hq;unfold in64;omega
 ·unfold in64; simp only; omega
 ·unfold in64; simp only; omega
 ·unfold in64; simp only; omega
 ·unfold in64; simp only; omega
theorem alw {L:List Pt} (hL:L.length<50) (hok:∀p∈L,p.ok) {t:Til} (hti:tis t=true):∀f∈am L t,f.ok:=fun f hf=>by
 obtain ⟨n,hn,rfl⟩:=zan.1 hf;obtain ⟨p,hp,rfl⟩:=aop hn;exact a5y hL hok hti hp
theorem afw (L:List Pt) (t:Til):(v3 L t).length≤L.length:=Nat.le_trans (List.length_filter_le ..) (aea L _)
set_option maxHeartbeats 2000000 in
theorem draw_t (L : List Pt) (hL : L.length < 50) (hok : ∀ p ∈ L, p.ok) (t : Til) (ht : t.ok) (hti : tis t = true) (hf : fine t = false) {res : AV} {ro : List Ob}
    (hres:(v3 L t=[]∧res=.tup [.nils 1 (.v (.int .u8 0)),int .i64 0]∧ro=[.abs (sT L)])∨(v3 L t≠[]∧res=.tup [.own 1000001 0 0 (uk L t).length,int .i64 0]∧ro=[.abs (sT L),qg (uk L t)])) :
    a8 P0 19 [t.v,.ptr 1000000 0 0] [.abs (sT L)] res ro:=by
  refine aok rfl (by simp) ?_;have hmx:=j7;have hc:=a66 L hL hok t ht hti hf;have hsl:=afw L t;have hsa:=fun n h=>aop (L:=L) (t:=t) (n:=n) h;have f00:((0:Int) != 0)=false:=rfl;have hdk:=alw hL hok hti;have hdl:uk L t=if v3 L t=[] then [] else ak (am L t):=rfl
  rw [hdl] at hres;have hdn:am L t=(v3 L t).map (x6 L t):=rfl;rw [hdn] at hdk hres;clear hdl hdn;generalize v3 L t=S at *;simp only [ake,Til.v,push_cast,↓reduceIte,reduceCtorEq,zB,zE,zA,zS,zL,zD,zM];refine b9 (as':=[t.v,.ptr 1000000 0 0]) rfl ?_;refine a5 hc rfl ⟨rfl,trivial⟩ ?_;by_cases hS:S=[]
  · subst hS;have g00:((0:Int) == 0)=true:=rfl;rcases hres with ⟨_,rfl,rfl⟩ | ⟨h,_⟩
    · simp only [z7,f00,g00,push_cast,↓reduceIte,reduceCtorEq,zB,zE,zA,zS,zL,zD,zM]
    · exact absurd rfl h
  have hSl:S.length≠0:=fun e=>hS (zbk.1 e);have n0:((S.length:Int) == 0)=false:=beq_eq_false_iff_ne.2 (by omega);simp only [z7,f00,n0,push_cast,↓reduceIte,reduceCtorEq,zB,zE,zA,zS,zL,zD,zM];rcases hres with ⟨h,_⟩ | ⟨_,rfl,rfl⟩
  · exact absurd h hS
  rw [if_neg hS];have hT:∀i,((S.take i).map (x6 L t)).length≤50:=fun i=>by simp; omega
  refine run_loop [(29, false), (28, false), (27, false), (8, false), (2, false), (1, false)] (fun vs pos los => ∃ i : Nat, i ≤ S.length ∧ pos = [.abs (sT L)] ∧
      (i=0∧vs=[int .i64 i,int .i64 S.length,.own 2000000 0 0 S.length,.nils 6 t9,.ptr 2000001 0 0,.ptr 1000000 0 0]∧los=[z7 S,.box [int .i64 t.z,int .i64 t.x,int .i64 t.y,int .i64 t.r]] ∨
       0<i∧vs=[int .i64 i,int .i64 S.length,.own 2000000 0 0 S.length,.own 2000001 0 0 i,.ptr 2000002 0 0,.ptr 1000000 0 0]∧los=[z7 S,n7 ((S.take i).map (x6 L t)),.box [int .i64 t.z,int .i64 t.x,int .i64 t.y,int .i64 t.r]]))
    (fun vs _ _=>match vs with | .r (.v (.int _ a))::_=>(S.length-a).toNat | _=>0) rfl ?_ ?_
  · simp only [t9,z7,push_cast,↓reduceIte,reduceCtorEq,zB,zE,zA,zS,zL,zD,zM];exact ⟨0,by omega,by simp⟩
  · rintro vs pos los ⟨i,hi,rfl,hc⟩;have w1:IntKind.i64.wrap ((i:Int)+1)=i+1:=a7 (by omega)
    have hstep:i<S.length→∃p∈L,S[i]?=some ((p.w t.r.toNat:Nat):Int):=fun h=>by
      obtain ⟨p,hp,e⟩:=hsa S[i] (zbw h);exact ⟨p,hp,by rw [zaw h,e]⟩
    have hr:0≤t.z∧t.z≤18∧0≤t.r∧t.r≤12∧0≤t.x∧t.x<2^t.z.toNat∧0≤t.y∧t.y<2^t.z.toNat:=by simpa [tis] using hti
    rcases hc with ⟨h0,rfl,rfl⟩ | ⟨h0,rfl,rfl⟩
    · subst h0;have dS:decide ((0:Int)<(S.length:Int))=true:=decide_eq_true (by omega);obtain ⟨p,hp,hn⟩:=hstep (by omega);have hpo:=hok p hp;have hk:=xi p.x p.y t.r.toNat hpo.2.1.1 hpo.2.1.2 (by omega);obtain ⟨c1,c2,c3,c4⟩:=xz t.r.toNat _ hk;have hz:ah (p.w t.r.toNat) t.r.toNat=i5 p.x p.y t.r.toNat:=by rw [show p.w t.r.toNat=ao t.r.toNat (i5 p.x p.y t.r.toNat) from rfl,c3]
      have hb:=ad0 (by omega) hpo.2.1 (awx p.x p.y t.r.toNat (by omega));have hvs:=avk t hti hf (i5 p.x p.y t.r.toNat) hk hb;have hcy:=axr L (p.w t.r.toNat) (amc hp (by omega));have hfe:x6 L t ((p.w t.r.toNat:Nat):Int)=⟨(p.w t.r.toNat:Nat),aj t (i5 p.x p.y t.r.toNat),((mem L (p.w t.r.toNat)).length:Nat),aeq (mem L (p.w t.r.toNat)),loV (mem L (p.w t.r.toNat)),hiV (mem L (p.w t.r.toNat))⟩:=by unfold x6; rw [zap,hz]
      have hwe:p.w t.r.toNat=ao t.r.toNat (i5 p.x p.y t.r.toNat):=rfl;rw [← hwe] at hvs;have hgU:=fun z=>acj hn z;have hgU0:=fun z=>adw hn z;simp only [zbe] at hgU hgU0 w1
      have hnx:(S.take 1).map (x6 L t)=[x6 L t ((p.w t.r.toNat:Nat):Int)]:=by
        rw [zbo,hn]; rfl
      generalize aj t (i5 p.x p.y t.r.toNat)=Q at *;have htq:zav Q.length (Q.map ptR)=Q.map ptR:=o8 Q;simp only [t9,z7,dS,hgU,hgU0,zbe,push_cast,↓reduceIte,reduceCtorEq,zB,zE,zA,zS,zL,zD,zM];refine And.intro (by omega) ?_;refine a5 hcy rfl ⟨rfl,trivial⟩ ?_;simp only [push_cast,↓reduceIte,reduceCtorEq,zB,zE,zA,zS,zL,zD,zM];refine u6 (as':=[t.v,uw (p.w t.r.toNat:Nat)]) rfl ?_;refine d9 hvs rfl trivial ?_;simp only [u4,pnt,htq,w1,push_cast,↓reduceIte,reduceCtorEq,zB,zE,zA,zS,zL,zD,zM];refine And.intro (by simp) (And.intro (by omega) (And.intro (by kernel_rfl) ⟨⟨1,by omega,.inr ⟨by omega,rfl,?_⟩⟩,by omega⟩));rw [hnx,hfe]; rfl
    · simp only [t9,z7,n7,push_cast,↓reduceIte,reduceCtorEq,zB,zE,zA,zS,zL,zD,zM];refine c7 (fun hd=>?_) (fun hd=>?_)
      · have hd:=of_decide_eq_true hd;obtain ⟨p,hp,hn⟩:=hstep (by omega);have hpo:=hok p hp;have hk:=xi p.x p.y t.r.toNat hpo.2.1.1 hpo.2.1.2 (by omega);obtain ⟨c1,c2,c3,c4⟩:=xz t.r.toNat _ hk;have hz:ah (p.w t.r.toNat) t.r.toNat=i5 p.x p.y t.r.toNat:=by rw [show p.w t.r.toNat=ao t.r.toNat (i5 p.x p.y t.r.toNat) from rfl,c3]
        have hb:=ad0 (by omega) hpo.2.1 (awx p.x p.y t.r.toNat (by omega));have hvs:=avk t hti hf (i5 p.x p.y t.r.toNat) hk hb;have hcy:=axr L (p.w t.r.toNat) (amc hp (by omega));have hfe:x6 L t ((p.w t.r.toNat:Nat):Int)=⟨(p.w t.r.toNat:Nat),aj t (i5 p.x p.y t.r.toNat),((mem L (p.w t.r.toNat)).length:Nat),aeq (mem L (p.w t.r.toNat)),loV (mem L (p.w t.r.toNat)),hiV (mem L (p.w t.r.toNat))⟩:=by unfold x6; rw [zap,hz]
        have hwe:p.w t.r.toNat=ao t.r.toNat (i5 p.x p.y t.r.toNat):=rfl;rw [← hwe] at hvs;have hgU:=fun z=>acj hn z;have hgU0:=fun z=>adw hn z;generalize aj t (i5 p.x p.y t.r.toNat)=Q at *;have htq:zav Q.length (Q.map ptR)=Q.map ptR:=o8 Q;have hTi:=hT i;have htk:zav i (((S.take i).map (x6 L t)).map Fea.rv)=((S.take i).map (x6 L t)).map Fea.rv:=zao (by simp; omega)
        have hnx:(S.take (i+1)).map (x6 L t)=(S.take i).map (x6 L t)++[x6 L t ((p.w t.r.toNat:Nat):Int)]:=by
          rw [zbo,hn,zbd]; rfl
        simp only [t9,z7,hgU,hgU0,push_cast,↓reduceIte,reduceCtorEq,zB,zE,zA,zS,zL,zD,zM];refine And.intro (by omega) ?_;refine a5 hcy rfl ⟨rfl,trivial⟩ ?_;simp only [push_cast,↓reduceIte,reduceCtorEq,zB,zE,zA,zS,zL,zD,zM];refine u6 (as':=[t.v,uw (p.w t.r.toNat:Nat)]) rfl ?_;refine d9 hvs rfl trivial ?_;simp only [u4,pnt,htq,htk,w1,push_cast,↓reduceIte,reduceCtorEq,zB,zE,zA,zS,zL,zD,zM];refine And.intro (by simp) (And.intro ⟨by omega,by omega⟩ (And.intro (by kernel_rfl) ⟨⟨i+1,by omega,.inr ⟨by omega,rfl,?_⟩⟩,by omega⟩));rw [hnx,hfe,zbd]; rfl
      · have hd:=of_decide_eq_false hd;obtain rfl:i=S.length:=by omega
        rw [List.take_length];have hly:=azw (S.map (x6 L t)) (by simp; omega) hdk;have htk:zav S.length ((S.map (x6 L t)).map Fea.rv)=(S.map (x6 L t)).map Fea.rv:=zao (by simp);simp only [htk,push_cast,↓reduceIte,reduceCtorEq,zB,zE,zA,zS,zL,zD,zM];refine m0 ?_;refine b9 (as':=[v8 (S.map (x6 L t))]) rfl ?_;refine a5 hly rfl trivial ?_;simp only [push_cast,↓reduceIte,reduceCtorEq,zB,zE,zA,zS,zL,zD,zM]

theorem a7z {L:List Pt} {os:List Ob} (h:SS L os) (p:Pt) (hpo:p.ok) (hk:has L p.k=false) (hlt:L.length<2000):∃os',SS (L++[p]) os'∧a8 P0 36 [.ptr 1000000 0 0,p.av] os (bl true) (os'++[]):=by
 obtain ⟨es,c,ns,ce,cc,h,rfl⟩:=h;have hn:=az4.1 hk;obtain ⟨a1,a2,a3,a4⟩:=baj h.pm hn;refine ⟨_,⟨_,_,_,_,_,h.put hpo hn (by omega),rfl⟩,?_⟩;rw [zcc];refine a70 h hpo hn hlt (bg3 h p.k hn) a1 ⟨⟨0,0,0,0⟩,a3 _⟩ ?_;rw [a2,bfj h.pm];exact .inr ⟨rfl,by omega⟩
theorem bcj (L:List Pt) (p:Pt) (hpo:p.ok) (hk:has L p.k=false) (hlt:L.length<2000):a8 P0 36 [.ptr 1000000 0 0,p.av] [.abs (sT L)] (bl true) [.abs (sT (L++[p]))]:=
 a1j (F:=SF L) (F':=SF (L++[p])) rfl (fun os h=>a7z h p hpo hk hlt) rfl (by simp) (by simp [v9,dp])
theorem a1m (l:List Pt) (hl:l.length<2000) (hok:∀p∈l,p.ok) (hnd:(l.map (·.k)).Nodup):a8 P0 18 [.r (pts l)] [] (.ptr 1000000 0 0) [.abs (sT l)]:=by
 refine aqb rfl (by decide) ?_
 push_cast [anm,pts,zab,zaa]
 refine a5 bao rfl trivial ?_
 push_cast [zaa]
 refine run_loop [(3,false),(7,false),(8,false),(9,false)] (fun vs pos los=>∃(i:Nat),i≤l.length∧vs=[.ptr 2000000 0 0,.r (pts l),int .i64 l.length,int .i64 i]∧pos=[]∧los=[.abs (sT (l.take i))])
  (fun vs _ _=>match vs with | [_,_,_,.r (.v (.int _ j))]=>(l.length-j).toNat | _=>0) rfl ?_ ?_
 ·push_cast [pts]
  exact ⟨0,by omega,by simp⟩
 ·rintro vs pos los ⟨i,hi,rfl,rfl,rfl⟩
  push_cast [pts,zaa]
  refine c7 (fun h=>?_) (fun h=>?_)
  ·have h':i<l.length:=by simpa using h
   obtain ⟨p,hp⟩:∃p,l[i]?=some p:=⟨l[i],by simp [h']⟩
   have hj1:IntKind.i64.wrap ((i:Int)+1)=(i:Int)+1:=a7 ⟨by omega,by omega⟩;have hpm:=zbj hp;have htk:l.take (i+1)=l.take i++[p]:=by rw [zbo,hp]; rfl
   have hno:has (l.take i) p.k=false:=az4.2 fun q hq e=>by
    have hs:((l.take (i+1)).map (·.k)).Nodup:=hnd.sublist ((List.take_sublist _ _).map _);rw [htk,zbd,List.nodup_append] at hs;exact hs.2.2 q.k (List.mem_map_of_mem hq) p.k (by simp) e
   push_cast [azb hp,zaa]
   refine And.intro ⟨by omega,by omega⟩ ?_;refine b9 (as':=[.ptr 1000000 0 0,p.av]) rfl ?_;refine a5 (bcj (l.take i) p (hok p hpm) hno (by simp; omega)) rfl ⟨rfl,trivial⟩ ?_
   push_cast [hj1]
   refine ⟨⟨i+1,by omega,rfl,by rw [htk]⟩,by omega⟩
  ·have h':¬i<l.length:=by simpa using h
   push_cast
   rw [zao (by omega)]

def aaq:Mk P0 f11:={ x:=_ }
theorem aff:d5 11 0 aaq:=c8 func11
def awP:Pt:=⟨1,500,600,7⟩
def awT:Til:=⟨0,0,0,0⟩
theorem a9w:ae [awP] 0=[((awP.w 0:Nat):Int)]:=by
 unfold ae xc ahb asI;rw [show dd (List.map (fun q:Pt=>q.w 0) [awP])=[awP.w 0] from rfl];exact List.mergeSort_singleton _
theorem bjg:tw awT ((awP.w 0:Nat):Int)=true:=by decide +kernel
theorem axu:v3 [awP] awT=[((awP.w 0:Nat):Int)]:=by
 unfold v3;rw [show awT.r.toNat=0 from rfl,a9w,List.filter_cons,if_pos bjg]
 rfl
theorem a6o:v3 [] awT=[]:=by
 unfold v3;rw [show ae [] awT.r.toNat=[] from zck (by have:=aea [] awT.r.toNat; simpa using this)]
 rfl
def awF:Fea:=x6 [awP] awT ((awP.w 0:Nat):Int)
theorem bd5:uk [awP] awT=ak [awF]:=by
 unfold uk am;rw [axu,if_neg (by simp)]
 rfl
def awB (o:Option (List Fea)):Bool:=match o with | some [f]=>f.s == 7&&f.c == 1 | _=>false
theorem bd4:awB (rdT (ak [awF]))=true:=by decide +kernel
theorem a6p:(ak [awF]).length≤10000:=by decide +kernel
theorem baz:∀p∈[awP],p.ok:=fun p hp=>by rw [zay.1 hp]; decide
theorem a6n:awT.ok:=by unfold Til.ok in64; decide
theorem al7:a8 P0 11 [] [] (bl true) []:=by
 refine aff rfl (by decide) ?_;have h1:=a1m [awP] (by simp) baz (by simp);have h2:=draw_t [awP] (by simp) baz awT a6n (by decide) (by decide +kernel) (.inr ⟨by rw [axu]; simp,rfl,rfl⟩);rw [bd5] at h2;have h3:=asf (ak [awF]) (by have:=a6p; omega);have h4:=draw_t [] (by simp) (by simp) awT a6n (by decide) (by decide +kernel) (.inl ⟨a6o,rfl,rfl⟩);have hr:=bd4;have hll:=a6p;generalize ak [awF]=B at *
 obtain ⟨f,hf,f1,f2⟩:∃f,rdT B=some [f]∧f.s=7∧f.c=1:=by
  cases h:rdT B with
  | none=>rw [h] at hr; cases hr
  | some l=>
   rw [h] at hr;rcases l with _ | ⟨f,_ | ⟨g,r⟩⟩
   ·cases hr
   ·simp only [awB,zbp,beq_iff_eq] at hr;exact ⟨f,rfl,hr⟩
   ·cases hr
 rw [hf] at h3;have g1:((0:Int) == 0)=true:=rfl;have g2:((1:Int) == 1)=true:=rfl;have g3:((7:Int) == 7)=true:=rfl;simp only [aaq,push_cast,↓reduceIte,reduceCtorEq,zB,zE,zA,zS,zL,zD,zM];refine And.intro (by simp) ?_;refine m0 ?_;refine b9 (as':=[.r (pts [awP])]) rfl ?_;refine a5 h1 rfl trivial ?_;simp only [push_cast,↓reduceIte,reduceCtorEq,zB,zE,zA,zS,zL,zD,zM];refine b9 (as':=[awT.v,.ptr 1000000 0 0]) rfl ?_;refine a5 h2 rfl ⟨rfl,trivial⟩ ?_;simp only [push_cast,↓reduceIte,reduceCtorEq,zB,zE,zA,zS,zL,zD,zM];refine m0 ?_;refine b9 (as':=[sb B]) rfl ?_;refine a5 h3 rfl trivial ?_;simp only [rdR,rdO,push_cast,↓reduceIte,reduceCtorEq,zB,zE,zA,zS,zL,zD,zM];refine a5 bao rfl trivial ?_
 simp only [push_cast,↓reduceIte,reduceCtorEq,zB,zE,zA,zS,zL,zD,zM];refine b9 (as':=[awT.v,.ptr 1000000 0 0]) rfl ?_;refine a5 h4 rfl ⟨rfl,trivial⟩ ?_;simp only [g1,g2,g3,f1,f2,Fea.rv,zaj,push_cast,↓reduceIte,reduceCtorEq,zB,zE,zA,zS,zL,zD,zM];omega

def upc (c p:P2):Bool:=decide (c.2<p.2)
def wcx (c p q:P2):Int:=(q.2-c.2)*(p.1-c.1)-(q.1-c.1)*(p.2-c.2)
def wcr (c p q:P2):Int:=if upc c p=upc c q then 0 else if upc c q=true then (if 0<wcx c p q then 1 else 0) else if wcx c p q<0 then -1 else 0
def pth (c:P2):P2→List P2→Int
 | _,[]=>0
 | p,q::l=>wcr c p q+pth c q l
def wnd (c:P2):List P2→Int
 | []=>0
 | p::l=>pth c p (l++[p])
def hv (c:P2) (a b:Int) (p:P2):Int:=a*(p.1-c.1)+b*(p.2-c.2)
def phi (c:P2) (a:Int) (p:P2):Int:=if 0<a then (if upc c p=true then 1 else 0) else 0
theorem a5q {a b u v s t:Int} (hp:0<a*u+b*v) (hq:0<a*s+b*t) (hv:v≤0) (ht:0<t):0<a*(t*u-s*v):=by
 have h1:0<t*(a*u+b*v):=Int.mul_pos ht hp;have h2:0≤(-v)*(a*s+b*t):=zas (by omega) (by omega);have e:a*(t*u-s*v)=t*(a*u+b*v)+(-v)*(a*s+b*t):=by grind
 omega
theorem a3u {a w:Int} (h:0<a*w):(0<a∧0<w)∨(a<0∧w<0):=by
 rcases Int.lt_trichotomy 0 a with ha | ha | ha
 ·refine .inl ⟨ha,?_⟩;rcases Int.lt_or_le 0 w with hw | hw
  ·exact hw
  ·have:=zcl (zat ha) hw;omega
 ·rw [← ha,Int.zero_mul] at h; omega
 ·refine .inr ⟨ha,?_⟩;rcases Int.lt_or_le w 0 with hw | hw
  ·exact hw
  ·have:=Int.mul_nonpos_of_nonpos_of_nonneg (zat ha) hw;omega
theorem nl {c p q:P2} {a b:Int} (hp:0<hv c a b p) (hq:0<hv c a b q):wcr c p q=phi c a q-phi c a p:=by
 unfold wcr phi;unfold hv at hp hq;cases h1:upc c p<;>cases h2:upc c q<;>simp only [upc,decide_eq_true_eq,decide_eq_false_iff_not] at h1 h2
 ·simp
 ·have k:=a3u (a5q hp hq (by omega) (by omega:0<q.2-c.2));have e:wcx c p q=(q.2-c.2)*(p.1-c.1)-(q.1-c.1)*(p.2-c.2):=rfl;rw [← e] at k;rcases k with ⟨k1,k2⟩ | ⟨k1,k2⟩
  ·simp [k1,k2]
  ·simp [show ¬0<a by omega,show ¬0<wcx c p q by omega]
 ·have k:=a3u (a5q hq hp (by omega) (by omega:0<p.2-c.2));have e:wcx c p q=-((p.2-c.2)*(q.1-c.1)-(p.1-c.1)*(q.2-c.2)):=by unfold wcx; grind
  rcases k with ⟨k1,k2⟩ | ⟨k1,k2⟩
  ·simp [k1,show wcx c p q<0 by omega]
  ·simp [show ¬0<a by omega,show ¬wcx c p q<0 by omega]
 ·simp
theorem ask (c:P2):∀(X:List P2) (p q:P2) (Y:List P2),pth c p (X++q::Y)=pth c p (X++[q])+pth c q Y
 | [],p,q,Y=>by simp [pth]
 | x::X,p,q,Y=>by
  have:=ask c X x q Y;simp only [zad,pth] at this ⊢;omega
theorem ayt (c:P2) (A B:List P2):wnd c (A++B)=wnd c (B++A):=by
 cases A with
 | nil=>simp
 | cons a A=>
  cases B with
  | nil=>simp
  | cons b B=>
   have h1:=ask c A a b (B++[a]);have h2:=ask c B b a (A++[b]);simp only [zad,wnd,zam,zad] at h1 h2 ⊢;omega
def RP (R:P2→P2→Prop):P2→List P2→Prop
 | _,[]=>True
 | p,q::l=>R p q∧RP R q l
def RG (R:P2→P2→Prop):List P2→Prop
 | []=>True
 | p::l=>RP R p (l++[p])
theorem ax3 (R:P2→P2→Prop):∀(X:List P2) (p q:P2) (Y:List P2),RP R p (X++q::Y)↔RP R p (X++[q])∧RP R q Y
 | [],p,q,Y=>by simp [RP]
 | x::X,p,q,Y=>by
  have:=ax3 R X x q Y;simp only [zad,RP] at this ⊢;rw [this,and_assoc]
theorem a60 (R:P2→P2→Prop) (A B:List P2) (h:RG R (A++B)):RG R (B++A):=by
 cases A with
 | nil=>simpa using h
 | cons a A=>
  cases B with
  | nil=>simpa using h
  | cons b B=>
   have h1:=ax3 R A a b (B++[a]);have h2:=ax3 R B b a (A++[b]);simp only [zad,RG,zam,zad] at h h1 h2 ⊢;rw [h1] at h;rw [h2];exact ⟨h.2,h.1⟩
theorem av6 {c:P2} {a b:Int}:∀{l:List P2} {p:P2} (z:P2),0<hv c a b p→(∀q∈l,0<hv c a b q)→(p::l).getLast?=some z→pth c p l=phi c a z-phi c a p
 | [],p,z,hp,_,hz=>by simp at hz; subst hz; simp [pth]
 | q::l,p,z,hp,hl,hz=>by
  have h1:=nl hp (hl q (by simp));have h2:=av6 (l:=l) (p:=q) z (hl q (by simp)) (fun x hx=>hl x (by simp [hx])) (by simpa using hz);rw [pth,h1,h2];omega
theorem an9 {c:P2} {a b:Int} {l:List P2} (h:∀q∈l,0<hv c a b q):wnd c l=0:=by
 cases l with
 | nil=>rfl
 | cons p l=>
  have:=av6 (c:=c) (a:=a) (b:=b) (l:=l++[p]) (p:=p) p (h p (by simp)) (fun q hq=>by
   rcases zba.1 hq with hq | hq
   ·exact h q (by simp [hq])
   ·rw [zay.1 hq]; exact h p (by simp)) (by simp [List.getLast?_cons])
  rw [wnd,this];omega
theorem a64 {c:P2} {a b k:Int} (hab:a≠0∨b≠0) {l:List P2} (h:∀q∈l,a*q.1+b*q.2=k):wnd c l=0:=by
 have hm:∀q∈l,hv c a b q=k-(a*c.1+b*c.2):=fun q hq=>by
  have:=h q hq;unfold hv
  grind
 rcases Int.lt_trichotomy 0 (k-(a*c.1+b*c.2)) with hk | hk | hk
 ·exact an9 (a:=a) (b:=b) fun q hq=>by rw [hm q hq]; exact hk
 ·have hz:∀p∈l,∀q∈l,wcr c p q=0:=fun p hp q hq=>by
   have h1:=hm p hp;have h2:=hm q hq;rw [← hk] at h1 h2;unfold hv at h1 h2
   have e:wcx c p q=0:=by
    have e1:a*wcx c p q=0:=by unfold wcx; grind
    have e2:b*wcx c p q=0:=by unfold wcx; grind
    rcases hab with ha | hb
    ·exact (zcd.1 e1).resolve_left ha
    ·exact (zcd.1 e2).resolve_left hb
   unfold wcr;rw [e];simp
  have hp:∀(m:List P2) (p:P2),p∈l→(∀q∈m,q∈l)→pth c p m=0:=by
   intro m
   induction m with
   | nil=>intro p _ _; rfl
   | cons q m ih=>
    intro p hp hq;rw [pth,hz p hp q (hq q (by simp)),ih q (hq q (by simp)) (fun x hx=>hq x (by simp [hx]))]
    rfl
  cases l with
  | nil=>rfl
  | cons p l=>
   refine hp _ p (by simp) fun q hq=>?_;rcases zba.1 hq with hq | hq
   ·simp [hq]
   ·rw [zay.1 hq]; simp
 ·refine an9 (a:=-a) (b:=-b) fun q hq=>?_;have:=hm q hq;have e:hv c (-a) (-b) q=- hv c a b q:=by unfold hv; grind
  omega

def Edg (c:P2) (r:Int) (p q:P2):Prop:=∃a b A B:Int,(-A≤a∧a≤A)∧(-B≤b∧b≤B)∧0<A+B∧r*(A+B)≤hv c a b p∧r*(A+B)≤hv c a b q
theorem ak2 {a d A D:Int} (ha:-A≤a∧a≤A) (hd:-D≤d∧d≤D):-(A*D)≤a*d∧a*d≤A*D:=by
 have hA:0≤A:=by omega
 have hD:0≤D:=by omega
 rcases Int.le_total 0 d with h | h
 ·have h1:=zbu ha.1 h;have h2:=zbu ha.2 h;have h3:=zbm hd.2 hA;rw [Int.neg_mul] at h1;omega
 ·have h1:=Int.mul_le_mul_of_nonpos_right ha.1 h;have h2:=Int.mul_le_mul_of_nonpos_right ha.2 h;have h3:=zbm hd.1 hA;rw [Int.neg_mul] at h1;rw [Int.mul_neg] at h3;omega
theorem az1 {c:P2} {a b A B δ:Int} {p x:P2} (ha:-A≤a∧a≤A) (hb:-B≤b∧b≤B) (h1:-δ≤x.1-p.1∧x.1-p.1≤δ) (h2:-δ≤x.2-p.2∧x.2-p.2≤δ):hv c a b p-δ*(A+B)≤hv c a b x:=by
 have k1:=ak2 ha h1;have k2:=ak2 hb h2;have e:hv c a b x=hv c a b p+(a*(x.1-p.1)+b*(x.2-p.2)):=by unfold hv; grind
 rw [e,Int.mul_add,Int.mul_comm δ A,Int.mul_comm δ B];omega
theorem av5 {c:P2} {r:Int} {f:P2→P2} {δ:Int} (hδ:δ<r) (hf:∀p,(-δ≤(f p).1-p.1∧(f p).1-p.1≤δ)∧(-δ≤(f p).2-p.2∧(f p).2-p.2≤δ)) :
  ∀{l:List P2} {p:P2} (z:P2),RP (Edg c r) p l→(p::l).getLast?=some z→pth c (f p) (l.map f)=pth c p l-wcr c p (f p)+wcr c z (f z)
 | [],p,z,_,hz=>by simp at hz; subst hz; simp [pth]; omega
 | q::l,p,z,hR,hz=>by
  have ih:=av5 hδ hf (l:=l) (p:=q) z hR.2 (by simpa using hz);obtain ⟨a,b,A,B,ha,hb,hAB,hp,hq⟩:=hR.1;have hδ0:0≤δ:=by have:=(hf p).1; omega
  have hm:=Int.mul_lt_mul_of_pos_right hδ hAB;have g1:=az1 (c:=c) ha hb (hf p).1 (hf p).2;have g2:=az1 (c:=c) ha hb (hf q).1 (hf q).2;have hd:0≤δ*(A+B):=zas hδ0 (zat hAB);have c1:=nl (c:=c) (a:=a) (b:=b) (p:=p) (q:=q) (by omega) (by omega);have c2:=nl (c:=c) (a:=a) (b:=b) (p:=f p) (q:=f q) (by omega) (by omega);have c3:=nl (c:=c) (a:=a) (b:=b) (p:=p) (q:=f p) (by omega) (by omega);have c4:=nl (c:=c) (a:=a) (b:=b) (p:=q) (q:=f q) (by omega) (by omega);simp only [zax,pth];rw [ih,c1,c2,c3,c4];omega
theorem a63 {c:P2} {r:Int} {f:P2→P2} {δ:Int} (hδ:δ<r) (hf:∀p,(-δ≤(f p).1-p.1∧(f p).1-p.1≤δ)∧(-δ≤(f p).2-p.2∧(f p).2-p.2≤δ)) {l:List P2} (h:RG (Edg c r) l):wnd c (l.map f)=wnd c l:=by
 cases l with
 | nil=>rfl
 | cons p l=>
  have:=av5 hδ hf (l:=l++[p]) (p:=p) p h (by simp [List.getLast?_cons]);simp only [zax,wnd];rw [zbd] at this;simp only [zax,zbf] at this;rw [this];omega
theorem a9j {l:Lin} (hl:l.ok) {c p q:P2} (hb':fp l p q=true) {a b A B r:Int} (ha:-A≤a∧a≤A) (hb:-B≤b∧b≤B) (hp:r*(A+B)≤hv c a b p) (hq:r*(A+B)≤hv c a b q):(r-1)*(A+B)≤hv c a b (s6 l p q):=by
 have key:∀(d w e hp hq hx B' K:Int),0<d→0<w→w<d→0≤e→e<d→K≤hp→K≤hq→(∃b',-B'≤b'∧b'≤B'∧d*hx=(d-w)*hp+w*hq-b'*e)→K-B'≤hx:=by
  intro d w e hp hq hx B' K hd hw hwd he hed h1 h2 ⟨b',b1,b2,h3⟩;have m1:=zbm h1 (show 0≤d-w by omega);have m2:=zbm h2 (zat hw);have m3:=(ak2 (D:=d) ⟨b1,b2⟩ (⟨by omega,by omega⟩:-d≤e∧e≤d)).2
  have m4:d*(K-B')≤d*hx:=by
   rw [h3];have:d*(K-B')=(d-w)*K+w*K-B'*d:=by grind
   omega
  exact zcm m4 hd
 have hAB:(r-1)*(A+B)=r*(A+B)-(A+B):=by grind
 have hA0:0≤A:=by omega
 have hB0:0≤B:=by omega
 obtain ⟨ax,at',ab⟩:=l;have fdm:∀e d:Int,0<d→∃ε,0≤ε∧ε<d∧d*(e/d)=e-ε:=fun e d hd=>⟨e%d,zce _ (by omega),zcf _ hd,by have:=zcg e d; omega⟩
 rcases hl with h | h<;>simp only at h<;>subst h
 ·simp only [fp,sel,if_true,Bool.or_eq_true,zbp,decide_eq_true_eq] at hb';rcases hb' with ⟨h1,h2⟩ | ⟨h1,h2⟩
  ·obtain ⟨ε,e0,e1,e2⟩:=fdm ((q.2-p.2)*(at'-p.1)) (q.1-p.1) (by omega)
   have hx:s6 ⟨0,at',ab⟩ p q=(at',p.2+(q.2-p.2)*(at'-p.1)/(q.1-p.1)):=by
    simp [s6,sel,show ¬q.1-p.1<0 by omega,show 0<q.1-p.1 by omega];intro h; omega
   have:=key (q.1-p.1) (at'-p.1) ε (hv c a b p) (hv c a b q) (hv c a b (s6 ⟨0,at',ab⟩ p q)) B (r*(A+B)) (by omega) (by omega) (by omega) e0 e1 hp hq ⟨b,hb.1,hb.2,by
    rw [hx]; unfold hv; simp only; generalize (q.2-p.2)*(at'-p.1)/(q.1-p.1)=n at e2 ⊢; grind⟩
   omega
  ·obtain ⟨ε,e0,e1,e2⟩:=fdm (-((q.2-p.2)*(at'-p.1))) (-(q.1-p.1)) (by omega)
   have hx:s6 ⟨0,at',ab⟩ p q=(at',p.2 + -((q.2-p.2)*(at'-p.1)) / -(q.1-p.1)):=by
    simp [s6,sel,show q.1-p.1<0 by omega]
   have:=key (-(q.1-p.1)) (-(at'-p.1)) ε (hv c a b p) (hv c a b q) (hv c a b (s6 ⟨0,at',ab⟩ p q)) B (r*(A+B)) (by omega) (by omega) (by omega) e0 e1 hp hq ⟨b,hb.1,hb.2,by
    rw [hx]; unfold hv; simp only; generalize -((q.2-p.2)*(at'-p.1)) / -(q.1-p.1)=n at e2 ⊢; grind⟩
   omega
 ·simp only [fp,sel,show ¬((1:Int)=0) by decide,if_false,Bool.or_eq_true,zbp,decide_eq_true_eq] at hb';rcases hb' with ⟨h1,h2⟩ | ⟨h1,h2⟩
  ·obtain ⟨ε,e0,e1,e2⟩:=fdm ((q.1-p.1)*(at'-p.2)) (q.2-p.2) (by omega)
   have hx:s6 ⟨1,at',ab⟩ p q=(p.1+(q.1-p.1)*(at'-p.2)/(q.2-p.2),at'):=by
    simp [s6,sel,show ¬q.2-p.2<0 by omega,show 0<q.2-p.2 by omega];intro h; omega
   have:=key (q.2-p.2) (at'-p.2) ε (hv c a b p) (hv c a b q) (hv c a b (s6 ⟨1,at',ab⟩ p q)) A (r*(A+B)) (by omega) (by omega) (by omega) e0 e1 hp hq ⟨a,ha.1,ha.2,by
    rw [hx]; unfold hv; simp only; generalize (q.1-p.1)*(at'-p.2)/(q.2-p.2)=n at e2 ⊢; grind⟩
   omega
  ·obtain ⟨ε,e0,e1,e2⟩:=fdm (-((q.1-p.1)*(at'-p.2))) (-(q.2-p.2)) (by omega)
   have hx:s6 ⟨1,at',ab⟩ p q=(p.1 + -((q.1-p.1)*(at'-p.2)) / -(q.2-p.2),at'):=by
    simp [s6,sel,show q.2-p.2<0 by omega]
   have:=key (-(q.2-p.2)) (-(at'-p.2)) ε (hv c a b p) (hv c a b q) (hv c a b (s6 ⟨1,at',ab⟩ p q)) A (r*(A+B)) (by omega) (by omega) (by omega) e0 e1 hp hq ⟨a,ha.1,ha.2,by
    rw [hx]; unfold hv; simp only; generalize -((q.1-p.1)*(at'-p.2)) / -(q.2-p.2)=n at e2 ⊢; grind⟩
   omega

def aio (l:Lin):P2→List P2→List P2
 | _,[]=>[]
 | p,q::r=>qj l p q++q::aio l q r
theorem at0 (l:Lin):∀(r:List P2) (p n:P2),cu l (prs n (p::r))++[n]=p::aio l p (r++[n])
 | [],p,n=>by simp [prs,cu,aio]
 | q::r,p,n=>by
  have:=at0 l r q n;rw [prs];unfold cu at this ⊢;rw [List.flatMap_cons];simp only [zad,zam,aio];rw [this]
def loW (l:Lin) (v:P2):Prop:=if l.above=true then sel l.axis v≤l.at' else l.at'≤sel l.axis v
def Stp (l:Lin) (u v:P2):Prop:=(q7 l u=false→loW l v)∧(q7 l v=false→loW l u)
theorem a38 {l:Lin} {v:P2} (h:q7 l v=false):loW l v:=by
 unfold q7 at h;unfold loW;split at h<;>rename_i h'<;>simp only [decide_eq_false_iff_not] at h<;>simp [h']<;>omega
theorem bez {l:Lin} {p q:P2} (h:fp l p q=false):Stp l p q:=by
 unfold fp at h;unfold Stp loW q7;simp only [Bool.or_eq_false_iff,Bool.and_eq_false_iff,decide_eq_false_iff_not] at h;split<;>simp only [decide_eq_false_iff_not]<;>omega
theorem bap {l:Lin} (hl:l.ok) (p q:P2):loW l (s6 l p q):=by
 unfold loW;rw [a9i hl];split<;>omega
theorem av2 {l:Lin} (hl:l.ok) {c:P2} {ρ:Int} (hρ:2≤ρ):∀{r:List P2} {p:P2},RP (Edg c ρ) p r→pth c p (aio l p r)=pth c p r∧RP (fun u v=>Edg c (ρ-1) u v∧Stp l u v) p (aio l p r)
 | [],p,_=>⟨rfl,trivial⟩
 | q::r,p,h=>by
  obtain ⟨i1,i2⟩:=av2 hl hρ h.2;obtain ⟨a,b,A,B,ha,hb,hAB,hp,hq⟩:=h.1;have hs:(ρ-1)*(A+B)=ρ*(A+B)-(A+B):=by grind
  have h0:0<(ρ-1)*(A+B):=Int.mul_pos (by omega) hAB;rw [aio];unfold qj;cases hx:fp l p q with
  | false=>
   simp only [Bool.false_eq_true,if_false,zai,pth,RP,i1];exact ⟨trivial,⟨⟨a,b,A,B,ha,hb,hAB,by omega,by omega⟩,bez hx⟩,i2⟩
  | true=>
   have hh:=a9j hl hx ha hb hp hq;have c1:=nl (c:=c) (a:=a) (b:=b) (p:=p) (q:=s6 l p q) (by omega) (by omega);have c2:=nl (c:=c) (a:=a) (b:=b) (p:=s6 l p q) (q:=q) (by omega) (by omega);have c3:=nl (c:=c) (a:=a) (b:=b) (p:=p) (q:=q) (by omega) (by omega);have hk:=agw l hl p q;simp only [if_true,zad,zai,pth,RP,i1,c1,c2,c3];refine ⟨by omega,⟨⟨a,b,A,B,ha,hb,hAB,by omega,hh⟩,fun _=>bap hl p q,fun h=>?_⟩,⟨⟨a,b,A,B,ha,hb,hAB,hh,by omega⟩,fun h=>?_,fun _=>bap hl p q⟩,i2⟩
   ·rw [hk] at h; cases h
   ·rw [hk] at h; cases h
theorem axc {c:P2} {E:P2→P2→Prop} {k:P2→Bool} {Lo:P2→Prop} {φ:P2→Int} (hlow:∀u v,Lo u→Lo v→E u v∧wcr c u v=φ v-φ u) (hk:∀v,k v=false→Lo v) :
  ∀(l:List P2) (p:P2),RP (fun u v=>E u v∧((k u=false→Lo v)∧(k v=false→Lo u))) p l→(∃z,(p::l).getLast?=some z∧k z=true) →
   (k p=true→pth c p (l.filter k)=pth c p l∧RP E p (l.filter k))∧(k p=false→∀u,Lo u→pth c u (l.filter k)=pth c p l+(φ p-φ u)∧RP E u (l.filter k))
 | [],p,_,⟨z,hz,hkz⟩=>by
  simp at hz;subst hz;exact ⟨fun _=>⟨rfl,trivial⟩,fun h=>by rw [hkz] at h; cases h⟩
 | q::l,p,h,⟨z,hz,hkz⟩=>by
  obtain ⟨⟨h1,h2,h3⟩,h4⟩:=h;obtain ⟨i1,i2⟩:=axc hlow hk l q h4 ⟨z,by simpa using hz,hkz⟩;cases hq:k q with
  | true=>
   obtain ⟨j1,j2⟩:=i1 hq;rw [zcn hq];refine ⟨fun hp=>⟨by rw [pth,pth,j1],h1,j2⟩,fun hp u hu=>?_⟩;have g1:=hlow u q hu (h2 hp);have g2:=hlow p q (hk p hp) (h2 hp);rw [pth,pth,j1,g1.2,g2.2];exact ⟨by omega,g1.1,j2⟩
  | false=>
   rw [List.filter_cons_of_neg (by simp [hq])];refine ⟨fun hp=>?_,fun hp u hu=>?_⟩
   ·obtain ⟨j1,j2⟩:=i2 hq p (h3 hq);have g2:=hlow p q (h3 hq) (hk q hq);rw [j1,pth,g2.2];exact ⟨by omega,j2⟩
   ·obtain ⟨j1,j2⟩:=i2 hq u hu;have g2:=hlow p q (hk p hp) (hk q hq);rw [j1,pth,g2.2];exact ⟨by omega,j2⟩
def Ins (l:Lin) (r:Int) (c:P2):Prop:=if l.above=true then l.at'+r≤sel l.axis c else sel l.axis c+r≤l.at'
theorem bgk {l:Lin} (hl:l.ok) {r:Int} {c:P2} (h:Ins l r c):∃a b A B:Int,(-A≤a∧a≤A)∧(-B≤b∧b≤B)∧A+B=1∧∀v,loW l v→r≤hv c a b v:=by
 obtain ⟨ax,at',ab⟩:=l;unfold Ins at h;unfold loW hv;rcases hl with e | e<;>simp only at e<;>subst e<;>cases ab<;>simp [sel] at h
 ·exact ⟨1,0,1,0,by omega,by omega,by omega,fun v hv'=>by simp [sel] at hv'; simp; omega⟩
 ·exact ⟨-1,0,1,0,by omega,by omega,by omega,fun v hv'=>by simp [sel] at hv'; simp; omega⟩
 ·exact ⟨0,1,0,1,by omega,by omega,by omega,fun v hv'=>by simp [sel] at hv'; simp; omega⟩
 ·exact ⟨0,-1,0,1,by omega,by omega,by omega,fun v hv'=>by simp [sel] at hv'; simp; omega⟩
theorem amr {l:Lin} (hl:l.ok) {c:P2} {ρ:Int} (hρ:2≤ρ) {rg:List P2} (hc:Ins l ρ c) (h:RG (Edg c ρ) rg) (hw:wnd c rg≠0):RG (Edg c (ρ-1)) (y6 l rg)∧wnd c (y6 l rg)=wnd c rg:=by
 obtain ⟨a,b,A,B,ha,hb,hAB,hlo⟩:=bgk hl hc;cases rg with
 | nil=>exact absurd rfl hw
 | cons p r=>
  rw [ab8 l hl (p::r) p rfl];obtain ⟨X,hX⟩:∃X,cu l (prs p (p::r))=X:=⟨_,rfl⟩
  have e:=at0 l r p p;rw [hX] at e ⊢;obtain ⟨k1,k2⟩:=av2 hl hρ h
  have hXw:wnd c X=wnd c (p::r)∧RG (fun u v=>Edg c (ρ-1) u v∧Stp l u v) X:=by
   cases X with
   | nil=>
    exfalso;have:aio l p (r++[p])=[]:=by simpa using e.symm
    cases r<;>simp [aio] at this
   | cons x Y=>
    simp only [zad,List.cons.injEq] at e;obtain ⟨rfl,e⟩:=e;exact ⟨by show pth c x (Y++[x]) = _; rw [e]; exact k1,by show RP _ x (Y++[x]); rw [e]; exact k2⟩
  obtain ⟨w1,w2⟩:=hXw
  have:∃k∈X,q7 l k=true:=by
   apply Classical.byContradiction;intro hn;refine hw ?_;rw [← w1];refine an9 (a:=a) (b:=b) fun q hq=>?_
   have:q7 l q=false:=by
    cases hq':q7 l q with
    | false=>rfl
    | true=>exact absurd ⟨q,hq,hq'⟩ hn
   have:=hlo q (a38 this);omega
  obtain ⟨k,hk,hkk⟩:=this;obtain ⟨A',B',rfl⟩:=List.append_of_mem hk;rw [ayt] at w1;have w3:=a60 _ _ _ w2
  have hf:=axc (c:=c) (E:=Edg c (ρ-1)) (k:=q7 l) (Lo:=loW l) (φ:=phi c a) (fun u v hu hv'=>by
   have g1:=hlo u hu;have g2:=hlo v hv';exact ⟨⟨a,b,A,B,ha,hb,by omega,by rw [hAB]; omega,by rw [hAB]; omega⟩,nl (b:=b) (by omega) (by omega)⟩) (fun v=>a38) (B'++A'++[k]) k (by
   rw [zad] at w3
   exact w3) ⟨k,by simp [List.getLast?_cons],hkk⟩
  obtain ⟨f1,f2⟩:=hf.1 hkk;have e2:(A'++k::B').filter (q7 l)=A'.filter (q7 l)++(k::B'.filter (q7 l)):=by rw [zch,zcn hkk]
  have e3:(B'++A'++[k]).filter (q7 l)=B'.filter (q7 l)++A'.filter (q7 l)++[k]:=by rw [zch,zch,zcn hkk]; rfl
  rw [e3] at f1 f2;rw [e2];refine ⟨a60 _ (k::B'.filter (q7 l)) _ f2,?_⟩;rw [ayt,← w1];exact f1
theorem bd1 {lo hi c:P2} {ρ:Int} (hρ:5≤ρ) {rg:List P2} (h1:lo.1+ρ≤c.1∧c.1+ρ≤hi.1) (h2:lo.2+ρ≤c.2∧c.2+ρ≤hi.2) (h:RG (Edg c ρ) rg) (hw:wnd c rg≠0):RG (Edg c (ρ-4)) (xw lo hi rg)∧wnd c (xw lo hi rg)=wnd c rg:=by
 obtain ⟨a1,b1⟩:=amr (l:=⟨0,lo.1,true⟩) (.inl rfl) (by omega) (by simp [Ins,sel]; omega) h hw;obtain ⟨a2,b2⟩:=amr (l:=⟨0,hi.1,false⟩) (.inl rfl) (by omega) (by simp [Ins,sel]; omega) a1 (by rw [b1]; exact hw);obtain ⟨a3,b3⟩:=amr (l:=⟨1,lo.2,true⟩) (.inr rfl) (by omega) (by simp [Ins,sel]; omega) a2 (by rw [b2,b1]; exact hw);obtain ⟨a4,b4⟩:=amr (l:=⟨1,hi.2,false⟩) (.inr rfl) (by omega) (by simp [Ins,sel]; omega) a3 (by rw [b3,b2,b1]; exact hw);have e:xw lo hi rg=y6 ⟨1,hi.2,false⟩ (y6 ⟨1,lo.2,true⟩ (y6 ⟨0,hi.1,false⟩ (y6 ⟨0,lo.1,true⟩ rg))):=rfl;rw [e,show ρ-4=ρ-1-1-1-1 by omega];exact ⟨a4,by rw [b4,b3,b2,b1]⟩
def ax5 (l:List P2):Prop:=¬∃a b k:Int,(a≠0∨b≠0)∧∀q∈l,a*q.1+b*q.2=k
theorem a2b {c:P2} {ρ u:Int} (hu:0<u) (hρ:u<ρ) {rg:List P2} (h:RG (Edg c ρ) rg) (hw:wnd c rg≠0):ax5 (go u rg):=by
 rintro ⟨a,b,k,hab,hl⟩
 have hm:=a63 (c:=c) (r:=ρ) (f:=fun p=>(u*(p.1/u),u*(p.2/u))) (δ:=u) hρ (fun p=>by
  have e1:=zcg p.1 u;have e2:=zcg p.2 u;have m1:=zce p.1 (show u≠0 by omega);have m2:=zce p.2 (show u≠0 by omega);have m3:=zcf p.1 hu;have m4:=zcf p.2 hu;simp only
  omega) h
 refine hw ?_;rw [← hm];refine a64 (a:=a) (b:=b) (k:=u*k) hab fun q hq=>?_;obtain ⟨p,hp,rfl⟩:=zan.1 hq;have:=hl (p.1/u,p.2/u) (zan.2 ⟨p,hp,rfl⟩);simp only at this ⊢;rw [← this]
 grind

def hAb (x:Int):Int:=max x (-x)
def hN (r i:Nat):Int:=hAb (eA r i)+hAb (eB r i)
def hH (r i:Nat):Int:=eB r i*kx r i-eA r i*ky r i
def hO (r:Nat):Int:=(zal 6).foldl (fun m i=>max m (max (hAb (kx r i)) (hAb (ky r i)))) 0
theorem bc7:∀r,r<13→∀e,e<19→16*2^e*(2:Int)^e≤169*7^(12-r)→∀i,i<6→8*2^e*hN r i≤hH r i:=by decide +kernel
theorem abm:∀r,r<13→∀i,i<6→0<hN r i∧(hAb (kx r i)≤hO r∧hAb (ky r i)≤hO r)∧(hO r+1)*hN r i≤2*hH r i:=by decide +kernel
theorem bc6:∀r,r<13→∃m,m<6∧eB r m≤0∧0≤eB r ((m+5)%6)∧eB r m<eB r ((m+5)%6)∧0<eA r ((m+5)%6)*eB r m-eA r m*eB r ((m+5)%6):=by decide +kernel
theorem bc8:∀r,r<13→∃m,m<6∧0≤eB r m∧eB r ((m+5)%6)≤0∧eB r ((m+5)%6)<eB r m∧0<eA r ((m+5)%6)*eB r m-eA r m*eB r ((m+5)%6):=by decide +kernel
theorem avu {z:Ei} {r:Nat} (hr:r<13) {ly uy:Int} (hy:ly≤uy):∀(n:Nat) (lx ux:Int),lx≤ux→ux-lx≤n→aq z r lx ly ux uy=true→∃a a',lx≤a∧a≤a'∧a'≤ux∧a'≤a+1∧aq z r a ly a' uy=true
 | 0,lx,ux,h,hn,ht=>⟨lx,ux,by omega,h,by omega,by omega,ht⟩
 | n+1,lx,ux,h,hn,ht=>by
  by_cases h1:ux≤lx+1
  ·exact ⟨lx,ux,by omega,h,by omega,h1,ht⟩
  ·rcases bbd hr (m:=lx+1) (by omega) (by omega) hy ht with ht | ht
   ·exact ⟨lx,lx+1,by omega,by omega,by omega,by omega,ht⟩
   ·obtain ⟨a,a',h2,h3,h4,h5,h6⟩:=avu hr hy n (lx+1) ux (by omega) (by omega) ht;exact ⟨a,a',by omega,h3,h4,h5,h6⟩
theorem avt {z:Ei} {r:Nat} (hr:r<13) {lx ux:Int} (hx:lx≤ux):∀(n:Nat) (ly uy:Int),ly≤uy→uy-ly≤n→aq z r lx ly ux uy=true→∃a a',ly≤a∧a≤a'∧a'≤uy∧a'≤a+1∧aq z r lx a ux a'=true
 | 0,ly,uy,h,hn,ht=>⟨ly,uy,by omega,h,by omega,by omega,ht⟩
 | n+1,ly,uy,h,hn,ht=>by
  by_cases h1:uy≤ly+1
  ·exact ⟨ly,uy,by omega,h,by omega,h1,ht⟩
  ·rcases bbc hr (m:=ly+1) (by omega) (by omega) hx ht with ht | ht
   ·exact ⟨ly,ly+1,by omega,by omega,by omega,by omega,ht⟩
   ·obtain ⟨a,a',h2,h3,h4,h5,h6⟩:=avt hr hx n (ly+1) uy (by omega) (by omega) ht;exact ⟨a,a',by omega,h3,h4,h5,h6⟩
theorem a6y {A d:Int} (hd:0≤d∧d≤1):-(hAb A)≤A*d∧A*d≤hAb A:=by
 have:d=0∨d=1:=by omega
 unfold hAb;rcases this with rfl | rfl<;>omega
theorem bcx {z:Ei} {r:Nat} (hr:r<13) {lx ly ux uy:Int} (hx':lx≤ux) (hy':ly≤uy) (ht:aq z r lx ly ux uy=true) :
  ∃a b:Int,(lx≤a∧a≤ux)∧(ly≤b∧b≤uy)∧(-(hO r+1)≤3*cx z r-a∧3*cx z r-a≤hO r+1)∧(-(hO r+1)≤3*cy z r-b∧3*cy z r-b≤hO r+1)∧∀i,i<6→-(hN r i)≤sd (eA r) (eB r) (eC z r) i a b:=by
 obtain ⟨a,a',a1,a2,a3,a4,h1⟩:=avu hr hy' (ux-lx).toNat lx ux hx' (by omega) ht;obtain ⟨b,b',b1,b2,b3,b4,h2⟩:=avt hr a2 (uy-ly).toNat ly uy hy' (by omega) h1;obtain ⟨t1,t2,t3⟩:=yd.1 h2;obtain ⟨j1,l1,e1⟩:=arb (hx z r) 6 (by decide);obtain ⟨j2,l2,e2⟩:=aq9 (hx z r) 6 (by decide);obtain ⟨j3,l3,e3⟩:=arb (hy z r) 6 (by decide);obtain ⟨j4,l4,e4⟩:=aq9 (hy z r) 6 (by decide);rw [aw] at e1 e2;rw [au] at e3 e4;have n1:=(abm r hr j1 l1).2.1;have n2:=(abm r hr j2 l2).2.1;have n3:=(abm r hr j3 l3).2.1;have n4:=(abm r hr j4 l4).2.1;unfold hAb at n1 n2 n3 n4;refine ⟨a,b,by omega,by omega,by omega,by omega,fun i hi=>?_⟩;have h3:=t3 i hi
 have key:∀x y,(x=a∨x=a')→(y=b∨y=b')→sd (eA r) (eB r) (eC z r) i x y≤sd (eA r) (eB r) (eC z r) i a b+hN r i:=fun x y hx hy=>by
  have m1:=a6y (A:=eA r i) (d:=y-b) (by omega);have m2:=a6y (A:=eB r i) (d:=x-a) (by omega);unfold sd hN;rw [Int.mul_sub] at m1 m2;omega
 have k1:=key a b (.inl rfl) (.inl rfl);have k2:=key a' b (.inr rfl) (.inl rfl);have k3:=key a' b' (.inr rfl) (.inr rfl);have k4:=key a b' (.inl rfl) (.inr rfl);omega
theorem a53 {D T M:Int} (hM:0<M) (hT:0≤T) (hD:-M≤D∧D≤M):∃n ε,D*T/M=n∧0≤ε∧ε<M∧M*n=D*T-ε∧-T≤n∧n≤T:=by
 have e1:=zcg (D*T) M;have e2:=zce (D*T) (show M≠0 by omega);have e3:=zcf (D*T) hM;have m1:=zbu hD.2 hT;have m2:=zbu hD.1 hT;refine ⟨_,_,rfl,e2,e3,by omega,?_,?_⟩
 ·have:M*(-T-1)<M*(D*T/M):=by
   rw [Int.mul_sub,Int.mul_neg,Int.mul_one];rw [Int.neg_mul] at m2;omega
  have:=Int.lt_of_mul_lt_mul_left this (zat hM);omega
 ·have:M*(D*T/M)≤M*T:=by omega
  exact zcm this hM
theorem a30 (z:Ei) (r i:Nat):sd (eA r) (eB r) (eC z r) i (3*cx z r) (3*cy z r)=hH r i:=by
 unfold sd eC hH;rw [aw,au]
 grind
theorem a18 {z:Ei} {r:Nat} (hr:r<13) {e:Nat} (he:e<19) (hf:16*2^e*(2:Int)^e≤169*7^(12-r)) {lx ly ux uy:Int} (hx':lx≤ux) (hy':ly≤uy) (ht:aq z r lx ly ux uy=true) :
  ∃x y:Int,(lx-96*2^e≤x∧x≤ux+96*2^e)∧(ly-96*2^e≤y∧y≤uy+96*2^e)∧∀i,i<6→8*2^e*hN r i≤sd (eA r) (eB r) (eC z r) i x y:=by
 obtain ⟨a,b,ha,hb,dx,dy,hs⟩:=bcx hr hx' hy' ht;have hfar:=bc7 r hr e he hf;have hnum:=abm r hr
 have hU1:(1:Int)≤2^e:=by
  have:=Int.pow_pos (n:=2) (m:=e) (by decide);omega
 obtain ⟨U,hU⟩:∃U:Int,2^e=U:=⟨_,rfl⟩
 rw [hU] at hfar hU1 ⊢;by_cases hc:hO r+1≤96*U
 ·refine ⟨3*cx z r,3*cy z r,by omega,by omega,fun i hi=>?_⟩;rw [a30];exact hfar i hi
 ·obtain ⟨M,hM⟩:∃M,hO r+1=M:=⟨_,rfl⟩
  rw [hM] at hc dx dy;obtain ⟨n1,ε1,e1,p1,p2,p3,p4,p5⟩:=a53 (D:=3*cx z r-a) (T:=96*U) (M:=M) (by omega) (by omega) dx;obtain ⟨n2,ε2,e2,q1,q2,q3,q4,q5⟩:=a53 (D:=3*cy z r-b) (T:=96*U) (M:=M) (by omega) (by omega) dy;refine ⟨a+n1,b+n2,by omega,by omega,fun i hi=>?_⟩;obtain ⟨g1,_,g2⟩:=hnum i hi;rw [hM] at g2;have g3:=hs i hi;have g4:=a30 z r i;obtain ⟨S,hS⟩:∃S,sd (eA r) (eB r) (eC z r) i a b=S:=⟨_,rfl⟩
  obtain ⟨H,hH'⟩:∃H,hH r i=H:=⟨_,rfl⟩
  obtain ⟨N,hN'⟩:∃N,hN r i=N:=⟨_,rfl⟩
  obtain ⟨R,hR⟩:∃R,sd (eA r) (eB r) (eC z r) i (a+n1) (b+n2)=R:=⟨_,rfl⟩
  rw [hS] at g3;rw [hH'] at g2 g4;rw [hN'] at g1 g2 g3 ⊢;rw [hR];have b1:=(ak2 (a:=eA r i) (d:=ε2) (A:=hAb (eA r i)) (D:=M) (by unfold hAb; omega) (by omega)).2;have b2:=(ak2 (a:=eB r i) (d:=ε1) (A:=hAb (eB r i)) (D:=M) (by unfold hAb; omega) (by omega)).1
  have key:M*R=(M-96*U)*S+96*U*H-eA r i*ε2+eB r i*ε1:=by
   unfold sd at hS hR g4
   grind
  have hNe:hAb (eA r i)*M+hAb (eB r i)*M=N*M:=by rw [← hN']; unfold hN; grind
  have c1:-((M-96*U)*N)≤(M-96*U)*S:=by
   have:=zbm g3 (show 0≤M-96*U by omega);rw [Int.mul_neg] at this;exact this
  have c2:=zbm g2 (show 0≤48*U by omega);have NM:0<N*M:=Int.mul_pos g1 (by omega)
  have UNM:N*M≤U*(N*M):=by
   have:=zbu hU1 (zat NM);omega
  have UN:0≤U*N:=zas (by omega) (zat g1);have f1:(M-96*U)*N=N*M-96*(U*N):=by grind
  have f2:48*U*(M*N)=48*(U*(N*M)):=by grind
  have f3:48*U*(2*H)=96*U*H:=by grind
  have f4:M*(8*U*N)=8*(U*(N*M)):=by grind
  have:M*(8*U*N)≤M*R:=by
   rw [f4,key];rw [f2,f3] at c2;rw [f1] at c1;omega
  exact zcm this (by omega)

theorem azv {X Y:Int} {a b p:P2} (hX:0≤X) (h1:jl a b) (h2:jl b p) (h3:adq a b p≤0):X*a.2-Y*a.1≤X*b.2-Y*b.1∨X*p.2-Y*p.1≤X*b.2-Y*b.1:=by
 apply Classical.byContradiction;intro hn;rw [not_or] at hn;obtain ⟨n1,n2⟩:=hn;unfold jl at h1 h2;unfold adq at h3;have α0:0≤b.1-a.1:=by omega
 have β0:0≤p.1-b.1:=by omega
 have A:0<X*(a.2-b.2)+Y*(b.1-a.1):=by grind
 have B:0<X*(p.2-b.2)-Y*(p.1-b.1):=by grind
 have m1:=zas β0 (zat A);have m2:=zas α0 (zat B);have e:(p.1-b.1)*(X*(a.2-b.2)+Y*(b.1-a.1))+(b.1-a.1)*(X*(p.2-b.2)-Y*(p.1-b.1))=X*((b.1-a.1)*(p.2-a.2)-(b.2-a.2)*(p.1-a.1)):=by grind
 have m3:=zcl hX h3
 have z1:p.1-b.1=0:=by
  rcases zcd.1 (show (p.1-b.1)*(X*(a.2-b.2)+Y*(b.1-a.1))=0 by omega) with h | h<;>omega
 have z2:b.1-a.1=0:=by
  rcases zcd.1 (show (b.1-a.1)*(X*(p.2-b.2)-Y*(p.1-b.1))=0 by omega) with h | h<;>omega
 rw [z2,Int.mul_zero] at A;have:=zcl hX (show a.2-b.2≤0 by omega);omega
theorem ba9 {X Y:Int} {a b p:P2} (hX:0≤X) (h1:jl b a) (h2:jl p b) (h3:adq a b p≤0):X*b.2-Y*b.1≤X*a.2-Y*a.1∨X*b.2-Y*b.1≤X*p.2-Y*p.1:=by
 have h:∀q:P2,X*(-q.2)-Y*(-q.1)=-(X*q.2-Y*q.1):=fun q=>by grind
 have:=azv (X:=X) (Y:=Y) (a:=(-a.1,-a.2)) (b:=(-b.1,-b.2)) (p:=(-p.1,-p.2)) hX (by unfold jl at h1 ⊢; simp only; omega) (by unfold jl at h2 ⊢; simp only; omega) (by unfold adq at h3 ⊢; simp only; grind);simp only [h] at this;omega
theorem ay0 {l:List P2} {x y:P2} {m:List P2} (hl:l=x::(m++[y])) (h:(af l).length≤2):af l=[y,x]:=by
 obtain ⟨T,hT,hn⟩:=ay2 x (m++[y]);have h2:=ng (x::m) y;rw [zad,← hl] at h2;rw [← hl] at hT;have hne:=hn (by simp);rw [h2] at hT h ⊢;cases hp:jk y (af (x::m)) with
 | nil=>
  rw [hp] at hT;cases T with
  | nil=>exact absurd rfl hne
  | cons t T=>simp at hT
 | cons a r=>
  rw [hp] at hT h;cases r with
  | cons b r=>simp at h
  | nil=>
   cases T with
   | nil=>simp at hT
   | cons t T=>
    cases T with
    | nil=>simp at hT; rw [hT.2]
    | cons u T=>simp at hT
theorem a5k {l:List P2} (h:2≤l.length) (hs:l.Pairwise jl) (hb:ax5 l):3≤(bo l++bo l.reverse).length:=by
 apply Classical.byContradiction;intro hn
 obtain ⟨x,m,y,hl⟩:∃x m y,l=x::(m++[y]):=by
  cases l with
  | nil=>simp at h
  | cons x r=>
   rcases List.eq_nil_or_concat r with rfl | ⟨r',y,rfl⟩
   ·simp at h
   ·exact ⟨x,r',y,by rw [List.concat_eq_append]⟩
 have hr:l.reverse=y::(m.reverse++[x]):=by rw [hl]; simp
 have c1:(bo l).length=(af l).length-1:=by unfold bo; simp
 have c2:(bo l.reverse).length=(af l.reverse).length-1:=by unfold bo; simp
 have len2:∀(x:P2) (m:List P2) (y:P2),2≤(af (x::(m++[y]))).length:=fun x m y=>by
  obtain ⟨T,hT,hn⟩:=ay2 x (m++[y]);rw [hT,zae];have:=hn (by simp);cases T with
  | nil=>exact absurd rfl this
  | cons t T=>simp
 have l1:=len2 x m y;have l2:=len2 y m.reverse x;rw [← hl] at l1;rw [← hr] at l2;rw [zae,c1,c2] at hn;have s1:=ay0 hl (by omega);have s2:=ay0 hr (by omega)
 have hxq:∀q∈l,jl x q∧jl q y:=fun q hq=>by
  have hs':=hs;rw [hl] at hs' hq;have p1:=List.pairwise_cons.1 hs';have p2:=List.pairwise_append.1 p1.2;have rfl':∀p:P2,jl p p:=fun p=>.inr ⟨rfl,Int.le_refl _⟩;rcases zbb.1 hq with rfl | hq
  ·exact ⟨rfl' _,p1.1 y (by simp)⟩
  ·refine ⟨p1.1 q hq,?_⟩;rcases zba.1 hq with hq | hq
   ·exact p2.2.2 q hq y (by simp)
   ·rw [zay.1 hq]; exact rfl' _
 have hxy:=(hxq x (by rw [hl]; simp)).2;obtain ⟨X,hX⟩:∃X,y.1-x.1=X:=⟨_,rfl⟩
 obtain ⟨Y,hY⟩:∃Y,y.2-x.2=Y:=⟨_,rfl⟩
 have hX0:0≤X:=by unfold jl at hxy; omega
 have hF:X*y.2-Y*y.1=X*x.2-Y*x.1:=by rw [← hX,← hY]; grind
 refine hb ?_;by_cases h0:X=0∧Y=0
 ·refine ⟨1,0,x.1,.inl (by decide),fun q hq=>?_⟩;have:=hxq q hq;unfold jl at this;omega
 ·refine ⟨-Y,X,X*x.2-Y*x.1,by omega,fun q hq=>?_⟩;obtain ⟨c,hc,hd⟩:=ay1 (D:=fun c q=>X*c.2-Y*c.1≤X*q.2-Y*q.1) (o:=jl) (fun a=>Int.le_refl _) (fun a b c=>Int.le_trans) (fun a b p h1 h2 h3=>azv hX0 h1 h2 h3) l hs q hq;obtain ⟨c',hc',hd'⟩:=ay1 (D:=fun c q=>X*q.2-Y*q.1≤X*c.2-Y*c.1) (o:=fun p q=>jl q p) (fun a=>Int.le_refl _) (fun a b c h1 h2=>Int.le_trans h2 h1) (fun a b p h1 h2 h3=>ba9 hX0 h1 h2 h3) l.reverse (List.pairwise_reverse.2 hs) q (by simpa using hq);rw [s1] at hc;rw [s2] at hc'
  have e1:X*c.2-Y*c.1=X*x.2-Y*x.1:=by
   simp at hc;rcases hc with rfl | rfl
   ·exact hF
   ·rfl
  have e2:X*c'.2-Y*c'.1=X*x.2-Y*x.1:=by
   simp at hc';rcases hc' with rfl | rfl
   ·rfl
   ·exact hF
  rw [Int.neg_mul];omega
theorem a9v {l:List P2} (h:l.length≤2):¬ax5 l:=by
 intro hb;refine hb ?_
 match l,h with
 | [],_=>exact ⟨1,0,0,.inl (by decide),fun q hq=>by simp at hq⟩
 | [p],_=>exact ⟨1,0,p.1,.inl (by decide),fun q hq=>by simp at hq; subst hq; omega⟩
 | [p,q],_=>
  by_cases h0:p.1=q.1
  ·exact ⟨1,0,p.1,.inl (by decide),fun r hr=>by simp at hr; rcases hr with rfl | rfl<;>omega⟩
  ·refine ⟨q.2-p.2,p.1-q.1,(q.2-p.2)*p.1+(p.1-q.1)*p.2,.inr (by omega),fun r hr=>?_⟩;simp at hr;rcases hr with rfl | rfl
   ·rfl
   ·grind
 | _::_::_::_,h=>simp at h
theorem a17 {rg:List P2} (hb:ax5 rg):3≤(ol rg).length:=by
 have hb':ax5 (ci (y8 rg)):=fun ⟨a,b,k,h1,h2⟩=>hb ⟨a,b,k,h1,fun q hq=>h2 q (a2g (a04 hq))⟩;have h3:¬(ci (y8 rg)).length<3:=fun h=>a9v (by omega) hb';have:=a5k (by omega) ((a3r rg).sublist (a6c _)) hb';unfold ol;rw [if_neg h3,if_neg (by omega)];exact this
section
variable {z:Ei} {r:Nat} {x y:Int}
theorem bfz (r i:Nat) (z:Ei):hx z r ((i+1)%6)=hx z r i+eA r i:=by rw [aw,aw]; unfold eA; omega
theorem bfy (r i:Nat) (z:Ei):hy z r ((i+1)%6)=hy z r i+eB r i:=by rw [au,au]; unfold eB; omega
theorem a07 (z:Ei) (r i:Nat) (x y:Int):sd (eA r) (eB r) (eC z r) i x y=eA r i*(y-hy z r ((i+1)%6))-eB r i*(x-hx z r ((i+1)%6)):=by
 rw [bfz,bfy];unfold sd eC
 grind
theorem au4 (z:Ei) (r i:Nat) (x y:Int):sd (eA r) (eB r) (eC z r) i x y=eA r i*(y-hy z r i)-eB r i*(x-hx z r i):=by
 unfold sd eC
 grind
theorem a8m (hr:r<13) (hs:∀i,i<6→0<sd (eA r) (eB r) (eC z r) i x y):¬∀i,i<6→hy z r i≤y:=by
 intro h;obtain ⟨m,hm,h1,h2,h3,h4⟩:=bc6 r hr;have hn:((m+5)%6+1)%6=m:=by omega
 have s1:=hs m hm;have s2:=hs ((m+5)%6) (by omega);rw [au4] at s1;rw [a07,hn] at s2;have he:=h m hm;have m1:=zas h2 (show 0≤eA r m*(y-hy z r m)-eB r m*(x-hx z r m)-1 by omega);have m2:=zas (show 0≤-eB r m by omega) (show 0≤eA r ((m+5)%6)*(y-hy z r m)-eB r ((m+5)%6)*(x-hx z r m)-1 by omega);have m3:=zas (show 0≤y-hy z r m by omega) (zat h4);generalize eA r m=A at *;generalize eB r m=B at *;generalize eA r ((m+5)%6)=A' at *;generalize eB r ((m+5)%6)=B' at *;generalize y-hy z r m=e at *;generalize x-hx z r m=d at *;have e:B'*(A*e-B*d-1) + -B*(A'*e-B'*d-1)=-(e*(A'*B-A*B'))-(B'-B):=by grind
 omega
theorem bf1 (hr:r<13) (hs:∀i,i<6→0<sd (eA r) (eB r) (eC z r) i x y):¬∀i,i<6→y<hy z r i:=by
 intro h;obtain ⟨m,hm,h1,h2,h3,h4⟩:=bc8 r hr;have hn:((m+5)%6+1)%6=m:=by omega
 have s1:=hs m hm;have s2:=hs ((m+5)%6) (by omega);rw [au4] at s1;rw [a07,hn] at s2;have he:=h m hm;have m1:=zas (show 0≤-eB r ((m+5)%6) by omega) (show 0≤eA r m*(y-hy z r m)-eB r m*(x-hx z r m)-1 by omega);have m2:=zas h1 (show 0≤eA r ((m+5)%6)*(y-hy z r m)-eB r ((m+5)%6)*(x-hx z r m)-1 by omega);have m3:=zas (show 0≤-(y-hy z r m) by omega) (zat h4);generalize eA r m=A at *;generalize eB r m=B at *;generalize eA r ((m+5)%6)=A' at *;generalize eB r ((m+5)%6)=B' at *;generalize y-hy z r m=e at *;generalize x-hx z r m=d at *;have e:-B'*(A*e-B*d-1)+B*(A'*e-B'*d-1)=-(-e*(A'*B-A*B'))-(B-B'):=by grind
 omega
end
theorem av0 (z:Ei) (r:Nat) (d:P2):(ac6 z r).map (shP d)=[(hx z r 0+d.1,hy z r 0+d.2),(hx z r 1+d.1,hy z r 1+d.2),(hx z r 2+d.1,hy z r 2+d.2),(hx z r 3+d.1,hy z r 3+d.2),(hx z r 4+d.1,hy z r 4+d.2),(hx z r 5+d.1,hy z r 5+d.2)]:=rfl
theorem a7u {z:Ei} {r:Nat} (hr:r<13) {x y K:Int} (hs:∀i,i<6→K*hN r i≤sd (eA r) (eB r) (eC z r) i x y) (d:P2) (i:Nat) (hi:i<6):Edg (x+d.1,y+d.2) K (hx z r i+d.1,hy z r i+d.2) (hx z r ((i+1)%6)+d.1,hy z r ((i+1)%6)+d.2):=by
 have h1:=hs i hi;have h2:=(abm r hr i hi).1;have g:hAb (eB r i)+hAb (eA r i)=hN r i:=by unfold hN; omega
 refine ⟨eB r i,-eA r i,hAb (eB r i),hAb (eA r i),by unfold hAb; omega,by unfold hAb; omega,by omega,?_,?_⟩
 ·rw [g];rw [au4] at h1;unfold hv;simp only
  grind
 ·rw [g];rw [a07] at h1;unfold hv;simp only
  grind
theorem a7t {z:Ei} {r:Nat} {x y:Int} (hs:∀i,i<6→0<sd (eA r) (eB r) (eC z r) i x y) (d:P2) (i:Nat) (hi:i<6):wcr (x+d.1,y+d.2) (hx z r i+d.1,hy z r i+d.2) (hx z r ((i+1)%6)+d.1,hy z r ((i+1)%6)+d.2)=if decide (y<hy z r i)=false∧decide (y<hy z r ((i+1)%6))=true then 1 else 0:=by
 have h1:=hs i hi
 have e:wcx (x+d.1,y+d.2) (hx z r i+d.1,hy z r i+d.2) (hx z r ((i+1)%6)+d.1,hy z r ((i+1)%6)+d.2)=sd (eA r) (eB r) (eC z r) i x y:=by
  rw [au4,bfz,bfy];unfold wcx;simp only
  grind
 unfold wcr;rw [e];have u:∀q:Int,upc (x+d.1,y+d.2) (q,hy z r i+d.2)=decide (y<hy z r i):=fun q=>by unfold upc; simp
 have u':∀q:Int,upc (x+d.1,y+d.2) (q,hy z r ((i+1)%6)+d.2)=decide (y<hy z r ((i+1)%6)):=fun q=>by unfold upc; simp
 rw [u,u'];cases decide (y<hy z r i)<;>cases decide (y<hy z r ((i+1)%6))<;>simp [h1];omega
theorem a7s {z:Ei} {r:Nat} (hr:r<13) {x y:Int} (hs:∀i,i<6→0<sd (eA r) (eB r) (eC z r) i x y) (d:P2):wnd (x+d.1,y+d.2) ((ac6 z r).map (shP d))≠0:=by
 have w:=fun i hi=>a7t hs d i hi;have w0:=w 0 (by decide);have w1:=w 1 (by decide);have w2:=w 2 (by decide);have w3:=w 3 (by decide);have w4:=w 4 (by decide);have w5:=w 5 (by decide);simp only [zaf,Nat.reduceAdd,Nat.reduceMod] at w0 w1 w2 w3 w4 w5;rw [av0];simp only [wnd,zad,zai,pth];rw [w0,w1,w2,w3,w4,w5];have n1:=bf1 hr hs;have n2:=a8m hr hs
 have all6:∀P:Nat→Prop,P 0→P 1→P 2→P 3→P 4→P 5→∀i,i<6→P i:=fun P a b c d e f i hi=>by
  match i,hi with
  | 0,_=>exact a
  | 1,_=>exact b
  | 2,_=>exact c
  | 3,_=>exact d
  | 4,_=>exact e
  | 5,_=>exact f
 cases h0:decide (y<hy z r 0)<;>cases h1:decide (y<hy z r 1)<;>cases h2:decide (y<hy z r 2)<;>cases h3:decide (y<hy z r 3)<;>cases h4:decide (y<hy z r 4)<;>cases h5:decide (y<hy z r 5)<;>simp
 ·simp only [decide_eq_false_iff_not,Int.not_lt] at h0 h1 h2 h3 h4 h5;exact n2 (all6 _ h0 h1 h2 h3 h4 h5)
 ·simp only [decide_eq_true_eq] at h0 h1 h2 h3 h4 h5;exact n1 (all6 _ h0 h1 h2 h3 h4 h5)
set_option maxHeartbeats 2000000 in
theorem ax9 {t:Til} {z:Ei} (ht:tis t=true) (hf:fine t=false) (hT:tch z t.r.toNat (2^(30-t.z).toNat) t.x t.y=true):3≤(aj t z).length:=by
 have hr:0≤t.z∧t.z≤18∧0≤t.r∧t.r≤12∧0≤t.x∧t.x<2^t.z.toNat∧0≤t.y∧t.y<2^t.z.toNat:=by simpa [tis] using ht
 have hR:t.r.toNat<13:=by omega
 have hf':16*2^(18-t.z).toNat*(2:Int)^(18-t.z).toNat≤169*7^(12-t.r.toNat):=by
  unfold fine at hf;rw [ht,Bool.true_and,decide_eq_false_iff_not] at hf;rw [show 12-t.r.toNat=(12-t.r).toNat by omega];omega
 have hS:(2:Int)^(30-t.z).toNat=4096*2^(18-t.z).toNat:=by
  rw [show (30-t.z).toNat=(18-t.z).toNat+12 by omega,Int.pow_add,Int.mul_comm]
  rfl
 have hU1:(1:Int)≤2^(18-t.z).toNat:=by
  have:=Int.pow_pos (n:=2) (m:=(18-t.z).toNat) (by decide);omega
 unfold tch at hT;have e1:(t.x+1)*2^(30-t.z).toNat=t.x*2^(30-t.z).toNat+2^(30-t.z).toNat:=by rw [Int.add_mul,Int.one_mul]
 have e2:(t.y+1)*2^(30-t.z).toNat=t.y*2^(30-t.z).toNat+2^(30-t.z).toNat:=by rw [Int.add_mul,Int.one_mul]
 have hT':=hT;rw [e1,e2] at hT;obtain ⟨x,y,bx,by',hs⟩:=a18 hR (e:=(18-t.z).toNat) (by omega) hf' (by omega) (by omega) hT
 have hsh:aj t z=ol (go (3*bq t) (agl t z)):=by
  unfold aj tch;rw [hT'];exact if_pos rfl
 rw [hsh];refine a17 ?_;unfold agl oc aim bq;obtain ⟨X0,hX0⟩:∃X0,t.x*2^(30-t.z).toNat=X0:=⟨_,rfl⟩
 obtain ⟨Y0,hY0⟩:∃Y0,t.y*2^(30-t.z).toNat=Y0:=⟨_,rfl⟩
 simp only [hX0,hY0] at bx by' ⊢;simp only [hS] at bx by' ⊢;obtain ⟨U,hU⟩:∃U:Int,2^(18-t.z).toNat=U:=⟨_,rfl⟩
 simp only [hU] at bx by' hs hU1 ⊢
 have hs0:∀i,i<6→0<sd (eA t.r.toNat) (eB t.r.toNat) (eC z t.r.toNat) i x y:=fun i hi=>by
  have g:=(abm t.r.toNat hR i hi).1;have:=hs i hi;have:=Int.mul_pos (show 0<8*U by omega) g;omega
 obtain ⟨d,hd⟩:∃d:P2,(-(3*X0),-(3*Y0))=d:=⟨_,rfl⟩
 have d1:d.1=-(3*X0):=by rw [← hd]
 have d2:d.2=-(3*Y0):=by rw [← hd]
 rw [hd];have hw:=a7s hR hs0 d;have hE:=fun i hi=>a7u hR hs d i hi
 have hG:RG (Edg (x+d.1,y+d.2) (8*U)) ((ac6 z t.r.toNat).map (shP d)):=by
  rw [av0];exact ⟨hE 0 (by decide),hE 1 (by decide),hE 2 (by decide),hE 3 (by decide),hE 4 (by decide),hE 5 (by decide),trivial⟩
 obtain ⟨g1,g2⟩:=bd1 (lo:=(-192*U,-192*U)) (hi:=(12480*U,12480*U)) (c:=(x+d.1,y+d.2)) (by omega) (by simp only; omega) (by simp only; omega) hG hw;exact a2b (by omega) (by omega) g1 (by rw [g2]; exact hw)


theorem aqa:∀(r:List P2) (p:P2) (i:Nat) (q o:P2),r[i]?=some q→(p::r)[i]?=some o→(v6 p r).getD (2*i) 0=zig (IntKind.i64.wrap (q.1-o.1))∧(v6 p r).getD (2*i+1) 0=zig (IntKind.i64.wrap (q.2-o.2))
 | [],p,i,q,o,h,_=>by simp at h
 | a::r,p,0,q,o,h,g=>by
  simp at h g;subst h; subst g;exact ⟨rfl,rfl⟩
 | a::r,p,i+1,q,o,h,g=>by
  have ih:=aqa r a i q o (by simpa using h) (by simpa using g);rw [show 2*(i+1)=2*i+1+1 by omega,v6];exact ih
theorem agz {p:P2} {r:List P2} (h:2≤r.length):s7 (p::r)=[9,zig p.1,zig p.2,8*(r.length:Int)+2]++v6 p r++[15]:=by
 rw [s7,if_neg (by omega)]
theorem arw {ring:List P2} (h:3≤ring.length):(s7 ring).length=2*ring.length+3:=by
 cases ring with
 | nil=>simp at h
 | cons p r=>
  simp only [zac] at h;rw [agz (by omega)];have:=nq r p;simp [this];omega
theorem arx {ring:List P2} (h:3≤ring.length):mj (s7 ring)=true:=by
 have hs:=arw h;cases ring with
 | nil=>simp at h
 | cons p r=>
  simp only [zac] at h hs;have hsh:=agz (p:=p) (r:=r) (by omega);have hl:=nq r p;unfold mj;rw [hs];have e1:(s7 (p::r)).getD 0 0=9:=by rw [hsh]; rfl
  have e2:(s7 (p::r)).getD (2*(r.length+1)+3-1) 0=15:=by
   rw [hsh,zah,List.getElem?_append_right (by simp [hl]; omega)];rw [show 2*(r.length+1)+3-1-([9,zig p.1,zig p.2,8*(r.length:Int)+2]++v6 p r).length=0 by simp [hl]; omega]
   rfl
  have e3:(s7 (p::r)).getD 3 0=8*(r.length:Int)+2:=by rw [hsh]; rfl
  rw [e1,e2,e3];have a1:decide (9≤2*(r.length+1)+3)=true:=decide_eq_true (by omega);have a2:((2*(r.length+1)+3)%2 == 1)=true:=by rw [beq_iff_eq]; omega
  have a3:(8*(r.length:Int)+2 == 8*((((2*(r.length+1)+3:Nat):Int)-5)/2)+2)=true:=by rw [beq_iff_eq]; omega
  rw [a1,a2,a3]
  rfl
theorem a1c {ring:List P2} (h:3≤ring.length) (hin:i64P ring):mc (s7 ring)=ring:=by
 rw [mc,if_pos (arx h),arw h];cases ring with
 | nil=>simp at h
 | cons p r=>
  simp only [zac] at h ⊢;have hsh:=agz (p:=p) (r:=r) (by omega);have hl:=nq r p
  have hc:∀j,j<r.length+1→∀o,(p::r)[j]?=some o→aal (s7 (p::r)) j=o:=fun j=>by
   induction j with
   | zero=>
    intro _ o ho;simp at ho;subst ho;rw [aal,hsh];show (zag (zig p.1),zag (zig p.2))=p;rw [aha,aha]
   | succ j ih=>
    intro hj q hq;obtain ⟨o,ho⟩:∃o,(p::r)[j]?=some o:=⟨(p::r)[j]'(by simp; omega),by simp [show j<r.length+1 by omega]⟩
    have hq2:r[j]?=some q:=by simpa using hq
    obtain ⟨g1,g2⟩:=aqa r p j q o hq2 ho;have hqi:=hin q (by simp [zbj hq2]);have hoi:=hin o (zbj ho)
    have hd:∀k,k<2*r.length→(s7 (p::r)).getD (4+k) 0=(v6 p r).getD k 0:=fun k hk=>by
     rw [hsh,zam,zah,List.getElem?_append_right (by simp),zah];rw [show 4+k-[9,zig p.1,zig p.2,8*(r.length:Int)+2].length=k by simp];rw [List.getElem?_append_left (by omega)]
    rw [aal,ih (by omega) o ho,hd (2*j) (by omega),show 5+2*j=4+(2*j+1) by omega,hd (2*j+1) (by omega),g1,g2,aha,aha]
    have wr:∀a b:Int,in64 a→in64 b→IntKind.i64.wrap (b+IntKind.i64.wrap (a-b))=a:=fun a b ha hb=>by
     rw [IntKind.wrap_i64,IntKind.wrap_i64];unfold in64 at ha hb;omega
    rw [wr _ _ hqi.1 hoi.1,wr _ _ hqi.2 hoi.2]
  apply zbs;intro i;by_cases hi:i<r.length+1
  ·rw [mw,zaq,zbt (by omega),zaw (by simpa using hi)];rw [zbz,hc i hi _ (zaw (by simpa using hi))]
  ·rw [zar (by simp [mw]; omega),zar (by simp; omega)]

def bfu (b:List UInt8):Option Nat:=
 match ar b with
 | some [x]=>if x.1=6∧x.2.1=0 then some x.2.2.1 else none
 | _=>none

theorem a1e:∀(f g:Nat) (l:List UInt8),l.length≤f→l.length≤g→gk f l=gk g l:=by
 intro f
 induction f with
 | zero=>
  intro g l hf _;have:l=[]:=zck (by omega);subst this;rw [ni,ni]
 | succ f ih=>
  intro g l hf hg
  match l with
  | []=>rw [ni,ni]
  | c::t=>
   match g with
   | 0=>simp at hg
   | g+1=>
    rw [gk,gk];rcases h:cz (c::t) with _ | ⟨x,k⟩
    ·rfl
    ·obtain ⟨h2,h3⟩:=zn h;have hl:((c::t).drop k).length≤t.length-1:=by rw [zby,zac]; omega
     have h4:0<t.length:=by rw [zac] at h3; omega
     simp only;rw [zac] at hf hg;rw [ih g _ (by omega) (by omega)]
theorem a0v:∀(f g:Nat) (l:List UInt8),l.length≤f→l.length≤g→ff f l=ff g l:=by
 intro f
 induction f with
 | zero=>
  intro g l hf _;have:l=[]:=zck (by omega);subst this;rw [nf,nf]
 | succ f ih=>
  intro g l hf hg
  match l with
  | []=>rw [nf,nf]
  | c::t=>
   match g with
   | 0=>simp at hg
   | g+1=>
    rw [ff,ff];split
    ·rfl
    ·rename_i h;rw [zac] at hf hg;have hl:((c::t).drop (take (c::t)).2).length≤t.length:=by rw [zby,zac]; omega
     rw [ih g _ (by omega) (by omega)]
theorem a1d {x:Fld} {c rest:List UInt8} (h:cz (c++rest)=some (x,c.length)):ar (c++rest)=(ar rest).map (x :: ·):=by
 obtain ⟨h2,h3⟩:=zn h;obtain ⟨f',hf,e⟩:=aip (by rw [zae] at h3 ⊢; omega) (Nat.le_refl _) h;unfold ar;rw [e,List.drop_left,a1e f' rest.length rest (by rw [zae] at hf; omega) (Nat.le_refl _)]
theorem a0u (n:Nat) (rest:List UInt8) (h:n<18446744073709551616):jp (m7 n++rest)=(jp rest).map (n :: ·):=by
 have hp:=aib n;rw [a0s (by rw [zae]; omega) (aij n rest h) (by omega),List.drop_left];unfold jp;rw [a0v _ rest.length rest (by rw [zae]; omega) (Nat.le_refl _)]
theorem a0t (l:List Nat) (h:∀n∈l,n<18446744073709551616):jp (l.flatMap m7)=some l:=by
 induction l with
 | nil=>rfl
 | cons n l ih=>
  rw [List.flatMap_cons,a0u n _ (h n (by simp)),ih fun x hx=>h x (by simp [hx])]
  rfl
theorem zc (cs:List (List UInt8×Fld)) (h:∀c∈cs,∀rest,cz (c.1++rest)=some (c.2,c.1.length)):ar (cs.flatMap (·.1))=some (cs.map (·.2)):=by
 induction cs with
 | nil=>rfl
 | cons c cs ih=>
  rw [List.flatMap_cons,a1d (h c (by simp) _),ih fun x hx=>h x (by simp [hx])]
  rfl
theorem awd (t:Nat) (rest:List UInt8) (ht:t<18446744073709551616) (h1:1≤t/8) (h2:t/8≤1000) (n j:Nat) (hn:take rest=(n,j)) :
  cz (m7 t++rest)=if j=0 then none else if t%8=0 then some ((t/8,0,n,[]),(m7 t).length+j)
   else if t%8=2∧n≤rest.length-j then some ((t/8,2,0,(rest.drop j).take n),(m7 t).length+j+n) else none:=by
 have hp:=aib t;have hd:(m7 t++rest).drop (m7 t).length=rest:=by simp
 unfold cz;rw [aij t rest ht];simp only [hd,hn];rw [if_neg (by omega)];split
 ·rfl
 ·split
  ·rfl
  ·have e1:(m7 t++rest).length-(m7 t).length-j=rest.length-j:=by simp
   have e2:(m7 t++rest).drop ((m7 t).length+j)=rest.drop j:=by rw [← List.drop_drop,hd]
   rw [e1,e2]
theorem acl (f:Nat) (n:Int) (rest:List UInt8) (hf:1≤f∧f≤1000) (h0:0≤n) (h1:n<18446744073709551616):cz (u5 (f:Int) n++rest)=some ((f,0,n.toNat,[]),(u5 (f:Int) n).length):=by
 have hk:okB (f:Int)=true:=by simp [okB]; omega
 have hp:=aib n.toNat;have e:((f:Int)*8).toNat=8*f:=by omega
 unfold u5;rw [if_pos hk,e,zam,awd (8*f) _ (by omega) (by omega) (by omega) n.toNat (m7 n.toNat).length (aij _ rest (by omega)),if_neg (by omega),if_pos (by omega),zae];rw [show 8*f/8=f by omega]
theorem lm (f:Nat) (x rest:List UInt8) (hf:1≤f∧f≤1000) (hx:x.length<18446744073709551616):cz (o9 (f:Int) x++rest)=some ((f,2,0,x),(o9 (f:Int) x).length):=by
 have hk:okB (f:Int)=true:=by simp [okB]; omega
 have hp:=aib x.length;have e:((f:Int)*8+2).toNat=8*f+2:=by omega
 unfold o9;rw [if_pos hk,e,zam,zam,awd (8*f+2) _ (by omega) (by omega) (by omega) x.length (m7 x.length).length (aij _ _ hx),if_neg (by omega),if_neg (by omega),if_pos ⟨by omega,by simp⟩];rw [List.drop_left,List.take_left,show (8*f+2)/8=f by omega];simp;omega
theorem a1p (l:List Int) (h:u64L l):dv (l.flatMap fun n=>m7 n.toNat)=l:=by
 have e:(l.flatMap fun n=>m7 n.toNat)=(l.map Int.toNat).flatMap m7:=by rw [List.flatMap_map]
 unfold dv
 rw [e,a0t _ (fun n hn=>by
  obtain ⟨k,hk,rfl⟩:=zan.1 hn;have:=h k hk
  omega)]
 simp only [Option.getD_some,zbh]
 conv=>rhs; rw [← List.map_id l]
 apply zca;intro n hn;have:=h n hn;simp only [Function.comp,id];omega
def zf (f:Fea):Fea:=⟨f.w,f.ring,0,0,0,0⟩
theorem ayj {f:Fea} (hf:f.ok) (n:Int) (hn:in64 n):bt (je f.w n f.ring)=(if 3≤f.ring.length then zf f else ⟨f.w,[],0,0,0,0⟩,decide (3≤f.ring.length)):=by
 obtain ⟨hw,hl,hi,_⟩:=hf;have hC:=aus f.ring hl hi;have hn':-9223372036854775808≤n∧n≤9223372036854775807:=hn;have hT:=avq (k:=max n 0) (by omega);have h2:=ali (mn (max n 0));have h4:=ali (s7 f.ring);have h5:=al1 f.ring;have h6:(mn (max n 0)).length=8:=rfl
 have hr:ar (je f.w n f.ring)=some [(1,0,f.w.toNat,[]),(2,2,0,(mn (max n 0)).flatMap fun n=>m7 n.toNat),(3,0,3,[]),(4,2,0,(s7 f.ring).flatMap fun n=>m7 n.toNat)]:=by
  have e:je f.w n f.ring=[(u5 ((1:Nat):Int) f.w,((1,0,f.w.toNat,[]):Fld)),(o9 ((2:Nat):Int) ((mn (max n 0)).flatMap fun n=>m7 n.toNat),(2,2,0,(mn (max n 0)).flatMap fun n=>m7 n.toNat)),(u5 ((3:Nat):Int) 3,(3,0,3,[])),(o9 ((4:Nat):Int) ((s7 f.ring).flatMap fun n=>m7 n.toNat),(4,2,0,(s7 f.ring).flatMap fun n=>m7 n.toNat))].flatMap (·.1):=by
   simp [je,ze]
  rw [e,zc]
  ·rfl
  ·intro c hc rest;simp only [zbb,zbq,or_false] at hc;rcases hc with rfl | rfl | rfl | rfl
   ·exact acl 1 f.w rest (by omega) hw.1 hw.2
   ·exact lm 2 _ rest (by omega) (by omega)
   ·exact acl 3 3 rest (by omega) (by omega) (by omega)
   ·exact lm 4 _ rest (by omega) (by omega)
 unfold bt;rw [hr];simp only;rw [a1p _ hC];have hwn:((f.w.toNat:Nat):Int)=f.w:=by omega
 rw [hwn];by_cases h3:3≤f.ring.length
 ·rw [if_pos h3,arx h3,a1c h3 hi,decide_eq_true h3]
  rfl
 ·rw [if_neg h3,an3 (by omega),decide_eq_false h3]
  rfl
theorem a39 {z:Int} (h:0≤z∧z<18446744073709551616):ar (u5 6 z)=some [(6,0,z.toNat,[])]:=by
 have e:u5 6 z=[(u5 ((6:Nat):Int) z,((6,0,z.toNat,[]):Fld))].flatMap (·.1):=by simp
 rw [e,zc]
 ·rfl
 ·intro c hc rest;rw [zay.1 hc];exact acl 6 z rest (by omega) h.1 h.2
theorem a69 {n:Int} (h:in64 n):lj (u5 6 (zig n))=n∧bfu (u5 6 (zig n))=some (zig n).toNat:=by
 have hz:=ag7 n h;unfold lj bfu;rw [a39 hz];simp only;have:(((zig n).toNat:Nat):Int)=zig n:=by omega
 exact ⟨by rw [this,aha],rfl⟩

def ftc (l:List Fea) (j:Nat):List UInt8×Fld:=(fx l j,(2,2,0,je (l.getD j default).w (4*(j:Int)) (l.getD j default).ring))
def kyc (j:Nat):List UInt8×Fld:=(o9 3 (vm j),(3,2,0,vm j))
def ww (l:List Fea) (m:Nat):Int:=(l.getD (m/4) default).nums.getD (m%4) 0
def vlc (l:List Fea) (m:Nat):List UInt8×Fld:=(o9 4 (u5 6 (zig (ww l m))),(4,2,0,u5 6 (zig (ww l m))))
def hdc:List (List UInt8×Fld):=[(u5 15 2,(15,0,2,[])),(o9 1 [99,101,108,108,115],(1,2,0,[99,101,108,108,115]))]
def tlc:List (List UInt8×Fld):=[(u5 5 4096,(5,0,4096,[]))]
def fts (l:List Fea):List (List UInt8×Fld):=(zal l.length).map (ftc l)
def vls (l:List Fea) (n:Nat):List (List UInt8×Fld):=(zal n).map (vlc l)
def chs (l:List Fea):List (List UInt8×Fld):=hdc++(fts l++((zal 4).map kyc++(vls l (4*l.length)++tlc)))
theorem atr (l:List Fea):∀n,(vls l (4*n)).flatMap (·.1)=sr l n
 | 0=>rfl
 | n+1=>by
  have e:vls l (4*(n+1))=vls l (4*n)++[vlc l (4*n),vlc l (4*n+1),vlc l (4*n+2),vlc l (4*n+3)]:=by
   unfold vls;rw [show 4*(n+1)=4*n+1+1+1+1 by omega];simp only [zaz,zbd,zax,zbf,zam,zad,zai]
  have h:∀k,k<4→(vlc l (4*n+k)).1=vx (l.getD n default) k:=fun k hk=>by
   unfold vlc ww vx;rw [show (4*n+k)/4=n by omega,show (4*n+k)%4=k by omega]
  rw [e,List.flatMap_append,atr l n,aie];have h0:=h 0 (by omega);have h1:=h 1 (by omega);have h2:=h 2 (by omega);have h3:=h 3 (by omega);simp only [Nat.add_zero] at h0;simp [yu,zaz,h0,h1,h2,h3]
theorem aut (l:List Fea):(chs l).flatMap (·.1)=aac++ja l l.length++ui 4++sr l l.length++u5 5 4096:=by
 simp only [chs,List.flatMap_append,atr];have h1:hdc.flatMap (·.1)=aac:=by simp [hdc,aac]
 have h2:(fts l).flatMap (·.1)=ja l l.length:=by rw [fts,List.flatMap_map]; rfl
 have h3:((zal 4).map kyc).flatMap (·.1)=ui 4:=by rw [List.flatMap_map]; rfl
 have h4:tlc.flatMap (·.1)=u5 5 4096:=by simp [tlc]
 rw [h1,h2,h3,h4];simp only [zam]
theorem ayc {l:List Fea} (hl:l.length≤100000) (h:∀f∈l,f.ok):ar (ak l)=some [(3,2,0,(chs l).flatMap (·.1))]∧ar ((chs l).flatMap (·.1))=some ((chs l).map (·.2)):=by
 have hll:=arf h
 have hg:∀m,in64 (ww l m):=fun m=>by
  unfold ww
  have hd:(l.getD (m/4) default).ok:=by
   by_cases hm:m/4<l.length
   ·exact agb h hm
   ·rw [zah,zar (by omega)];exact ⟨by decide,by decide,fun p hp=>by simp [show (default:Fea).ring=[] from rfl] at hp,by decide,by decide,by decide,by decide⟩
  obtain ⟨_,_,_,q1,q2,q3,q4⟩:=hd;rcases (show m%4=0∨m%4=1∨m%4=2∨m%4=3 by omega) with e | e | e | e<;>rw [e]
  ·exact q1
  ·exact q2
  ·exact q3
  ·exact q4
 constructor
 ·have e:ak l=[(o9 ((3:Nat):Int) ((chs l).flatMap (·.1)),((3,2,0,(chs l).flatMap (·.1)):Fld))].flatMap (·.1):=by
   rw [aut];simp [ak]
  have hb:((chs l).flatMap (·.1)).length<18446744073709551616:=by
   have h1:=ad5 h l.length;have h2:=acb l l.length;have h3:=acm 4;have h4:=aga;have h5:=iz 5 4096;rw [aut];simp only [zae];omega
  rw [e,zc]
  ·rfl
  ·intro c hc rest;rw [zay.1 hc];exact lm 3 _ rest (by omega) hb
 ·refine zc _ fun c hc rest=>?_;simp only [chs,zba] at hc;rcases hc with hc | hc | hc | hc | hc
  ·simp only [hdc,zbb,zbq,or_false] at hc;rcases hc with rfl | rfl
   ·exact acl 15 2 rest (by omega) (by omega) (by omega)
   ·exact lm 1 _ rest (by omega) (by decide)
  ·obtain ⟨j,hj,rfl⟩:=zan.1 hc;have hj:=zbg.1 hj;have hf:=agd (l.getD j default).w (4*(j:Int)) (l.getD j default).ring;have:=(agb h hj).2.1;exact lm 2 _ rest (by omega) (by omega)
  ·obtain ⟨j,hj,rfl⟩:=zan.1 hc;have:=ao6 j;exact lm 3 _ rest (by omega) (by omega)
  ·obtain ⟨m,hm,rfl⟩:=zan.1 hc;have:=iz 6 (zig (ww l m));exact lm 4 _ rest (by omega) (by omega)
  ·rw [zay.1 (show c∈[_] from hc)];exact acl 5 4096 rest (by omega) (by omega) (by omega)
theorem aqe:∀(X:List Fld) (R:List Fld) (o:List Fea) (v:List Int),(∀x∈X,x.1=2)→(x7 (X++R) o v=if (X.all fun x=>(bt x.2.2.2).2)=true then x7 R (o++X.map fun x=>(bt x.2.2.2).1) v else none)
 | [],R,o,v,_=>by simp
 | x::X,R,o,v,h=>by
  rw [zad,x7,if_pos (h x (by simp)),List.all_cons];by_cases hx:(bt x.2.2.2).2=true
  ·rw [if_pos hx,aqe X R _ v fun y hy=>h y (by simp [hy]),hx,Bool.true_and,zax,zam]
   rfl
  ·rw [if_neg hx];have:(bt x.2.2.2).2=false:=by simpa using hx
   rw [this]
   rfl
theorem afx:∀(X R:List Fld) (o:List Fea) (v:List Int),(∀x∈X,x.1≠2∧x.1≠4)→x7 (X++R) o v=x7 R o v
 | [],R,o,v,_=>rfl
 | x::X,R,o,v,h=>by
  have:=h x (by simp);rw [zad,x7,if_neg this.1,if_neg this.2];exact afx X R o v fun y hy=>h y (by simp [hy])
theorem aty:∀(X R:List Fld) (o:List Fea) (v:List Int),(∀x∈X,x.1=4)→x7 (X++R) o v=x7 R o (v++X.map fun x=>lj x.2.2.2)
 | [],R,o,v,_=>by simp
 | x::X,R,o,v,h=>by
  have h4:=h x (by simp);rw [zad,x7,if_neg (by omega),if_pos h4,aty X R o _ fun y hy=>h y (by simp [hy]),zax,zam]
  rfl

theorem a8l {l:List Fea} (h:∀f∈l,f.ok) {m:Nat} (hm:m<4*l.length):in64 (ww l m):=by
 obtain ⟨_,_,_,q1,q2,q3,q4⟩:=agb h (show m/4<l.length by omega);unfold ww;rcases (show m%4=0∨m%4=1∨m%4=2∨m%4=3 by omega) with e | e | e | e<;>rw [e]
 ·exact q1
 ·exact q2
 ·exact q3
 ·exact q4
def apu (l:List Fea):Bool:=l.all fun f=>decide (3≤f.ring.length)
theorem bgy {l:List Fea} (h:∀f∈l,f.ok) (hl:l.length≤100000):((fts l).map (·.2)).all (fun x=>(bt x.2.2.2).2)=apu l∧(apu l=true→((fts l).map (·.2)).map (fun x=>(bt x.2.2.2).1)=l.map zf):=by
 have hj:∀j,j<l.length→bt (ftc l j).2.2.2.2=(if 3≤(l.getD j default).ring.length then zf (l.getD j default) else ⟨(l.getD j default).w,[],0,0,0,0⟩,decide (3≤(l.getD j default).ring.length)):=fun j hj=>ayj (agb h hj) _ (by unfold in64; omega)
 have hlr:l=(zal l.length).map fun j=>l.getD j default:=by
  apply zbs;intro i;by_cases hi:i<l.length
  ·simp [hi]
  ·rw [zar (by omega),zar (by simp; omega)]
 constructor
 ·unfold apu
  conv=>rhs; rw [hlr]
  unfold fts;rw [zbh,List.all_map,List.all_map,Bool.eq_iff_iff,List.all_eq_true,List.all_eq_true];refine forall_congr' fun j=>forall_congr' fun hjm=>?_;simp only [Function.comp];rw [hj j (zbg.1 hjm)]
 ·intro hA
  have hA2:∀j,j<l.length→3≤(l.getD j default).ring.length:=fun j hj2=>by
   have:=List.all_eq_true.1 hA (l.getD j default) (by rw [zah,zaw hj2]; exact zbw hj2);simpa using this
  conv=>rhs; rw [hlr]
  unfold fts;rw [zbh,zbh,zbh];apply zca;intro j hjm;have hjl:=zbg.1 hjm;simp only [Function.comp];rw [hj j hjl,if_pos (hA2 j hjl)]
theorem a5w {l:List Fea}:ab7 (l.map zf) ((zal (4*l.length)).map (ww l))=l:=by
 apply zbs;intro i;by_cases hi:i<l.length
 ·have hd:l.getD i default=l[i]:=by rw [zah,zaw hi]; rfl
  have hv:∀k,k<4→((zal (4*l.length)).map (ww l)).getD (4*i+k) 0=(l[i]).nums.getD k 0:=fun k hk=>by
   have hlt:4*i+k<4*l.length:=by omega
   rw [zah,zaq,zbt hlt];simp only [zbz,Option.getD_some,ww];rw [show (4*i+k)/4=i by omega,show (4*i+k)%4=k by omega,hd]
  have h0:=hv 0 (by omega);have h1:=hv 1 (by omega);have h2:=hv 2 (by omega);have h3:=hv 3 (by omega);simp only [Nat.add_zero] at h0;have hz:(l.map zf).getD i default=zf l[i]:=by rw [zah,zaq,zaw hi]; rfl
  rw [ab7,zaq,zaa,zbt hi,zbz,hz,zaw hi];unfold aro;rw [h0,h1,h2,h3]
  rfl
 ·rw [zar (by simp [ab7]; omega),zar (by omega)]
theorem a0z {l:List Fea} (hl:l.length≤100000) (h:∀f∈l,f.ok):dt (ak l)=if apu l=true∧l≠[] then (l,true) else ([],false):=by
 obtain ⟨r1,r2⟩:=ayc hl h;obtain ⟨f1,f2⟩:=bgy h hl
 have hs:dt (ak l)=aaf (x7 ((chs l).map (·.2)) [] []):=by
  unfold dt;rw [r1];simp only;rw [r2]
 rw [hs];simp only [chs,zbd];rw [afx (hdc.map (·.2)) _ _ _ (by simp [hdc])];rw [aqe _ _ _ _ (by simp [fts,ftc]),f1];by_cases hA:apu l=true
 ·rw [if_pos hA,f2 hA,zai];rw [afx (((zal 4).map kyc).map (·.2)) _ _ _ (by simp [kyc])];rw [aty _ _ _ _ (by simp [vls,vlc]),zai];have e3:=afx (tlc.map (·.2)) [] (l.map zf) (((vls l (4*l.length)).map (·.2)).map fun x=>lj x.2.2.2) (by simp [tlc]);rw [zcc] at e3;rw [e3,x7]
  have hvals:((vls l (4*l.length)).map (·.2)).map (fun x=>lj x.2.2.2)=(zal (4*l.length)).map (ww l):=by
   unfold vls;rw [zbh,zbh];apply zca;intro m hm;exact (a69 (a8l h (zbg.1 hm))).1
  rw [hvals,aaf];by_cases h0:l=[]
  ·subst h0
   rfl
  ·rw [if_neg (by simp [h0]),if_pos ⟨hA,h0⟩,a5w]
 ·rw [if_neg hA,if_neg (fun q=>hA q.1)]
  rfl

def se:Mk P0 f24:={ x:=_ }
theorem aby:d5 24 2 se:=c8 func24
theorem nes (x:Int):(x != x)=false:=by simp
set_option maxHeartbeats 1000000 in
theorem bcb (l:List Fea) (hl:l.length≤100000) (h:∀f∈l,f.ok):a8 P0 24 [v8 l,v8 l] [] (bl true) []:=by
 refine aby rfl (by decide) ?_;have hmx:=j7;obtain ⟨N,hN,hN1⟩:∃N:Int,((l.length:Nat):Int)=N∧0≤N∧N≤100000:=⟨_,rfl,by omega,by omega⟩
 push_cast [se,v8,zaa,hN,nes,zab]
 refine run_loop [(5,false),(0,false),(1,false)] (fun vs pos los=>∃i:Nat,i≤l.length∧vs=[int .i64 i,v8 l,v8 l]∧pos=[]∧los=[])
  (fun vs _ _=>match vs with | .r (.v (.int _ a))::_=>(N-a).toNat | _=>0) rfl ?_ ?_
 ·push_cast [v8]
  exact ⟨0,by omega,rfl⟩
 ·rintro vs pos los ⟨i,hi,rfl,rfl,rfl⟩;have w1:IntKind.i64.wrap ((i:Int)+1)=i+1:=a7 (by omega)
  push_cast [v8,w1,zaa,hN]
  refine c7 (fun hd=>?_) (fun hd=>?_)
  ·have hd:=of_decide_eq_true hd;have hi2:i<l.length:=by omega
   have hg:=aw8 hi2;have ho:=agb h hi2;generalize l.getD i default=f at *;have hr:=bbb f.ring f.ring (by have:=ho.2.1; omega) (by have:=ho.2.1; omega);rw [decide_eq_true rfl] at hr
   push_cast [v8,hg,nes,w1,zaa,hN,zap,zau,zaf]
   repeat refine And.intro (by first | omega | kernel_rfl) ?_
   refine b9 (as':=[b8 f.ring,b8 f.ring]) rfl ?_;refine a5 hr rfl trivial ?_
   push_cast [w1]
   exact ⟨⟨i+1,by omega,rfl⟩,by omega⟩
  ·push_cast

theorem a6s {ws:List Nat} (h:ws.Nodup):(asI ws).Nodup:=List.pairwise_map.2 (h.imp fun {a b} hab e=>hab (by omega))
theorem axq (L:List Pt) (r:Nat):(ae L r).Nodup:=(List.mergeSort_perm _ _).nodup_iff.2 (a6s (ai6 _))
theorem ajc {L:List Pt} {r:Nat} {n:Int}:n∈ae L r↔∃p∈L,((p.w r:Nat):Int)=n:=by
 unfold ae xc asI;rw [List.mem_mergeSort,zan];constructor
 ·rintro ⟨w,hw,rfl⟩;obtain ⟨p,hp,e⟩:=adn.1 hw;exact ⟨p,hp,by rw [e]⟩
 ·rintro ⟨p,hp,rfl⟩;exact ⟨p.w r,adn.2 ⟨p,hp,rfl⟩,rfl⟩
theorem bcy {L:List Pt} (hok:∀p∈L,p.ok) {r:Nat} (hr:r<13) {w:Nat} (hw:∃p∈L,p.w r=w):mem L w=L.filter fun p=>((p.w r:Nat):Int) == (w:Int):=by
 obtain ⟨q,hq,e⟩:=hw;have hres:=(Pt.w_res (hok q hq) hr).2.1;rw [e] at hres;unfold mem;apply List.filter_congr;intro p hp;rw [a8y (hok p hp) hr hres];rw [Bool.eq_iff_iff];simp;omega

def jh:Mk P0 f60:={ x:=_ }
theorem nh:d5 60 2 jh:=c8 func60
def ye:Mk P0 f30:={ x:=_ }
theorem adt:d5 30 2 ye:=c8 func30
def z64:RV:=.v (.int .i64 0)
def ids (l:List Int):List RV:=l.map fun n=>.v (.int .i64 n)
theorem bc5 (l:List Int):(ids l).length=l.length:=by simp [ids]
theorem bcl (k:Ky):a8 P0 60 [k.av,.ptr 1000000 0 0] [.box [.nils 1 z64]] (.tup []) [.box [.own 1000001 0 0 1],.row 1 z64 true true (ids [k.d])]:=by
 refine nh rfl (by simp) ?_
 push_cast [jh,Ky.av,Ky.rv,z64,zac,zab]
 repeat refine And.intro (by first | decide | omega | exact fun _=>by decide | (simp +contextual; done) | kernel_rfl) ?_
 simp [ids]
theorem a73 (k:Ky) (l:List Int) (hl:l.length≤100000):a8 P0 60 [k.av,.ptr 1000000 0 0] [.box [.own 1000001 0 0 l.length],.row 1 z64 true true (ids l)] (.tup []) [.box [.own 1000001 0 0 (l++[k.d]).length],.row 1 z64 true true (ids (l++[k.d]))]:=by
 refine nh rfl (by simp) ?_;have hm:=j7
 push_cast [jh,Ky.av,Ky.rv,z64,zac,zab]
 repeat refine And.intro (by first | decide | omega | exact fun _=>by decide | (simp +contextual; done) | kernel_rfl) ?_
 rw [zao (by rw [bc5]; omega)];simp [ids]
def fQ:AV:=.fn (.func 60) [.ptr 1000002 0 0] 0
def poP (w:Int) (id:Nat):List Int→List Ob
 | []=>[.box [int .u64 w],.box [fQ],.box [.nils 1 z64]]
 | x::xs=>[.box [int .u64 w],.box [fQ],.box [.own id 0 0 (x::xs).length]]
def roP (w:Int) (id:Nat):List Int→List Ob
 | []=>[.box [int .u64 w],.box [fQ],.box [.nils 1 z64]]
 | x::xs=>[.box [int .u64 w],.box [fQ],.box [.own id 0 0 (x::xs).length],.row 1 z64 true true (ids (x::xs))]
def loP (lo:Ky):List Int→List Ob
 | []=>[.box lo.cs]
 | x::xs=>[.row 1 z64 true true (ids (x::xs)),.box lo.cs]
def lpP:List Int→Nat
 | []=>2000000
 | _=>2000001
theorem as1:lpP []=2000000:=rfl
theorem ak5 {acc:List Int} (h:acc≠[]):lpP acc=2000001:=by cases acc; exact absurd rfl h; rfl
theorem ahl (w:Int) (id:Nat):poP w id []=[.box [int .u64 w],.box [.fn (.func 60) [.ptr 1000002 0 0] 0],.box [.nils 1 (.v (.int .i64 0))]]:=rfl
theorem akn (w:Int) (id:Nat) {acc:List Int} (h:acc≠[]):poP w id acc=[.box [int .u64 w],.box [.fn (.func 60) [.ptr 1000002 0 0] 0],.box [.own id 0 0 acc.length]]:=by cases acc; exact absurd rfl h; rfl
theorem as2 (lo:Ky):loP lo []=[.box [int .u64 lo.c,int .i64 lo.v,int .i64 lo.d]]:=rfl
theorem ak6 (lo:Ky) {acc:List Int} (h:acc≠[]):loP lo acc=[.row 1 (.v (.int .i64 0)) true true (ids acc),.box [int .u64 lo.c,int .i64 lo.v,int .i64 lo.d]]:=by cases acc; exact absurd rfl h; rfl
theorem aqg (w:Int) (id:Nat) {acc:List Int} (h:acc≠[]):roP w id acc=[.box [int .u64 w],.box [.fn (.func 60) [.ptr 1000002 0 0] 0],.box [.own id 0 0 acc.length],.row 1 (.v (.int .i64 0)) true true (ids acc)]:=by cases acc; exact absurd rfl h; rfl
theorem asj (w:Int) (id:Nat):roP w id []=[.box [int .u64 w],.box [.fn (.func 60) [.ptr 1000002 0 0] 0],.box [.nils 1 (.v (.int .i64 0))]]:=rfl
def roN (w:Int) (l:List Int):List Ob:=[.box [int .u64 w],.box [fQ],.box [.own 1000003 0 0 l.length],.row 1 z64 true true (ids l)]
def roZ (w:Int):List Ob:=[.box [int .u64 w],.box [fQ],.box [.nils 1 z64]]
section
variable (k:Ky) (w:Int)
theorem avi (h:(k.c != w)=true):a8 P0 107 [k.av,.ptr 1000000 0 0,.ptr 1000001 0 0] (roZ w) (bl false) (roZ w):=by
 refine bd rfl (by simp [roZ]) ?_
 push_cast [bh,roZ,roN,fQ,z64,h,Ky.av,Ky.rv,zac,zab]
theorem atq (l:List Int) (h:(k.c != w)=true):a8 P0 107 [k.av,.ptr 1000000 0 0,.ptr 1000001 0 0] (roN w l) (bl false) (roN w l):=by
 refine bd rfl (by simp [roN]) ?_
 push_cast [bh,roN,fQ,z64,h,Ky.av,Ky.rv,zac,zab]
theorem atp (h:(k.c != w)=false):a8 P0 107 [k.av,.ptr 1000000 0 0,.ptr 1000001 0 0] (roZ w) (bl true) (roN w [k.d]):=by
 refine bd rfl (by simp [roZ]) ?_
 push_cast [bh,roZ,roN,fQ,z64,h,Ky.av,Ky.rv,zac,zab]
 refine ⟨by kernel_rfl,?_⟩;refine b9 (as':=[k.av,.ptr 1000000 0 0]) rfl ?_;refine a5 (bcl k) rfl ⟨rfl,trivial⟩ ?_
 push_cast [z64]
theorem apy (l:List Int) (hn:l.length≤100000) (h:(k.c != w)=false):a8 P0 107 [k.av,.ptr 1000000 0 0,.ptr 1000001 0 0] (roN w l) (bl true) (roN w (l++[k.d])):=by
 refine bd rfl (by simp [roN]) ?_
 push_cast [bh,roN,fQ,z64,h,Ky.av,Ky.rv,zac,zab]
 refine ⟨by kernel_rfl,?_⟩;refine b9 (as':=[k.av,.ptr 1000000 0 0]) rfl ?_;refine a5 (a73 k l hn) rfl (by simp [y9]) ?_
 push_cast [z64]
end
def tcd (lo:Ky) (w:Int) (r:List Ky):List Int:=(tc lo w r).map (·.d)
section
variable {lo k:Ky} {w:Int} {r:List Ky}
theorem aii (h:kl k lo=true):tcd lo w (k::r)=tcd lo w r:=by simp [tcd,ayy h]
theorem aig (h:kl k lo=false) (h2:(k.c != w)=false):tcd lo w (k::r)=k.d::tcd lo w r:=by
 have h3:(k.c == w)=true:=by simpa using h2
 simp [tcd,ayw h h3]
theorem aih (h:kl k lo=false) (h2:(k.c != w)=true):tcd lo w (k::r)=[]:=by
 have h3:(k.c == w)=false:=by simpa using h2
 simp [tcd,ayx h h3]
end
set_option maxHeartbeats 1000000 in
theorem bdc (ns:List (List Ky)) (n:Int) (lo:Ky) (w:Int) (r:Nat) (h:Nod ns lo r) (h0:ns≠[]) (hn:ns.flatten.length≤100000) (R:List Int) (hR:tcd lo w (ns.drop (r-1)).flatten=R) :
  a8 P0 106 [.rp (i7 ns n),lo.av,ccF] (poP w 1000003 []) (.tup []) (roP w 1000003 R):=by
 refine fg rfl (by simp [poP]) ?_;have hQ:=ahl w 1000003;have hne:((ns.length:Int) == 0)=false:=by simp [h0]
 have hRl:R.length≤100000:=by
  rw [← hR]
  have h1:(tcd lo w (ns.drop (r-1)).flatten).length≤(ns.drop (r-1)).flatten.length:=by
   unfold tcd tc;rw [zaa];exact Nat.le_trans (List.takeWhile_sublist _).length_le (zco).length_le
  have h2:(ns.drop (r-1)).flatten.length≤ns.flatten.length:=by
   conv=>rhs; rw [← List.take_append_drop (r-1) ns]
   rw [List.flatten_append,zae];omega
  omega
 have hfn:xm P0 107=true:=rfl
 push_cast [fw,ccF,hQ,i7,Ky.av,Ky.rv,Ky.cs,kz,zab,zaa,hne]
 refine a5 (awk ns n lo r h) rfl trivial ?_
 push_cast [zaa]
 refine run_loop [(0,false),(2,false),(4,false),(6,false)] (fun vs pos los=>∃(a:Nat) (acc:List Int),a≤ns.length∧R=acc++tcd lo w (ns.drop a).flatten ∧
   vs=[.rp (i7 ns n),ccF,.ptr (lpP acc) 0 0,int .i64 a]∧pos=poP w 2000000 acc∧los=loP lo acc)
  (fun vs _ _=>match vs with | [_,_,_,.r (.v (.int _ a))]=>(ns.length-a).toNat | _=>0) rfl ?_ ?_
 ·push_cast [i7,ccF,roN,roZ,fQ,z64,Ky.cs,kz]
  have:=h.le;exact ⟨r-1,[],by omega,by simp [hR],by simp [poP,loP,lpP,ccF,Ky.cs,kz,fQ,z64,ids]⟩
 ·rintro vs pos los ⟨a,acc,ha,hf,rfl,rfl,rfl⟩;rcases acc with _ | ⟨x,xs⟩
  ·have hP:=ahl w 2000000;have hL:=as2 lo;have hI:=as1
   push_cast [i7,ccF,roN,roZ,fQ,z64,hP,hL,hI,zaa]
   refine c7 (fun h1=>?_) (fun h1=>?_)
   ·have h1':a<ns.length:=by simpa using h1
    obtain ⟨l,hl⟩:∃l,ns[a]?=some l:=⟨ns[a],by simp [h1']⟩
    have hll:=(h.ne a l hl).2
    have hd:ns.drop a=l::ns.drop (a+1):=by
     rw [zbc h1',(zbi.1 hl).2]
    rw [hd,List.flatten_cons] at hf;have hg:(ns.map l9).getD ((a:Int)).toNat (.sl 3 [])=.sl 3 (l.map Ky.rv):=by simp [List.getD,hl,l9]
    have ha1:IntKind.i64.wrap ((a:Int)+1)=(a:Int)+1:=a7 ⟨by omega,by have:=h.len; simp only [maxLen] at this; omega⟩
    push_cast [i7,ccF,roN,roZ,fQ,z64,zaa,hg]
    refine And.intro ⟨by omega,by omega⟩ ?_
    refine run_loop [(0,false),(2,false),(4,false),(6,false),(33,false),(34,false),(35,false)] (fun vs pos los=>∃(j:Nat) (acc:List Int),j≤l.length∧R=acc++tcd lo w (l.drop j++(ns.drop (a+1)).flatten) ∧
      vs=[.rp (i7 ns n),ccF,.ptr (lpP acc) 0 0,int .i64 a,.r (l9 l),int .i64 l.length,int .i64 j]∧pos=poP w 2000000 acc∧los=loP lo acc)
     (fun vs _ _=>match vs with | [_,_,_,_,_,_,.r (.v (.int _ a))]=>(l.length-a).toNat | _=>0) rfl ?_ ?_
    ·push_cast [i7,ccF,roN,roZ,fQ,z64,l9]
     exact ⟨0,[],by omega,hf,by simp [hP,hL,hI,ccF,fQ,z64]⟩
    ·rintro vs pos los ⟨j,acc2,hj,hf2,rfl,rfl,rfl⟩;rcases acc2 with _ | ⟨y,ys⟩
     ·have hP:=ahl w 2000000;have hL:=as2 lo;have hI:=as1
      push_cast [i7,ccF,roN,roZ,fQ,z64,l9,hP,hL,hI,zaa]
      refine c7 (fun h2=>?_) (fun h2=>?_)
      ·have h2':j<l.length:=by simpa using h2
       have hj1:IntKind.i64.wrap ((j:Int)+1)=(j:Int)+1:=a7 ⟨by omega,by simp only [maxLen] at hll; omega⟩;obtain ⟨k,hk⟩:∃k,l[j]?=some k:=⟨l[j],by simp [h2']⟩
       have hkd:l.drop j=k::l.drop (j+1):=by
        rw [zbc h2',(zbi.1 hk).2]
       rw [hkd,zad] at hf2
       push_cast [i7,ccF,roN,roZ,fQ,z64,l9,zaa,lq hk]
       refine And.intro ⟨by omega,by omega⟩ (a5 (aez k lo) rfl trivial ?_);rcases hkl:kl k lo with _ | _
       ·push_cast [i7,ccF,roN,roZ,fQ,z64,Ky.cs,l9,zaa,lq hk,hfn,zci]
        rcases hkh:(k.c != w) with _ | _
        ·refine a5 (atp k w hkh) rfl ⟨rfl,rfl,rfl,trivial⟩ ?_;rw [aig hkl hkh] at hf2
         push_cast [i7,ccF,roN,roZ,fQ,z64,Ky.cs,l9,kz,zaa,hj1]
         exact ⟨⟨j+1,[k.d],by omega,by simpa using hf2,by simp [poP,loP,lpP,ccF,Ky.cs,kz,fQ,z64,ids]⟩,by omega⟩
        ·refine a5 (avi k w hkh) rfl ⟨rfl,rfl,rfl,trivial⟩ ?_;rw [aih hkl hkh] at hf2
         push_cast [i7,ccF,roN,roZ,fQ,z64,Ky.cs,l9,kz,zaa]
         rw [hf2];exact (asj w 1000003).symm
       ·rw [aii hkl] at hf2
        push_cast [i7,ccF,roN,roZ,fQ,z64,Ky.cs,l9,zaa,Bool.not_true,hj1]
        exact ⟨⟨j+1,[],by omega,hf2,by simp [poP,loP,lpP,ccF,Ky.cs,kz,fQ,z64,ids]⟩,by omega⟩
      ·have h2':¬j<l.length:=by simpa using h2
       rw [zbn (by omega),zai] at hf2
       push_cast [i7,ccF,roN,roZ,fQ,z64,l9,zaa,ha1]
       exact ⟨⟨a+1,[],by omega,hf2,by simp [poP,loP,lpP,ccF,Ky.cs,kz,fQ,z64,ids]⟩,by omega⟩
     ·have hac2:y::ys≠[]:=by simp
      generalize y::ys=acc2 at *;have hal:acc2.length≤100000:=by rw [hf2,zae] at hRl; omega
      have hP:=akn w 2000000 hac2;have hL:=ak6 lo hac2;have hI:=ak5 hac2
      push_cast [i7,ccF,roN,roZ,fQ,z64,l9,hP,hL,hI,zaa]
      refine c7 (fun h2=>?_) (fun h2=>?_)
      ·have h2':j<l.length:=by simpa using h2
       have hj1:IntKind.i64.wrap ((j:Int)+1)=(j:Int)+1:=a7 ⟨by omega,by simp only [maxLen] at hll; omega⟩;obtain ⟨k,hk⟩:∃k,l[j]?=some k:=⟨l[j],by simp [h2']⟩
       have hkd:l.drop j=k::l.drop (j+1):=by
        rw [zbc h2',(zbi.1 hk).2]
       rw [hkd,zad] at hf2
       push_cast [i7,ccF,roN,roZ,fQ,z64,l9,zaa,lq hk]
       refine And.intro ⟨by omega,by omega⟩ (a5 (aez k lo) rfl trivial ?_);rcases hkl:kl k lo with _ | _
       ·push_cast [i7,ccF,roN,roZ,fQ,z64,Ky.cs,l9,zaa,lq hk,hfn,zci]
        rcases hkh:(k.c != w) with _ | _
        ·refine a5 (apy k w acc2 hal hkh) rfl ⟨rfl,rfl,rfl,trivial⟩ ?_;rw [aig hkl hkh] at hf2
         push_cast [i7,ccF,roN,roZ,fQ,z64,Ky.cs,l9,kz,zaa,hj1]
         refine ⟨⟨j+1,acc2++[k.d],by omega,by simpa using hf2,by simp [akn,ak6,ak5,ccF,fQ,z64,ids]⟩,by omega⟩
        ·refine a5 (atq k w acc2 hkh) rfl ⟨rfl,rfl,rfl,trivial⟩ ?_;rw [aih hkl hkh,zcc] at hf2
         push_cast [i7,ccF,roN,roZ,fQ,z64,Ky.cs,l9,kz,zaa]
         rw [hf2];exact (aqg w 1000003 hac2).symm
       ·rw [aii hkl] at hf2
        push_cast [i7,ccF,roN,roZ,fQ,z64,Ky.cs,l9,zaa,Bool.not_true,hj1]
        refine ⟨⟨j+1,acc2,by omega,hf2,by simp [hP,hL,hI,ccF,fQ,z64]⟩,by omega⟩
      ·have h2':¬j<l.length:=by simpa using h2
       rw [zbn (by omega),zai] at hf2
       push_cast [i7,ccF,roN,roZ,fQ,z64,l9,zaa,ha1]
       refine ⟨⟨a+1,acc2,by omega,hf2,by simp [hP,hL,hI,ccF,fQ,z64]⟩,by omega⟩
   ·have h1':¬a<ns.length:=by simpa using h1
    rw [zbn (by omega)] at hf
    push_cast [i7,ccF,roN,roZ,fQ,z64,zaa]
    have hRa:R=[]:=by simpa [tcd,tc] using hf
    rw [hRa];exact (asj w 1000003).symm
  ·have hac:x::xs≠[]:=by simp
   generalize x::xs=acc at *;have hP:=akn w 2000000 hac;have hL:=ak6 lo hac;have hI:=ak5 hac
   push_cast [i7,ccF,roN,roZ,fQ,z64,hP,hL,hI,zaa]
   refine c7 (fun h1=>?_) (fun h1=>?_)
   ·have h1':a<ns.length:=by simpa using h1
    obtain ⟨l,hl⟩:∃l,ns[a]?=some l:=⟨ns[a],by simp [h1']⟩
    have hll:=(h.ne a l hl).2
    have hd:ns.drop a=l::ns.drop (a+1):=by
     rw [zbc h1',(zbi.1 hl).2]
    rw [hd,List.flatten_cons] at hf;have hg:(ns.map l9).getD ((a:Int)).toNat (.sl 3 [])=.sl 3 (l.map Ky.rv):=by simp [List.getD,hl,l9]
    have ha1:IntKind.i64.wrap ((a:Int)+1)=(a:Int)+1:=a7 ⟨by omega,by have:=h.len; simp only [maxLen] at this; omega⟩
    push_cast [i7,ccF,roN,roZ,fQ,z64,zaa,hg]
    refine And.intro ⟨by omega,by omega⟩ ?_
    refine run_loop [(0,false),(2,false),(4,false),(6,false),(33,false),(34,false),(35,false)] (fun vs pos los=>∃(j:Nat) (acc:List Int),j≤l.length∧R=acc++tcd lo w (l.drop j++(ns.drop (a+1)).flatten) ∧
      vs=[.rp (i7 ns n),ccF,.ptr (lpP acc) 0 0,int .i64 a,.r (l9 l),int .i64 l.length,int .i64 j]∧pos=poP w 2000000 acc∧los=loP lo acc)
     (fun vs _ _=>match vs with | [_,_,_,_,_,_,.r (.v (.int _ a))]=>(l.length-a).toNat | _=>0) rfl ?_ ?_
    ·push_cast [i7,ccF,roN,roZ,fQ,z64,l9]
     exact ⟨0,acc,by omega,hf,by simp [hP,hL,hI,ccF,fQ,z64]⟩
    ·rintro vs pos los ⟨j,acc2,hj,hf2,rfl,rfl,rfl⟩;rcases acc2 with _ | ⟨y,ys⟩
     ·have hP:=ahl w 2000000;have hL:=as2 lo;have hI:=as1
      push_cast [i7,ccF,roN,roZ,fQ,z64,l9,hP,hL,hI,zaa]
      refine c7 (fun h2=>?_) (fun h2=>?_)
      ·have h2':j<l.length:=by simpa using h2
       have hj1:IntKind.i64.wrap ((j:Int)+1)=(j:Int)+1:=a7 ⟨by omega,by simp only [maxLen] at hll; omega⟩;obtain ⟨k,hk⟩:∃k,l[j]?=some k:=⟨l[j],by simp [h2']⟩
       have hkd:l.drop j=k::l.drop (j+1):=by
        rw [zbc h2',(zbi.1 hk).2]
       rw [hkd,zad] at hf2
       push_cast [i7,ccF,roN,roZ,fQ,z64,l9,zaa,lq hk]
       refine And.intro ⟨by omega,by omega⟩ (a5 (aez k lo) rfl trivial ?_);rcases hkl:kl k lo with _ | _
       ·push_cast [i7,ccF,roN,roZ,fQ,z64,Ky.cs,l9,zaa,lq hk,hfn,zci]
        rcases hkh:(k.c != w) with _ | _
        ·refine a5 (atp k w hkh) rfl ⟨rfl,rfl,rfl,trivial⟩ ?_;rw [aig hkl hkh] at hf2
         push_cast [i7,ccF,roN,roZ,fQ,z64,Ky.cs,l9,kz,zaa,hj1]
         exact ⟨⟨j+1,[k.d],by omega,by simpa using hf2,by simp [poP,loP,lpP,ccF,Ky.cs,kz,fQ,z64,ids]⟩,by omega⟩
        ·refine a5 (avi k w hkh) rfl ⟨rfl,rfl,rfl,trivial⟩ ?_;rw [aih hkl hkh] at hf2
         push_cast [i7,ccF,roN,roZ,fQ,z64,Ky.cs,l9,kz,zaa]
         rw [hf2];exact (asj w 1000003).symm
       ·rw [aii hkl] at hf2
        push_cast [i7,ccF,roN,roZ,fQ,z64,Ky.cs,l9,zaa,Bool.not_true,hj1]
        exact ⟨⟨j+1,[],by omega,hf2,by simp [poP,loP,lpP,ccF,Ky.cs,kz,fQ,z64,ids]⟩,by omega⟩
      ·have h2':¬j<l.length:=by simpa using h2
       rw [zbn (by omega),zai] at hf2
       push_cast [i7,ccF,roN,roZ,fQ,z64,l9,zaa,ha1]
       exact ⟨⟨a+1,[],by omega,hf2,by simp [poP,loP,lpP,ccF,Ky.cs,kz,fQ,z64,ids]⟩,by omega⟩
     ·have hac2:y::ys≠[]:=by simp
      generalize y::ys=acc2 at *;have hal:acc2.length≤100000:=by rw [hf2,zae] at hRl; omega
      have hP:=akn w 2000000 hac2;have hL:=ak6 lo hac2;have hI:=ak5 hac2
      push_cast [i7,ccF,roN,roZ,fQ,z64,l9,hP,hL,hI,zaa]
      refine c7 (fun h2=>?_) (fun h2=>?_)
      ·have h2':j<l.length:=by simpa using h2
       have hj1:IntKind.i64.wrap ((j:Int)+1)=(j:Int)+1:=a7 ⟨by omega,by simp only [maxLen] at hll; omega⟩;obtain ⟨k,hk⟩:∃k,l[j]?=some k:=⟨l[j],by simp [h2']⟩
       have hkd:l.drop j=k::l.drop (j+1):=by
        rw [zbc h2',(zbi.1 hk).2]
       rw [hkd,zad] at hf2
       push_cast [i7,ccF,roN,roZ,fQ,z64,l9,zaa,lq hk]
       refine And.intro ⟨by omega,by omega⟩ (a5 (aez k lo) rfl trivial ?_);rcases hkl:kl k lo with _ | _
       ·push_cast [i7,ccF,roN,roZ,fQ,z64,Ky.cs,l9,zaa,lq hk,hfn,zci]
        rcases hkh:(k.c != w) with _ | _
        ·refine a5 (apy k w acc2 hal hkh) rfl ⟨rfl,rfl,rfl,trivial⟩ ?_;rw [aig hkl hkh] at hf2
         push_cast [i7,ccF,roN,roZ,fQ,z64,Ky.cs,l9,kz,zaa,hj1]
         refine ⟨⟨j+1,acc2++[k.d],by omega,by simpa using hf2,by simp [akn,ak6,ak5,ccF,fQ,z64,ids]⟩,by omega⟩
        ·refine a5 (atq k w acc2 hkh) rfl ⟨rfl,rfl,rfl,trivial⟩ ?_;rw [aih hkl hkh,zcc] at hf2
         push_cast [i7,ccF,roN,roZ,fQ,z64,Ky.cs,l9,kz,zaa]
         rw [hf2];exact (aqg w 1000003 hac2).symm
       ·rw [aii hkl] at hf2
        push_cast [i7,ccF,roN,roZ,fQ,z64,Ky.cs,l9,zaa,Bool.not_true,hj1]
        refine ⟨⟨j+1,acc2,by omega,hf2,by simp [hP,hL,hI,ccF,fQ,z64]⟩,by omega⟩
      ·have h2':¬j<l.length:=by simpa using h2
       rw [zbn (by omega),zai] at hf2
       push_cast [i7,ccF,roN,roZ,fQ,z64,l9,zaa,ha1]
       refine ⟨⟨a+1,acc2,by omega,hf2,by simp [hP,hL,hI,ccF,fQ,z64]⟩,by omega⟩
   ·have h1':¬a<ns.length:=by simpa using h1
    rw [zbn (by omega)] at hf
    push_cast [i7,ccF,roN,roZ,fQ,z64,zaa]
    have hRa:R=acc:=by simpa [tcd,tc] using hf
    rw [hRa];exact (aqg w 1000003 hac).symm
theorem a5s {ns:List (List Ky)} (h:Good ns) (hn:ns.flatten.length≤100000) (n:Int) (lo:Ky) (w:Int) :
  a8 P0 106 [.rp (i7 ns n),lo.av,ccF] (poP w 1000003 []) (.tup []) (roP w 1000003 (tcd lo w ns.flatten)):=by
 by_cases h0:ns=[]
 ·subst h0;refine fg rfl (by simp [poP]) ?_;have hQ:=ahl w 1000003
  push_cast [fw,ccF,hQ,i7,Ky.av,Ky.rv,Ky.cs,kz,zab,zac,zbf]
  rfl
 ·obtain ⟨i,q,l,hs⟩:=spt h (by omega) lo h0;refine bdc ns n lo w _ (ak1 h (by omega) _) h0 hn _ ?_;rw [hs.nx]
  have hd:ns.drop i=l::ns.drop (i+1):=by
   rw [zbc hs.lt,(zbi.1 hs.at_).2]
  rw [hs.all,hd,List.flatten_cons];unfold tcd tc
  conv=>rhs; rw [zch]
  have:List.filter (fun k=>!kl k lo) (zav i ns).flatten=[]:=by
   rw [List.filter_eq_nil_iff];intro x hx;simp [hs.ahead x hx]
  rw [this,zai]
def fQ1:AV:=.fn (.func 60) [.ptr 1000003 0 0] 0
theorem axe (l:List Int):∀x∈ids l,dp x:=fun x hx=>by
 obtain ⟨n,_,rfl⟩:=zan.1 hx;simp [dp]
theorem a2a {ns:List (List Ky)} (h:Good ns) (hn:ns.flatten.length≤100000) (lo:Ky) (w:Int) {acc:List Int} (hR:tcd lo w ns.flatten=acc) (h0:acc≠[]) :
  a8 P0 106 [.ptr 1000000 0 0,lo.av,a2m] [.abs (tr ns),.box [int .u64 w],.box [fQ1],.box [.nils 1 z64]] (.tup []) [.abs (tr ns),.box [int .u64 w],.box [fQ1],.box [.own 1000004 0 0 acc.length],.row 1 z64 true true (ids acc)]:=by
 have:=a5s h hn ns.flatten.length lo w;rw [hR,aqg w 1000003 h0] at this
 exact a97 (T:=tr ns) (po:=poP w 1000003 []) (po':=[.box [int .u64 w],.box [fQ1],.box [.nils 1 z64]]) (ro':=[.box [int .u64 w],.box [fQ1],.box [.own 1000004 0 0 acc.length],.row 1 z64 true true (ids acc)]) this rfl rfl rfl rfl
  (by simp [fQ1,ea,ft,v9,dp]) (by simpa [fQ,ea,ft,v9,dp] using axe acc) (by simp [v9,ft])
theorem a0q {ns:List (List Ky)} (h:Good ns) (hn:ns.flatten.length≤100000) (w:Int) {acc:List Int} (hR:tcd ⟨w,-9223372036854775808,-9223372036854775808⟩ w ns.flatten=acc) (h0:acc≠[]) :
  a8 P0 59 [.ptr 1000000 0 0,int .u64 w,.fn (.func 60) [.ptr 1000001 0 0] 0] [.abs (tr ns),.box [.nils 1 z64]] (.tup []) [.abs (tr ns),.box [.own 1000002 0 0 acc.length],.row 1 z64 true true (ids acc)]:=by
 refine yc rfl (by simp) ?_
 push_cast [ve,z64,zac,zab]
 refine ⟨by kernel_rfl,?_⟩;refine b9 (as':=[.ptr 1000000 0 0,Ky.av ⟨w,-9223372036854775808,-9223372036854775808⟩,a2m]) rfl ?_;refine a5 (a2a h hn _ w hR h0) rfl ⟨rfl,rfl,rfl,rfl,trivial⟩ ?_
 push_cast [fQ1,z64]
section
variable {L:List Pt} {es:List MapEntry} {c:Nat} {ns:List (List Ky)} {ce:Nat→List MapEntry} {cc:Nat→Nat}
def a72 (ns:List (List Ky)) (w:Int):List Int:=tcd ⟨w,-9223372036854775808,-9223372036854775808⟩ w ns.flatten
theorem a71 (h:StL L es c ns ce cc) (w:Int) {acc:List Int} (hR:a72 ns w=acc) (h0:acc≠[]):a8 P0 30 [.ptr 1000000 0 0,int .u64 w] (stOs es c ns ce cc) (.own 1000016 0 0 acc.length) (stOs es c ns ce cc++[.row 1 z64 true true (ids acc)]):=by
 have hT:=a0q h.tk.g (by rw [h.tk.l]; have:=h.le; omega) w hR h0;refine adt rfl (by simp [stOs]) ?_
 push_cast [ye,stOs,z64,zac,zab]
 repeat refine And.intro (by first | decide | omega | exact fun _=>by decide | (simp +contextual; done) | kernel_rfl) ?_
 refine a5 hT rfl ⟨rfl,rfl,trivial⟩ ?_
 push_cast [z64,zad,zai]
end

def leK (a b:Ky):Bool:=!kl b a
theorem a5h (a b c:Ky) (h1:leK a b=true) (h2:leK b c=true):leK a c=true:=by
 unfold leK at *;rw [zbv,aml] at *;omega
theorem a5i (a b:Ky):(leK a b||leK b a)=true:=by
 unfold leK;cases h:kl b a with
 | false=>rfl
 | true=>
  have:=ahs.1 h;have:kl a b=false:=by rw [aml]; omega
  simp [this]
theorem a8w {a b:Ky} (h1:leK a b=true) (h2:leK b a=true):a=b:=by
 unfold leK at *;rw [zbv,aml] at h1 h2;obtain ⟨a1,a2,a3⟩:=a;obtain ⟨b1,b2,b3⟩:=b;simp only at h1 h2;rw [Ky.mk.injEq];omega
def zy (L:List Pt) (w:Nat):List Ky:=(mem L w).map fun p=>(⟨w,p.v,p.k⟩:Ky)
def xf (L:List Pt) (w:Nat):List Int:=((zy L w).mergeSort leK).map (·.d)
theorem av4 (L:List Pt) (w:Nat):(xf L w).length=(mem L w).length:=by
 unfold xf zy;rw [zaa,List.length_mergeSort,zaa]
section
variable {L:List Pt} {es:List MapEntry} {c:Nat} {ns:List (List Ky)} {ce:Nat→List MapEntry} {cc:Nat→Nat}
theorem bck (h:StL L es c ns ce cc) (w:Nat):a72 ns w=xf L w:=by
 have hK:∀k∈ns.flatten,∃p∈L,∃r,r<13∧k=p.ky r:=fun k hk=>(h.tk.m k).1 hk
 have hb:∀k∈ns.flatten,-2147483648≤k.v∧k.v≤2147483647∧1≤k.d:=fun k hk=>by
  obtain ⟨p,hp,r,hr,rfl⟩:=hK k hk;have:=h.ok p hp;exact ⟨this.2.2.1,this.2.2.2,this.1.1⟩
 unfold a72 tcd xf;rw [a99 h.tk.g.so w fun k hk=>by have:=hb k hk; omega];generalize hF:(ns.flatten.filter fun k=>k.c == (w:Int))=F;have hsF:Srt F:=by rw [← hF]; exact h.tk.g.so.sublist zco
 have hmF:∀k,k∈F↔k∈zy L w:=fun k=>by
  unfold zy;rw [← hF,zbl,h.tk.m,zan];constructor
  ·rintro ⟨⟨p,hp,r,hr,rfl⟩,hc⟩;have hc':p.w r=w:=Int.ofNat.inj (by simpa [Pt.ky] using hc);exact ⟨p,zbl.2 ⟨hp,abl.2 ⟨r,hr,hc'⟩⟩,by simp [Pt.ky,hc']⟩
  ·rintro ⟨p,hp,rfl⟩;obtain ⟨hp,hi⟩:=zbl.1 hp;obtain ⟨r,hr,e⟩:=abl.1 hi;exact ⟨⟨p,hp,r,hr,by simp [Pt.ky,e]⟩,by simp⟩
 have hndM:((mem L w).map (·.k)).Nodup:=by
  have:((mem L w).map (·.k)).Sublist (L.map (·.k)):=zco.map _;exact this.nodup h.pm.nd
 have hndF:F.Nodup:=hsF.imp fun {a b} hab e=>by subst e; rw [ak8] at hab; cases hab
 have hP:F.Perm (zy L w):=(List.perm_ext_iff_of_nodup hndF (anv hndM)).2 hmF
 have e:F=(zy L w).mergeSort leK:=by
  refine List.Perm.eq_of_pairwise (le:=fun a b=>leK a b=true) (fun a b _ _ h1 h2=>a8w h1 h2) (hsF.imp fun {a b} hab=>?_) (List.pairwise_mergeSort a5h a5i _) (hP.trans (List.mergeSort_perm _ _).symm);unfold leK;rw [zbv,aml];have:=ahs.1 hab;omega
 rw [e]
end
theorem bik (L:List Pt) (w:Nat) (h0:mem L w≠[]):a8 P0 30 [.ptr 1000000 0 0,int .u64 w] [.abs (sT L)] (.own 1000001 0 0 (xf L w).length) [.abs (sT L),.row 1 z64 true true (ids (xf L w))]:=
 a1j (F:=SF L) (F':=SF L) rfl (ex:=[.row 1 z64 true true (ids (xf L w))]) (res:=.own 1000016 0 0 (xf L w).length) (fun os h=>by
  obtain ⟨es,c,ns,ce,cc,h,rfl⟩:=h;refine ⟨_,⟨_,_,_,_,_,h,rfl⟩,a71 h w (bck h w) fun e=>h0 ?_⟩;have:=av4 L w;rw [e] at this;exact zbk.1 this.symm) rfl (by
  intro o ho;simp at ho;subst ho
  exact axe _) (by simp [v9])

end
end Go.Ev

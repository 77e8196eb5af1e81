import Derived.Test.YtpibfnekkfhkmaaGreatChecked
import Derived.WalkKit
import Derived.Test.YtpibfnekkfhkmaaGreatM7
open Nat renaming reduceBEq → zB, reduceEqDiff → zE, reduceAdd → zA, reduceSub → zS, reduceLT → zL, reduceLeDiff → zD, reduceMul → zM
open Go.Proofs.Tryz renaming prog → P0
open Go.Proofs.Tryz
open List renaming length_nil → zaa, length_map → zab, getElem?_eq_some_iff → zad, map_nil → zae, length_cons → zaf, mem_map → zaj, length_append → zak, getElem?_take → zal, append_assoc → zam, mem_of_getElem? → zap, take_add_one → zaq, getElem?_append_left → zat, ext_getElem? → zaw, mem_cons_of_mem → zax, take_of_length_le → zay, mem_iff_getElem? → zbb
open Nat renaming zero_add → zac
open Int renaming toNat_natCast → zah, toNat_natCast_add_one → zai, toNat_zero → zan, reduceToNat → zao, le_ediv_iff_mul_le → zar, ediv_lt_iff_lt_mul → zas
open Array renaming getElem?_eq_some_iff → zau
open Option renaming getD_some → zav, isSome_none → zaz, map_eq_some_iff → zba
namespace Go.Ev
set_option maxRecDepth 100000
noncomputable section
open Go
set_option linter.unusedSectionVars false
set_option linter.unnecessarySimpa false
set_option linter.unusedVariables false
theorem a0j (p a:P2):xq p [a]=[a]:=rfl
set_option maxHeartbeats 4000000 in
theorem a4c (l:List P2) (hl:1≤l.length∧l.length≤1000) (hn:∀p∈l,near29 p):a8 P0 132 [a9 l] [] (.own 1000000 0 0 ((jl l).length-1)) [d6 (jl l).reverse]:=by
  refine aqx rfl (by decide) ?_;have hmx:=d7;have hsl:∀i,(jl (l.take i)).length≤i:=fun i=>by have:=agz (l.take i); simp at this; omega
  simp only [anm,a9,push_cast,↓reduceIte,reduceCtorEq]
  refine run_loop [(8, false), (6, false), (7, false), (3, false)] (fun vs pos los => ∃ i : Nat, i ≤ l.length ∧ pos = [] ∧
      (i=0∧vs=[int .i64 i,a9 l,int .i64 l.length,.nils 2 (pnt 0 0)]∧los=[] ∨
       i≠0∧vs=[int .i64 i,a9 l,int .i64 l.length,.own 2000000 0 0 (jl (l.take i)).length]∧los=[d6 (jl (l.take i)).reverse]))
    (fun vs _ _=>match vs with | .r (.v (.int _ a))::_=>(l.length-a).toNat | _=>0) rfl ?_ ?_
  · simp only [a9,pnt,push_cast,↓reduceIte,reduceCtorEq,zE,zA];exact ⟨0,by omega,.inl ⟨rfl,by simp⟩⟩
  · rintro vs pos los ⟨i,hi,rfl,⟨h0,rfl,rfl⟩ | ⟨h0,rfl,rfl⟩⟩
    · simp only [a9,pnt,push_cast,↓reduceIte,zE];refine b6 (fun hd=>?_) (fun hd=>?_)
      · have hi2:i<l.length:=by simpa using hd
        obtain ⟨p,hp⟩:∃p,l[i]?=some p:=⟨l[i],by simp [hi2]⟩
        have wi:IntKind.i64.wrap ((i:Int)+1)=(i:Int)+1:=a5 (by omega);have z0:decide ((0:Int)>1)=false:=rfl
        have hN:jl (l.take (i+1))=[p]:=by
          subst h0;rw [zaq,hp];simp [jl,xq]
        simp only [zab,dw hp,zac,push_cast,↓reduceIte,zE,zA,zD]
        repeat refine And.intro (by first | decide | omega | exact fun _=>by decide | (simp +contextual; done) | kernel_rfl) ?_
        refine run_loop [(8,false),(6,false),(7,false),(3,false),(5,false)] (fun vs pos los=>vs=[int .i64 i,a9 l,int .i64 l.length,.nils 2 (pnt 0 0),.ptr 2000000 0 0]∧pos=[]∧los=[.box [int .i64 p.1,int .i64 p.2]])
          (fun _ _ _=>0) rfl ?_ ?_
        · simp only [a9,pnt,push_cast,↓reduceIte,zE,zA,zL,zD]
        · rintro vs pos los ⟨rfl,rfl,rfl⟩;simp only [a9,pnt,z0,wi,push_cast,↓reduceIte,reduceCtorEq,zE,zA,zL,zD,zM];refine And.intro (by kernel_rfl) (And.intro (by simp) (And.intro (by omega) ⟨⟨i+1,by omega,.inr ⟨by omega,?_,?_⟩⟩,by omega⟩))
          · rw [hN]; simp
          · rw [hN]; simp [ptR,pnt]
      · have hi2:¬i<l.length:=by simpa using hd
        exact absurd hi2 (by omega)
    · have hlen:=hsl i;obtain ⟨S,hS⟩:∃S,jl (l.take i)=S:=⟨_,rfl⟩
      have hSn:S≠[]:=by
        rw [← hS];obtain ⟨j,rfl⟩:∃j,i=j+1:=⟨i-1,by omega⟩
        rw [List.take_succ_eq_append_getElem (by omega),aiv];simp
      have hSm:∀q∈S,near29 q:=fun q hq=>hn q (List.mem_of_mem_take (az3 _ (hS▸hq)));rw [hS];rw [hS] at hlen;simp only [a9,pnt,push_cast,↓reduceIte,zE];refine b6 (fun hd=>?_) (fun hd=>?_)
      · have hi2:i<l.length:=by simpa using hd
        obtain ⟨p,hp⟩:∃p,l[i]?=some p:=⟨l[i],by simp [hi2]⟩
        have hpn:near29 p:=hn p (zap hp);have wi:IntKind.i64.wrap ((i:Int)+1)=(i:Int)+1:=a5 (by omega)
        have hN:jl (l.take (i+1))=p::xq p S:=by
          rw [zaq,hp,← hS];exact aiv _ p
        simp only [zab,dw hp,zac,push_cast,↓reduceIte,zE,zA,zD]
        repeat refine And.intro (by first | decide | omega | exact fun _=>by decide | (simp +contextual; done) | kernel_rfl) ?_
        refine run_loop [(8,false),(6,false),(7,false),(3,false),(5,false)] (fun vs pos los=>∃(s G:List P2),s≠[]∧S.reverse=s.reverse++G∧xq p S=xq p s∧vs=[int .i64 i,a9 l,int .i64 l.length,.own 2000000 0 0 s.length,.ptr 2000001 0 0]∧pos=[]∧los=[d6 (s.reverse++G),.box [int .i64 p.1,int .i64 p.2]])
          (fun vs _ _=>match vs with | [_,_,_,.own _ _ _ n,_]=>n | _=>0) rfl ?_ ?_
        · simp only [a9,pnt,push_cast,↓reduceIte,zB,zE,zA,zL,zD];exact ⟨S,[],hSn,by simp,rfl,rfl,by simp [pnt]⟩
        · rintro vs pos los ⟨s,G,hs,hSG,hpop,rfl,rfl,rfl⟩
          have hsS:s.length≤S.length:=by
            have:=congrArg List.length hSG;simp at this;omega
          have hsm:∀q∈s,near29 q:=fun q hq=>hSm q (by
            have:q∈S.reverse:=by rw [hSG]; simp [hq]
            simpa using this)
          have hend:∀n,n=s.length→List.take n ((s.reverse++G).map ptR)=s.reverse.map ptR:=fun n hn=>by
            rw [List.map_append,List.take_left' (by simp [hn])]
          rcases s with _ | ⟨b,_ | ⟨a,r⟩⟩
          · exact absurd rfl hs
          · have z0:decide ((1:Int)>1)=false:=rfl;simp only [a9,pnt,z0,wi,push_cast,↓reduceIte,reduceCtorEq,zE,zA,zL,zD,zM];refine And.intro (by kernel_rfl) (And.intro (by simp) (And.intro (by omega) ⟨⟨i+1,by omega,.inr ⟨by omega,?_,?_⟩⟩,by omega⟩))
            · rw [hN,hpop,a0j]; simp
            · rw [hN,hpop,a0j,hend 1 rfl]; simp [ptR,pnt]
          · have z0:decide (((r.length:Nat):Int)+1+1>1)=true:=decide_eq_true (by omega);simp only [zaf] at hsS;have wk1:IntKind.i64.wrap (((r.length:Nat):Int)+1+1-2)=(r.length:Int):=by rw [a5 (by omega)]; omega
            have wk2:IntKind.i64.wrap (((r.length:Nat):Int)+1+1-1)=(r.length:Int)+1:=by rw [a5 (by omega)]; omega
            obtain ⟨A,hA⟩:∃A,r.reverse=A:=⟨_,rfl⟩
            have hAl:A.length=r.length:=by rw [← hA]; simp
            have hR:(b::a::r).reverse++G=A++a::b::G:=by rw [← hA]; simp
            have ga:=aat A (b::G) a;have gb:=azj A G a b;rw [hAl] at ga gb;have hpa:ptR a=.agg [.v (.int .i64 a.1),.v (.int .i64 a.2)]:=rfl;have hpb:ptR b=.agg [.v (.int .i64 b.1),.v (.int .i64 b.2)]:=rfl;have htn:=bhs a b p (hsm a (by simp)) (hsm b (by simp)) hpn;rw [hR] at hend ⊢;simp only [a9,pnt,z0,wk1,wk2,ga,gb,hpa,hpb,zah,zai,zac,push_cast,↓reduceIte,zE,zA,zD];refine And.intro ⟨by omega,by omega⟩ ?_;refine And.intro ⟨by omega,by omega⟩ ?_;refine i7 (as':=[pv2 a,pv2 b,pv2 p]) rfl ?_;refine b9 htn rfl trivial ?_;simp only [push_cast,↓reduceIte,zE];refine And.intro (by kernel_rfl) ?_
            refine b6 (fun hc=>?_) (fun hc=>?_)
            · have hc:=of_decide_eq_true hc;simp only [pnt,wk2,zac,push_cast,↓reduceIte,zB,zE,zA,zL,zD];refine ⟨⟨by omega,by omega,by omega,by omega⟩,⟨a::r,b::G,by simp,by rw [hSG,hR,← hA]; simp,?_,?_,?_⟩,by omega⟩
              · rw [hpop,xq,if_pos hc]
              · rw [show ((r.length:Int)+1-0).toNat=r.length+1 by omega]; simp
              · rw [← hA]; simp [d6,pnt]
            · have hc:=of_decide_eq_false hc;simp only [pnt,wi,zac,push_cast,↓reduceIte,reduceCtorEq,zE,zA,zL,zD];have hN2:jl (l.take (i+1))=p::b::a::r:=by rw [hN,hpop,xq,if_neg hc]
              refine ⟨by simp,⟨by omega,by omega⟩,⟨i+1,by omega,.inr ⟨by omega,?_,?_⟩⟩,by omega⟩
              · rw [hN2]; simp
              · rw [hN2,hend (r.length+1+1) rfl]; simp [d6,pnt,ptR]
      · have hi2:i=l.length:=by
          have:¬i<l.length:=by simpa using hd
          omega
        have hS2:jl l=S:=by rw [← hS,hi2,List.take_length]
        have hSp:1≤S.length:=by
          cases S with
          | nil=>exact absurd rfl hSn
          | cons b r=>simp
        have wk:IntKind.i64.wrap ((S.length:Int)-1)=(S.length:Int)-1:=a5 (by omega);rw [hS2];simp only [pnt,wk,zac,push_cast,↓reduceIte,zE,zA,zL,zD];exact ⟨⟨by omega,by omega,by omega,by omega⟩,by rw [show (Int.toNat 0)=0 from rfl,show ((S.length:Int)-1-0).toNat=S.length-1 by omega],rfl⟩

def amx:Mk P0 f77:={ x:=_ }
theorem alc:b8 77 1 amx:=b7 func77
def xl (rg:List P2):List P2:=if (ic (di rg)).length<3 then [] else if (jt (ic (di rg))++jt (ic (di rg)).reverse).length<3 then [] else jt (ic (di rg))++jt (ic (di rg)).reverse
theorem a07 {x q:P2}:∀{s:List P2},q∈aas x s→q=x∨q∈s
 | [],h=>by simp [aas] at h; exact .inl h
 | e::r,h=>by
  rw [aas] at h;split at h
  ·rcases List.mem_cons.1 h with rfl | h
   ·simp
   ·rcases a07 h with rfl | h
    ·simp
    ·simp [h]
  ·simpa using h
theorem bak (l:List P2):∀{q:P2},q∈ama l→q∈l:=by
 refine amb (P:=fun l=>∀{q:P2},q∈ama l→q∈l) (fun h=>h) (fun l p ih=>?_) l;intro q h;rw [aog] at h;rcases a07 h with rfl | h
 ·simp
 ·exact List.mem_append_left _ (ih h)
theorem aoj {l:List P2} {q:P2} (h:q∈di l):q∈l:=bak l (by simpa [di] using h)
theorem atg {q:P2}:∀{u:P2} {l:List P2},q∈ye u l→q∈l
 | u,[],h=>h
 | u,v::r,h=>by
  rw [ye] at h;split at h
  ·exact zax _ (atg h)
  ·rcases List.mem_cons.1 h with rfl | h
   ·simp
   ·exact zax _ (atg h)
theorem apo {q:P2} {l:List P2} (h:q∈ic l):q∈l:=by
 cases l with
 | nil=>exact h
 | cons v r=>
  rcases List.mem_cons.1 h with rfl | h
  ·simp
  ·exact zax _ (atg h)
theorem ayz (l:List P2):∀o∈[d6 l],nc o:=fun o ho=>by
 rw [List.mem_singleton.1 ho];intro x hx;obtain ⟨p,_,rfl⟩:=zaj.1 hx;exact ⟨trivial,trivial,trivial⟩
theorem af8 (l:List P2):(jl l).length-1=(jt l).length:=by simp [jt]
theorem arx (l:List P2):List.take (jt l).length ((jl l).reverse.map ptR)=(jt l).map ptR:=by
 rw [← List.map_take];congr 1;rw [jt,List.dropLast_eq_take,List.length_take,Nat.min_eq_left (by simp)]
set_option maxHeartbeats 4000000 in
theorem hull_t (rg : List P2) (hl : 1 ≤ rg.length ∧ rg.length ≤ 12) (hn : ∀ p ∈ rg, near29 p) {res : AV} {ro : List Ob}
    (hres:(xl rg=[]∧res=.nils 2 (pnt 0 0)∧ro=[])∨(xl rg≠[]∧res=.own 1000000 0 0 (xl rg).length∧ro=[d6 (xl rg)])) :
    a8 P0 77 [a9 rg] [] res ro:=by
  refine alc rfl (by decide) ?_;have hmx:=d7;have hok:=bdr rg (by omega) hn
  push_cast [amx,a9,zaa]
  refine b5 (as':=[a9 rg]) rfl ?_;refine a6 hok rfl trivial ?_
  push_cast [zab]
  refine run_loop [(12, false), (10, false), (11, false), (3, false)] (fun vs pos los => ∃ i : Nat, i ≤ rg.length ∧ pos = [] ∧
      (i=0∧vs=[int .i64 i,a9 rg,int .i64 rg.length,.nils 2 (pnt 0 0)]∧los=[] ∨
       i≠0∧vs=[int .i64 i,a9 rg,int .i64 rg.length,.own 2000000 0 0 i]∧los=[d6 (rg.take i)]))
    (fun vs _ _=>match vs with | .r (.v (.int _ a))::_=>(rg.length-a).toNat | _=>0) rfl ?_ ?_
  · push_cast [a9,pnt]
    exact ⟨0,by omega,.inl ⟨rfl,by simp⟩⟩
  · rintro vs pos los ⟨i,hi,rfl,⟨h0,rfl,rfl⟩ | ⟨h0,rfl,rfl⟩⟩
    · push_cast [a9,pnt,zab]
      refine b6 (fun hd=>?_) (fun hd=>?_)
      · have hi2:i<rg.length:=by simpa using hd
        obtain ⟨p,hp⟩:∃p,rg[i]?=some p:=⟨rg[i],by simp [hi2]⟩
        have wi:IntKind.i64.wrap ((i:Int)+1)=(i:Int)+1:=a5 (by omega)
        have hN:rg.take (i+1)=[p]:=by
          rw [zaq,hp,h0]; rfl
        push_cast [a9,zab,dw hp,cw hp,wi,zan,zao,zac]
        repeat refine And.intro (by first | decide | omega | exact fun _=>by decide | (simp +contextual; done) | kernel_rfl) ?_
        exact ⟨⟨i+1,by omega,.inr ⟨by omega,by simp [h0],by rw [hN]; simp [ptR,pnt]⟩⟩,by omega⟩
      · have hi2:¬i<rg.length:=by simpa using hd
        exact absurd hi2 (by omega)
    · push_cast [a9,pnt,zab]
      refine b6 (fun hd=>?_) (fun hd=>?_)
      · have hi2:i<rg.length:=by simpa using hd
        obtain ⟨p,hp⟩:∃p,rg[i]?=some p:=⟨rg[i],by simp [hi2]⟩
        have wi:IntKind.i64.wrap ((i:Int)+1)=(i:Int)+1:=a5 (by omega)
        have hN:rg.take (i+1)=rg.take i++[p]:=by
          rw [zaq,hp]; rfl
        have htk:List.take i ((rg.take i).map ptR)=(rg.take i).map ptR:=zay (by simp; omega)
        push_cast [a9,zab,dw hp,cw hp,htk,wi,zan,zao,zac]
        repeat refine And.intro (by first | decide | omega | exact fun _=>by decide | (simp +contextual; done) | kernel_rfl) ?_
        exact ⟨⟨i+1,by omega,.inr ⟨by omega,by simp,by rw [hN]; simp [ptR,pnt]⟩⟩,by omega⟩
      · have hi2:i=rg.length:=by
          have:¬i<rg.length:=by simpa using hd
          omega
        subst hi2;rw [List.take_length]
        push_cast [a9,pnt,zab]
        have hne:rg.map ptR≠[]:=by
          intro h;have:=congrArg List.length h;simp at this;rw [this] at hl;simp at hl
        refine a54 2000000 0 2 _ (rg.map ptR) rfl hne ?_
        push_cast [pnt]
        refine b5 (as':=[.own 1000000 0 0 rg.length,agF]) rfl ?_;refine a6 (po:=[r6 rg]) (bh0 rg hl) rfl ⟨⟨rfl,by simp [adu]⟩,trivial⟩ ?_
        push_cast [r6,pnt,zaf,zaa]
        refine aje ?_
        push_cast [pnt]
        obtain ⟨s,hs⟩:∃s,di rg=s:=⟨_,rfl⟩
        have hsl:s.length=rg.length:=by rw [← hs,adu]
        have hsn:∀p∈s,near29 p:=fun p hp=>hn p (aoj (hs▸hp));unfold xl at hres;rw [hs] at hres ⊢;refine b5 (as':=[.own 1000000 0 0 s.length]) (by rw [hsl]) ?_;refine a6 (po:=[r6 s]) (bjv s (by omega)) rfl ⟨⟨rfl,by have:=apq s; simp; omega⟩,trivial⟩ ?_;obtain ⟨c,hc⟩:∃c,ic s=c:=⟨_,rfl⟩
        have hcl:c.length≤s.length:=by rw [← hc]; exact apq s
        have hcn:∀p∈c,near29 p:=fun p hp=>hsn p (apo (hc▸hp));rw [hc] at hres ⊢;obtain ⟨G,hG⟩:∃G,List.replicate (s.length-c.length) ((0,0):P2)=G:=⟨_,rfl⟩
        rw [hG]
        push_cast [r6,pnt,zaf,zaa]
        refine b6 (fun hd=>?_) (fun hd=>?_)
        · have hd:c.length<3:=by have:=of_decide_eq_true hd; omega
          rw [if_pos hd] at hres;rcases hres with ⟨_,rfl,rfl⟩ | ⟨h,_⟩
          · push_cast [pnt]
          · exact absurd rfl h
        · have hd:¬c.length<3:=by have:=of_decide_eq_false hd; omega
          rw [if_neg hd] at hres
          push_cast [pnt]
          have htk:∀A:List P2,A.length=c.length→List.take c.length ((A++G).map ptR)=A.map ptR:=fun A hA=>by
            rw [List.map_append,List.take_left' (by simp [hA])]
          refine pj ?_;rw [htk c rfl]
          push_cast [pnt]
          refine b5 (as':=[a9 c]) rfl ?_;refine sp (a4c c (by omega) hcn) rfl trivial trivial (ayz _) ?_
          push_cast [r6,d6,pnt,zaf,zaa]
          refine aje ?_
          push_cast [pnt]
          refine b5 (as':=[.own 1000000 0 0 c.length]) rfl ?_;refine a6 (po:=[r6 (c++G)]) (bjg c G (by omega)) rfl ⟨⟨rfl,by simp⟩,trivial⟩ ?_
          push_cast [r6,d6,pnt,zaf,zaa]
          refine pj ?_;rw [htk c.reverse (by simp)]
          push_cast [pnt]
          refine b5 (as':=[a9 c.reverse]) rfl ?_;refine sp (a4c c.reverse (by simp; omega) (fun p hp=>hcn p (by simpa using hp))) rfl trivial trivial (ayz _) ?_;have e1:=af8 c;have e2:=af8 c.reverse;have e3:=arx c;have e4:=arx c.reverse
          push_cast [r6,d6,pnt,e1,e2,e3,e4,zaf,zaa,zab]
          have b1:=agz c;have b2:=agz c.reverse;rw [List.length_reverse] at b2;refine And.intro ⟨by omega,by omega⟩ ?_;refine b6 (fun hq=>?_) (fun hq=>?_)
          · have hq:(jt c++jt c.reverse).length<3:=by have:=of_decide_eq_true hq; rw [zak]; omega
            rw [if_pos hq] at hres;rcases hres with ⟨_,rfl,rfl⟩ | ⟨h,_⟩
            · push_cast [pnt]
            · exact absurd rfl h
          · have hq:¬(jt c++jt c.reverse).length<3:=by have:=of_decide_eq_false hq; rw [zak]; omega
            rw [if_neg hq] at hres;rcases hres with ⟨h,_,_⟩ | ⟨_,rfl,rfl⟩
            · rw [h] at hq;exact absurd (by simp) hq
            · push_cast [d6,pnt,zak]
              simp


def shP (d p:P2):P2:=(p.1+d.1,p.2+d.2)


def bag (v:Bool) (bs:List Bool):Bool:=((bs.dropWhile (· == v)).dropWhile (· == !v)).all (· == v)
theorem baf (f:P2→Bool) (l:List P2) (v:Bool) (h:bag v (l.map f)=true):Uni f l:=by
 refine ⟨v,l.takeWhile (fun p=>f p == v),(l.dropWhile (fun p=>f p == v)).takeWhile (fun p=>f p == !v),(l.dropWhile (fun p=>f p == v)).dropWhile (fun p=>f p == !v),?_,?_,?_,?_⟩
 ·rw [List.takeWhile_append_dropWhile,List.takeWhile_append_dropWhile]
 ·intro a ha;have:=List.all_takeWhile (p:=fun p=>f p == v) (l:=l);have:=List.all_eq_true.1 this a ha;simpa using this
 ·intro a ha;have:=List.all_takeWhile (p:=fun p=>f p == !v) (l:=l.dropWhile (fun p=>f p == v));have:=List.all_eq_true.1 this a ha;simpa using this
 ·intro a ha;unfold bag at h;rw [List.dropWhile_map,List.dropWhile_map,List.all_map] at h;have:=List.all_eq_true.1 h a ha;simpa using this
theorem a2w (a b c X t:Int) (h:b=a+c):bag (decide (X+a≤t)) [decide (X+a≤t),decide (X+b≤t),decide (X+c≤t),decide (X + -a≤t),decide (X + -b≤t),decide (X + -c≤t)]=true:=by
 subst h
 cases h0:decide (X+a≤t)<;>cases h1:decide (X+(a+c)≤t)<;>cases h2:decide (X+c≤t)<;>cases h3:decide (X + -a≤t)<;>cases h4:decide (X + -(a+c)≤t)<;>cases h5:decide (X + -c≤t) <;>
  first
  | rfl
  | (exfalso; simp only [decide_eq_true_iff,decide_eq_false_iff_not] at h0 h1 h2 h3 h4 h5; omega)
def aha (z:Ei) (r:Nat):List P2:=(List.range 6).map fun i=>(hx z r i,hy z r i)
theorem a81 (z:Ei) (r:Nat):ke z r 6=(aha z r).map ptR:=by
 unfold ke aha;rw [List.map_map]
 rfl
theorem amy (z:Ei) (r:Nat):(aha z r).length=6:=by simp [aha]
theorem bja (r:Nat) (hr:r≤12):(kx r 1=kx r 0+kx r 2∧kx r 3=-kx r 0∧kx r 4=-kx r 1∧kx r 5=-kx r 2)∧(ky r 1=ky r 0+ky r 2∧ky r 3=-ky r 0∧ky r 4=-ky r 1∧ky r 5=-ky r 2):=by
 have:∀j:Fin 13,(kx j.val 1=kx j.val 0+kx j.val 2∧kx j.val 3=-kx j.val 0∧kx j.val 4=-kx j.val 1∧kx j.val 5=-kx j.val 2)∧(ky j.val 1=ky j.val 0+ky j.val 2∧ky j.val 3=-ky j.val 0∧ky j.val 4=-ky j.val 1∧ky j.val 5=-ky j.val 2):=by decide +kernel
 exact this ⟨r,by omega⟩
theorem amw (z:Ei) (r:Nat) (hr:r≤12) (d:P2):ap0 ((aha z r).map (shP d)):=fun a c=>by
 obtain ⟨⟨x1,x3,x4,x5⟩,y1,y3,y4,y5⟩:=bja r hr;have e:((aha z r).map (shP d)).map (thr a c)=[thr a c (hx z r 0+d.1,hy z r 0+d.2),thr a c (hx z r 1+d.1,hy z r 1+d.2),thr a c (hx z r 2+d.1,hy z r 2+d.2),thr a c (hx z r 3+d.1,hy z r 3+d.2),thr a c (hx z r 4+d.1,hy z r 4+d.2),thr a c (hx z r 5+d.1,hy z r 5+d.2)]:=rfl;refine baf _ _ (thr a c (hx z r 0+d.1,hy z r 0+d.2)) ?_;rw [e];unfold thr sel;by_cases ha:a=0
 ·simp only [if_pos ha,cg,x3,x4,x5];have:=a2w (kx r 0) (kx r 1) (kx r 2) (3*cx z r+d.1) c x1;simp only [show ∀k:Int,3*cx z r+k+d.1=3*cx z r+d.1+k from fun k=>by omega];exact this
 ·simp only [if_neg ha,cd,y3,y4,y5];have:=a2w (ky r 0) (ky r 1) (ky r 2) (3*cy z r+d.2) c y1;simp only [show ∀k:Int,3*cy z r+k+d.2=3*cy z r+d.2+k from fun k=>by omega];exact this
theorem bjd:a8 P0 220 [a9 [],int .i64 0,int .i64 0,agF] [] (.tup []) []:=by
 refine vk rfl (by simp) ?_
 push_cast [qt,agF,a9,zae,zaa]
 refine run_loop [(0,false),(1,false),(2,false),(3,false),(8,false)] (fun vs pos los=>vs=[a9 [],int .i64 0,int .i64 0,agF,int .i64 1]∧pos=[]∧los=[]) (fun _ _ _=>0) rfl ?_ ?_
 ·push_cast [agF,pnt,a9,zae]
  rfl
 ·rintro vs pos los ⟨rfl,rfl,rfl⟩;have z0:decide ((1:Int)<0)=false:=rfl
  push_cast [agF,pnt,a9,zae,z0]
theorem bis (lim:Int):a8 P0 183 [a9 [],int .i64 0,int .i64 0,int .i64 lim,agF] [] (.tup []) []:=by
 refine ww rfl (by simp) ?_;simp only [ry,agF,a9,push_cast,zA];refine run_loop [(0,false),(1,false),(2,false),(3,false),(4,false),(10,false),(11,false)] (fun vs pos los=>vs=[a9 [],int .i64 0,int .i64 0,int .i64 lim,agF,bl true,bl true]∧pos=[]∧los=[]) (fun _ _ _=>0) rfl ?_ ?_
 ·simp only [agF,a9,push_cast,↓reduceIte,reduceCtorEq,zE,zA]
 ·rintro vs pos los ⟨rfl,rfl,rfl⟩;have w0:IntKind.i64.wrap ((0:Int)-0)=0:=rfl;have d0:decide ((0:Int)≤12)=true:=rfl;simp only [agF,a9,w0,d0,push_cast,↓reduceIte,reduceCtorEq,zE,zL];refine b5 (as':=[a9 [],int .i64 0,int .i64 0,agF]) rfl ?_;refine a6 bjd rfl trivial ?_;simp only [push_cast,zA]
theorem bh1:a8 P0 129 [a9 [],agF] [] (.tup []) []:=by
 refine wo rfl (by simp) ?_;have w:IntKind.u64.wrap 0=0:=rfl;have h:=a8y 0 (by decide)
 push_cast [rm,agF,pnt,a9,zae,w,zaa]
 refine b5 (as':=[int .u64 ((0:Nat):Int)]) rfl ?_;refine a6 h rfl trivial ?_
 push_cast
 refine b5 (as':=[a9 [],int .i64 0,int .i64 0,int .i64 (a56 0),agF]) rfl ?_;refine a6 (bis _) rfl trivial ?_
 push_cast
theorem bjw:a8 P0 131 [a9 []] [] (a9 []) []:=by
 refine xb rfl (by simp) ?_;have z0:decide ((0:Int)<2)=true:=rfl
 push_cast [sj,pnt,a9,z0,zae,zaa]
theorem bjf:a8 P0 77 [a9 []] [] (.nils 2 (pnt 0 0)) []:=by
 refine alc rfl (by decide) ?_;have hok:=bdr [] (by simp) (fun p hp=>by simp at hp)
 push_cast [amx,a9,zae,zaa]
 refine b5 (as':=[a9 []]) rfl ?_;refine a6 hok rfl trivial ?_
 push_cast [zab]
 refine run_loop [(12,false),(10,false),(11,false),(3,false)] (fun vs pos los=>vs=[int .i64 0,a9 [],int .i64 0,.nils 2 (pnt 0 0)]∧pos=[]∧los=[]) (fun _ _ _=>0) rfl ?_ ?_
 ·push_cast [a9,pnt,zae]
  try rfl
 ·rintro vs pos los ⟨rfl,rfl,rfl⟩;have z0:decide ((0:Int)<0)=false:=rfl
  push_cast [a9,pnt,z0,zae]
  refine b5 (as':=[a9 [],agF]) rfl ?_;refine a6 bh1 rfl trivial ?_
  push_cast [pnt]
  refine b5 (as':=[a9 []]) rfl ?_;refine a6 bjw rfl trivial ?_;have z1:decide ((0:Int)<3)=true:=rfl
  push_cast [pnt,a9,z1,zae,zaa]

def ane:Mk P0 f39:={ x:=_ }
theorem aqo:b8 39 2 ane:=b7 func39
theorem ajb {l:Lin} (hl:l.ok) {rg:List P2} {p:P2} (h:p∈u9 l rg):bg l p=true:=by
 cases rg with
 | nil=>simp [u9,i8] at h
 | cons a r=>
  rw [ajy l hl (a::r) a rfl] at h;exact (List.mem_filter.1 h).2
theorem aqj (lo hi:P2) {a b:P2} {rg:List P2} (h:qv a b rg):qv lo hi (nu lo hi rg):=by
 have e:nu lo hi rg=u9 ⟨1,hi.2,false⟩ (u9 ⟨1,lo.2,true⟩ (u9 ⟨0,hi.1,false⟩ (u9 ⟨0,lo.1,true⟩ rg))):=rfl
 have h1:qv (lo.1,a.2) (b.1,b.2) (u9 ⟨0,lo.1,true⟩ rg):=fun p hp=>by
  have k:=ajb (l:=⟨0,lo.1,true⟩) (.inl rfl) hp;have i:=ali (l:=⟨0,lo.1,true⟩) (.inl rfl) h p hp;simp [bg,sel] at k;simp only;omega
 have h2:qv (lo.1,a.2) (hi.1,b.2) (u9 ⟨0,hi.1,false⟩ (u9 ⟨0,lo.1,true⟩ rg)):=fun p hp=>by
  have k:=ajb (l:=⟨0,hi.1,false⟩) (.inl rfl) hp;have i:=ali (l:=⟨0,hi.1,false⟩) (.inl rfl) h1 p hp;simp [bg,sel] at k;simp only at i ⊢;omega
 have h3:qv (lo.1,lo.2) (hi.1,b.2) (u9 ⟨1,lo.2,true⟩ (u9 ⟨0,hi.1,false⟩ (u9 ⟨0,lo.1,true⟩ rg))):=fun p hp=>by
  have k:=ajb (l:=⟨1,lo.2,true⟩) (.inr rfl) hp;have i:=ali (l:=⟨1,lo.2,true⟩) (.inr rfl) h2 p hp;simp [bg,sel] at k;simp only at i ⊢;omega
 rw [e];intro p hp;have k:=ajb (l:=⟨1,hi.2,false⟩) (.inr rfl) hp;have i:=ali (l:=⟨1,hi.2,false⟩) (.inr rfl) h3 p hp;simp [bg,sel] at k;simp only at i ⊢;omega
def r9 (t:Til):Int:=2^(18-t.z).toNat
def afv (t:Til):Int:=2^(30-t.z).toNat
def bo (t:Til) (z:Ei):List P2:=(aha z t.r.toNat).map (shP (-(3*(t.x*afv t)),-(3*(t.y*afv t))))
def vn (t:Til) (z:Ei):List P2:=nu (-192*r9 t,-192*r9 t) (12480*r9 t,12480*r9 t) (bo t z)
def cr (t:Til) (z:Ei):List P2:=if tch z t.r.toNat (2^(30-t.z).toNat) t.x t.y=true then xl (x7 (3*r9 t) (vn t z)) else []
set_option maxHeartbeats 1000000 in
theorem azv (t:Til) (h:tis t=true) (hf:fine t=false) (z:Ei) (hk:okc t.r.toNat z) (hz:z.In 1073741824) (hb:na z t.r.toNat) {res:AV} {ro:List Ob}
  (hres:(cr t z=[]∧res=.nils 2 (pnt 0 0)∧ro=[])∨(cr t z≠[]∧res=.own 1000000 0 0 (cr t z).length∧ro=[d6 (cr t z)])) :
  a8 P0 39 [t.v,uw (s9 t.r.toNat z)] [] res ro:=by
 refine aqo rfl (by decide) ?_;have hr:0≤t.z∧t.z≤18∧0≤t.r∧t.r≤12∧0≤t.x∧t.x<2^t.z.toNat∧0≤t.y∧t.y<2^t.z.toNat:=by simpa [tis] using h
 have ho:=aty h;have hOk:=biv t ho;rw [h,hf] at hOk;obtain ⟨w1,w2,w3,w4⟩:=kj t.r.toNat z hk;have hic:=aw5 (s9 t.r.toNat z) w4 w1;rw [w2,w3,Int.toNat_of_nonneg hr.2.2.1] at hic;have e1:(t.r == t.r)=true:=by simp
 have htc:=a4l t h z t.r hr.2.2.1 hk hb
 push_cast [ane,Til.v,uw,zaa]
 refine b5 (as':=[uw (s9 t.r.toNat z)]) rfl ?_;refine a6 hic rfl trivial ?_
 push_cast [cel]
 refine b5 (as':=[t.v]) rfl ?_;refine a6 hOk rfl trivial ?_;have n0:((0:Int) != 0)=false:=rfl;have n1:(t.r != t.r)=false:=by simp
 push_cast [n0,n1]
 refine b5 (as':=[t.v,cel t.r z]) rfl ?_;refine a6 htc rfl trivial ?_
 push_cast
 cases hT:tch z t.r.toNat (2^(30-t.z).toNat) t.x t.y with
 | false=>
  have hN:cr t z=[]:=by
   unfold cr;rw [hT];exact if_neg (by decide)
  rcases hres with ⟨_,rfl,rfl⟩ | ⟨h,_⟩
  ·push_cast [pnt]
  ·exact absurd hN h
 | true=>
  have hN:cr t z=xl (x7 (3*r9 t) (vn t z)):=by
   unfold cr;rw [hT];exact if_pos rfl
  rw [hN] at hres
  push_cast
  refine b5 (as':=[z.v,int .i64 t.r]) rfl ?_;refine a6 (bds z t.r hz ⟨hr.2.2.1,hr.2.2.2.1⟩) rfl trivial ?_
  push_cast [pnt]
  refine b5 (as':=[t.v]) rfl ?_;refine a6 (a0n t h) rfl trivial ?_;rw [a81]
  push_cast [pnt]
  have hin:=yk h;have hsd:=uf ⟨hr.1,hr.2.1⟩;obtain ⟨X0,hX0⟩:∃X0,t.x*2^(30-t.z).toNat=X0:=⟨_,rfl⟩
  obtain ⟨Y0,hY0⟩:∃Y0,t.y*2^(30-t.z).toNat=Y0:=⟨_,rfl⟩
  obtain ⟨S0,hS0⟩:∃S0:Int,2^(30-t.z).toNat=S0:=⟨_,rfl⟩
  rw [Int.add_mul,Int.one_mul,Int.add_mul,Int.one_mul] at hin;rw [hX0,hY0,hS0] at hin;rw [hS0] at hsd;have hRP:bo t z=(aha z t.r.toNat).map (shP (-(3*X0),-(3*Y0))):=by unfold bo afv; rw [hX0,hY0]
  obtain ⟨R,hR⟩:∃R,aha z t.r.toNat=R:=⟨_,rfl⟩
  have hRl:R.length=6:=by rw [← hR,amy]
  have hRb:∀p∈R,(-4294967296≤p.1∧p.1≤4294967296)∧(-4294967296≤p.2∧p.2≤4294967296):=fun p hp=>by
   rw [← hR] at hp;obtain ⟨i,hi,rfl⟩:=zaj.1 hp;exact hb i (List.mem_range.1 hi)
  rw [hX0,hY0,hS0,hR];rw [hR] at hRP;obtain ⟨d,hd⟩:∃d:P2,(-(3*X0),-(3*Y0))=d:=⟨_,rfl⟩
  rw [hd] at hRP
  refine run_loop [(55,false),(54,false),(7,false),(9,false),(10,false),(2,false)] (fun vs pos los=>∃i:Nat,i≤6∧vs=[int .i64 i,int .i64 6,.own 2000000 0 0 6,int .i64 X0,int .i64 Y0,.ptr 2000001 0 0]∧pos=[]∧los=[d6 ((R.take i).map (shP d)++R.drop i),.box [int .i64 t.z,int .i64 t.x,int .i64 t.y,int .i64 t.r]])
   (fun vs _ _=>match vs with | .r (.v (.int _ a))::_=>(6-a).toNat | _=>0) rfl ?_ ?_
  ·push_cast [d6,pnt]
   exact ⟨0,by omega,rfl,by simp⟩
  ·rintro vs pos los ⟨i,hi,rfl,rfl,rfl⟩
   push_cast [d6,pnt]
   refine b6 (fun hd6=>?_) (fun hd6=>?_)
   ·have hi2:i<6:=by have:=of_decide_eq_true hd6; omega
    obtain ⟨p,hp⟩:∃p,R[i]'(by omega)=p:=⟨_,rfl⟩
    have hpb:=hRb p (hp▸List.getElem_mem _);have wi:IntKind.i64.wrap ((i:Int)+1)=(i:Int)+1:=a5 (by omega);have hdr:R.drop i=p::R.drop (i+1):=by rw [List.drop_eq_getElem_cons (by omega),hp]
    have htk:(R.take (i+1)).map (shP d)=(R.take i).map (shP d)++[shP d p]:=by rw [List.take_succ_eq_append_getElem (by omega),hp,List.map_append]; rfl
    obtain ⟨A,hA⟩:∃A,(R.take i).map (shP d)=A:=⟨_,rfl⟩
    have hAl:A.length=i:=by rw [← hA]; simp; omega
    obtain ⟨T,hT⟩:∃T,R.drop (i+1)=T:=⟨_,rfl⟩
    rw [hdr,hA,hT]
    have hg:∀q:P2,∀z,((A++q::T).map ptR).getD i z=.agg [.v (.int .i64 q.1),.v (.int .i64 q.2)]:=fun q z=>by
     rw [← hAl]; exact aat A T q z
    have hs:∀(q:P2) (a b:Int),((A++q::T).map ptR).set i (.agg [.v (.int .i64 a),.v (.int .i64 b)])=(A++(a,b)::T).map ptR:=fun q a b=>by
     rw [show (RV.agg [.v (.int .i64 a),.v (.int .i64 b)])=ptR (a,b) from rfl,← List.map_set,← hAl];congr 1;simp
    have m1:IntKind.i64.wrap (3*X0)=3*X0:=a5 (by omega);have m2:IntKind.i64.wrap (3*Y0)=3*Y0:=a5 (by omega);have m3:IntKind.i64.wrap (p.1-3*X0)=p.1-3*X0:=a5 (by omega);have m4:IntKind.i64.wrap (p.2-3*Y0)=p.2-3*Y0:=a5 (by omega)
    push_cast [d6,pnt,hg,hs,m1,m2,m3,m4,wi,c9,zan,zao,zac,Nat.zero_mul,Nat.mul_one,List.getD_cons_zero,List.getD_cons_succ,List.set_cons_zero,List.set_cons_succ,zah,zai,zac]
    repeat refine And.intro (by first | exact ⟨by omega,by omega⟩ | kernel_rfl) ?_
    refine ⟨⟨i+1,by omega,by simp,?_⟩,by omega⟩;rw [htk,hA,hT,← hd];simp [shP,Int.sub_eq_add_neg]
   ·have hi2:i=6:=by have:=of_decide_eq_false hd6; omega
    subst hi2
    have hfin:(R.take 6).map (shP d)++R.drop 6=bo t z:=by
     rw [hRP,zay (by omega),List.drop_of_length_le (by omega),List.append_nil]
    rw [hfin];have hut:=a6s t hr.1 hr.2.1
    have hu1:1≤r9 t∧r9 t≤262144:=by
     have h1:2^(18-t.z).toNat≤2^18:=Nat.pow_le_pow_right (by decide) (by omega);have h3:((2^(18-t.z).toNat:Nat):Int)=(2:Int)^(18-t.z).toNat:=by simp
     have h4:0<2^(18-t.z).toNat:=Nat.pow_pos (by decide);unfold r9;omega
    push_cast
    refine b5 (as':=[t.v]) rfl ?_;refine a6 hut rfl trivial ?_;rw [show (2:Int)^(18-t.z).toNat=r9 t from rfl];obtain ⟨U,hU⟩:∃U,r9 t=U:=⟨_,rfl⟩
    rw [hU] at hu1 hres ⊢;have m1:IntKind.i64.wrap (-192*U)=-192*U:=a5 (by omega);have m2:IntKind.i64.wrap (12480*U)=12480*U:=a5 (by omega);have m3:IntKind.i64.wrap (3*U)=3*U:=a5 (by omega)
    push_cast [d6,pnt,m1,m2,m3]
    have hk0:=as1 t.r.toNat 0 (by omega) (by decide);have hb0:=hb 0 (by decide);rw [cg,cd] at hb0
    have hRI:qv (3*cx z t.r.toNat-100000000-3*X0,3*cy z t.r.toNat-100000000-3*Y0) (3*cx z t.r.toNat+100000000-3*X0,3*cy z t.r.toNat+100000000-3*Y0) (bo t z):=fun p hp=>by
     rw [hRP,← hR,← hd] at hp;obtain ⟨q,hq,rfl⟩:=zaj.1 hp;obtain ⟨i,hi,rfl⟩:=zaj.1 hq;have hk:=as1 t.r.toNat i (by omega) (List.mem_range.1 hi);simp only [shP,cg,cd];omega
    have hRL:(bo t z).length=6:=by rw [hRP]; simp [hRl]
    have hHu:ap0 (bo t z):=by rw [hRP,← hR]; exact amw z _ (by omega) d
    obtain ⟨c1,c2,c3⟩:=bkf (-192*U,-192*U) (12480*U,12480*U) (by simp only; omega) (by simp only; omega) hRI (by omega) (by simp only; omega) (by simp only; omega);have c4:=aqj (-192*U,-192*U) (12480*U,12480*U) hRI
    have c5:(nu (-192*U,-192*U) (12480*U,12480*U) (bo t z)).length≤10:=by
     have:=(aln (lo:=(-192*U,-192*U)) (hi:=(12480*U,12480*U)) hHu 4 (Nat.le_refl _)).2;rw [hRL] at this;exact this
    have hW:vn t z=nu (-192*U,-192*U) (12480*U,12480*U) (bo t z):=by unfold vn; rw [hU]
    rw [← hW] at c1 c2 c3 c4 c5;obtain ⟨W,hW2⟩:∃W,vn t z=W:=⟨_,rfl⟩
    rw [hW2] at c1 c2 c3 c4 c5 hres;have htk6:List.take 6 ((bo t z).map ptR)=(bo t z).map ptR:=zay (by simp [hRL]);refine i9 ?_;rw [htk6]
    push_cast [pnt]
    refine b5 (as':=[a9 (bo t z),pv2 (-192*U,-192*U),pv2 (12480*U,12480*U)]) rfl ?_;refine a6 c1 rfl trivial ?_
    push_cast [d6,pnt,m3]
    refine i9 ?_
    try rw [d5]
    push_cast [pnt]
    refine b5 (as':=[a9 W,int .i64 (3*U)]) rfl ?_;by_cases hWe:W=[]
    ·refine a6 (cfloor_r (3*U) (by omega) W c3 (.inl ⟨hWe,rfl,rfl⟩)) rfl trivial ?_
     push_cast [pnt]
     refine b5 (as':=[a9 []]) rfl ?_;refine a6 bjf rfl trivial ?_;have h0:xl (x7 (3*U) W)=[]:=by rw [hWe]; rfl
     rw [h0] at hres;rcases hres with ⟨_,rfl,rfl⟩ | ⟨h,_⟩
     ·push_cast [pnt]
     ·exact absurd rfl h
    ·refine a6 (cfloor_r (3*U) (by omega) W c3 (.inr ⟨hWe,rfl,rfl⟩)) rfl trivial ?_
     push_cast [d6,pnt]
     refine i9 ?_
     try rw [d5]
     push_cast [pnt]
     refine b5 (as':=[a9 (x7 (3*U) W)]) rfl ?_;have hFl:(x7 (3*U) W).length=W.length:=by simp [x7]
     have hWl:1≤W.length:=by
      cases W with
      | nil=>exact absurd rfl hWe
      | cons a r=>simp
     have hFn:∀p∈x7 (3*U) W,near29 p:=fun p hp=>by
      obtain ⟨q,hq,rfl⟩:=zaj.1 hp;have:=c4 q hq;simp only at this;have e1:-64≤q.1/(3*U):=(zar (by omega)).2 (by omega);have e2:q.1/(3*U)<4161:=(zas (by omega)).2 (by omega);have e3:-64≤q.2/(3*U):=(zar (by omega)).2 (by omega);have e4:q.2/(3*U)<4161:=(zas (by omega)).2 (by omega);unfold near29;simp only;omega
     rcases hres with ⟨a,rfl,rfl⟩ | ⟨a,rfl,rfl⟩
     ·refine a6 (hull_t (x7 (3*U) W) (by omega) hFn (.inl ⟨a,rfl,rfl⟩)) rfl trivial ?_
      push_cast [d6,pnt]
     ·refine a6 (hull_t (x7 (3*U) W) (by omega) hFn (.inr ⟨a,rfl,rfl⟩)) rfl trivial ?_
      push_cast [d6,pnt]
theorem azw (t:Til) (h:tis t=true) (hf:fine t=false) (z:Ei) (hk:okc t.r.toNat z) (hb:na z t.r.toNat) :
  a8 P0 39 [t.v,uw (s9 t.r.toNat z)] [] (.own 1000000 0 0 (cr t z).length) [d6 (cr t z)]:=by
 by_cases h0:cr t z=[]
 ·have:=yx (azv t h hf z hk hk.2.1 hb (.inl ⟨h0,rfl,rfl⟩));rw [h0];exact this
 ·exact azv t h hf z hk hk.2.1 hb (.inr ⟨h0,rfl,rfl⟩)
theorem bbz (rg:List P2):(xl rg).length≤2*rg.length:=by
 have h1:=apq (di rg);rw [adu] at h1;have h2:=agz (ic (di rg));have h3:=agz (ic (di rg)).reverse;rw [List.length_reverse] at h3;have h4:=af8 (ic (di rg));have h5:=af8 (ic (di rg)).reverse;unfold xl;split
 ·simp
 ·split
  ·simp
  ·rw [zak]; omega
theorem a63 (t:Til) (hr:t.r≤12) (z:Ei):(cr t z).length≤20:=by
 unfold cr;split
 ·refine Nat.le_trans (bbz _) ?_
  have h1:(vn t z).length≤10:=by
   have:=(aln (lo:=(-192*r9 t,-192*r9 t)) (hi:=(12480*r9 t,12480*r9 t)) (amw z t.r.toNat (by omega) (-(3*(t.x*afv t)),-(3*(t.y*afv t)))) 4 (Nat.le_refl _)).2;rw [zab,amy] at this;exact this
  have:(x7 (3*r9 t) (vn t z)).length=(vn t z).length:=by simp [x7]
  omega
 ·simp
theorem a8w {rg:List P2} {q:P2} (h:q∈xl rg):q∈rg:=by
 have hc:∀l:List P2,q∈jt l→q∈l:=fun l hq=>az3 l (by
  unfold jt at hq
  first
  | exact List.mem_of_mem_tail (by simpa using hq)
  | exact List.mem_of_mem_dropLast (by simpa using hq)
  | (simp at hq; exact List.mem_of_mem_tail hq))
 unfold xl at h;split at h
 ·simp at h
 ·split at h
  ·simp at h
  ·rcases List.mem_append.1 h with h | h
   ·exact aoj (apo (hc _ h))
   ·exact aoj (apo (List.mem_reverse.1 (hc _ h)))
theorem baq (t:Til) (h:0≤t.z∧t.z≤18) (z:Ei) (hb:∀p∈bo t z,(-1099511627776≤p.1∧p.1≤1099511627776)∧(-1099511627776≤p.2∧p.2≤1099511627776)):∀p∈cr t z,(-64≤p.1∧p.1≤4160)∧(-64≤p.2∧p.2≤4160):=fun p hp=>by
 have hu1:1≤r9 t:=by
  have h3:((2^(18-t.z).toNat:Nat):Int)=(2:Int)^(18-t.z).toNat:=by simp
  have h4:0<2^(18-t.z).toNat:=Nat.pow_pos (by decide);unfold r9;omega
 unfold cr at hp;split at hp
 ·have hp2:=a8w hp;obtain ⟨q,hq,rfl⟩:=zaj.1 hp2;have hw:=aqj (a:=(-1099511627776,-1099511627776)) (b:=(1099511627776,1099511627776)) (-192*r9 t,-192*r9 t) (12480*r9 t,12480*r9 t) hb q hq;simp only at hw;generalize r9 t=U at *;have e1:-64≤q.1/(3*U):=(zar (by omega)).2 (by omega);have e2:q.1/(3*U)<4161:=(zas (by omega)).2 (by omega);have e3:-64≤q.2/(3*U):=(zar (by omega)).2 (by omega);have e4:q.2/(3*U)<4161:=(zas (by omega)).2 (by omega);simp only;omega
 ·simp at hp

def an9:Mk P0 f156:={ x:=_ }
theorem ar5:b8 156 2 an9:=b7 func156
def ak0:Mk P0 f157:={ x:=_ }
theorem aoi:b8 157 2 ak0:=b7 func157
def akx:Mk P0 f159:={ x:=_ }
theorem an8:b8 159 3 akx:=b7 func159
def an7:Mk P0 f112:={ x:=_ }
theorem ar4:b8 112 2 an7:=b7 func112
structure Ky where
 c:Int
 v:Int
 d:Int
deriving DecidableEq
def Ky.rv (k:Ky):RV:=.agg [.v (.int .u64 k.c),.v (.int .i64 k.v),.v (.int .i64 k.d)]
def Ky.av (k:Ky):AV:=.r k.rv
def kl (a b:Ky):Bool:=if a.c≠b.c then decide (a.c<b.c) else if a.v≠b.v then decide (a.v<b.v) else decide (a.d<b.d)
theorem a05 (a b:Ky):a8 P0 156 [a.av,b.av] [] (bl (kl a b)) []:=by
 refine ar5 rfl (by decide) ?_
 push_cast [an9,Ky.av,Ky.rv,kl,zaa]
 refine b6 (fun h1=>?_) (fun h1=>?_)
 ·push_cast
  simp at h1;refine ei ?_;simp [h1]
 ·push_cast
  simp at h1;refine b6 (fun h2=>?_) (fun h2=>?_)
  ·push_cast
   simp at h2;refine ei ?_;simp [h1,h2]
  ·push_cast
   simp at h2;refine ei ?_;simp [h1,h2]

theorem az9 (F:FuncId) (A B:List AV) (hA:n7 A=[]) (hB:n7 B=[]) (hfn:aar P0 F=true) (p:Nat→Bool) (n r:Nat) (hn:n≤maxLen) (hr:r≤n)
  (h0:∀i,i<r→p i=false) (h1:∀i,r≤i→i<n→p i=true)
  (hF:∀i:Nat,i<n→a8 P0 F [int .i64 i,.ptr 1000000 0 0,.ptr 1000001 0 0] [.box A,.box B] (bl (p i)) [.box A,.box B]) :
  a8 P0 157 [int .i64 n,.fn (.func F) [.ptr 1000000 0 0,.ptr 1000001 0 0] 0] [.box A,.box B] (int .i64 r) [.box A,.box B]:=by
 refine aoi rfl (by simp) ?_;simp only [ak0,push_cast,↓reduceIte,reduceCtorEq,zE,zA];have hmax:=d7;have iA:∀F,imL F A=A:=fun F=>se F A hA;have iB:∀F,imL F B=B:=fun F=>se F B hB
 refine run_loop [(1,false),(5,false),(6,false)] (fun vs pos los=>∃(lo hi:Int),0≤lo∧lo≤r∧(r:Int)≤hi∧hi≤n ∧
  vs=[.fn (.func F) [.ptr 1000000 0 0,.ptr 1000001 0 0] 0,int .i64 lo,int .i64 hi]∧pos=[.box A,.box B]∧los=[])
  (fun vs _ _=>match vs with | [_,.r (.v (.int _ a)),.r (.v (.int _ b))]=>(b-a).toNat | _=>0) rfl ?_ ?_
 ·simp only [hA,hB,iA,iB,push_cast,↓reduceIte,reduceCtorEq,zB,zE,zA,zS,zL,zD];refine ⟨0,n,by omega,by omega,by omega,by omega,?_⟩;simp
 ·rintro vs pos los ⟨lo,hi,l0,lr,rh,hn',rfl,rfl,rfl⟩;simp only [push_cast,↓reduceIte,zE,zA];refine b6 (fun h=>?_) (fun h=>?_)
  ·simp only [hA,hB,iA,iB,hfn,push_cast,↓reduceIte,zB,zE,zA];have hlt:lo<hi:=by simpa using h
   have hmx:(n:Int)≤9223372036854775807:=by have:=hn; simp only [maxLen] at this; omega
   have hw2:IntKind.u64.wrap (IntKind.i64.wrap (lo+hi))=lo+hi:=by rw [IntKind.wrap_i64,IntKind.wrap_u64]; omega
   have hs:(lo+hi).fdiv (2^min (Int.toNat 1) IntKind.u64.bits)=(lo+hi)/2:=amd (lo+hi) 1 (by decide);have hw3:IntKind.i64.wrap ((lo+hi)/2)=(lo+hi)/2:=a5 ⟨by omega,by omega⟩;obtain ⟨M,hM⟩:∃M:Nat,(lo+hi)/2=M:=⟨((lo+hi)/2).toNat,by omega⟩
   rw [hM] at hw3;simp only [hw2,hs,hM,hw3];refine ⟨by decide,a6 (hF M (by omega)) rfl ⟨rfl,rfl,trivial⟩ ?_⟩;simp only [iA,iB,push_cast,↓reduceIte,zE,zA];have hw4:IntKind.i64.wrap ((M:Int)+1)=M+1:=a5 ⟨by omega,by omega⟩;refine b6 (fun h2=>?_) (fun h2=>?_)
   ·simp only [hA,hB,iA,iB,hw4,push_cast,↓reduceIte,zB,zE,zA,zS,zL,zD];have hp:p M=false:=by simpa using h2
    have hMr:M<r:=Nat.lt_of_not_le fun hle=>by rw [h1 M hle (by omega)] at hp; cases hp
    refine ⟨⟨M+1,hi,by omega,by omega,by omega,by omega,?_⟩,by omega⟩;simp
   ·simp only [hA,hB,iA,iB,push_cast,↓reduceIte,zB,zE,zA,zS,zL,zD];have hp:p M=true:=by simpa using h2
    have hMr:r≤M:=Nat.le_of_not_lt fun hlt=>by rw [h0 M hlt] at hp; cases hp
    refine ⟨⟨lo,M,by omega,by omega,by omega,by omega,?_⟩,by omega⟩;simp
  ·simp only [hA,hB,iA,iB,push_cast,↓reduceIte,zB,zE,zA,zS,zL,zD];have hlt:¬lo<hi:=by simpa using h
   have e:lo=r:=by omega
   rw [e]

def bv (l:List Ky):RV:=.sl 3 (l.map Ky.rv)
def Ky.cs (k:Ky):List AV:=[int .u64 k.c,int .i64 k.v,int .i64 k.d]
theorem bgg (l:List Ky) (k q:Ky) (i:Nat) (hi:i<l.length) (hq:l[i]?=some q) (hl:l.length≤maxLen):a8 P0 159 [int .i64 i,.ptr 1000000 0 0,.ptr 1000001 0 0] [.box [.r (bv l)],.box k.cs]
  (bl (!kl q k)) [.box [.r (bv l)],.box k.cs]:=by
 refine an8 rfl (by simp) ?_
 have hg:(l.map Ky.rv).getD ((i:Int)).toNat (.agg [.v (.int .u64 0),.v (.int .i64 0),.v (.int .i64 0)])=.agg [.v (.int .u64 q.c),.v (.int .i64 q.v),.v (.int .i64 q.d)]:=by
  simp [List.getD,hq,Ky.rv]
 push_cast [akx,bv,Ky.cs,zaa,zab,hg]
 refine And.intro ⟨by omega,by omega⟩ ?_;refine b9 (a05 q k) rfl trivial ?_
 push_cast
 kernel_rfl
structure Plc (l:List Ky) (k:Ky) (r:Nat):Prop where
 le:r≤l.length
 lo:∀(i:Nat) (q:Ky),i<r→l[i]?=some q→kl q k=true
 hi:∀(i:Nat) (q:Ky),r≤i→l[i]?=some q→kl q k=false
theorem bjp (l:List Ky) (k:Ky) (r:Nat) (hp:Plc l k r) (hl:l.length≤maxLen):a8 P0 112 [.r (bv l),k.av] []
  (.tup [int .i64 r,bl (decide (l[r]?=some k))]) []:=by
 refine ar4 rfl (by decide) ?_
 have hF:∀i:Nat,i<l.length→a8 P0 159 [int .i64 i,.ptr 1000000 0 0,.ptr 1000001 0 0] [.box [.r (bv l)],.box k.cs] (bl ((fun i=>match l[i]? with | some q=>!kl q k | none=>true) i)) [.box [.r (bv l)],.box k.cs]:=fun i hi=>by
  have hq:l[i]?=some l[i]:=by simp [hi]
  simp only [hq];exact bgg l k _ i hi hq hl
 have hS:=az9 159 [.r (bv l)] k.cs rfl rfl rfl (fun i=>match l[i]? with | some q=>!kl q k | none=>true) l.length r hl hp.le (fun i hi=>by
  have hq:l[i]?=some (l[i]'(by have:=hp.le; omega)):=by simp [show i<l.length by have:=hp.le; omega]
  simp only [hq,hp.lo i _ hi hq]; rfl) (fun i hi hn=>by
  have hq:l[i]?=some l[i]:=by simp [hn]
  simp only [hq,hp.hi i _ hi hq]; rfl) hF
 push_cast [an7,bv,Ky.av,Ky.rv,zaa,zab]
 refine a6 hS rfl ⟨rfl,rfl,trivial⟩ ?_;obtain ⟨q,hqd⟩:∃q:Ky,q=(l[r]?).getD ⟨0,0,0⟩:=⟨_,rfl⟩
 have hg:(l.map Ky.rv).getD ((r:Int)).toNat (.agg [.v (.int .u64 0),.v (.int .i64 0),.v (.int .i64 0)])=.agg [.v (.int .u64 q.c),.v (.int .i64 q.v),.v (.int .i64 q.d)]:=by
  rw [hqd];rcases hr:l[r]? with _ | q0<;>simp [List.getD,hr,Ky.rv]
 push_cast [bv,Ky.cs,zab,hg]
 refine ⟨fun h=>⟨by omega,by simpa using h⟩,by kernel_rfl,?_⟩;congr 4;rcases hr:l[r]? with _ | q0
 ·have:¬r<l.length:=fun h=>by simp [h] at hr
  simp [this]
 ·have h1:=(zad.1 hr).1;have h2:q=q0:=by rw [hqd,hr]; rfl
  subst h2;simp [h1];cases q; cases k;simp
  rfl

def abl:Mk P0 f158:={ x:=_ }
theorem ah3:b8 158 3 abl:=b7 func158
def ae9:Mk P0 f111:={ x:=_ }
theorem aky:b8 111 2 ae9:=b7 func111
def ai (ns:List (List Ky)) (n:Int):List RV:=[.sl 1 (ns.map bv),.v (.int .i64 n)]
theorem bf0 (ns:List (List Ky)) (n:Int) (k q:Ky) (x:List Ky) (i:Nat) (hi:i<ns.length) (hx:ns[i]?=some (q::x)) (hl:ns.length≤maxLen) (hl2:(q::x).length≤maxLen) :
  a8 P0 158 [int .i64 i,.ptr 1000000 0 0,.ptr 1000001 0 0] [.box k.cs,.box [.rp (ai ns n)]] (bl (kl k q)) [.box k.cs,.box [.rp (ai ns n)]]:=by
 refine ah3 rfl (by simp) ?_
 have hg:(ns.map bv).getD ((i:Int)).toNat (.sl 3 [])=.sl 3 (q.rv::x.map Ky.rv):=by
  simp [List.getD,hx,bv]
 have hg2:(q.rv::x.map Ky.rv).getD (Int.toNat 0) (.agg [.v (.int .u64 0),.v (.int .i64 0),.v (.int .i64 0)])=.agg [.v (.int .u64 q.c),.v (.int .i64 q.v),.v (.int .i64 q.d)]:=rfl;simp only [abl,ai,Ky.cs,hg,hg2,push_cast,↓reduceIte,reduceCtorEq,zE,zA,zL,zD];refine And.intro ⟨by omega,by omega⟩ (And.intro ⟨by omega,by omega⟩ ?_);refine b9 (a05 k q) rfl trivial ?_;simp only [push_cast,↓reduceIte,zB,zE,zA,zS,zL,zD];kernel_rfl
structure Nod (ns:List (List Ky)) (k:Ky) (r:Nat):Prop where
 le:r≤ns.length
 len:ns.length≤maxLen
 ne:∀(i:Nat) (l:List Ky),ns[i]?=some l→l≠[]∧l.length≤maxLen
 lo:∀(i:Nat) (q:Ky) (x:List Ky),i<r→ns[i]?=some (q::x)→kl k q=false
 hi:∀(i:Nat) (q:Ky) (x:List Ky),r≤i→ns[i]?=some (q::x)→kl k q=true
def a5c (ns:List (List Ky)) (k:Ky) (i:Nat):Bool:=match ns[i]? with
 | some (q::_)=>kl k q
 | _=>true
theorem Nod.at_ {ns:List (List Ky)} {k:Ky} {r:Nat} (h:Nod ns k r) {i:Nat} (hi:i<ns.length):∃q x,ns[i]?=some (q::x)∧(q::x).length≤maxLen:=by
 have hq:ns[i]?=some ns[i]:=by simp [hi]
 obtain ⟨h1,h2⟩:=h.ne i _ hq;rcases hx:ns[i] with _ | ⟨q,x⟩
 ·exact absurd hx h1
 ·rw [hx] at hq h2;exact ⟨q,x,hq,h2⟩
theorem a8l (ns:List (List Ky)) (n:Int) (k:Ky) (r:Nat) (h:Nod ns k r):a8 P0 111 [.rp (ai ns n),k.av] [] (int .i64 ((r-1:Nat):Int)) []:=by
 refine aky rfl (by decide) ?_
 have hS:=az9 158 k.cs [.rp (ai ns n)] rfl rfl rfl (a5c ns k) ns.length r h.len h.le (fun i hi=>by
  obtain ⟨q,x,h1,_⟩:=h.at_ (i:=i) (by have:=h.le; omega);simp only [a5c,h1,h.lo i q x hi h1]) (fun i hi hn=>by
  obtain ⟨q,x,h1,_⟩:=h.at_ hn;simp only [a5c,h1,h.hi i q x hi h1]) (fun i hn=>by
  obtain ⟨q,x,h1,h2⟩:=h.at_ hn;simp only [a5c,h1]
  exact bf0 ns n k q x i hn h1 h.len h2)
 push_cast [ae9,ai,Ky.av,Ky.rv,zaa,zab]
 refine a6 hS rfl ⟨rfl,rfl,trivial⟩ ?_
 push_cast [ai,Ky.cs,zab]
 have hm:(ns.length:Int)≤9223372036854775807:=by have:=h.len; simp only [maxLen] at this; omega
 have hle:=h.le;rw [a5 ⟨by omega,by omega⟩,show max ((r:Int)-1) 0=((r-1:Nat):Int) by omega]


section
variable {P:Program} {w:World} {o:Oper} {a:Act} {K:Act→World→Prop} {Q:Exit→Act→World→Prop}
theorem ata {w:World} {g off size m m' c:Nat} {cs:Array Value} {e:TypeId} {fr:Nat×Nat} {news:List Value} (hg:w.heap[g]?=some (.cells cs e fr)) (hn:news.length=m*size)
  (hj:∀(j:Nat) (u:Value),news[j]?=some u→cs[off+j]?=some u):∀W:World,W.heap=w.heap→(Builtin.firstCells size m (.slice (some ⟨g,off,none⟩) m' c)).run P W=.ok news.toArray W:=fun W hW=>by
 refine run_firstCells_some W size m ⟨g,off,none⟩ m' c news hn fun j u hu=>?_;rw [ek];simp only [World.cell?,hW,hg,zaz,Bool.false_eq_true,if_false];exact hj j u hu
theorem ai7 {g:Nat} {old cs:Array Value} {t:TypeId} {fr:Nat×Nat} (hg:w.heap[g]?=some (.cells old t fr)):Keeps (· = g) w (w.setRow g cs):=
  have h:=mg (cs:=cs) hg
  ⟨rfl,rfl,rfl,by simp [World.setRow],fun k hk hn=>setRow_other w g k cs hn⟩
theorem ayo {w':World} {x:Obj} {I:Nat→Prop} (h:OneMore w w' x):Keeps I w w':=⟨h.os,h.tape,h.output,by rw [h.heap]; simp,fun k hk _=>by rw [h.heap]; simp [Array.getElem?_push,Nat.ne_of_lt hk]⟩
theorem wp_app (x v : Operand) (t u : TypeId) (ho : o.op = .call { callee := .builtin .append, args := #[x, v], argTypes := #[t, u] }) {e d : TypeId} {inf : TypeInfo} {z : Value} {size bytes : Nat} (ht : P.underlying t = some (.slice e)) (hu : P.underlying u = some (.slice d))
    (hi:P.info? e=some inf) (hz:inf.zero=some z) (hzs:z.cells.size=inf.size) (hs:inf.size=size) (hby:inf.bytes=bytes) (g len cap:Nat) (hx:a.eval x=.slice (some ⟨g,0,none⟩) len cap) (hc:0<cap) {cs:Array Value} {e':TypeId} (hg:w.heap[g]?=some (.cells cs e' (0,0)))
    (hsz:cap*size≤cs.size) (hlc:len≤cap) {A2:Option Addr} {m c2:Nat} (hv:a.eval v=.slice A2 m c2) (news:List Value) (hnew:∀W:World,W.heap=w.heap→(Builtin.firstCells size m (.slice A2 m c2)).run P W=.ok news.toArray W)
    (hn:news.length=m*size) (h1:∀u∈news,u.oneCell'=true) (hmax:len+m≤maxLen) (hcap:cap≤maxLen) (hb:(len+m)*bytes≤140737488355328)
    (h:∀(g' cap':Nat) (cs':Array Value) (e2:TypeId) (w':World),(g'=g∨g'=w.heap.size)→0<cap'→len+m≤cap'→cap'≤maxLen→w'.heap[g']?=some (.cells cs' e2 (0,0))→cap'*size≤cs'.size →
      (∀j,j<(len+m)*size→cs'[j]?=(cs.toList.take (len*size)++news)[j]?)→Keeps (· = g) w w'→K (a.put o.dst (.slice (some ⟨g',0,none⟩) (len+m) cap')) w'):o.wp P a w K Q:=by
  subst hs; subst hby;have hlt:len*inf.size≤cs.size:=Nat.le_trans (Nat.mul_le_mul_right _ hlc) hsz;have hol:(cs.toList.take (len*inf.size)).length=len*inf.size:=by simp only [List.length_take,Array.length_toList]; exact Nat.min_eq_left hlt
  have hold:=ata (P:=P) (off:=0) (size:=inf.size) (m:=len) (m':=len) (c:=cap) (news:=cs.toList.take (len*inf.size)) hg hol (fun j u hu=>by
    rw [zal] at hu;split at hu
    · simpa using hu
    · cases hu)
  have hrun0:∀r,(Builtin.append_ #[t,u] o.type #[.slice (some ⟨g,0,none⟩) len cap,.slice A2 m c2]).run P w=r→(execOp a.eval o).run P w=r.andThen fun q w'=>.ok (.value q) w':=by
    rintro r rfl;simp [execOp,ho,resolve,invoke,builtin,hx,hv]
  unfold Oper.wp
  rcases run_app (P := P) (w := w) (ty := o.type) (A := some ⟨g, 0, none⟩) (A2 := A2) (len := len) (cap := cap) (m := m) (c2 := c2) (g := g) (cur := cs) (e' := e') (olds := cs.toList.take (len * inf.size)) (news := news) ht hu hi hz hzs hlc (fun _ => ⟨rfl, hg, hsz⟩) (fun _ k _ h => absurd h.2 (Nat.not_lt_zero k))
      hold hol hnew hn h1 hmax hb with ⟨hroom,hr⟩ | ⟨hgrow,K',w',rest,hr,hK1,hK2,hom,hlen⟩
  · rw [hrun0 _ hr,if_pos hc]
    have hfit:len*inf.size+news.length≤cs.toList.length:=by
      rw [hn,← Nat.add_mul]; simp; exact Nat.le_trans (Nat.mul_le_mul_right _ hroom) hsz
    refine h g cap _ e' _ (.inl rfl) hc hroom hcap (setRow_heap w g cs _ e' _ hg) ?_ (fun j hj=>?_) (ai7 hg)
    · simp only [List.size_toArray,m9 hfit,Array.length_toList]; exact hsz
    · rw [List.getElem?_toArray,z8 hfit,hn];rw [Nat.add_mul] at hj;by_cases hj1:len*inf.size≤j
      · rw [if_pos ⟨hj1,hj⟩,List.getElem?_append_right (by rw [hol]; exact hj1),hol]
      · rw [if_neg (fun q=>hj1 q.1),zat (by rw [hol]; omega),zal,if_pos (by omega)]
  · rw [hrun0 _ hr];refine h w.heap.size K' _ e w' (.inr rfl) (by omega) hK1 hK2 hom.new ?_ (fun j hj=>?_) (ayo hom)
    · simp only [List.size_toArray,hlen]; exact Nat.le_refl _
    · rw [List.getElem?_toArray,zat];simp only [zak,hol,hn,← Nat.add_mul];exact hj
theorem wp_cpy (x v : Operand) (t u : TypeId) (ho : o.op = .call { callee := .builtin .copy, args := #[x, v], argTypes := #[t, u] }) {e : TypeId} {inf : TypeInfo} {size : Nat} (ht : P.underlying t = some (.slice e))
    (hi:P.info? e=some inf) (hs:inf.size=size) (g d s m:Nat) {cs:Array Value} {e':TypeId} (hg:w.heap[g]?=some (.cells cs e' (0,0))) {D S:Option Addr} {dl dc sl sc:Nat} (hx:a.eval x=.slice D dl dc) (hv:a.eval v=.slice S sl sc)
    (hm:m=Nat.min sl dl) (hpos:0<m→D=some ⟨g,d,none⟩∧S=some ⟨g,s,none⟩) (hd:d+m*size≤cs.size) (hsr:s+m*size≤cs.size) (h1:∀u∈(cs.toList.drop s).take (m*size),u.oneCell'=true)
    (h:∀w',w'.heap[g]?=some (.cells (c9 cs.toList d ((cs.toList.drop s).take (m*size))).toArray e' (0,0))→Keeps (· = g) w w'→K (a.put o.dst (goInt m)) w'):o.wp P a w K Q:=by
  subst hs;unfold Oper.wp
  have hrun0:∀r,(Builtin.copy_ #[t,u] o.type #[.slice D dl dc,.slice S sl sc]).run P w=r→(execOp a.eval o).run P w=r.andThen fun q w'=>.ok (.value q) w':=by
    rintro r rfl;simp [execOp,ho,resolve,invoke,builtin,hx,hv]
  by_cases h0:m=0
  · subst h0
    have hr:(Builtin.copy_ #[t,u] o.type #[.slice D dl dc,.slice S sl sc]).run P w=.ok (goInt 0) w:=by
      have hl:∀(x:Addr),(loadCells x 0).run P w=.ok #[] w:=fun x=>by simpa using run_loadCells_list (P:=P) w x [] (by simp)
      cases D<;>cases S<;>simp [Builtin.copy_,run_underlying ht,Builtin.lenOf,Builtin.firstCells,sizeOf,typeInfo,hi,← hm,storeCells,hl]
    rw [hrun0 _ hr];refine h w ?_ (Keeps.refl _ _);simp [c9,hg]
  · obtain ⟨rfl,rfl⟩:=hpos (by omega);have hln:((cs.toList.drop s).take (m*inf.size)).length=m*inf.size:=by simp; omega
    have hf:=ata (P:=P) (w:=w) (off:=s) (size:=inf.size) (m:=m) (m':=sl) (c:=sc) (news:=(cs.toList.drop s).take (m*inf.size)) hg hln (fun j u hu=>by
      rw [zal] at hu;split at hu
      · rw [List.getElem?_drop] at hu; simpa using hu
      · cases hu) w rfl
    have hst:=acl (P:=P) g d e' (0,0) ((cs.toList.drop s).take (m*inf.size)) 0 cs w hg (by simp) (by rw [hln]; omega) h1
    have hr:(Builtin.copy_ #[t,u] o.type #[.slice (some ⟨g,d,none⟩) dl dc,.slice (some ⟨g,s,none⟩) sl sc]).run P w=.ok (goInt m) (w.setRow g (c9 cs.toList d ((cs.toList.drop s).take (m*inf.size))).toArray):=by
      simp only [Nat.add_zero] at hst;simp [Builtin.copy_,run_underlying ht,Builtin.lenOf,sizeOf,typeInfo,hi,← hm,hf,hst,c9]
    rw [hrun0 _ hr];exact h _ (setRow_heap w g cs _ e' _ hg) (ai7 hg)
end

def kc (k:Ky):List Value:=[.int .u64 k.c,.int .i64 k.v,.int .i64 k.d]
def flat (l:List Ky):List Value:=l.flatMap kc
theorem adi (l:List Ky):(flat l).length=l.length*3:=by
 induction l with
 | nil=>rfl
 | cons k l ih=>simp only [flat,List.flatMap_cons,zak,zaf] at ih ⊢; rw [ih]; simp [kc]; omega
theorem bb6 {l:List Ky} {i j:Nat} {k:Ky} (h:l[i]?=some k) (hj:j<3):(flat l)[i*3+j]?=(kc k)[j]?:=by
 have:∀(l:List Ky) (i:Nat),l[i]?=some k→(flat l)[i*3+j]?=(kc k)[j]?:=fun l=>by
  induction l with
  | nil=>intro i h; simp at h
  | cons q l ih=>
   intro i h;cases i with
   | zero=>
    simp at h;subst h;simp only [flat,List.flatMap_cons];rw [zat (by simp [kc]; omega)];simp
   | succ i=>
    simp at h;simp only [flat,List.flatMap_cons];rw [List.getElem?_append_right (by simp [kc]; omega),← ih i h];congr 1;simp [kc];omega
 exact this l i h
theorem bb5 {l:List Ky}:∀u∈flat l,u.oneCell'=true:=fun u hu=>by
 simp only [flat,List.mem_flatMap,kc] at hu;obtain ⟨k,_,hk⟩:=hu;simp at hk;rcases hk with rfl | rfl | rfl<;>rfl
def adf (w:World) (g:Nat) (l:List Ky) (c:Nat):Prop:=∃(cs:Array Value) (e:TypeId),w.heap[g]?=some (.cells cs e (0,0))∧c*3≤cs.size∧(∀(j:Nat) (u:Value),(flat l)[j]?=some u→cs[j]?=some u)∧l.length≤c∧0<c∧c≤maxLen
theorem adf.loc {w w':World} {g c:Nat} {l:List Ky} (h:adf w g l c) (hw:w'.heap[g]?=w.heap[g]?):adf w' g l c:=by
 obtain ⟨cs,e,h1,h2⟩:=h;exact ⟨cs,e,by rw [hw]; exact h1,h2⟩
theorem adf.lt {w:World} {g c:Nat} {l:List Ky} (h:adf w g l c):g<w.heap.size:=by
 obtain ⟨cs,e,h1,h2⟩:=h;exact (zau.1 h1).1
theorem adf.rel {w:World} {g c:Nat} {l:List Ky} (h:adf w g l c) {R:Nat→Prop} (hR:R g):RelV w R (bv l) (.slice (some ⟨g,0,none⟩) l.length c):=by
 obtain ⟨cs,e,h1,h2,h3,h4,h5,h6⟩:=h;have key:=RelV.sl (w:=w) (R:=R) 3 (l.map Ky.rv) (some ⟨g,0,none⟩) c (by simpa using h4) h6 g 0 (fun i j=>(cs[i*3+j]?).getD undef) (fun _=>⟨rfl,hR⟩)
 have cell:∀(i:Nat) (x:RV) (j:Nat) (y:RV),(l.map Ky.rv)[i]?=some x→x.cells[j]?=some y→∃u,y=.v u∧cs[i*3+j]?=some u∧u.oneCell'=true:=fun i x j y hi hj=>by
  rw [List.getElem?_map,zba] at hi;obtain ⟨k,hk,rfl⟩:=hi;have hj3:j<3:=by have:=(zad.1 hj).1; simpa [Ky.rv,RV.cells] using this
  have hf:=bb6 hk hj3
  match j,hj3,hj,hf with
  | 0,_,hj,hf=>simp [Ky.rv,RV.cells] at hj; subst hj; exact ⟨_,rfl,h3 _ _ hf,rfl⟩
  | 1,_,hj,hf=>simp [Ky.rv,RV.cells] at hj; subst hj; exact ⟨_,rfl,h3 _ _ hf,rfl⟩
  | 2,_,hj,hf=>simp [Ky.rv,RV.cells] at hj; subst hj; exact ⟨_,rfl,h3 _ _ hf,rfl⟩
 have:=key (fun i x hi=>by
   rw [List.getElem?_map,zba] at hi;obtain ⟨k,hk,rfl⟩:=hi
   rfl) (fun i x j y hi hj=>by
   obtain ⟨u,rfl,h,h'⟩:=cell i x j y hi hj;simp only [World.cell?,h1,zaz,Bool.false_eq_true,if_false,zac,h,zav];exact ⟨trivial,h'⟩) (fun i x j y hi hj=>by
   obtain ⟨u,rfl,h,h'⟩:=cell i x j y hi hj;simp only [h,zav]
   exact .v u)
 simpa [bv] using this
def adr (og:Option Nat):Option Addr:=og.map fun g=>⟨g,0,none⟩
structure TL (w:World) (b:Nat) (og:Option Nat) (gs:List Nat) (cap:Nat) (ns:List (List Ky)) (n:Int):Prop where
 hd:∃e,w.heap[b]?=some (.cells #[.slice (adr og) ns.length cap,.int .i64 n] e (0,0))
 le:ns.length≤cap
 mx:cap≤maxLen
 no:og=none→cap=0
 out:∀g,og=some g→0<cap∧∃cs e,w.heap[g]?=some (.cells cs e (0,0))∧cap≤cs.size∧∀(i g':Nat) (l:List Ky),gs[i]?=some g'→ns[i]?=some l→∃c,cs[i]?=some (.slice (some ⟨g',0,none⟩) l.length c)∧adf w g' l c
 len:gs.length=ns.length
 nb:(b::(og.toList++gs)).Nodup
def Ft (b:Nat) (og:Option Nat) (gs:List Nat) (x:Nat):Prop:=x=b∨og=some x∨x∈gs
section
variable {w w':World} {b cap:Nat} {og:Option Nat} {gs:List Nat} {ns:List (List Ky)} {n:Int}
theorem TL.loc (h:TL w b og gs cap ns n) (hw:∀x,Ft b og gs x→w'.heap[x]?=w.heap[x]?):TL w' b og gs cap ns n:=by
 refine ⟨?_,h.le,h.mx,h.no,fun g hg=>?_,h.len,h.nb⟩
 ·obtain ⟨e,he⟩:=h.hd;exact ⟨e,by rw [hw b (.inl rfl)]; exact he⟩
 ·obtain ⟨h0,cs,e,h1,h2,h4⟩:=h.out g hg;refine ⟨h0,cs,e,by rw [hw g (.inr (.inl hg))]; exact h1,h2,fun i g' l hi hl=>?_⟩;obtain ⟨c,h5,h6⟩:=h4 i g' l hi hl;exact ⟨c,h5,h6.loc (hw g' (.inr (.inr (zap hi))))⟩
theorem TL.lt (h:TL w b og gs cap ns n):∀x,Ft b og gs x→x<w.heap.size:=fun x hx=>by
 rcases hx with rfl | hx | hx
 ·obtain ⟨e,he⟩:=h.hd;exact (zau.1 he).1
 ·obtain ⟨h0,cs,e,h1,_⟩:=h.out x hx;exact (zau.1 h1).1
 ·obtain ⟨i,hi⟩:=zbb.1 hx;have hin:=(zad.1 hi).1;rw [h.len] at hin;rcases og with _ | g
  ·have:=h.no rfl; have:=h.le; omega
  ·obtain ⟨h0,cs,e,h1,h2,h4⟩:=h.out g rfl;obtain ⟨c,_,h6⟩:=h4 i x ns[i] hi (by simp [hin]);exact h6.lt
theorem TL.rel (h:TL w b og gs cap ns n) {R:Nat→Prop} (hR:∀x,Ft b og gs x→R x):RelV w R (.sl 1 (ns.map bv)) (.slice (adr og) ns.length cap):=by
 rcases og with _ | g
 ·have h0:=h.no rfl;have h1:=h.le;have h2:ns=[]:=List.eq_nil_of_length_eq_zero (by omega);subst h2;subst h0;exact .sl 1 [] none 0 (by simp) (by simp) 0 0 (fun _ _=>undef) (by simp) (by simp) (by simp) (by simp)
 ·obtain ⟨h0,cs,e,h1,h2,h4⟩:=h.out g rfl
  have node:∀(i:Nat) (x:RV),(ns.map bv)[i]?=some x→∃l g' c,ns[i]?=some l∧x=bv l∧gs[i]?=some g'∧cs[i]?=some (.slice (some ⟨g',0,none⟩) l.length c)∧adf w g' l c:=fun i x hi=>by
   rw [List.getElem?_map,zba] at hi;obtain ⟨l,hl,rfl⟩:=hi;have hlt:=(zad.1 hl).1;have hg':gs[i]?=some (gs[i]'(by rw [h.len]; exact hlt)):=by simp [h.len,hlt]
   obtain ⟨c,h5,h6⟩:=h4 i _ l hg' hl;exact ⟨l,_,c,hl,rfl,hg',h5,h6⟩
  have key:=RelV.sl (w:=w) (R:=R) 1 (ns.map bv) (some ⟨g,0,none⟩) cap (by simpa using h.le) h.mx g 0 (fun i _=>(cs[i]?).getD undef) (fun _=>⟨rfl,hR g (.inr (.inl rfl))⟩) (fun i x hi=>by
    obtain ⟨l,g',c,_,rfl,_⟩:=node i x hi
    rfl) (fun i x j y hi hj=>by
    obtain ⟨l,g',c,_,rfl,_,h5,_⟩:=node i x hi;have:j=0:=by have:=(zad.1 hj).1; simp [bv,RV.cells] at this; exact this
    subst this;simp only [World.cell?,h1,zaz,Bool.false_eq_true,if_false,zac,Nat.mul_one,Nat.add_zero,h5,zav];exact ⟨trivial,rfl⟩) (fun i x j y hi hj=>by
    obtain ⟨l,g',c,_,rfl,h7,h5,h6⟩:=node i x hi;have:j=0:=by have:=(zad.1 hj).1; simp [bv,RV.cells] at this; exact this
    subst this;simp [bv,RV.cells] at hj;subst hj;simp only [h5,zav]
    exact h6.rel (hR g' (.inr (.inr (zap h7)))))
  simpa [adr] using key
theorem TL.rp (h:TL w b og gs cap ns n) {R:Nat→Prop} (hR:∀x,Ft b og gs x→R x) :
  ∃g:Nat→Value,∀(j:Nat) (y:RV),(ai ns n)[j]?=some y→w.cell? ⟨b,0+j,none⟩=some (g j)∧(g j).oneCell'=true∧RelV w R y (g j):=by
 obtain ⟨e,he⟩:=h.hd;refine ⟨fun j=>(#[Value.slice (adr og) ns.length cap,.int .i64 n][j]?).getD undef,fun j y hj=>?_⟩
 match j,hj with
 | 0,hj=>
  simp [ai] at hj;subst hj;refine ⟨by simp [World.cell?,he],rfl,h.rel hR⟩
 | 1,hj=>
  simp [ai] at hj;subst hj;exact ⟨by simp [World.cell?,he],rfl,.v _⟩
 | j+2,hj=>simp [ai] at hj
def fpt (og:Option Nat) (gs:List Nat):Nat→Option Nat
 | 0=>og
 | j+1=>gs[j]?
theorem agr {x:Nat}:(∃j,fpt og gs j=some x)↔(og=some x∨x∈gs):=by
 constructor
 ·rintro ⟨j,hj⟩;cases j with
  | zero=>exact .inl hj
  | succ j=>exact .inr (zap hj)
 ·rintro (h | h)
  ·exact ⟨0,h⟩
  ·obtain ⟨i,hi⟩:=zbb.1 h;exact ⟨i+1,hi⟩
end
def bku (ns:List (List Ky)) (n:Int):AbsT where
 size:=2
 Q w b φ:=∃og gs cap,TL w b og gs cap ns n∧φ=fpt og gs
 loc:=by
  rintro w w' b φ ⟨og,gs,cap,h,rfl⟩ hb hj;refine ⟨og,gs,cap,h.loc fun x hx=>?_,rfl⟩;rcases hx with rfl | hx
  ·exact hb
  ·obtain ⟨j,hj'⟩:=agr.2 hx;exact hj j x hj'
 root:=by
  rintro w b φ ⟨og,gs,cap,h,rfl⟩;obtain ⟨e,he⟩:=h.hd;exact ⟨_,e,he,rfl⟩
 lt:=by
  rintro w b φ ⟨og,gs,cap,h,rfl⟩ j c hj;exact h.lt c (.inr (agr.1 ⟨j,hj⟩))
 view:=ai ns n
 rp:=by
  rintro w b φ R ⟨og,gs,cap,h,rfl⟩ hb hj;refine h.rp fun x hx=>?_;rcases hx with rfl | hx
  ·exact hb
  ·obtain ⟨j,hj'⟩:=agr.2 hx;exact hj j x hj'

theorem glT (w:World):Gl P0 w fun _=>False:=gl_none (by kernel_rfl) (fun _=>by kernel_rfl) (fun _=>by kernel_rfl) w
def Ky.val (k:Ky):Value:=.agg #[.int .u64 k.c,.int .i64 k.v,.int .i64 k.d]
theorem Ky.rel {w:World} {R:Nat→Prop} (k:Ky):RelV w R k.rv k.val:=by
 refine .agg _ _ rfl fun i x c hx hc=>?_
 match i,hx,hc with
 | 0,hx,hc=>simp [] at hx hc; subst hx; subst hc; exact .v _
 | 1,hx,hc=>simp [] at hx hc; subst hx; subst hc; exact .v _
 | 2,hx,hc=>simp [] at hx hc; subst hx; subst hc; exact .v _
 | i+3,hx,hc=>simp at hx
theorem bcv {w:World} {x:Nat} (h:x<w.heap.size):a16 w x:=⟨h,fun ⟨id,v,o,h1,_⟩=>by simp [ob0,obs] at h1,trivial⟩
theorem arl {w w':World} {I:Nat→Prop} (h:Go.RowKit.Below w.heap.size w w'):Keeps I w w':=⟨h.os,h.tape,h.output,h.size,fun b hb _=>h.block b hb⟩
section
variable {w:World} {b cap:Nat} {og:Option Nat} {gs:List Nat} {ns:List (List Ky)} {n:Int}
theorem a8k (h:TL w b og gs cap ns n) (k:Ky) (r:Nat) (hN:Nod ns k r):Calls P0 111 #[.pointer (some ⟨b,0,none⟩),k.val] w fun e w'=>e=.returned (.int .i64 ((r-1:Nat):Int))∧∀I,Keeps I w w':=by
 obtain ⟨g,hg⟩:=h.rp (R:=a16 w) fun x hx=>bcv (h.lt x hx);refine (aa6 (a8l ns n k r hN) w (glT w) rfl (rel0_cons (.rp _ b 0 g (bcv (h.lt b (.inl rfl))) hg) (rel0_cons (.r k.rel) rel0_nil))).mono ?_;rintro e w' ⟨c,rfl,hb,ρ',hR⟩;cases hR with
 | r hv=>cases hv; exact ⟨rfl,fun I=>arl hb⟩
theorem a87 {g c:Nat} {l:List Ky} (h:adf w g l c) (k:Ky) (r:Nat) (hP:Plc l k r):Calls P0 112 #[.slice (some ⟨g,0,none⟩) l.length c,k.val] w fun e w'=>
  e=.returned (.tuple #[.int .i64 r,.bool (decide (l[r]?=some k))])∧∀I,Keeps I w w':=by
 have hl:l.length≤maxLen:=by obtain ⟨_,_,_,_,_,h4,_,h6⟩:=h; omega
 refine (aa6 (bjp l k r hP hl) w (glT w) rfl (rel0_cons (.r (h.rel (bcv h.lt))) (rel0_cons (.r k.rel) rel0_nil))).mono ?_;rintro e w' ⟨c,rfl,hb,ρ',hR⟩;cases hR with
 | tup _ cs hl h=>
  have h0:=h 0 _ (cs[0]'(by rw [hl]; simp)) rfl (by simp [hl]);have h1:=h 1 _ (cs[1]'(by rw [hl]; simp)) rfl (by simp [hl]);refine ⟨?_,fun I=>arl hb⟩;congr 2;have inv:∀{v c:Value},RelA w' (g8 (fun _=>True) (ob0 []) ρ' w') (ob0 []) ρ' (.r (.v v)) c→c=v:=fun h=>by cases h with | r h=>cases h; rfl
  have e0:=inv h0;have e1:=inv h1;apply Array.ext (by simp [hl]);intro i h2 h3
  match i,h2,h3 with
  | 0,h2,h3=>simpa using e0
  | 1,h2,h3=>simpa using e1
  | i+2,h2,h3=>rw [hl] at h2; exact absurd (show i+2<2 from h2) (by omega)
end
theorem a4t {f:FuncId} {T T':AbsT} {k:Ky} {res:Value} (hs:T'.size=T.size) (h:∀(w:World) (b:Nat) (φ:Nat→Option Nat),T.Q w b φ→Calls P0 f #[.pointer (some ⟨b,0,none⟩),k.val] w fun e w'=>
  e=.returned res∧∃φ',T'.Q w' b φ'∧Keeps (fun x=>x=b∨∃j,φ j=some x) w w'∧(∀j c,φ' j=some c→(∃j',φ j'=some c)∨w.heap.size≤c)) :
  a8 P0 f [.ptr 1000000 0 0,k.av] [.abs T] (.r (.v res)) [.abs T']:=by
 intro w cargs ρ B hgl hB hM hcs hargs;have hob:ob0 [Ob.abs T] 1000000=some (0,.abs T):=by simp [ob0,obs,upd]
 obtain ⟨b,hρ,hQ⟩:=hM.obj 1000000 0 (.abs T) hob
 have hid:∀(T0:AbsT) id x,ob0 [Ob.abs T0] id=some x→id=1000000∧x=(0,.abs T0):=fun T0 id x hx=>by
  obtain ⟨h1,h2,h3⟩:=xu hx
  have:id-1000000=0:=by
   have:=(zad.1 h2).1;simpa using this
  have hid:id=1000000:=by omega
  subst hid;have hob0:ob0 [Ob.abs T0] 1000000=some (0,.abs T0):=by simp [ob0,obs,upd]
  rw [hob0] at hx;exact ⟨rfl,(Option.some.inj hx).symm⟩
 have hheld:∀x,kh (ob0 [.abs T]) ρ x↔(x=b∨∃j,ρ (.s 1000000 j)=some x):=fun x=>by
  constructor
  ·rintro ⟨id,y,h1,h2⟩;obtain ⟨rfl,rfl⟩:=hid T id _ h1;rcases h2 with h2 | ⟨_,j,h2⟩
   ·rw [hρ] at h2; cases h2; exact .inl rfl
   ·exact .inr ⟨j,h2⟩
  ·rintro (rfl | ⟨j,h2⟩)
   ·exact ⟨1000000,(0,.abs T),hob,.inl hρ⟩
   ·exact ⟨1000000,(0,.abs T),hob,.inr ⟨rfl,j,h2⟩⟩
 have hc:cargs=#[.pointer (some ⟨b,0,none⟩),k.val]:=by
  simp at hcs;apply Array.ext (by simpa using hcs);intro i h1 h2
  match i,h1,h2 with
  | 0,h1,h2=>
   have h0:=hargs 0 _ cargs[0] rfl (by simp [h1]);generalize cargs[0]=c0 at h0;cases h0 with
   | ptr _ _ _ _ hc1 hat=>
    obtain ⟨b',hb',rfl⟩:=hat.live hob;rw [hρ] at hb';cases hb'
    rfl
  | 1,h1,h2=>
   have h0:=hargs 1 _ cargs[1] rfl (by simp [h1]);generalize cargs[1]=c1 at h0;cases h0 with
   | r h0=>
    cases h0 with
    | agg xs cs hl h0=>
     have inv:∀{v c:Value},RelV w (g8 B (ob0 [.abs T]) ρ w) (.v v) c→c=v:=fun h=>by cases h; rfl
     simp only [Ky.val,List.getElem_toArray,List.getElem_cons_succ,List.getElem_cons_zero];congr 1;apply Array.ext (by simpa using hl);intro j g1 g2
     match j,g1,g2 with
     | 0,g1,g2=>exact inv (h0 0 _ cs[0] rfl (by simp [g1]))
     | 1,g1,g2=>exact inv (h0 1 _ cs[1] rfl (by simp [g1]))
     | 2,g1,g2=>exact inv (h0 2 _ cs[2] rfl (by simp [g1]))
     | j+3,g1,g2=>exact absurd (show j+3<3 from g2) (by omega)
  | i+2,h1,h2=>exact absurd (show i+2<2 from h2) (by omega)
 subst hc;refine (h w b _ hQ).mono ?_;rintro e w' ⟨rfl,φ',hQ',hK,hφ⟩;obtain ⟨ρ',h1,h2⟩:∃ρ':Pl→Option Nat,ρ' (.o 1000000)=some b∧∀j,ρ' (.s 1000000 j)=φ' j:=⟨fun | .o i=>if i=1000000 then some b else none | .s i j=>if i=1000000 then φ' j else none,by simp,by simp⟩
 refine ⟨_,ρ',rfl,⟨fun id v o hx=>?_,fun id id' x x' c hx hx' _ _=>?_,⟨hK.os,hK.tape,hK.output,hK.size,fun c hc hn=>hK.block c hc fun hx=>hn ((hheld c).2 hx)⟩,fun id v o c hx hf=>?_,fun id c hp=>?_⟩,.r (.v _)⟩
 ·obtain ⟨rfl,hx⟩:=hid T' id _ hx;cases hx;refine ⟨b,h1,?_⟩;rw [show (fun j=>ρ' (.s 1000000 j))=φ' from funext h2];exact hQ'
 ·rw [(hid T' id _ hx).1,(hid T' id' _ hx').1]
 ·obtain ⟨rfl,hx⟩:=hid T' id _ hx;cases hx;rcases hf with hf | ⟨_,j,hf⟩
  ·rw [h1] at hf; cases hf; exact .inl ((hheld b).2 (.inl rfl))
  ·rw [h2] at hf;rcases hφ j c hf with ⟨j',hj'⟩ | h
   ·exact .inl ((hheld c).2 (.inr ⟨j',hj'⟩))
   ·exact .inr h
 ·simp only [mu] at hp;split at hp
  ·rename_i v o hx;split at hp
   ·rename_i ho;obtain ⟨rfl,hx'⟩:=hid T id _ hx;refine ⟨?_,_,by simp [ob0,obs,upd]; rfl,rfl,fun h=>by cases h⟩;rw [h1,← hp,hρ]
   ·cases hp
  ·cases hp

open Go Go.RowKit
theorem alx {w:World} {x:Obj} {k:Nat} (h:k<w.heap.size):(w.alloc x).heap[k]?=w.heap[k]?:=by
 show (w.heap.push x)[k]? = _;simp [Array.getElem?_push,Nat.ne_of_lt h]
theorem aly {w:World} {x:Obj} {k:Nat} (h:k=w.heap.size):(w.alloc x).heap[k]?=some x:=by
 subst h;show (w.heap.push x)[w.heap.size]? = _;simp
theorem jq {w:World} {x:Obj} {I:Nat→Prop}:Keeps I w (w.alloc x):=ayo (al x)
theorem Keeps.mono {I J:Nat→Prop} {w w':World} (h:Keeps I w w') (hi:∀x,I x→J x):Keeps J w w':=⟨h.os,h.tape,h.output,h.size,fun b hb hn=>h.block b hb fun hx=>hn (hi b hx)⟩
theorem put0_w {w : World} {b cap : Nat} {og : Option Nat} {gs : List Nat} {n : Int} (h : TL w b og gs cap [] n) (k : Ky) : Calls P0 64 #[.pointer (some ⟨b, 0, none⟩), k.val] w fun e w' => e = .returned (.bool true) ∧
    ∃og' gs' cap',TL w' b og' gs' cap' [[k]] 1∧Keeps (Ft b og gs) w w'∧∀x,Ft b og' gs' x→Ft b og gs x∨w.heap.size≤x:=by
  obtain ⟨e,he⟩:=h.hd;have hlt:=h.lt b (.inl rfl);have hc:w.cell? ⟨b,0,none⟩=some (.slice (adr og) 0 cap):=by simp [World.cell?,he]
  have hc1:w.cell? ⟨b,1,none⟩=some (.int .i64 n):=by simp [World.cell?,he]
  have hf0:w.frozen? ⟨b,0,none⟩=false:=by simp [World.frozen?,he]
  have hf1:w.frozen? ⟨b,1,none⟩=false:=by simp [World.frozen?,he]
  have hb01:b<w.heap.size+1:=by omega
  have hb02:b<w.heap.size+1+1:=by omega
  have hb0:¬b=w.heap.size:=by omega
  have hb1:¬b=w.heap.size+1:=by omega
  have hb2:¬b=w.heap.size+1+1:=by omega
  simp only [Ky.val]
  go_enter func64,Go.Proofs.Tryz.ntmps64
  go_wp2_with fail
  go_ret
  rw [setCell_eq_setRow w b 0 _ _ _ _ he,setCell_eq_setRow _ b 1 _ _ _ _ (setRow_heap w b _ _ _ _ he),setRow_setRow];generalize hw1:w.setRow b _=w1;have hh:w1.heap[b]?=some (.cells #[.slice (some ⟨w.heap.size+1+1,0,none⟩) 1 1,.int .i64 1] e):=by rw [← hw1]; exact setRow_heap w b _ _ _ _ he
  have hk:Keeps (· = b) w w1:=by rw [← hw1]; exact ai7 he
  have hs:w1.heap.size=w.heap.size:=by rw [← hw1]; simp [World.setRow]
  refine ⟨rfl,some (w.heap.size+1+1),[w.heap.size+1],1,⟨⟨e,?_⟩,by simp,by simp [maxLen],by simp,fun g hg=>?_,rfl,?_⟩,?_,fun x hx=>?_⟩
  · rw [alx (by simp [hs]; omega),alx (by simp [hs]; omega),alx (by simp [hs]; omega),hh]
    rfl
  · cases hg;refine ⟨by omega,_,_,aly (by simp [hs]),by simp,fun i g' l hi hl=>?_⟩;have hi0:i=0:=by have:=(zad.1 hi).1; simp at this; exact this
    subst hi0;simp at hi hl;subst hi; subst hl;refine ⟨1,rfl,_,_,by rw [alx (by simp [hs])]; exact aly (by simp [hs]),by simp,?_,by simp,by simp,by simp [maxLen]⟩;intro j u hj;simpa [flat,kc] using hj
  · simp;omega
  · exact (hk.mono fun x hx=>.inl hx).trans ((jq.trans jq).trans jq)
  · rcases hx with h | h | h
    · exact .inl (.inl h)
    · simp at h; omega
    · simp at h; omega

open Go Go.RowKit
section
variable {w:World} {b g cap:Nat} {og:Option Nat} {gs:List Nat} {ns:List (List Ky)} {n:Int}
theorem TL.root (h:TL w b (some g) gs cap ns n):w.cell? ⟨b,0,none⟩=some (.slice (some ⟨g,0,none⟩) ns.length cap)∧w.cell? ⟨b,1,none⟩=some (.int .i64 n)∧w.frozen? ⟨b,0,none⟩=false∧w.frozen? ⟨b,1,none⟩=false∧b<w.heap.size:=by
 obtain ⟨e,he⟩:=h.hd;exact ⟨by simp [World.cell?,he,adr],by simp [World.cell?,he],by simp [World.frozen?,he],by simp [World.frozen?,he],h.lt b (.inl rfl)⟩
theorem TL.some_ (h:TL w b og gs cap ns n) {i:Nat} {l:List Ky} (hl:ns[i]?=some l):∃g,og=some g:=by
 rcases og with _ | g
 ·have:=h.no rfl;have:=h.le;have:=(zad.1 hl).1;omega
 ·exact ⟨g,rfl⟩
theorem TL.node (h:TL w b (some g) gs cap ns n) {i:Nat} {l:List Ky} (hl:ns[i]?=some l):∃g' c,gs[i]?=some g'∧adf w g' l c∧w.cell? ⟨g,i,none⟩=some (.slice (some ⟨g',0,none⟩) l.length c)∧w.frozen? ⟨g,i,none⟩=false:=by
 obtain ⟨h0,cs,e,h1,h2,h4⟩:=h.out g rfl;have hlt:=(zad.1 hl).1;have hg':gs[i]?=some (gs[i]'(by rw [h.len]; exact hlt)):=by simp [h.len,hlt]
 obtain ⟨c,h5,h6⟩:=h4 i _ l hg' hl;exact ⟨_,c,hg',h6,by simp [World.cell?,h1,h5],by simp [World.frozen?,h1]⟩
end
def KB (w:World) (B:Nat) (k:Ky):Prop:=w.heap[B]?=some (.cells #[.int .u64 k.c,.int .i64 k.v,.int .i64 k.d] 120 (0,0))
theorem KB.cells {w:World} {B:Nat} {k:Ky} (h:KB w B k):w.cell? ⟨B,0,none⟩=some (.int .u64 k.c)∧w.cell? ⟨B,1,none⟩=some (.int .i64 k.v)∧w.cell? ⟨B,2,none⟩=some (.int .i64 k.d):=by
 unfold KB at h;exact ⟨by simp [World.cell?,h],by simp [World.cell?,h],by simp [World.cell?,h]⟩
theorem KB.keeps {w w':World} {B:Nat} {k:Ky} {I:Nat→Prop} (h:KB w B k) (hk:Keeps I w w') (hn:¬I B):KB w' B k:=by
 unfold KB at h ⊢;rw [hk.block B (zau.1 h).1 hn];exact h
theorem TL.keeps {w w':World} {b cap:Nat} {og:Option Nat} {gs:List Nat} {ns:List (List Ky)} {n:Int} {I:Nat→Prop} (h:TL w b og gs cap ns n) (hk:Keeps I w w') (hn:∀x,Ft b og gs x→¬I x):TL w' b og gs cap ns n:=
 h.loc fun x hx=>hk.block x (h.lt x hx) (hn x hx)
theorem bii {w:World} {b cap:Nat} {og:Option Nat} {gs:List Nat} {ns:List (List Ky)} {n:Int} (h:TL w b og gs cap ns n) (k:Ky) (r s:Nat) (l:List Ky) (hN:Nod ns k r) (hl:ns[r-1]?=some l) (hP:Plc l k s) (hs:l[s]?=some k):Calls P0 64 #[.pointer (some ⟨b,0,none⟩),k.val] w fun e w'=>e=.returned (.bool false) ∧
  TL w' b og gs cap ns n∧∀I,Keeps I w w':=by
 obtain ⟨g,rfl⟩:=h.some_ hl;have hat:r-1<ns.length:=(zad.1 hl).1;generalize hr:r-1=i at *;obtain ⟨c0,c1,f0,f1,hlt⟩:=h.root;have hne:((ns.length:Int) == 0)=false:=by rw [beq_eq_false_iff_ne]; omega
 have hk0:∀x,Keeps (fun _=>False) w (w.alloc x):=fun x=>jq;have i0:(0:Int)≤(i:Int):=by omega
 have i1:(i:Int)<(ns.length:Int):=by omega
 simp only [Ky.val]
 go_enter func64,Go.Proofs.Tryz.ntmps64
 go_wp2_with fail
 have h1:=h.keeps (hk0 (.cells #[.int .u64 k.c,.int .i64 k.v,.int .i64 k.d] 120)) (fun _ _ q=>q);have b1:KB (w.alloc (.cells #[.int .u64 k.c,.int .i64 k.v,.int .i64 k.d] 120)) w.heap.size k:=aly rfl;refine (a8k h1 k r hN).mono ?_;rintro e w2 ⟨rfl,hK2⟩;rw [hr];have h2:=h1.keeps (hK2 fun _=>False) (fun _ _ q=>q);have b2:=b1.keeps (hK2 fun _=>False) (fun q=>q);obtain ⟨d0,d1,f2,f3,_⟩:=h2.root;obtain ⟨g',c,hg',hrow,d2,f4⟩:=h2.node hl;obtain ⟨k0,k1,k2⟩:=b2.cells
 go_wp2_with fail
 refine (a87 hrow k s hP).mono ?_;rintro e w3 ⟨rfl,hK3⟩;rw [decide_eq_true hs]
 go_wp2_with fail
 go_ret
 refine ⟨rfl,h2.keeps (hK3 fun _=>False) (fun _ _ q=>q),fun I=>(jq.trans (hK2 I)).trans (hK3 I)⟩

open Go Go.RowKit
theorem arp (a b:List Ky):flat (a++b)=flat a++flat b:=by simp [flat]
theorem a86 (k:Ky) (b:List Ky):flat (k::b)=kc k++flat b:=by simp [flat]
theorem bh7 {α:Type} (L:List α) (i:Nat) (a b c:α) (h:i+3≤L.length):((L.set i a).set (i+1) b).set (i+2) c=c9 L i [a,b,c]:=by
 apply zaw;intro j;rw [z8 (by simpa using h)];simp only [List.getElem?_set,List.length_set,zaf,zaa];by_cases h0:j=i
 ·subst h0; simp; omega
 by_cases h1:j=i+1
 ·subst h1; simp; omega
 by_cases h2:j=i+2
 ·subst h2; simp; omega
 rw [if_neg (by omega),if_neg (by omega),if_neg (by omega),if_neg (by omega)]
theorem ayu {cs:List Value} {l:List Ky} {k:Ky} {s:Nat} (hs:s≤l.length) (hp:(flat l++kc k) <+: cs) :
  flat (l.take s++k::l.drop s) <+: c9 (c9 cs ((s+1)*3) ((cs.drop (s*3)).take ((l.length-s)*3))) (s*3) (kc k):=by
 obtain ⟨t,rfl⟩:=hp;obtain ⟨A,hA⟩:∃A,A=flat (l.take s):=⟨_,rfl⟩
 obtain ⟨D,hD⟩:∃D,D=flat (l.drop s):=⟨_,rfl⟩
 have hl:flat l=A++D:=by rw [hA,hD,← arp,List.take_append_drop]
 have lA:A.length=s*3:=by rw [hA,adi,List.length_take,Nat.min_eq_left hs]
 have lD:D.length=(l.length-s)*3:=by rw [hD,adi,List.length_drop]
 have lk:(kc k).length=3:=rfl;rw [arp,a86,← hA,← hD,hl,← lA,← lD,show (s+1)*3=A.length+3 by omega];refine ⟨t,?_⟩;obtain ⟨E,hE⟩:∃E,E=(D++kc k++t).take 3:=⟨_,rfl⟩
 have lE:E.length=3:=by rw [hE]; simp; omega
 have e1:(A++D++kc k++t).take (A.length+3)=A++E:=by
  rw [hE,zam A D,zam A,List.take_length_add_append]
 have e2:((A++D++kc k++t).drop A.length).take D.length=D:=by
  rw [zam A D,zam A,List.drop_left,zam D,List.take_left]
 have e3:(A++D++kc k++t).drop (A.length+3+D.length)=t:=by
  have:A.length+3+D.length=(A++D++kc k).length:=by simp [lk]; omega
  rw [this,List.drop_left]
 have e4:c9 (A++D++kc k++t) (A.length+3) D=A++(E++(D++t)):=by
  unfold c9;rw [e1,e3];simp
 rw [e2,e4];unfold c9
 have e5:(A++(E++(D++t))).drop (A.length+3)=D++t:=by
  have:A.length+3=(A++E).length:=by simp [lE]
  rw [this,← zam,List.drop_left]
 rw [List.take_left,lk,e5];simp
theorem bij {cs2:Array Value} {X:List Value} (h:∀j,j<X.length→cs2[j]?=X[j]?) (hl:X.length≤cs2.size):X <+: cs2.toList:=by
 rw [List.prefix_iff_eq_take];apply zaw;intro j;rw [zal];by_cases hj:j<X.length
 ·rw [if_pos hj,← h j hj];simp
 ·rw [if_neg hj];simp;omega
theorem zg {w w':World} {x:Nat} (h:w'.heap[x]?=w.heap[x]?) (o:Nat):w'.cell? ⟨x,o,none⟩=w.cell? ⟨x,o,none⟩:=by simp only [World.cell?,h]
theorem ajv {w w':World} {x:Nat} (h:w'.heap[x]?=w.heap[x]?) (o:Nat):w'.frozen? ⟨x,o,none⟩=w.frozen? ⟨x,o,none⟩:=by simp only [World.frozen?,h]
theorem axh {w:World} {g o:Nat} {cs:Array Value} {e:TypeId} {fr:Nat×Nat} (h:w.heap[g]?=some (.cells cs e fr)) (ho:o<cs.size):∃v,w.cell? ⟨g,o,none⟩=some v:=⟨cs[o],by simp [World.cell?,h,ho]⟩
theorem ao9 {w:World} {g o:Nat} {cs:Array Value} {e:TypeId} (h:w.heap[g]?=some (.cells cs e (0,0))):w.frozen? ⟨g,o,none⟩=false:=by simp [World.frozen?,h]
theorem bc7 {w:World} {x:Obj}:(w.alloc x).heap.size=w.heap.size+1:=by simp
theorem qj {w:World} {g o:Nat} {cs:Array Value} {e:TypeId} {fr:Nat×Nat} {v:Value} (h:w.heap[g]?=some (.cells cs e fr)):(w.setCell ⟨g,o,none⟩ v).heap[g]?=some (.cells (cs.setIfInBounds o v) e fr):=by
 rw [setCell_eq_setRow w g o cs e fr v h];exact setRow_heap w g _ _ _ _ h
theorem mc {w:World} {g o x:Nat} {cs:Array Value} {e:TypeId} {fr:Nat×Nat} {v:Value} (h:w.heap[g]?=some (.cells cs e fr)) (hx:x≠g):(w.setCell ⟨g,o,none⟩ v).heap[x]?=w.heap[x]?:=by
 rw [setCell_eq_setRow w g o cs e fr v h];exact setRow_other w g x _ hx
theorem md {w:World} {g o:Nat} {cs:Array Value} {e:TypeId} {fr:Nat×Nat} {v:Value} {I:Nat→Prop} (h:w.heap[g]?=some (.cells cs e fr)) (hI:I g):Keeps I w (w.setCell ⟨g,o,none⟩ v):=by
 rw [setCell_eq_setRow w g o cs e fr v h];have hk:=ai7 (cs:=cs.setIfInBounds o v) h;exact ⟨hk.os,hk.tape,hk.output,hk.size,fun b hb hn=>hk.block b hb fun q=>hn (q▸hI)⟩
theorem ayp {w w':World} {I:Nat→Prop} (h:Keeps (fun x=>I x∨w.heap.size≤x) w w'):Keeps I w w':=⟨h.os,h.tape,h.output,h.size,fun b hb hn=>h.block b hb fun q=>by rcases q with q | q; exact hn q; omega⟩
theorem ba7 {cs:Array Value} {A:List Value} (hf:∀(j:Nat) (u:Value),A[j]?=some u→cs[j]?=some u):cs.toList.take A.length=A:=by
 apply zaw;intro j;rw [zal];by_cases hj:j<A.length
 ·have hq:A[j]?=some A[j]:=by simp [hj]
  rw [if_pos hj,hq,← hf j _ hq];simp
 ·rw [if_neg hj,eq_comm,List.getElem?_eq_none_iff];omega
theorem bfq {cs cs2:Array Value} {A B:List Value} {N:Nat} (hN:A.length=N) (hf:∀(j:Nat) (u:Value),A[j]?=some u→cs[j]?=some u) (h:∀j,j<N+B.length→cs2[j]?=(cs.toList.take N++B)[j]?) (hl:N+B.length≤cs2.size):(A++B) <+: cs2.toList:=by
 subst hN;rw [ba7 hf] at h;exact bij (fun j hj=>h j (by simpa using hj)) (by simpa using hl)
theorem bes {L X:List Value} (hp:X <+: L) (h1:∀u∈X,u.oneCell'=true) {a m:Nat} (h:a+m≤X.length):∀u∈(L.drop a).take m,u.oneCell'=true:=fun u hu=>by
 obtain ⟨t,rfl⟩:=hp;obtain ⟨j,hj⟩:=zbb.1 hu;rw [zal] at hj;split at hj
 ·rw [List.getElem?_drop,zat (by omega)] at hj;exact h1 u (zap hj)
 ·cases hj
section
variable {w w':World} {b g cap:Nat} {gs:List Nat} {ns:List (List Ky)} {n n':Int}
theorem TL.put (h:TL w b (some g) gs cap ns n) {i:Nat} (hi:i<ns.length) {g2 c2:Nat} {l':List Ky} (hb:∃e,w'.heap[b]?=some (.cells #[.slice (some ⟨g,0,none⟩) ns.length cap,.int .i64 n'] e (0,0)))
  (hg:∃cs e,w.heap[g]?=some (.cells cs e (0,0))∧w'.heap[g]?=some (.cells (cs.setIfInBounds i (.slice (some ⟨g2,0,none⟩) l'.length c2)) e (0,0))) (hrow:adf w' g2 l' c2)
  (ho:∀(j x:Nat),j≠i→gs[j]?=some x→w'.heap[x]?=w.heap[x]?) (hg2:gs[i]?=some g2∨(g2≠b∧g2≠g∧g2∉gs)):TL w' b (some g) (gs.set i g2) cap (ns.set i l') n':=by
 obtain ⟨h0,cs,e,h1,h2,h4⟩:=h.out g rfl;obtain ⟨cs',e',q1,q2⟩:=hg;rw [h1] at q1;cases q1;refine ⟨?_,by simpa using h.le,h.mx,by simp,fun g0 hg0=>?_,by simp [h.len],?_⟩
 ·obtain ⟨e,he⟩:=hb;exact ⟨e,by rw [he]; simp [adr]⟩
 ·cases hg0;refine ⟨h0,_,_,q2,by simpa using h2,fun j x l hj hl=>?_⟩
  ·rw [List.getElem?_set] at hj hl;by_cases hij:i=j
   ·subst hij;simp [h.len,hi] at hj hl;subst hj; subst hl;refine ⟨c2,?_,hrow⟩;have:i<cs.size:=by have:=h.le; omega
    simp [this]
   ·rw [if_neg hij] at hj hl;obtain ⟨c,h5,h6⟩:=h4 j x l hj hl;refine ⟨c,?_,h6.loc (ho j x (Ne.symm hij) hj)⟩;rw [Array.getElem?_setIfInBounds,if_neg hij];exact h5
 ·have hnd:=h.nb;simp only [Option.toList_some,List.cons_append,List.nil_append] at hnd ⊢;rcases hg2 with hg2 | ⟨p1,p2,p3⟩
  ·have:gs.set i g2=gs:=by
    apply zaw;intro j;rw [List.getElem?_set];split
    ·rename_i hij; subst hij; rw [hg2]; simp; exact (zad.1 hg2).1
    ·rfl
   rw [this];exact hnd
  ·simp only [List.nodup_cons,List.mem_cons,not_or] at hnd ⊢;obtain ⟨⟨a1,a2⟩,a3,a4⟩:=hnd;refine ⟨⟨a1,fun hm=>?_⟩,fun hm=>?_,?_⟩
   ·rcases List.mem_or_eq_of_mem_set hm with hm | hm
    ·exact a2 hm
    ·exact p1 hm.symm
   ·rcases List.mem_or_eq_of_mem_set hm with hm | hm
    ·exact a3 hm
    ·exact p2 hm.symm
   ·rw [List.Nodup,List.pairwise_iff_getElem] at a4 ⊢;intro x y hx hy hxy;rw [List.length_set] at hx hy;simp only [List.getElem_set];have nm:∀z (hz:z<gs.length),gs[z]≠g2:=fun z hz q=>p3 (q▸List.getElem_mem hz);split
    ·rw [if_neg (by omega)];exact fun q=>nm y hy q.symm
    ·split
     ·exact nm x hx
     ·exact a4 x y hx hy hxy
end

end
end Go.Ev

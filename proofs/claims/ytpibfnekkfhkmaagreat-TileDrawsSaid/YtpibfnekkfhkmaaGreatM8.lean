import Derived.Test.YtpibfnekkfhkmaaGreatChecked
import Derived.WalkKit
import Derived.Test.YtpibfnekkfhkmaaGreatM7
open Nat renaming reduceBEq → zB, reduceEqDiff → zE, reduceAdd → zA, reduceSub → zS, reduceLT → zL, reduceLeDiff → zD, reduceMul → zM
open Go.Proofs.Tryz renaming prog → P0
open Go.Proofs.Tryz
open Nat renaming zero_add → zaa, le_refl → zam, min_eq_left → zaz
open List renaming length_nil → zab, length_map → zac, getElem?_eq_some_iff → zaf, length_cons → zah, mem_cons → zai, mem_cons_of_mem → zaj, map_nil → zak, append_assoc → zal, pairwise_cons → zan, getElem?_take → zao, mem_map → zap, length_append → zaq, getElem?_append_left → zar, map_append → zas, mem_of_getElem? → zav, replicate → zaw, take_add_one → zax, length_take → zay, cons_append → zba, ext_getElem? → zbf, take_of_length_le → zbg, getElem?_toArray → zbi, getElem?_append_right → zbj, mem_iff_getElem? → zbl, take_append_drop → zbm
open Int renaming toNat_natCast → zad, toNat_natCast_add_one → zae, toNat_zero → zat, reduceToNat → zau, le_ediv_iff_mul_le → zbb, ediv_lt_iff_lt_mul → zbc
open Array renaming getElem?_eq_some_iff → zbd
open Option renaming getD_some → zbe, isSome_none → zbh, map_eq_some_iff → zbk
namespace Go.Ev
set_option maxHeartbeats 8000000
set_option maxRecDepth 100000
noncomputable section
open Go
set_option linter.unusedSectionVars false
set_option linter.unnecessarySimpa false
set_option linter.unusedVariables false
def ov:Mk P0 f131:={ x:=_ }
def mj (u:P2):List P2->List P2
 | []=>[]
 | q::r=>if q=u then mj u r else q::mj q r
def cd:List P2->List P2
 | []=>[]
 | p::r=>p::mj p r
theorem arn:∀(u:P2) (l:List P2),(mj u l).length<=l.length
 | u,[]=>zam _
 | u,q::r=>by
   rw [mj];split
   ·have:=arn u r; simp; omega
   have:=arn q r; simp; omega
theorem aoe (l:List P2):(cd l).length<=l.length:=by
 cases l with
 | nil=>exact zam _
 | cons p r=>have:=arn p r; simp [cd]; exact this
theorem aph (p q:P2):(p.1 == q.1&&p.2 == q.2)=decide (p=q):=by
 rw [Bool.eq_iff_iff];simp [Prod.ext_iff]
theorem bfe (o W:List P2) (k n:Nat) (b:k=o.length) (a:n=W.length):spl ((o++W).map ptR) k (zaw n (.agg [.v (.int .i64 0),.v (.int .i64 0)]))=(o++zaw n (0,0)).map ptR:=by
 subst b; subst a;unfold spl d9;rw [zas,List.take_left' (by simp),List.drop_of_length_le (by simp),List.append_nil,zas,List.map_replicate]
 rfl
theorem blf (l:List P2) (U:1<=l.length/\l.length<=1000):a8 P0 131 [.own 1000000 0 0 l.length] [t9 l] (.own 1000000 0 0 (cd l).length) [t9 (cd l++zaw (l.length-(cd l).length) (0,0))]:=by
 refine ov.t func131 ?_;simp only [ov,t9,push_cast,↓reduceIte,reduceCtorEq,zA];refine b7 (λ B=>?_) (λ B=>?_)
 ·have B:=of_decide_eq_true B
  obtain ⟨p,rfl⟩:∃p,l=[p]:=by
   rcases l with _ | ⟨p,_ | ⟨q,r⟩⟩
   ·simp at U
   ·exact ⟨p,rfl⟩
   simp at B; omega
  simp only [push_cast,↓reduceIte,reduceCtorEq,zA,zS,zL,zD];exact ⟨rfl,rfl⟩
 have B:=of_decide_eq_false B;simp only [push_cast]
 refine b9 [(0,false),(3,false)] (λ vs pos f=>∃(A:List P2) (x:P2) (T:List P2),l=A++x::T/\cd l=A++x::mj x T/\vs=[.own 1000000 0 0 l.length,int .i64 ((A.length:Int)+1)]/\pos=[t9 (A++x::T)]/\f=[])
  (λ vs _ _=>match vs with | [_,.r (.v (.int _ a))]=>(l.length-a).toNat | _=>0) rfl ?_ ?_
 ·simp only [t9,push_cast,↓reduceIte,reduceCtorEq,zA,zS,zL,zD]
  obtain ⟨p,r,rfl⟩:∃p r,l=p::r:=by
   cases l with
   | nil=>simp at U
   | cons p r=>exact ⟨p,r,rfl⟩
  exact ⟨[],p,r,rfl,rfl,rfl,rfl⟩
 rintro vs pos f ⟨A,x,T,m,j,rfl,rfl,rfl⟩;have h:l.length=A.length+1+T.length:=by rw [m]; simp; omega
 simp only [t9,push_cast,↓reduceIte,reduceCtorEq,zE];cases T with
 | nil=>
   have Q:decide (((A.length:Nat):Int)+1<((l.length:Nat):Int))=false:=decide_eq_false (by simp at h; omega);simp only [Q,push_cast,↓reduceIte,reduceCtorEq,zA,zS,zL,zD];rw [j];have h1:(A++x::mj x []).length=l.length:=by rw [m]; rfl
   rw [h1,Nat.sub_self];simp [mj]
 | cons y T=>
   simp only [zah] at h;have Q:decide (((A.length:Nat):Int)+1<((l.length:Nat):Int))=true:=decide_eq_true (by omega);have Y:IntKind.i64.wrap (((A.length:Nat):Int)+1-1)=(A.length:Int):=by rw [a5 (by omega)]; omega
   have K:IntKind.i64.wrap (((A.length:Nat):Int)+1+1)=(A.length:Int)+2:=by
    have:A.length<1000:=by omega
    rw [a5 (by omega)]; omega
   have gx:∀z,((A++x::y::T).map ptR).getD A.length z=.agg [.v (.int .i64 x.1),.v (.int .i64 x.2)]:=λ z=>acb A _ x z;have gy:∀z,((A++x::y::T).map ptR).getD (A.length+1) z=.agg [.v (.int .i64 y.1),.v (.int .i64 y.2)]:=λ z=>aw4 A _ x y z;have H:=aph y x;simp only [Q,Y,gx,gy,zad,zae,zaa,push_cast,↓reduceIte,reduceCtorEq,zE,zD];refine And.intro ⟨by omega,by omega⟩ ?_;refine And.intro ⟨by omega,by omega⟩ ?_;refine And.intro (by kernel_rfl) ?_;refine b7 (λ d=>?_) (λ d=>?_)
   ·have d:y=x:=of_decide_eq_true (H.symm.trans d);subst d;obtain ⟨e,J⟩:∃e,A.length+1=e:=⟨_,rfl⟩
    have P:((A.length:Nat):Int)+1=(e:Int):=by omega
    have h5:((A.length:Nat):Int)+2=(e:Int)+1:=by omega
    simp only [J,P,zad,zaa,push_cast,↓reduceIte,reduceCtorEq,zE];obtain ⟨s,R⟩:∃s:Nat,((l.length:Int)-(e:Int)).toNat=s:=⟨_,rfl⟩
    have h0:s=T.length+1:=by omega
    refine And.intro ⟨by omega,by omega,by omega⟩ ?_;simp only [R]
    refine b9 [(0,false),(3,false),(4,false),(5,false)] (λ vs pos f=>∃(C W G:List P2) (u:P2) (k c:Nat),k=C.length+1/\e+c=C.length+1+W.length+1/\1<=c/\C.length+1+W.length+1+G.length=l.length/\cd l=C++u::mj u G/\vs=[.own 1000000 0 0 l.length,int .i64 k,.own 1000000 0 e s,int .i64 c]/\pos=[t9 ((C++[u])++(W++u::G))]/\f=[])
     (λ vs _ _=>match vs with | [_,_,_,.r (.v (.int _ a))]=>(l.length-a).toNat | _=>0) rfl ?_ ?_
    ·simp only [t9,push_cast,↓reduceIte,reduceCtorEq,zE,zA,zS,zL,zD];refine ⟨A,[],T,y,e,1,by omega,by simp; omega,by omega,by simp; omega,?_,rfl,?_⟩
     ·rw [j,mj,if_pos rfl]
     simp
    rintro vs pos f ⟨C,W,G,u,k,c,hk,h4,V,S,n,rfl,rfl,rfl⟩;simp only [t9,push_cast,↓reduceIte,reduceCtorEq,zE];cases G with
    | nil=>
      simp only [zab] at S;have O:decide (((c:Nat):Int)<((s:Nat):Int))=false:=decide_eq_false (by omega);simp only [O,zad,zaa,push_cast,↓reduceIte,reduceCtorEq,zE,zA,zS,zL,zD];have i:cd l=C++[u]:=n;have D:(cd l).length=C.length+1:=by rw [i]; simp
      refine ⟨⟨by omega,by omega,by omega⟩,⟨by omega,by omega,by omega,by omega⟩,?_,?_⟩
      ·rw [D,show (Int.toNat 0)=0 from rfl,show ((k:Int)-0).toNat=C.length+1 by omega]
      rw [bfe (C++[u]) (W++[u]) k _ (by simp; omega) (by simp; omega),D,i,show ((l.length:Int)-(k:Int)).toNat=l.length-(C.length+1) by omega]
    | cons v T3=>
      simp only [zah] at S;have O:decide (((c:Nat):Int)<((s:Nat):Int))=true:=decide_eq_true (by omega);have N:IntKind.i64.wrap (((c:Nat):Int)-1)=((c-1:Nat):Int):=by rw [a5 (by omega)]; omega
      have o:IntKind.i64.wrap (((c:Nat):Int)+1)=((c+1:Nat):Int):=by rw [a5 (by omega)]; omega
      have E:IntKind.i64.wrap (((k:Nat):Int)+1)=((k+1:Nat):Int):=by rw [a5 (by omega)]; omega
      have Z:∀z,(((C++[u])++(W++u::v::T3)).map ptR).getD (e+(c-1)) z=.agg [.v (.int .i64 u.1),.v (.int .i64 u.2)]:=λ z=>by
       rw [<- zal,show e+(c-1)=((C++[u])++W).length by simp; omega];exact acb _ _ u z
      have X:∀z,(((C++[u])++(W++u::v::T3)).map ptR).getD (e+c) z=.agg [.v (.int .i64 v.1),.v (.int .i64 v.2)]:=λ z=>by
       rw [<- zal,show e+c=((C++[u])++W).length+1 by simp; omega];exact aw4 _ _ u v z
      simp only [O,N,Z,X,zad,zaa,push_cast,↓reduceIte,reduceCtorEq,zE,zD];refine And.intro ⟨by omega,by omega⟩ ?_;refine And.intro ⟨by omega,by omega⟩ ?_;refine And.intro (by kernel_rfl) ?_;have g:=aph v u;refine b7 (λ b=>?_) (λ b=>?_)
      ·have b:v≠u:=by
        have L:(v.1 == u.1&&v.2 == u.2)=false:=by
         generalize (v.1 == u.1&&v.2 == u.2)=q at b;cases q
         ·rfl
         cases b
        exact of_decide_eq_false (g.symm.trans L)
       obtain ⟨I,h6,F⟩:∃I:List P2,I.length=W.length/\(((C++[u])++(W++u::v::T3)).map ptR).set k (.agg [.v (.int .i64 v.1),.v (.int .i64 v.2)])=(((C++[u])++[v])++(I++v::T3)).map ptR:=by
        subst hk;rw [show (RV.agg [.v (.int .i64 v.1),.v (.int .i64 v.2)])=ptR v from rfl,<- List.map_set];cases W with
        | nil=>exact ⟨[],rfl,by congr 1; simp⟩
        | cons w W2=>exact ⟨W2++[u],by simp,by congr 1; simp⟩
       obtain ⟨q,hq⟩:∃q:P2,∀z,(((C++[u])++(W++u::v::T3)).map ptR).getD k z=.agg [.v (.int .i64 q.1),.v (.int .i64 q.2)]:=by
        rw [show k=(C++[u]).length by simp; omega];cases W with
        | nil=>exact ⟨u,acb _ _ u⟩
        | cons w W2=>exact ⟨w,acb _ _ w⟩
       simp only [o,E,X,hq,F,zad,zaa,push_cast,↓reduceIte,reduceCtorEq,zE,zA,zS,zL,zD]
       repeat refine And.intro (by first | exact ⟨by omega,by omega⟩ | kernel_rfl) ?_
       refine ⟨⟨C++[u],I,T3,v,k+1,c+1,by simp; omega,by simp; omega,by omega,by simp; omega,?_,by simp,rfl⟩,by omega⟩;rw [n,mj,if_neg b];simp
      have b:v=u:=by
       have L:(v.1 == u.1&&v.2 == u.2)=true:=by
        generalize (v.1 == u.1&&v.2 == u.2)=q at b;cases q
        ·cases b
        rfl
       exact of_decide_eq_true (g.symm.trans L)
      subst b;simp only [o,zaa,push_cast,↓reduceIte,reduceCtorEq,zE,zA,zS,zL,zD];refine ⟨⟨C,W++[v],T3,v,k,c+1,by omega,by simp; omega,by omega,by simp; omega,?_,by simp,by simp⟩,by omega⟩;rw [n,mj,if_pos rfl]
   have d:y≠x:=of_decide_eq_false (H.symm.trans d);have M:IntKind.i64.wrap (((A.length:Nat):Int)+1+1)=(A.length:Int)+1+1:=by rw [K]; omega
   simp only [M,zaa,push_cast,↓reduceIte,reduceCtorEq,zE,zA,zS,zL,zD];refine ⟨⟨A++[x],y,T,by rw [m]; simp,?_,by simp,by simp⟩,by omega⟩;rw [j,mj,if_neg d];simp

theorem ayh (p a:P2):dt p [a]=[a]:=rfl
theorem a20 (l:List P2) (Z:1<=l.length/\l.length<=1000) (H:∀p∈l,aa p):a8 P0 132 [a9 l] [] (.own 1000000 0 0 ((p9 l).length-1)) [i7 (p9 l).reverse]:=by
 refine amg.t func132 ?_;have W:=g7;have L:∀i,(p9 (l.take i)).length<=i:=λ i=>by have:=ah4 (l.take i); simp at this; omega
 simp only [amg,a9,push_cast,↓reduceIte,reduceCtorEq]
 refine b9 [(8,false),(6,false),(7,false),(3,false)] (λ vs pos c=>∃i:Nat,i<=l.length/\pos=[] /\
  (i=0/\vs=[int .i64 i,a9 l,int .i64 l.length,.nils 2 (pnt 0 0)]/\c=[] \/
   i≠0/\vs=[int .i64 i,a9 l,int .i64 l.length,.own 2000000 0 0 (p9 (l.take i)).length]/\c=[i7 (p9 (l.take i)).reverse]))
  (λ vs _ _=>match vs with | .r (.v (.int _ a))::_=>(l.length-a).toNat | _=>0) rfl ?_ ?_
 ·simp only [a9,pnt,push_cast,↓reduceIte,reduceCtorEq,zE,zA];exact ⟨0,by omega,.inl ⟨rfl,by simp⟩⟩
 rintro vs pos c ⟨i,hi,rfl,⟨U,rfl,rfl⟩ | ⟨U,rfl,rfl⟩⟩
 ·simp only [a9,pnt,push_cast,↓reduceIte,zE];refine b7 (λ m=>?_) (λ m=>?_)
  ·have d:i<l.length:=by simpa using m
   obtain ⟨p,k⟩:∃p,l[i]?=some p:=⟨l[i],by simp [d]⟩
   have h:IntKind.i64.wrap ((i:Int)+1)=(i:Int)+1:=a5 (by omega);have u:decide ((0:Int)>1)=false:=rfl
   have hN:p9 (l.take (i+1))=[p]:=by
    subst U;rw [zax,k];simp [p9,dt]
   simp only [zac,gi k,zaa,push_cast,↓reduceIte,zE,zA,zD]
   repeat refine sI ?_
   refine b9 [(8,false),(6,false),(7,false),(3,false),(5,false)] (λ vs pos c=>vs=[int .i64 i,a9 l,int .i64 l.length,.nils 2 (pnt 0 0),.ptr 2000000 0 0]/\pos=[]/\c=[.box [int .i64 p.1,int .i64 p.2]])
    (λ _ _ _=>0) rfl ?_ ?_
   ·simp only [a9,pnt,push_cast,↓reduceIte,zE,zA,zL,zD]
   rintro vs pos c ⟨rfl,rfl,rfl⟩;simp only [a9,pnt,u,h,push_cast,↓reduceIte,reduceCtorEq,zE,zA,zL,zD,zM];refine And.intro (by kernel_rfl) (And.intro (by simp) (And.intro (by omega) ⟨⟨i+1,by omega,.inr ⟨by omega,?_,?_⟩⟩,by omega⟩))
   ·rw [hN]; simp
   rw [hN]; simp [ptR,pnt]
  have d:¬i<l.length:=by simpa using m
  exact absurd d (by omega)
 have B:=L i;obtain ⟨S,w⟩:∃S,p9 (l.take i)=S:=⟨_,rfl⟩
 have E:S≠[]:=by
  rw [<- w];obtain ⟨j,rfl⟩:∃j,i=j+1:=⟨i-1,by omega⟩
  rw [List.take_succ_eq_append_getElem (by omega),ff];simp
 have O:∀q∈S,aa q:=λ q N=>H q (List.mem_of_mem_take (ak7 _ (w▸N)));rw [w];rw [w] at B;simp only [a9,pnt,push_cast,↓reduceIte,zE];refine b7 (λ m=>?_) (λ m=>?_)
 ·have d:i<l.length:=by simpa using m
  obtain ⟨p,k⟩:∃p,l[i]?=some p:=⟨l[i],by simp [d]⟩
  have J:aa p:=H p (zav k);have h:IntKind.i64.wrap ((i:Int)+1)=(i:Int)+1:=a5 (by omega)
  have hN:p9 (l.take (i+1))=p::dt p S:=by
   rw [zax,k,<- w];exact ff _ p
  simp only [zac,gi k,zaa,push_cast,↓reduceIte,zE,zA,zD]
  repeat refine sI ?_
  refine b9 [(8,false),(6,false),(7,false),(3,false),(5,false)] (λ vs pos c=>∃(s G:List P2),s≠[]/\S.reverse=s.reverse++G/\dt p S=dt p s/\vs=[int .i64 i,a9 l,int .i64 l.length,.own 2000000 0 0 s.length,.ptr 2000001 0 0]/\pos=[]/\c=[i7 (s.reverse++G),.box [int .i64 p.1,int .i64 p.2]])
   (λ vs _ _=>match vs with | [_,_,_,.own _ _ _ n,_]=>n | _=>0) rfl ?_ ?_
  ·simp only [a9,pnt,push_cast,↓reduceIte,zB,zE,zA,zL,zD];exact ⟨S,[],E,by simp,rfl,rfl,by simp [pnt]⟩
  rintro vs pos c ⟨s,G,X,o,e,rfl,rfl,rfl⟩
  have P:s.length<=S.length:=by
   have:=congrArg List.length o;simp at this;omega
  have C:∀q∈s,aa q:=λ q N=>O q (by
   have:q∈S.reverse:=by rw [o]; simp [N]
   simpa using this)
  have f:∀n,n=s.length->List.take n ((s.reverse++G).map ptR)=s.reverse.map ptR:=λ n H=>by
   rw [zas,List.take_left' (by simp [H])]
  rcases s with _ | ⟨b,_ | ⟨a,r⟩⟩
  ·exact absurd rfl X
  ·have u:decide ((1:Int)>1)=false:=rfl;simp only [a9,pnt,u,h,push_cast,↓reduceIte,reduceCtorEq,zE,zA,zL,zD,zM];refine And.intro (by kernel_rfl) (And.intro (by simp) (And.intro (by omega) ⟨⟨i+1,by omega,.inr ⟨by omega,?_,?_⟩⟩,by omega⟩))
   ·rw [hN,e,ayh]; simp
   rw [hN,e,ayh,f 1 rfl]; simp [ptR,pnt]
  have u:decide (((r.length:Nat):Int)+1+1>1)=true:=decide_eq_true (by omega);simp only [zah] at P;have D:IntKind.i64.wrap (((r.length:Nat):Int)+1+1-2)=(r.length:Int):=by rw [a5 (by omega)]; omega
  have g:IntKind.i64.wrap (((r.length:Nat):Int)+1+1-1)=(r.length:Int)+1:=by rw [a5 (by omega)]; omega
  obtain ⟨A,F⟩:∃A,r.reverse=A:=⟨_,rfl⟩
  have K:A.length=r.length:=by rw [<- F]; simp
  have T:(b::a::r).reverse++G=A++a::b::G:=by rw [<- F]; simp
  have M:=acb A (b::G) a;have Q:=aw4 A G a b;rw [K] at M Q;have z:ptR a=.agg [.v (.int .i64 a.1),.v (.int .i64 a.2)]:=rfl;have y:ptR b=.agg [.v (.int .i64 b.1),.v (.int .i64 b.2)]:=rfl;have R:=biy a b p (C a (by simp)) (C b (by simp)) J;rw [T] at f |-;simp only [a9,pnt,u,D,g,M,Q,z,y,zad,zae,zaa,push_cast,↓reduceIte,zE,zA,zD];refine And.intro ⟨by omega,by omega⟩ ?_;refine And.intro ⟨by omega,by omega⟩ ?_;refine i5 (as':=[pv2 a,pv2 b,pv2 p]) rfl ?_;refine d5 R rfl trivial ?_;simp only [push_cast,↓reduceIte,zE];refine And.intro (by kernel_rfl) ?_;refine b7 (λ hc=>?_) (λ hc=>?_)
  ·have hc:=of_decide_eq_true hc;simp only [pnt,g,zaa,push_cast,↓reduceIte,zB,zE,zA,zL,zD];refine ⟨⟨by omega,by omega,by omega,by omega⟩,⟨a::r,b::G,by simp,by rw [o,T,<- F]; simp,?_,?_,?_⟩,by omega⟩
   ·rw [e,dt,if_pos hc]
   ·rw [show ((r.length:Int)+1-0).toNat=r.length+1 by omega]; simp
   rw [<- F]; simp [i7,pnt]
  have hc:=of_decide_eq_false hc;simp only [pnt,h,zaa,push_cast,↓reduceIte,reduceCtorEq,zE,zA,zL,zD];have x:p9 (l.take (i+1))=p::b::a::r:=by rw [hN,e,dt,if_neg hc]
  refine ⟨by simp,⟨by omega,by omega⟩,⟨i+1,by omega,.inr ⟨by omega,?_,?_⟩⟩,by omega⟩
  ·rw [x]; simp
  rw [x,f (r.length+1+1) rfl]; simp [i7,pnt,ptR]
 have d:i=l.length:=by
  have:¬i<l.length:=by simpa using m
  omega
 have I:p9 l=S:=by rw [<- w,d,List.take_length]
 have Y:1<=S.length:=by
  cases S with
  | nil=>exact absurd rfl E
  | cons b r=>simp
 have V:IntKind.i64.wrap ((S.length:Int)-1)=(S.length:Int)-1:=a5 (by omega);rw [I];simp only [pnt,V,zaa,push_cast,↓reduceIte,zE,zA,zL,zD];exact ⟨⟨by omega,by omega,by omega,by omega⟩,by rw [show (Int.toNat 0)=0 from rfl,show ((S.length:Int)-1-0).toNat=S.length-1 by omega],rfl⟩

def ahh:Mk P0 f77:={ x:=_ }
def ko (rg:List P2):List P2:=if (cd (ah rg)).length<3 then [] else if (aq (cd (ah rg))++aq (cd (ah rg)).reverse).length<3 then [] else aq (cd (ah rg))++aq (cd (ah rg)).reverse
theorem arc {x q:P2}:∀{s:List P2},q∈qm x s->q=x\/q∈s
 | [],h=>by simp [qm] at h; exact .inl h
 | e::r,h=>by
   rw [qm] at h;split at h
   ·rcases zai.1 h with rfl | h
    ·simp
    rcases arc h with rfl | h
    ·simp
    simp [h]
   simpa using h
theorem bai (l:List P2):∀{q:P2},q∈aga l->q∈l:=by
 refine ke (P:=λ l=>∀{q:P2},q∈aga l->q∈l) (λ h=>h) (λ l p a=>?_) l;intro q h;rw [afa] at h;rcases arc h with rfl | h
 ·simp
 exact List.mem_append_left _ (a h)
variable {q:P2}
theorem aiy {l:List P2} (h:q∈ah l):q∈l:=bai l (by simpa [ah] using h)
theorem arm {q:P2}:∀{u:P2} {l:List P2},q∈mj u l->q∈l
 | u,[],h=>h
 | u,v::r,h=>by
   rw [mj] at h;split at h
   ·exact zaj _ (arm h)
   rcases zai.1 h with rfl | h
   ·simp
   exact zaj _ (arm h)
theorem aod {l:List P2} (h:q∈cd l):q∈l:=by
 cases l with
 | nil=>exact h
 | cons v r=>
   rcases zai.1 h with rfl | h
   ·simp
   exact zaj _ (arm h)
theorem awi (l:List P2):∀o∈[i7 l],jt o:=λ o a=>by
 rw [List.mem_singleton.1 a];intro x hx;obtain ⟨p,_,rfl⟩:=zap.1 hx;exact ⟨trivial,trivial,trivial⟩
theorem ahn (l:List P2):(p9 l).length-1=(aq l).length:=by simp [aq]
theorem aqf (l:List P2):List.take (aq l).length ((p9 l).reverse.map ptR)=(aq l).map ptR:=by
 rw [<- List.map_take];congr 1;rw [aq,List.dropLast_eq_take,zay,zaz (by simp)]
variable {res:AV} {ro:List Ob}
theorem a8d (rg:List P2) (n:1<=rg.length/\rg.length<=12) (z:∀p∈rg,aa p)
 (b:(ko rg=[]/\res=.nils 2 (pnt 0 0)/\ro=[])\/(ko rg≠[]/\res=.own 1000000 0 0 (ko rg).length/\ro=[i7 (ko rg)])) :
 a8 P0 77 [a9 rg] [] res ro:=by
 refine ahh.t func77 ?_;have C:=g7;have y:=bd9 rg (by omega) z
 push_cast [ahh,a9,zab]
 refine b5 (as':=[a9 rg]) rfl ?_;refine a6 y rfl trivial ?_
 push_cast [zac]
 refine b9 [(12,false),(10,false),(11,false),(3,false)] (λ vs pos k=>∃i:Nat,i<=rg.length/\pos=[] /\
  (i=0/\vs=[int .i64 i,a9 rg,int .i64 rg.length,.nils 2 (pnt 0 0)]/\k=[] \/
   i≠0/\vs=[int .i64 i,a9 rg,int .i64 rg.length,.own 2000000 0 0 i]/\k=[i7 (rg.take i)]))
  (λ vs _ _=>match vs with | .r (.v (.int _ a))::_=>(rg.length-a).toNat | _=>0) rfl ?_ ?_
 ·push_cast [a9,pnt]
  exact ⟨0,by omega,.inl ⟨rfl,by simp⟩⟩
 rintro vs pos k ⟨i,hi,rfl,⟨u,rfl,rfl⟩ | ⟨u,rfl,rfl⟩⟩
 ·push_cast [a9,pnt,zac]
  refine b7 (λ d=>?_) (λ d=>?_)
  ·have e:i<rg.length:=by simpa using d
   obtain ⟨p,f⟩:∃p,rg[i]?=some p:=⟨rg[i],by simp [e]⟩
   have x:IntKind.i64.wrap ((i:Int)+1)=(i:Int)+1:=a5 (by omega)
   have hN:rg.take (i+1)=[p]:=by
    rw [zax,f,u]; rfl
   push_cast [a9,zac,gi f,fi f,x,zat,zau,zaa]
   repeat refine sI ?_
   exact ⟨⟨i+1,by omega,.inr ⟨by omega,by simp [u],by rw [hN]; simp [ptR,pnt]⟩⟩,by omega⟩
  have e:¬i<rg.length:=by simpa using d
  exact absurd e (by omega)
 push_cast [a9,pnt,zac]
 refine b7 (λ d=>?_) (λ d=>?_)
 ·have e:i<rg.length:=by simpa using d
  obtain ⟨p,f⟩:∃p,rg[i]?=some p:=⟨rg[i],by simp [e]⟩
  have x:IntKind.i64.wrap ((i:Int)+1)=(i:Int)+1:=a5 (by omega)
  have hN:rg.take (i+1)=rg.take i++[p]:=by
   rw [zax,f]; rfl
  have j:List.take i ((rg.take i).map ptR)=(rg.take i).map ptR:=zbg (by simp; omega)
  push_cast [a9,zac,gi f,fi f,j,x,zat,zau,zaa]
  repeat refine sI ?_
  exact ⟨⟨i+1,by omega,.inr ⟨by omega,by simp,by rw [hN]; simp [ptR,pnt]⟩⟩,by omega⟩
 have e:i=rg.length:=by
  have:¬i<rg.length:=by simpa using d
  omega
 subst e;rw [List.take_length]
 push_cast [a9,pnt,zac]
 have o:rg.map ptR≠[]:=by
  intro h;have:=congrArg List.length h;simp at this;rw [this] at n;simp at n
 refine a44 2000000 0 2 _ (rg.map ptR) rfl o ?_
 push_cast [pnt]
 refine b5 (as':=[.own 1000000 0 0 rg.length,agF]) rfl ?_;refine a6 (po:=[t9 rg]) (bi6 rg n) rfl ⟨⟨rfl,by simp [aax]⟩,trivial⟩ ?_
 push_cast [t9,pnt,zah,zab]
 refine ajh ?_
 push_cast [pnt]
 obtain ⟨s,w⟩:∃s,ah rg=s:=⟨_,rfl⟩
 have q:s.length=rg.length:=by rw [<- w,aax]
 have m:∀p∈s,aa p:=λ p f=>z p (aiy (w▸f));unfold ko at b;rw [w] at b |-;refine b5 (as':=[.own 1000000 0 0 s.length]) (by rw [q]) ?_;refine a6 (po:=[t9 s]) (blf s (by omega)) rfl ⟨⟨rfl,by have:=aoe s; simp; omega⟩,trivial⟩ ?_;obtain ⟨c,hc⟩:∃c,cd s=c:=⟨_,rfl⟩
 have B:c.length<=s.length:=by rw [<- hc]; exact aoe s
 have l:∀p∈c,aa p:=λ p f=>m p (aod (hc▸f));rw [hc] at b |-;obtain ⟨G,H⟩:∃G,zaw (s.length-c.length) ((0,0):P2)=G:=⟨_,rfl⟩
 rw [H]
 push_cast [t9,pnt,zah,zab]
 refine b7 (λ d=>?_) (λ d=>?_)
 ·have d:c.length<3:=by have:=of_decide_eq_true d; omega
  rw [if_pos d] at b;rcases b with ⟨_,rfl,rfl⟩ | ⟨h,_⟩
  ·push_cast [pnt]
  exact absurd rfl h
 have d:¬c.length<3:=by have:=of_decide_eq_false d; omega
 rw [if_neg d] at b
 push_cast [pnt]
 have j:∀A:List P2,A.length=c.length->List.take c.length ((A++G).map ptR)=A.map ptR:=λ A D=>by
  rw [zas,List.take_left' (by simp [D])]
 refine jr ?_;rw [j c rfl]
 push_cast [pnt]
 refine b5 (as':=[a9 c]) rfl ?_;refine lq (a20 c (by omega) l) rfl trivial trivial (awi _) ?_
 push_cast [t9,i7,pnt,zah,zab]
 refine ajh ?_
 push_cast [pnt]
 refine b5 (as':=[.own 1000000 0 0 c.length]) rfl ?_;refine a6 (po:=[t9 (c++G)]) (bkx c G (by omega)) rfl ⟨⟨rfl,by simp⟩,trivial⟩ ?_
 push_cast [t9,i7,pnt,zah,zab]
 refine jr ?_;rw [j c.reverse (by simp)]
 push_cast [pnt]
 refine b5 (as':=[a9 c.reverse]) rfl ?_;refine lq (a20 c.reverse (by simp; omega) (λ p f=>l p (by simpa using f))) rfl trivial trivial (awi _) ?_;have E:=ahn c;have I:=ahn c.reverse;have K:=aqf c;have F:=aqf c.reverse
 push_cast [t9,i7,pnt,E,I,K,F,zah,zab,zac]
 have L:=ah4 c;have J:=ah4 c.reverse;rw [List.length_reverse] at J;refine And.intro ⟨by omega,by omega⟩ ?_;refine b7 (λ g=>?_) (λ g=>?_)
 ·have g:(aq c++aq c.reverse).length<3:=by have:=of_decide_eq_true g; rw [zaq]; omega
  rw [if_pos g] at b;rcases b with ⟨_,rfl,rfl⟩ | ⟨h,_⟩
  ·push_cast [pnt]
  exact absurd rfl h
 have g:¬(aq c++aq c.reverse).length<3:=by have:=of_decide_eq_false g; rw [zaq]; omega
 rw [if_neg g] at b;rcases b with ⟨h,_,_⟩ | ⟨_,rfl,rfl⟩
 ·rw [h] at g;exact absurd (by simp) g
 push_cast [i7,pnt,zaq]
 simp

def ip (p q:P2):Prop:=p.1<q.1\/(p.1=q.1/\p.2<=q.2)
theorem a1u {D o:P2->P2->Prop} (i:∀a,D a a) (k:∀a b c,D a b->D b c->D a c) (m:∀a b p,o a b->o b p->k7 a b p<=0->D a b\/D p b) (p:P2) :
 ∀s:List P2,(p::s).Pairwise (λ b a=>o a b)->∀q∈s,∃c∈p::dt p s,D c q
 | [],_,q,d=>by simp at d
 | [a],_,q,d=>⟨q,zaj _ d,i q⟩
 | b::a::r,hs,q,d=>by
   rw [dt];have e:=zan.1 hs;have l:=zan.1 e.2;split
   ·rename_i hc;have j:=a1u i k m p (a::r) (zan.2 ⟨λ x hx=>e.1 x (zaj _ hx),l.2⟩);rcases zai.1 d with rfl | d
    ·rcases m a q p (l.1 a (by simp)) (e.1 q (by simp)) hc with h | h
     ·obtain ⟨c,f,g⟩:=j a (by simp);exact ⟨c,f,k _ _ _ g h⟩
     exact ⟨p,by simp,h⟩
    exact j q d
   exact ⟨q,zaj _ d,i q⟩
theorem ayg (p:P2) (s:List P2):(dt p s).Sublist s:=by
 obtain ⟨k,a,_⟩:=ah9 p s;rw [a];exact List.drop_sublist k s
theorem ad3 (l:List P2):(p9 l).Sublist l.reverse:=by
 refine ke (P:=λ l=>(p9 l).Sublist l.reverse) (List.Sublist.refl _) (λ l p a=>?_) l;rw [ff,List.reverse_append];exact List.Sublist.cons_cons p ((ayg p _).trans a)
theorem aua {D o:P2->P2->Prop} (m:∀a,D a a) (k:∀a b c,D a b->D b c->D a c) (s:∀a b p,o a b->o b p->k7 a b p<=0->D a b\/D p b) (l:List P2) :
 l.Pairwise o->∀q∈l,∃c∈p9 l,D c q:=by
 refine ke (P:=λ l=>l.Pairwise o->∀q∈l,∃c∈p9 l,D c q) (λ _ q d=>by simp at d) (λ l p n=>?_) l;intro r q d;rw [ff];have f:=List.pairwise_append.1 r
 have e:(p::l.reverse).Pairwise (λ b a=>o a b):=by
  refine zan.2 ⟨λ x hx=>f.2.2 x (by simpa using hx) p (by simp),?_⟩;exact List.pairwise_reverse.2 f.1
 rcases List.mem_append.1 d with d | d
 ·obtain ⟨c,g,i⟩:=n f.1 q d;obtain ⟨c',j,h⟩:=a1u m k s p (p9 l) (e.sublist (List.Sublist.cons_cons p (ad3 l))) c g;exact ⟨c',j,k _ _ _ h i⟩
 rw [List.mem_singleton.1 d];exact ⟨p,by simp,m p⟩
theorem ayi (x p:P2):∀T:List P2,∃c,dt x (T++[p])=c++[p]
 | []=>⟨[],rfl⟩
 | [a]=>by
   simp only [zba,List.nil_append];rw [dt];split
   ·exact ⟨[],rfl⟩
   exact ⟨[a],rfl⟩
 | b::a::r=>by
   simp only [zba];rw [dt];split
   ·exact ayi x p (a::r)
   exact ⟨b::a::r,rfl⟩
theorem ao2 (p:P2) (a:List P2):∃T,p9 (p::a)=T++[p]/\(a≠[]->T≠[]):=by
 refine ke (P:=λ a=>∃T,p9 (p::a)=T++[p]/\(a≠[]->T≠[])) ⟨[],rfl,λ h=>absurd rfl h⟩ (λ l x e=>?_) a;obtain ⟨T,d,_⟩:=e;obtain ⟨c,b⟩:=ayi x p T;refine ⟨x::c,?_,λ _=>by simp⟩;rw [<- zba,ff,d,b]
 rfl
theorem a75 (p q:P2):ltP p q=true↔(p.1<q.1\/(p.1=q.1/\p.2<q.2)):=by
 unfold ltP aro agm;rw [decide_eq_true_iff];split<;>split<;>(try split)<;>(try split)<;>omega
theorem anr (x:P2):∀(s:List P2) (q:P2),q=x\/q∈s->q∈qm x s
 | [],q,h=>by simpa [qm] using h
 | e::r,q,h=>by
   rw [qm];split
   ·rcases h with rfl | h
    ·exact zaj _ (anr q r q (.inl rfl))
    rcases zai.1 h with rfl | h
    ·simp
    exact zaj _ (anr x r q (.inr h))
   simpa using h
theorem ar5 {l:List P2} (h:q∈l):q∈ah l:=by
 have a:∀l:List P2,∀q∈l,q∈aga l:=λ l=>by
  refine ke (P:=λ l=>∀q∈l,q∈aga l) (λ q h=>h) (λ l p b q c=>?_) l;rw [afa];refine anr _ _ _ ?_;rcases List.mem_append.1 c with h | h
  ·exact .inr (b q h)
  exact .inl (by simpa using h)
 unfold ah;simpa using a l q h
theorem ay8 (x:P2):∀s:List P2,s.Pairwise (λ b a=>ip a b)->(qm x s).Pairwise (λ b a=>ip a b)
 | [],_=>by simp [qm]
 | e::r,h=>by
   have d:=zan.1 h;rw [qm];split
   ·rename_i c;have c:=(a75 x e).1 c;refine zan.2 ⟨λ y hy=>?_,ay8 x r d.2⟩;rcases arc hy with rfl | hy
    ·unfold ip; omega
    exact d.1 y hy
   rename_i c;have c:¬(x.1<e.1\/(x.1=e.1/\x.2<e.2)):=λ h=>c ((a75 x e).2 h);refine zan.2 ⟨λ y hy=>?_,h⟩;rcases zai.1 hy with rfl | hy
   ·unfold ip; omega
   have:=d.1 y hy;unfold ip at this |-; omega
theorem avk (l:List P2):(ah l).Pairwise ip:=by
 unfold ah;refine List.pairwise_reverse.2 ?_;refine ke (P:=λ l=>(aga l).Pairwise (λ b a=>ip a b)) List.Pairwise.nil (λ l p c=>?_) l;rw [afa];exact ay8 p _ c
theorem ark:∀(u:P2) (l:List P2),(mj u l).Sublist l
 | u,[]=>List.Sublist.refl _
 | u,q::r=>by
   rw [mj];split
   ·exact (ark u r).cons q
   exact (ark q r).cons_cons q
theorem aoc (l:List P2):(cd l).Sublist l:=by
 cases l with
 | nil=>exact List.Sublist.refl _
 | cons p r=>exact (ark p r).cons_cons p
theorem aof:∀(u:P2) (l:List P2) (q:P2),q∈l->q=u\/q∈mj u l
 | u,[],q,h=>by simp at h
 | u,v::r,q,h=>by
   rw [mj];split
   ·rename_i hv;rcases zai.1 h with h | h
    ·exact .inl (h.trans hv)
    exact aof u r q h
   rcases zai.1 h with h | h
   ·exact .inr (by simp [h])
   rcases aof v r q h with h | h
   ·exact .inr (by simp [h])
   exact .inr (zaj _ h)
theorem atn {l:List P2} (h:q∈l):q∈cd l:=by
 cases l with
 | nil=>exact h
 | cons p r=>
   show q∈p::mj p r;rcases zai.1 h with h | h
   ·simp [h]
   rcases aof p r q h with h | h
   ·simp [h]
   exact zaj _ h

def shP (d p:P2):P2:=(p.1+d.1,p.2+d.2)

theorem bcp {l:Lin} (a:l.ok) (p q:P2):sel l.axis (t7 l p q)=l.at':=by
 rcases a with h | h<;>simp [t7,sel,h]

def baf (v:Bool) (a:List Bool):Bool:=((a.dropWhile (· == v)).dropWhile (· == !v)).all (· == v)
theorem bae (f:P2->Bool) (l:List P2) (v:Bool) (h:baf v (l.map f)=true):Uni f l:=by
 refine ⟨v,l.takeWhile (λ p=>f p == v),(l.dropWhile (λ p=>f p == v)).takeWhile (λ p=>f p == !v),(l.dropWhile (λ p=>f p == v)).dropWhile (λ p=>f p == !v),?_,?_,?_,?_⟩
 ·rw [List.takeWhile_append_dropWhile,List.takeWhile_append_dropWhile]
 ·intro a b;have:=List.all_takeWhile (p:=λ p=>f p == v) (l:=l);have:=List.all_eq_true.1 this a b;simpa using this
 ·intro a b;have:=List.all_takeWhile (p:=λ p=>f p == !v) (l:=l.dropWhile (λ p=>f p == v));have:=List.all_eq_true.1 this a b;simpa using this
 intro a b;unfold baf at h;rw [List.dropWhile_map,List.dropWhile_map,List.all_map] at h;have:=List.all_eq_true.1 h a b;simpa using this
theorem a09 (a b c X t:Int) (h:b=a+c):baf (decide (X+a<=t)) [decide (X+a<=t),decide (X+b<=t),decide (X+c<=t),decide (X + -a<=t),decide (X + -b<=t),decide (X + -c<=t)]=true:=by
 subst h
 cases h0:decide (X+a<=t)<;>cases h1:decide (X+(a+c)<=t)<;>cases h2:decide (X+c<=t)<;>cases h3:decide (X + -a<=t)<;>cases h4:decide (X + -(a+c)<=t)<;>cases h5:decide (X + -c<=t) <;>
  first
  | rfl
  | (exfalso; simp only [decide_eq_true_iff,decide_eq_false_iff_not] at h0 h1 h2 h3 h4 h5; omega)
def aca (z:Ei) (r:Nat):List P2:=(List.range 6).map λ i=>(hx z r i,hy z r i)
theorem a8p (z:Ei) (r:Nat):nc z r 6=(aca z r).map ptR:=by
 unfold nc aca;rw [List.map_map]
 rfl
theorem alu (z:Ei) (r:Nat):(aca z r).length=6:=by simp [aca]
theorem bkp (r:Nat) (a:r<=12):(kx r 1=kx r 0+kx r 2/\kx r 3=-kx r 0/\kx r 4=-kx r 1/\kx r 5=-kx r 2)/\(ky r 1=ky r 0+ky r 2/\ky r 3=-ky r 0/\ky r 4=-ky r 1/\ky r 5=-ky r 2):=by
 have:∀j:Fin 13,(kx j.val 1=kx j.val 0+kx j.val 2/\kx j.val 3=-kx j.val 0/\kx j.val 4=-kx j.val 1/\kx j.val 5=-kx j.val 2)/\(ky j.val 1=ky j.val 0+ky j.val 2/\ky j.val 3=-ky j.val 0/\ky j.val 4=-ky j.val 1/\ky j.val 5=-ky j.val 2):=by decide +kernel
 exact this ⟨r,by omega⟩
theorem alt (z:Ei) (r:Nat) (i:r<=12) (d:P2):aor ((aca z r).map (shP d)):=λ a c=>by
 obtain ⟨⟨x1,x3,j,g⟩,y1,y3,f,h⟩:=bkp r i;have e:((aca z r).map (shP d)).map (thr a c)=[thr a c (hx z r 0+d.1,hy z r 0+d.2),thr a c (hx z r 1+d.1,hy z r 1+d.2),thr a c (hx z r 2+d.1,hy z r 2+d.2),thr a c (hx z r 3+d.1,hy z r 3+d.2),thr a c (hx z r 4+d.1,hy z r 4+d.2),thr a c (hx z r 5+d.1,hy z r 5+d.2)]:=rfl;refine bae _ _ (thr a c (hx z r 0+d.1,hy z r 0+d.2)) ?_;rw [e];unfold thr sel;by_cases b:a=0
 ·simp only [if_pos b,bq,x3,j,g];have:=a09 (kx r 0) (kx r 1) (kx r 2) (3*cx z r+d.1) c x1;simp only [show ∀k:Int,3*cx z r+k+d.1=3*cx z r+d.1+k from λ k=>by omega];exact this
 simp only [if_neg b,bp,y3,f,h];have:=a09 (ky r 0) (ky r 1) (ky r 2) (3*cy z r+d.2) c y1;simp only [show ∀k:Int,3*cy z r+k+d.2=3*cy z r+d.2+k from λ k=>by omega];exact this
theorem bks:a8 P0 220 [a9 [],int .i64 0,int .i64 0,agF] [] (.tup []) []:=by
 refine mu.t func220 ?_
 push_cast [mu,agF,a9,zak,zab]
 refine b9 [(0,false),(1,false),(2,false),(3,false),(8,false)] (λ vs pos a=>vs=[a9 [],int .i64 0,int .i64 0,agF,int .i64 1]/\pos=[]/\a=[]) (λ _ _ _=>0) rfl ?_ ?_
 ·push_cast [agF,pnt,a9,zak]
  rfl
 rintro vs pos a ⟨rfl,rfl,rfl⟩;have b:decide ((1:Int)<0)=false:=rfl
 push_cast [agF,pnt,a9,zak,b]
theorem bj3 (a:Int):a8 P0 183 [a9 [],int .i64 0,int .i64 0,int .i64 a,agF] [] (.tup []) []:=by
 refine od.t func183 ?_;simp only [od,agF,a9,push_cast,zA];refine b9 [(0,false),(1,false),(2,false),(3,false),(4,false),(10,false),(11,false)] (λ vs pos b=>vs=[a9 [],int .i64 0,int .i64 0,int .i64 a,agF,bl true,bl true]/\pos=[]/\b=[]) (λ _ _ _=>0) rfl ?_ ?_
 ·simp only [agF,a9,push_cast,↓reduceIte,reduceCtorEq,zE,zA]
 rintro vs pos b ⟨rfl,rfl,rfl⟩;have d:IntKind.i64.wrap ((0:Int)-0)=0:=rfl;have c:decide ((0:Int)<=12)=true:=rfl;simp only [agF,a9,d,c,push_cast,↓reduceIte,reduceCtorEq,zE,zL];refine b5 (as':=[a9 [],int .i64 0,int .i64 0,agF]) rfl ?_;refine a6 bks rfl trivial ?_;simp only [push_cast,zA]
theorem bi7:a8 P0 129 [a9 [],agF] [] (.tup []) []:=by
 refine nl.t func129 ?_;have w:IntKind.u64.wrap 0=0:=rfl;have h:=a8l 0 (by decide)
 push_cast [nl,agF,pnt,a9,zak,w,zab]
 refine b5 (as':=[int .u64 ((0:Nat):Int)]) rfl ?_;refine a6 h rfl trivial ?_
 push_cast
 refine b5 (as':=[a9 [],int .i64 0,int .i64 0,int .i64 (a47 0),agF]) rfl ?_;refine a6 (bj3 _) rfl trivial ?_
 push_cast
theorem blg:a8 P0 131 [a9 []] [] (a9 []) []:=by
 refine ov.t func131 ?_;have a:decide ((0:Int)<2)=true:=rfl
 push_cast [ov,pnt,a9,a,zak,zab]
theorem bkw:a8 P0 77 [a9 []] [] (.nils 2 (pnt 0 0)) []:=by
 refine ahh.t func77 ?_;have b:=bd9 [] (by simp) (λ p d=>by simp at d)
 push_cast [ahh,a9,zak,zab]
 refine b5 (as':=[a9 []]) rfl ?_;refine a6 b rfl trivial ?_
 push_cast [zac]
 refine b9 [(12,false),(10,false),(11,false),(3,false)] (λ vs pos a=>vs=[int .i64 0,a9 [],int .i64 0,.nils 2 (pnt 0 0)]/\pos=[]/\a=[]) (λ _ _ _=>0) rfl ?_ ?_
 ·push_cast [a9,pnt,zak]
  try rfl
 rintro vs pos a ⟨rfl,rfl,rfl⟩;have c:decide ((0:Int)<0)=false:=rfl
 push_cast [a9,pnt,c,zak]
 refine b5 (as':=[a9 [],agF]) rfl ?_;refine a6 bi7 rfl trivial ?_
 push_cast [pnt]
 refine b5 (as':=[a9 []]) rfl ?_;refine a6 blg rfl trivial ?_;have e:decide ((0:Int)<3)=true:=rfl
 push_cast [pnt,a9,e,zak,zab]

def al9:Mk P0 f39:={ x:=_ }
variable {rg:List P2}
theorem aje {l:Lin} (b:l.ok) {p:P2} (h:p∈af l rg):u6 l p=true:=by
 cases rg with
 | nil=>simp [af,al] at h
 | cons a r=>
   rw [ae2 l b (a::r) a rfl] at h;exact (List.mem_filter.1 h).2
theorem apm (lo hi:P2) {a b:P2} (h:ut a b rg):ut lo hi (ml lo hi rg):=by
 have e:ml lo hi rg=af ⟨1,hi.2,false⟩ (af ⟨1,lo.2,true⟩ (af ⟨0,hi.1,false⟩ (af ⟨0,lo.1,true⟩ rg))):=rfl
 have g:ut (lo.1,a.2) (b.1,b.2) (af ⟨0,lo.1,true⟩ rg):=λ p c=>by
  have k:=aje (l:=⟨0,lo.1,true⟩) (.inl rfl) c;have i:=akr (l:=⟨0,lo.1,true⟩) (.inl rfl) h p c;simp [u6,sel] at k;simp only;omega
 have d:ut (lo.1,a.2) (hi.1,b.2) (af ⟨0,hi.1,false⟩ (af ⟨0,lo.1,true⟩ rg)):=λ p c=>by
  have k:=aje (l:=⟨0,hi.1,false⟩) (.inl rfl) c;have i:=akr (l:=⟨0,hi.1,false⟩) (.inl rfl) g p c;simp [u6,sel] at k;simp only at i |-;omega
 have f:ut (lo.1,lo.2) (hi.1,b.2) (af ⟨1,lo.2,true⟩ (af ⟨0,hi.1,false⟩ (af ⟨0,lo.1,true⟩ rg))):=λ p c=>by
  have k:=aje (l:=⟨1,lo.2,true⟩) (.inr rfl) c;have i:=akr (l:=⟨1,lo.2,true⟩) (.inr rfl) d p c;simp [u6,sel] at k;simp only at i |-;omega
 rw [e];intro p c;have k:=aje (l:=⟨1,hi.2,false⟩) (.inr rfl) c;have i:=akr (l:=⟨1,hi.2,false⟩) (.inr rfl) f p c;simp [u6,sel] at k;simp only at i |-;omega
def q8 (t:Til):Int:=2^(18-t.z).toNat
def aev (t:Til):Int:=2^(30-t.z).toNat
def dm (t:Til) (z:Ei):List P2:=(aca z t.r.toNat).map (shP (-(3*(t.x*aev t)),-(3*(t.y*aev t))))
def ra (t:Til) (z:Ei):List P2:=ml (-192*q8 t,-192*q8 t) (12480*q8 t,12480*q8 t) (dm t z)
def bv (t:Til) (z:Ei):List P2:=if tch z t.r.toNat (2^(30-t.z).toNat) t.x t.y=true then ko (z6 (3*q8 t) (ra t z)) else []
theorem axj (t:Til) (h:tis t=true) (hf:cn t=false) (z:Ei) (hk:okc t.r.toNat z) (hz:z.In 1073741824) (hb:qg z t.r.toNat)
 (c:(bv t z=[]/\res=.nils 2 (pnt 0 0)/\ro=[])\/(bv t z≠[]/\res=.own 1000000 0 0 (bv t z).length/\ro=[i7 (bv t z)])) :
 a8 P0 39 [t.v,uw (y6 t.r.toNat z)] [] res ro:=by
 refine al9.t func39 ?_;have l:0<=t.z/\t.z<=18/\0<=t.r/\t.r<=12/\0<=t.x/\t.x<2^t.z.toNat/\0<=t.y/\t.y<2^t.z.toNat:=by simpa [tis] using h
 have ho:=abn h;have D:=bbl t ho;rw [h,hf] at D;obtain ⟨w1,w2,w3,w4⟩:=nh t.r.toNat z hk;have H:=auv (y6 t.r.toNat z) w4 w1;rw [w2,w3,Int.toNat_of_nonneg l.2.2.1] at H;have e1:(t.r == t.r)=true:=by simp
 have ha:=a29 t h z t.r l.2.2.1 hk hb
 push_cast [al9,Til.v,uw,zab]
 refine b5 (as':=[uw (y6 t.r.toNat z)]) rfl ?_;refine a6 H rfl trivial ?_
 push_cast [cel]
 refine b5 (as':=[t.v]) rfl ?_;refine a6 D rfl trivial ?_;have n0:((0:Int) != 0)=false:=rfl;have n1:(t.r != t.r)=false:=by simp
 push_cast [n0,n1]
 refine b5 (as':=[t.v,cel t.r z]) rfl ?_;refine a6 ha rfl trivial ?_
 push_cast
 cases I:tch z t.r.toNat (2^(30-t.z).toNat) t.x t.y with
 | false=>
   have hN:bv t z=[]:=by
    unfold bv;rw [I];exact if_neg (by decide)
   rcases c with ⟨_,rfl,rfl⟩ | ⟨h,_⟩
   ·push_cast [pnt]
   exact absurd hN h
 | true=>
   have hN:bv t z=ko (z6 (3*q8 t) (ra t z)):=by
    unfold bv;rw [I];exact if_pos rfl
   rw [hN] at c
   push_cast
   refine b5 (as':=[z.v,int .i64 t.r]) rfl ?_;refine a6 (bea z t.r hz ⟨l.2.2.1,l.2.2.2.1⟩) rfl trivial ?_
   push_cast [pnt]
   refine b5 (as':=[t.v]) rfl ?_;refine a6 (aym t h) rfl trivial ?_;rw [a8p]
   push_cast [pnt]
   have K:=aav h;have S:=xk ⟨l.1,l.2.1⟩;obtain ⟨f,o⟩:∃f,t.x*2^(30-t.z).toNat=f:=⟨_,rfl⟩
   obtain ⟨g,s⟩:∃g,t.y*2^(30-t.z).toNat=g:=⟨_,rfl⟩
   obtain ⟨S0,n⟩:∃S0:Int,2^(30-t.z).toNat=S0:=⟨_,rfl⟩
   rw [Int.add_mul,Int.one_mul,Int.add_mul,Int.one_mul] at K;rw [o,s,n] at K;rw [n] at S;have e:dm t z=(aca z t.r.toNat).map (shP (-(3*f),-(3*g))):=by unfold dm aev; rw [o,s]
   obtain ⟨R,u⟩:∃R,aca z t.r.toNat=R:=⟨_,rfl⟩
   have Z:R.length=6:=by rw [<- u,alu]
   have O:∀p∈R,(-4294967296<=p.1/\p.1<=4294967296)/\(-4294967296<=p.2/\p.2<=4294967296):=λ p j=>by
    rw [<- u] at j;obtain ⟨i,hi,rfl⟩:=zap.1 j;exact hb i (List.mem_range.1 hi)
   rw [o,s,n,u];rw [u] at e;obtain ⟨d,hd⟩:∃d:P2,(-(3*f),-(3*g))=d:=⟨_,rfl⟩
   rw [hd] at e
   refine b9 [(55,false),(54,false),(7,false),(9,false),(10,false),(2,false)] (λ vs pos B=>∃i:Nat,i<=6/\vs=[int .i64 i,int .i64 6,.own 2000000 0 0 6,int .i64 f,int .i64 g,.ptr 2000001 0 0]/\pos=[]/\B=[i7 ((R.take i).map (shP d)++R.drop i),.box [int .i64 t.z,int .i64 t.x,int .i64 t.y,int .i64 t.r]])
    (λ vs _ _=>match vs with | .r (.v (.int _ a))::_=>(6-a).toNat | _=>0) rfl ?_ ?_
   ·push_cast [i7,pnt]
    exact ⟨0,by omega,rfl,by simp⟩
   rintro vs pos B ⟨i,hi,rfl,rfl,rfl⟩
   push_cast [i7,pnt]
   refine b7 (λ m=>?_) (λ m=>?_)
   ·have G:i<6:=by have:=of_decide_eq_true m; omega
    obtain ⟨p,j⟩:∃p,R[i]'(by omega)=p:=⟨_,rfl⟩
    have hl:=O p (j▸List.getElem_mem _);have wi:IntKind.i64.wrap ((i:Int)+1)=(i:Int)+1:=a5 (by omega);have Q:R.drop i=p::R.drop (i+1):=by rw [List.drop_eq_getElem_cons (by omega),j]
    have h2:(R.take (i+1)).map (shP d)=(R.take i).map (shP d)++[shP d p]:=by rw [List.take_succ_eq_append_getElem (by omega),j,zas]; rfl
    obtain ⟨A,X⟩:∃A,(R.take i).map (shP d)=A:=⟨_,rfl⟩
    have J:A.length=i:=by rw [<- X]; simp; omega
    obtain ⟨T,I⟩:∃T,R.drop (i+1)=T:=⟨_,rfl⟩
    rw [Q,X,I]
    have hg:∀q:P2,∀z,((A++q::T).map ptR).getD i z=.agg [.v (.int .i64 q.1),.v (.int .i64 q.2)]:=λ q z=>by
     rw [<- J]; exact acb A T q z
    have hs:∀(q:P2) (a b:Int),((A++q::T).map ptR).set i (.agg [.v (.int .i64 a),.v (.int .i64 b)])=(A++(a,b)::T).map ptR:=λ q a b=>by
     rw [show (RV.agg [.v (.int .i64 a),.v (.int .i64 b)])=ptR (a,b) from rfl,<- List.map_set,<- J];congr 1;simp
    have P:IntKind.i64.wrap (3*f)=3*f:=a5 (by omega);have m2:IntKind.i64.wrap (3*g)=3*g:=a5 (by omega);have M:IntKind.i64.wrap (p.1-3*f)=p.1-3*f:=a5 (by omega);have m4:IntKind.i64.wrap (p.2-3*g)=p.2-3*g:=a5 (by omega)
    push_cast [i7,pnt,hg,hs,P,m2,M,m4,wi,d9,zat,zau,zaa,Nat.zero_mul,Nat.mul_one,List.getD_cons_zero,List.getD_cons_succ,List.set_cons_zero,List.set_cons_succ,zad,zae,zaa]
    repeat refine And.intro (by first | exact ⟨by omega,by omega⟩ | kernel_rfl) ?_
    refine ⟨⟨i+1,by omega,by simp,?_⟩,by omega⟩;rw [h2,X,I,<- hd];simp [shP,Int.sub_eq_add_neg]
   have G:i=6:=by have:=of_decide_eq_false m; omega
   subst G
   have C:(R.take 6).map (shP d)++R.drop 6=dm t z:=by
    rw [e,zbg (by omega),List.drop_of_length_le (by omega),List.append_nil]
   rw [C];have h9:=a5w t l.1 l.2.1
   have h8:1<=q8 t/\q8 t<=262144:=by
    have h1:2^(18-t.z).toNat<=2^18:=Nat.pow_le_pow_right (by decide) (by omega);have h3:((2^(18-t.z).toNat:Nat):Int)=(2:Int)^(18-t.z).toNat:=by simp
    have h4:0<2^(18-t.z).toNat:=Nat.pow_pos (by decide);unfold q8;omega
   push_cast
   refine b5 (as':=[t.v]) rfl ?_;refine a6 h9 rfl trivial ?_;rw [show (2:Int)^(18-t.z).toNat=q8 t from rfl];obtain ⟨U,hU⟩:∃U,q8 t=U:=⟨_,rfl⟩
   rw [hU] at h8 c |-;have P:IntKind.i64.wrap (-192*U)=-192*U:=a5 (by omega);have m2:IntKind.i64.wrap (12480*U)=12480*U:=a5 (by omega);have M:IntKind.i64.wrap (3*U)=3*U:=a5 (by omega)
   push_cast [i7,pnt,P,m2,M]
   have he:=aq9 t.r.toNat 0 (by omega) (by decide);have h6:=hb 0 (by decide);rw [bq,bp] at h6
   have E:ut (3*cx z t.r.toNat-100000000-3*f,3*cy z t.r.toNat-100000000-3*g) (3*cx z t.r.toNat+100000000-3*f,3*cy z t.r.toNat+100000000-3*g) (dm t z):=λ p j=>by
    rw [e,<- u,<- hd] at j;obtain ⟨q,Y,rfl⟩:=zap.1 j;obtain ⟨i,hi,rfl⟩:=zap.1 Y;have hk:=aq9 t.r.toNat i (by omega) (List.mem_range.1 hi);simp only [shP,bq,bp];omega
   have w:(dm t z).length=6:=by rw [e]; simp [Z]
   have h5:aor (dm t z):=by rw [e,<- u]; exact alt z _ (by omega) d
   obtain ⟨c1,c2,N⟩:=bl0 (-192*U,-192*U) (12480*U,12480*U) (by simp only; omega) (by simp only; omega) E (by omega) (by simp only; omega) (by simp only; omega);have V:=apm (-192*U,-192*U) (12480*U,12480*U) E
   have c5:(ml (-192*U,-192*U) (12480*U,12480*U) (dm t z)).length<=10:=by
    have:=(aku (lo:=(-192*U,-192*U)) (hi:=(12480*U,12480*U)) h5 4 (zam _)).2;rw [w] at this;exact this
   have hW:ra t z=ml (-192*U,-192*U) (12480*U,12480*U) (dm t z):=by unfold ra; rw [hU]
   rw [<- hW] at c1 c2 N V c5;obtain ⟨W,h7⟩:∃W,ra t z=W:=⟨_,rfl⟩
   rw [h7] at c1 c2 N V c5 c;have F:List.take 6 ((dm t z).map ptR)=(dm t z).map ptR:=zbg (by simp [w]);refine j9 ?_;rw [F]
   push_cast [pnt]
   refine b5 (as':=[a9 (dm t z),pv2 (-192*U,-192*U),pv2 (12480*U,12480*U)]) rfl ?_;refine a6 c1 rfl trivial ?_
   push_cast [i7,pnt,M]
   refine j9 ?_
   try rw [m5]
   push_cast [pnt]
   refine b5 (as':=[a9 W,int .i64 (3*U)]) rfl ?_;by_cases k:W=[]
   ·refine a6 (azw (3*U) (by omega) W N (.inl ⟨k,rfl,rfl⟩)) rfl trivial ?_
    push_cast [pnt]
    refine b5 (as':=[a9 []]) rfl ?_;refine a6 bkw rfl trivial ?_;have h0:ko (z6 (3*U) W)=[]:=by rw [k]; rfl
    rw [h0] at c;rcases c with ⟨_,rfl,rfl⟩ | ⟨h,_⟩
    ·push_cast [pnt]
    exact absurd rfl h
   refine a6 (azw (3*U) (by omega) W N (.inr ⟨k,rfl,rfl⟩)) rfl trivial ?_
   push_cast [i7,pnt]
   refine j9 ?_
   try rw [m5]
   push_cast [pnt]
   refine b5 (as':=[a9 (z6 (3*U) W)]) rfl ?_;have hh:(z6 (3*U) W).length=W.length:=by simp [z6]
   have hj:1<=W.length:=by
    cases W with
    | nil=>exact absurd rfl k
    | cons a r=>simp
   have L:∀p∈z6 (3*U) W,aa p:=λ p j=>by
    obtain ⟨q,Y,rfl⟩:=zap.1 j;have:=V q Y;simp only at this;have e1:-64<=q.1/(3*U):=(zbb (by omega)).2 (by omega);have e2:q.1/(3*U)<4161:=(zbc (by omega)).2 (by omega);have e3:-64<=q.2/(3*U):=(zbb (by omega)).2 (by omega);have e4:q.2/(3*U)<4161:=(zbc (by omega)).2 (by omega);unfold aa;simp only;omega
   rcases c with ⟨a,rfl,rfl⟩ | ⟨a,rfl,rfl⟩
   ·refine a6 (a8d (z6 (3*U) W) (by omega) L (.inl ⟨a,rfl,rfl⟩)) rfl trivial ?_
    push_cast [i7,pnt]
   refine a6 (a8d (z6 (3*U) W) (by omega) L (.inr ⟨a,rfl,rfl⟩)) rfl trivial ?_
   push_cast [i7,pnt]
theorem axk (t:Til) (h:tis t=true) (c:cn t=false) (z:Ei) (a:okc t.r.toNat z) (d:qg z t.r.toNat) :
 a8 P0 39 [t.v,uw (y6 t.r.toNat z)] [] (.own 1000000 0 0 (bv t z).length) [i7 (bv t z)]:=by
 by_cases b:bv t z=[]
 ·have:=aed (axj t h c z a a.2.1 d (.inl ⟨b,rfl,rfl⟩));rw [b];exact this
 exact axj t h c z a a.2.1 d (.inr ⟨b,rfl,rfl⟩)
theorem bb7 (rg:List P2):(ko rg).length<=2*rg.length:=by
 have b:=aoe (ah rg);rw [aax] at b;have c:=ah4 (cd (ah rg));have a:=ah4 (cd (ah rg)).reverse;rw [List.length_reverse] at a;have d:=ahn (cd (ah rg));have e:=ahn (cd (ah rg)).reverse;unfold ko;split
 ·simp
 split
 ·simp
 rw [zaq]; omega
theorem avm (t:Til) (b:t.r<=12) (z:Ei):(bv t z).length<=20:=by
 unfold bv;split
 ·refine Nat.le_trans (bb7 _) ?_
  have a:(ra t z).length<=10:=by
   have:=(aku (lo:=(-192*q8 t,-192*q8 t)) (hi:=(12480*q8 t,12480*q8 t)) (alt z t.r.toNat (by omega) (-(3*(t.x*aev t)),-(3*(t.y*aev t)))) 4 (zam _)).2;rw [zac,alu] at this;exact this
  have:(z6 (3*q8 t) (ra t z)).length=(ra t z).length:=by simp [z6]
  omega
 simp
theorem a8j (h:q∈ko rg):q∈rg:=by
 have hc:∀l:List P2,q∈aq l->q∈l:=λ l a=>ak7 l (by
  unfold aq at a
  first
  | exact List.mem_of_mem_tail (by simpa using a)
  | exact List.mem_of_mem_dropLast (by simpa using a)
  | (simp at a; exact List.mem_of_mem_tail a))
 unfold ko at h;split at h
 ·simp at h
 split at h
 ·simp at h
 rcases List.mem_append.1 h with h | h
 ·exact aiy (aod (hc _ h))
 exact aiy (aod (List.mem_reverse.1 (hc _ h)))
theorem bao (t:Til) (h:0<=t.z/\t.z<=18) (z:Ei) (f:∀p∈dm t z,(-1099511627776<=p.1/\p.1<=1099511627776)/\(-1099511627776<=p.2/\p.2<=1099511627776)):∀p∈bv t z,(-64<=p.1/\p.1<=4160)/\(-64<=p.2/\p.2<=4160):=λ p c=>by
 have g:1<=q8 t:=by
  have l:((2^(18-t.z).toNat:Nat):Int)=(2:Int)^(18-t.z).toNat:=by simp
  have o:0<2^(18-t.z).toNat:=Nat.pow_pos (by decide);unfold q8;omega
 unfold bv at c;split at c
 ·have d:=a8j c;obtain ⟨q,i,rfl⟩:=zap.1 d;have e:=apm (a:=(-1099511627776,-1099511627776)) (b:=(1099511627776,1099511627776)) (-192*q8 t,-192*q8 t) (12480*q8 t,12480*q8 t) f q i;simp only at e;generalize q8 t=U at *;have n:-64<=q.1/(3*U):=(zbb (by omega)).2 (by omega);have j:q.1/(3*U)<4161:=(zbc (by omega)).2 (by omega);have k:-64<=q.2/(3*U):=(zbb (by omega)).2 (by omega);have m:q.2/(3*U)<4161:=(zbc (by omega)).2 (by omega);simp only;omega
 simp at c

def amy:Mk P0 f156:={ x:=_ }
def aka:Mk P0 f157:={ x:=_ }
def aj7:Mk P0 f159:={ x:=_ }
def amx:Mk P0 f112:={ x:=_ }
structure Ky where
 c:Int
 v:Int
 d:Int
deriving DecidableEq
def Ky.rv (k:Ky):RV:=.agg [.v (.int .u64 k.c),.v (.int .i64 k.v),.v (.int .i64 k.d)]
def Ky.av (k:Ky):AV:=.r k.rv
def kl (a b:Ky):Bool:=if a.c≠b.c then decide (a.c<b.c) else if a.v≠b.v then decide (a.v<b.v) else decide (a.d<b.d)
theorem ay6 (a b:Ky):a8 P0 156 [a.av,b.av] [] (bl (kl a b)) []:=by
 refine amy.t func156 ?_
 push_cast [amy,Ky.av,Ky.rv,kl,zab]
 refine b7 (λ c=>?_) (λ c=>?_)
 ·push_cast
  simp at c;refine ic ?_;simp [c]
 push_cast
 simp at c;refine b7 (λ d=>?_) (λ d=>?_)
 ·push_cast
  simp at d;refine ic ?_;simp [c,d]
 push_cast
 simp at d;refine ic ?_;simp [c,d]

theorem ax4 (F:FuncId) (A B:List AV) (d:o6 A=[]) (f:o6 B=[]) (c:ab9 P0 F=true) (p:Nat->Bool) (n r:Nat) (J:n<=maxLen) (O:r<=n)
 (H:∀i,i<r->p i=false) (C:∀i,r<=i->i<n->p i=true)
 (E:∀i:Nat,i<n->a8 P0 F [int .i64 i,.ptr 1000000 0 0,.ptr 1000001 0 0] [.box A,.box B] (bl (p i)) [.box A,.box B]) :
 a8 P0 157 [int .i64 n,.fn (.func F) [.ptr 1000000 0 0,.ptr 1000001 0 0] 0] [.box A,.box B] (int .i64 r) [.box A,.box B]:=by
 refine aka.t func157 ?_;simp only [aka,push_cast,↓reduceIte,reduceCtorEq,zE,zA];have y:=g7;have j:∀F,imL F A=A:=λ F=>vt F A d;have k:∀F,imL F B=B:=λ F=>vt F B f
 refine b9 [(1,false),(5,false),(6,false)] (λ vs pos l=>∃(lo hi:Int),0<=lo/\lo<=r/\(r:Int)<=hi/\hi<=n /\
  vs=[.fn (.func F) [.ptr 1000000 0 0,.ptr 1000001 0 0] 0,int .i64 lo,int .i64 hi]/\pos=[.box A,.box B]/\l=[])
  (λ vs _ _=>match vs with | [_,.r (.v (.int _ a)),.r (.v (.int _ b))]=>(b-a).toNat | _=>0) rfl ?_ ?_
 ·simp only [d,f,j,k,push_cast,↓reduceIte,reduceCtorEq,zB,zE,zA,zS,zL,zD];refine ⟨0,n,by omega,by omega,by omega,by omega,?_⟩;simp
 rintro vs pos l ⟨lo,hi,N,K,L,G,rfl,rfl,rfl⟩;simp only [push_cast,↓reduceIte,zE,zA];refine b7 (λ h=>?_) (λ h=>?_)
 ·simp only [d,f,j,k,c,push_cast,↓reduceIte,zB,zE,zA];have g:lo<hi:=by simpa using h
  have D:(n:Int)<=9223372036854775807:=by have:=J; simp only [maxLen] at this; omega
  have s:IntKind.u64.wrap (IntKind.i64.wrap (lo+hi))=lo+hi:=by rw [IntKind.wrap_i64,IntKind.wrap_u64]; omega
  have I:(lo+hi).fdiv (2^min (Int.toNat 1) IntKind.u64.bits)=(lo+hi)/2:=ak9 (lo+hi) 1 (by decide);have o:IntKind.i64.wrap ((lo+hi)/2)=(lo+hi)/2:=a5 ⟨by omega,by omega⟩;obtain ⟨M,z⟩:∃M:Nat,(lo+hi)/2=M:=⟨((lo+hi)/2).toNat,by omega⟩
  rw [z] at o;simp only [s,I,z,o];refine ⟨by decide,a6 (E M (by omega)) rfl ⟨rfl,rfl,trivial⟩ ?_⟩;simp only [j,k,push_cast,↓reduceIte,zE,zA];have x:IntKind.i64.wrap ((M:Int)+1)=M+1:=a5 ⟨by omega,by omega⟩;refine b7 (λ w=>?_) (λ w=>?_)
  ·simp only [d,f,j,k,x,push_cast,↓reduceIte,zB,zE,zA,zS,zL,zD];have m:p M=false:=by simpa using w
   have q:M<r:=Nat.lt_of_not_le λ u=>by rw [C M u (by omega)] at m; cases m
   refine ⟨⟨M+1,hi,by omega,by omega,by omega,by omega,?_⟩,by omega⟩;simp
  simp only [d,f,j,k,push_cast,↓reduceIte,zB,zE,zA,zS,zL,zD];have m:p M=true:=by simpa using w
  have q:r<=M:=Nat.le_of_not_lt λ g=>by rw [H M g] at m; cases m
  refine ⟨⟨lo,M,by omega,by omega,by omega,by omega,?_⟩,by omega⟩;simp
 simp only [d,f,j,k,push_cast,↓reduceIte,zB,zE,zA,zS,zL,zD];have g:¬lo<hi:=by simpa using h
 have e:lo=r:=by omega
 rw [e]

def eh (l:List Ky):RV:=.sl 3 (l.map Ky.rv)
def Ky.cs (k:Ky):List AV:=[int .u64 k.c,int .i64 k.v,int .i64 k.d]
theorem bhc (l:List Ky) (k q:Ky) (i:Nat) (hi:i<l.length) (b:l[i]?=some q) (e:l.length<=maxLen):a8 P0 159 [int .i64 i,.ptr 1000000 0 0,.ptr 1000001 0 0] [.box [.r (eh l)],.box k.cs]
 (bl (!kl q k)) [.box [.r (eh l)],.box k.cs]:=by
 refine aj7.t func159 ?_
 have a:(l.map Ky.rv).getD ((i:Int)).toNat (.agg [.v (.int .u64 0),.v (.int .i64 0),.v (.int .i64 0)])=.agg [.v (.int .u64 q.c),.v (.int .i64 q.v),.v (.int .i64 q.d)]:=by
  simp [List.getD,b,Ky.rv]
 push_cast [aj7,eh,Ky.cs,zab,zac,a]
 refine And.intro ⟨by omega,by omega⟩ ?_;refine d5 (ay6 q k) rfl trivial ?_
 push_cast
 kernel_rfl
structure Plc (l:List Ky) (k:Ky) (r:Nat):Prop where
 le:r<=l.length
 lo:∀(i:Nat) (q:Ky),i<r->l[i]?=some q->kl q k=true
 hi:∀(i:Nat) (q:Ky),r<=i->l[i]?=some q->kl q k=false
theorem bk7 (l:List Ky) (k:Ky) (r:Nat) (b:Plc l k r) (f:l.length<=maxLen):a8 P0 112 [.r (eh l),k.av] []
 (.tup [int .i64 r,bl (decide (l[r]?=some k))]) []:=by
 refine amx.t func112 ?_
 have p:∀i:Nat,i<l.length->a8 P0 159 [int .i64 i,.ptr 1000000 0 0,.ptr 1000001 0 0] [.box [.r (eh l)],.box k.cs] (bl ((λ i=>match l[i]? with | some q=>!kl q k | none=>true) i)) [.box [.r (eh l)],.box k.cs]:=λ i hi=>by
  have a:l[i]?=some l[i]:=by simp [hi]
  simp only [a];exact bhc l k _ i hi a f
 have m:=ax4 159 [.r (eh l)] k.cs rfl rfl rfl (λ i=>match l[i]? with | some q=>!kl q k | none=>true) l.length r f b.le (λ i hi=>by
  have a:l[i]?=some (l[i]'(by have:=b.le; omega)):=by simp [show i<l.length by have:=b.le; omega]
  simp only [a,b.lo i _ hi a]; rfl) (λ i hi j=>by
  have a:l[i]?=some l[i]:=by simp [j]
  simp only [a,b.hi i _ hi a]; rfl) p
 push_cast [amx,eh,Ky.av,Ky.rv,zab,zac]
 refine a6 m rfl ⟨rfl,rfl,trivial⟩ ?_;obtain ⟨q,e⟩:∃q:Ky,q=(l[r]?).getD ⟨0,0,0⟩:=⟨_,rfl⟩
 have s:(l.map Ky.rv).getD ((r:Int)).toNat (.agg [.v (.int .u64 0),.v (.int .i64 0),.v (.int .i64 0)])=.agg [.v (.int .u64 q.c),.v (.int .i64 q.v),.v (.int .i64 q.d)]:=by
  rw [e];rcases hr:l[r]? with _ | g<;>simp [List.getD,hr,Ky.rv]
 push_cast [eh,Ky.cs,zac,s]
 refine ⟨λ h=>⟨by omega,by simpa using h⟩,by kernel_rfl,?_⟩;congr 4;rcases hr:l[r]? with _ | g
 ·have:¬r<l.length:=λ h=>by simp [h] at hr
  simp [this]
 have o:=(zaf.1 hr).1;have n:q=g:=by rw [e,hr]; rfl
 subst n;simp [o];cases q; cases k;simp
 rfl

def ac5:Mk P0 f158:={ x:=_ }
def agp:Mk P0 f111:={ x:=_ }
def bz (ns:List (List Ky)) (n:Int):List RV:=[.sl 1 (ns.map eh),.v (.int .i64 n)]
theorem bgs (ns:List (List Ky)) (n:Int) (k q:Ky) (x:List Ky) (i:Nat) (hi:i<ns.length) (hx:ns[i]?=some (q::x)) (f:ns.length<=maxLen) (b:(q::x).length<=maxLen) :
 a8 P0 158 [int .i64 i,.ptr 1000000 0 0,.ptr 1000001 0 0] [.box k.cs,.box [.rp (bz ns n)]] (bl (kl k q)) [.box k.cs,.box [.rp (bz ns n)]]:=by
 refine ac5.t func158 ?_
 have e:(ns.map eh).getD ((i:Int)).toNat (.sl 3 [])=.sl 3 (q.rv::x.map Ky.rv):=by
  simp [List.getD,hx,eh]
 have a:(q.rv::x.map Ky.rv).getD (Int.toNat 0) (.agg [.v (.int .u64 0),.v (.int .i64 0),.v (.int .i64 0)])=.agg [.v (.int .u64 q.c),.v (.int .i64 q.v),.v (.int .i64 q.d)]:=rfl;simp only [ac5,bz,Ky.cs,e,a,push_cast,↓reduceIte,reduceCtorEq,zE,zA,zL,zD];refine And.intro ⟨by omega,by omega⟩ (And.intro ⟨by omega,by omega⟩ ?_);refine d5 (ay6 k q) rfl trivial ?_;simp only [push_cast,↓reduceIte,zB,zE,zA,zS,zL,zD];kernel_rfl
structure Nod (ns:List (List Ky)) (k:Ky) (r:Nat):Prop where
 le:r<=ns.length
 len:ns.length<=maxLen
 ne:∀(i:Nat) (l:List Ky),ns[i]?=some l->l≠[]/\l.length<=maxLen
 lo:∀(i:Nat) (q:Ky) (x:List Ky),i<r->ns[i]?=some (q::x)->kl k q=false
 hi:∀(i:Nat) (q:Ky) (x:List Ky),r<=i->ns[i]?=some (q::x)->kl k q=true
def a36 (ns:List (List Ky)) (k:Ky) (i:Nat):Bool:=match ns[i]? with
 | some (q::_)=>kl k q
 | _=>true
variable {k:Ky} {i:Nat}
theorem Nod.at_ {ns:List (List Ky)} {r:Nat} (h:Nod ns k r) (hi:i<ns.length):∃q x,ns[i]?=some (q::x)/\(q::x).length<=maxLen:=by
 have a:ns[i]?=some ns[i]:=by simp [hi]
 obtain ⟨c,b⟩:=h.ne i _ a;rcases hx:ns[i] with _ | ⟨q,x⟩
 ·exact absurd hx c
 rw [hx] at a b;exact ⟨q,x,a,b⟩
theorem a7y (ns:List (List Ky)) (n:Int) (k:Ky) (r:Nat) (h:Nod ns k r):a8 P0 111 [.rp (bz ns n),k.av] [] (int .i64 ((r-1:Nat):Int)) []:=by
 refine agp.t func111 ?_
 have c:=ax4 158 k.cs [.rp (bz ns n)] rfl rfl rfl (a36 ns k) ns.length r h.len h.le (λ i hi=>by
  obtain ⟨q,x,a,_⟩:=h.at_ (i:=i) (by have:=h.le; omega);simp only [a36,a,h.lo i q x hi a]) (λ i hi b=>by
  obtain ⟨q,x,a,_⟩:=h.at_ b;simp only [a36,a,h.hi i q x hi a]) (λ i b=>by
  obtain ⟨q,x,a,e⟩:=h.at_ b;simp only [a36,a]
  exact bgs ns n k q x i b a h.len e)
 push_cast [agp,bz,Ky.av,Ky.rv,zab,zac]
 refine a6 c rfl ⟨rfl,rfl,trivial⟩ ?_
 push_cast [bz,Ky.cs,zac]
 have f:(ns.length:Int)<=9223372036854775807:=by have:=h.len; simp only [maxLen] at this; omega
 have d:=h.le;rw [a5 ⟨by omega,by omega⟩,show max ((r:Int)-1) 0=((r-1:Nat):Int) by omega]


section
variable {P:Program} {w:World} {o:Oper} {a:Act} {K:Act->World->Prop} {Q:Exit->Act->World->Prop}
theorem aem {w:World} {g off size m m' c:Nat} {cs:Array Value} {e:TypeId} {fr:Nat×Nat} {news:List Value} (f:w.heap[g]?=some (.cells cs e fr)) (h:news.length=m*size)
 (b:∀(j:Nat) (u:Value),news[j]?=some u->cs[off+j]?=some u):∀W:World,W.heap=w.heap->(Builtin.firstCells size m (.slice (some ⟨g,off,none⟩) m' c)).run P W=.ok news.toArray W:=λ W a=>by
 refine run_firstCells_some W size m ⟨g,off,none⟩ m' c news h λ j u d=>?_;rw [ij];simp only [World.cell?,a,f,zbh,Bool.false_eq_true,if_false];exact b j u d
theorem bhf {w:World} {size m' c:Nat} {A:Option Addr}:∀W:World,W.heap=w.heap->(Builtin.firstCells size 0 (.slice A m' c)).run P W=.ok #[] W:=λ W a=>by
 cases A<;>simp [Builtin.firstCells,loadCells,loadCellsFrom]
theorem ai8 {g:Nat} {a cs:Array Value} {t:TypeId} {fr:Nat×Nat} (c:w.heap[g]?=some (.cells a t fr)):Keeps (· = g) w (w.setRow g cs):=
 have h:=uh (cs:=cs) c
 ⟨rfl,rfl,rfl,by simp [World.setRow],λ k d b=>setRow_other w g k cs b⟩
theorem anq {a:World} {x:Obj} {I:Nat->Prop} (h:OneMore w a x):Keeps I w a:=⟨h.os,h.tape,h.output,by rw [h.heap]; simp,λ k b _=>by rw [h.heap]; simp [Array.getElem?_push,Nat.ne_of_lt b]⟩
theorem axe (x v:Operand) (t u:TypeId) (T:o.op=.call { callee:=.builtin .append,args:=#[x,v],argTypes:=#[t,u] }) {e d:TypeId} {inf:TypeInfo} {z:Value} {size l:Nat} (V:P.underlying t=some (.slice e)) (C:P.underlying u=some (.slice d))
 (hi:P.info? e=some inf) (U:inf.zero=some z) (R:z.cells.size=inf.size) (X:inf.size=size) (O:inf.bytes=l) (g len cap:Nat) (hx:a.eval x=.slice (some ⟨g,0,none⟩) len cap) (hc:0<cap) {cs:Array Value} {e':TypeId} (J:w.heap[g]?=some (.cells cs e' (0,0)))
 (n:cap*size<=cs.size) (F:len<=cap) {A2:Option Addr} {m c2:Nat} (hv:a.eval v=.slice A2 m c2) (news:List Value) (H:∀W:World,W.heap=w.heap->(Builtin.firstCells size m (.slice A2 m c2)).run P W=.ok news.toArray W)
 (L:news.length=m*size) (S:∀u∈news,u.oneCell'=true) (D:len+m<=maxLen) (E:cap<=maxLen) (Z:(len+m)*l<=140737488355328)
 (h:∀(M b:Nat) (y:Array Value) (Y:TypeId) (s:World),(M=g\/M=w.heap.size)->0<b->len+m<=b->b<=maxLen->s.heap[M]?=some (.cells y Y (0,0))->b*size<=y.size ->
  (∀j,j<(len+m)*size->y[j]?=(cs.toList.take (len*size)++news)[j]?)->Keeps (· = g) w s->K (a.put o.dst (.slice (some ⟨M,0,none⟩) (len+m) b)) s):o.wp P a w K Q:=by
 subst X; subst O;have N:len*inf.size<=cs.size:=Nat.le_trans (Nat.mul_le_mul_right _ F) n;have f:(cs.toList.take (len*inf.size)).length=len*inf.size:=by simp only [zay,Array.length_toList]; exact zaz N
 have G:=aem (P:=P) (off:=0) (size:=inf.size) (m:=len) (m':=len) (c:=cap) (news:=cs.toList.take (len*inf.size)) J f (λ j u C=>by
  rw [zao] at C;split at C
  ·simpa using C
  cases C)
 have i:∀r,(Builtin.append_ #[t,u] o.type #[.slice (some ⟨g,0,none⟩) len cap,.slice A2 m c2]).run P w=r->(execOp a.eval o).run P w=r.andThen λ q s=>.ok (.value q) s:=by
  rintro r rfl;simp [execOp,T,resolve,invoke,builtin,hx,hv]
 unfold Oper.wp
 rcases ao5 (P:=P) (w:=w) (ty:=o.type) (A:=some ⟨g,0,none⟩) (A2:=A2) (len:=len) (cap:=cap) (m:=m) (c2:=c2) (g:=g) (cur:=cs) (e':=e') (olds:=cs.toList.take (len*inf.size)) (news:=news) V C hi U R F (λ _=>⟨rfl,J,n⟩) (λ _ k _ h=>absurd h.2 (Nat.not_lt_zero k))
  G f H L S D Z with ⟨hroom,hr⟩ | ⟨hgrow,K',s,rest,hr,hK1,hK2,hom,hlen⟩
 ·rw [i _ hr,if_pos hc]
  have p:len*inf.size+news.length<=cs.toList.length:=by
   rw [L,<- Nat.add_mul]; simp; exact Nat.le_trans (Nat.mul_le_mul_right _ hroom) n
  refine h g cap _ e' _ (.inl rfl) hc hroom E (setRow_heap w g cs _ e' _ J) ?_ (λ j I=>?_) (ai8 J)
  ·simp only [List.size_toArray,m7 p,Array.length_toList]; exact n
  rw [zbi,cg p,L];rw [Nat.add_mul] at I;by_cases B:len*inf.size<=j
  ·rw [if_pos ⟨B,I⟩,zbj (by rw [f]; exact B),f]
  rw [if_neg (λ q=>B q.1),zar (by rw [f]; omega),zao,if_pos (by omega)]
 rw [i _ hr];refine h w.heap.size K' _ e s (.inr rfl) (by omega) hK1 hK2 hom.new ?_ (λ j I=>?_) (anq hom)
 ·simp only [List.size_toArray,hlen]; exact zam _
 rw [zbi,zar];simp only [zaq,f,L,<- Nat.add_mul];exact I
theorem bel (x v:Operand) (t u:TypeId) (C:o.op=.call { callee:=.builtin .append,args:=#[x,v],argTypes:=#[t,u] }) {e d:TypeId} {inf:TypeInfo} {z:Value} {size c:Nat} (G:P.underlying t=some (.slice e)) (E:P.underlying u=some (.slice d))
 (hi:P.info? e=some inf) (F:inf.zero=some z) (p:z.cells.size=inf.size) (H:inf.size=size) (n:inf.bytes=c) {A:Option Addr} (hx:a.eval x=.slice A 0 0)
 {A2:Option Addr} {m c2:Nat} (hv:a.eval v=.slice A2 m c2) (M:0<m) (news:List Value) (l:∀W:World,W.heap=w.heap->(Builtin.firstCells size m (.slice A2 m c2)).run P W=.ok news.toArray W)
 (y:news.length=m*size) (B:∀u∈news,u.oneCell'=true) (s:m<=maxLen) (J:m*c<=140737488355328)
 (h:∀(b:Nat) (i:Array Value) (f:World),m<=b->b<=maxLen->f.heap[w.heap.size]?=some (.cells i e (0,0))->b*size<=i.size ->
  (∀j,j<m*size->i[j]?=news[j]?)->(∀I,Keeps I w f)->K (a.put o.dst (.slice (some ⟨w.heap.size,0,none⟩) m b)) f):o.wp P a w K Q:=by
 subst H; subst n
 have k:∀r,(Builtin.append_ #[t,u] o.type #[.slice A 0 0,.slice A2 m c2]).run P w=r->(execOp a.eval o).run P w=r.andThen λ q f=>.ok (.value q) f:=by
  rintro r rfl;simp [execOp,C,resolve,invoke,builtin,hx,hv]
 unfold Oper.wp
 rcases ao5 (P:=P) (w:=w) (ty:=o.type) (fr:=(0,0)) (A:=A) (A2:=A2) (len:=0) (cap:=0) (m:=m) (c2:=c2) (g:=0) (cur:=#[]) (e':=0) (olds:=[]) (news:=news) G E hi F p (zam _) (by simp) (λ h=>absurd h (Nat.lt_irrefl 0))
  (λ W L=>bhf (w:=W) W rfl) (by simp) l y B (by omega) (by rw [zaa]; exact J) with ⟨hroom,hr⟩ | ⟨hgrow,K',f,rest,hr,hK1,hK2,hom,hlen⟩
 ·omega
 rw [k _ hr];simp only [zaa] at hK1;refine (show K (a.put o.dst (.slice (some ⟨w.heap.size,0,none⟩) (0+m) K')) f from ?_);rw [zaa];refine h K' _ f hK1 hK2 hom.new ?_ (λ j D=>?_) λ I=>anq hom
 ·simp only [List.size_toArray,hlen]; exact zam _
 rw [zbi,List.nil_append,zar];rw [y];exact D
theorem axd (x v:Operand) (t u:TypeId) (H:o.op=.call { callee:=.builtin .copy,args:=#[x,v],argTypes:=#[t,u] }) {e:TypeId} {inf:TypeInfo} {size:Nat} (F:P.underlying t=some (.slice e))
 (hi:P.info? e=some inf) (M:inf.size=size) (g d s m:Nat) {cs:Array Value} {e':TypeId} (y:w.heap[g]?=some (.cells cs e' (0,0))) {D S:Option Addr} {A B f l:Nat} (hx:a.eval x=.slice D A B) (hv:a.eval v=.slice S f l)
 (E:m=Nat.min f A) (p:0<m->D=some ⟨g,d,none⟩/\S=some ⟨g,s,none⟩) (O:d+m*size<=cs.size) (J:s+m*size<=cs.size) (G:∀u∈(cs.toList.drop s).take (m*size),u.oneCell'=true)
 (h:∀i,i.heap[g]?=some (.cells (d9 cs.toList d ((cs.toList.drop s).take (m*size))).toArray e' (0,0))->Keeps (· = g) w i->K (a.put o.dst (goInt m)) i):o.wp P a w K Q:=by
 subst M;unfold Oper.wp
 have b:∀r,(Builtin.copy_ #[t,u] o.type #[.slice D A B,.slice S f l]).run P w=r->(execOp a.eval o).run P w=r.andThen λ q i=>.ok (.value q) i:=by
  rintro r rfl;simp [execOp,H,resolve,invoke,builtin,hx,hv]
 by_cases L:m=0
 ·subst L
  have C:(Builtin.copy_ #[t,u] o.type #[.slice D A B,.slice S f l]).run P w=.ok (goInt 0) w:=by
   have I:∀(x:Addr),(loadCells x 0).run P w=.ok #[] w:=λ x=>by simpa using run_loadCells_list (P:=P) w x [] (by simp)
   cases D<;>cases S<;>simp [Builtin.copy_,run_underlying F,Builtin.lenOf,Builtin.firstCells,sizeOf,typeInfo,hi,<- E,storeCells,I]
  rw [b _ C];refine h w ?_ (Keeps.refl _ _);simp [d9,y]
 obtain ⟨rfl,rfl⟩:=p (by omega);have z:((cs.toList.drop s).take (m*inf.size)).length=m*inf.size:=by simp; omega
 have N:=aem (P:=P) (w:=w) (off:=s) (size:=inf.size) (m:=m) (m':=f) (c:=l) (news:=(cs.toList.drop s).take (m*inf.size)) y z (λ j u n=>by
  rw [zao] at n;split at n
  ·rw [List.getElem?_drop] at n; simpa using n
  cases n) w rfl
 have k:=ahv (P:=P) g d e' (0,0) ((cs.toList.drop s).take (m*inf.size)) 0 cs w y (by simp) (by rw [z]; omega) G
 have C:(Builtin.copy_ #[t,u] o.type #[.slice (some ⟨g,d,none⟩) A B,.slice (some ⟨g,s,none⟩) f l]).run P w=.ok (goInt m) (w.setRow g (d9 cs.toList d ((cs.toList.drop s).take (m*inf.size))).toArray):=by
  simp only [Nat.add_zero] at k;simp [Builtin.copy_,run_underlying F,Builtin.lenOf,sizeOf,typeInfo,hi,<- E,N,k,d9]
 rw [b _ C];exact h _ (setRow_heap w g cs _ e' _ y) (ai8 y)
end

def kc (k:Ky):List Value:=[.int .u64 k.c,.int .i64 k.v,.int .i64 k.d]
def flat (l:List Ky):List Value:=l.flatMap kc
theorem fv (l:List Ky):(flat l).length=l.length*3:=by
 induction l with
 | nil=>rfl
 | cons k l ih=>simp only [flat,List.flatMap_cons,zaq,zah] at ih |-; rw [ih]; simp [kc]; omega
variable {l:List Ky} {j:Nat}
theorem bce (h:l[i]?=some k) (a:j<3):(flat l)[i*3+j]?=(kc k)[j]?:=by
 have:∀(l:List Ky) (i:Nat),l[i]?=some k->(flat l)[i*3+j]?=(kc k)[j]?:=λ l=>by
  induction l with
  | nil=>intro i h; simp at h
  | cons q l ih=>
    intro i h;cases i with
    | zero=>
      simp at h;subst h;simp only [flat,List.flatMap_cons];rw [zar (by simp [kc]; omega)];simp
    | succ i=>
      simp at h;simp only [flat,List.flatMap_cons];rw [zbj (by simp [kc]; omega),<- ih i h];congr 1;simp [kc];omega
 exact this l i h
theorem ari:∀u∈flat l,u.oneCell'=true:=λ u b=>by
 simp only [flat,List.mem_flatMap,kc] at b;obtain ⟨k,_,a⟩:=b;simp at a;rcases a with rfl | rfl | rfl<;>rfl
def aan (w:World) (g:Nat) (l:List Ky) (c:Nat):Prop:=∃(cs:Array Value) (e:TypeId),w.heap[g]?=some (.cells cs e (0,0))/\c*3<=cs.size/\(∀(j:Nat) (u:Value),(flat l)[j]?=some u->cs[j]?=some u)/\l.length<=c/\0<c/\c<=maxLen
variable {c:Nat}
theorem aan.loc {w a:World} {g:Nat} (h:aan w g l c) (d:a.heap[g]?=w.heap[g]?):aan a g l c:=by
 obtain ⟨cs,e,f,b⟩:=h;exact ⟨cs,e,by rw [d]; exact f,b⟩
theorem aan.lt {w:World} {g:Nat} (h:aan w g l c):g<w.heap.size:=by
 obtain ⟨cs,e,a,b⟩:=h;exact (zbd.1 a).1
variable {R:Nat->Prop}
theorem aan.rel {w:World} {g:Nat} (h:aan w g l c) (s:R g):RelV w R (eh l) (.slice (some ⟨g,0,none⟩) l.length c):=by
 obtain ⟨cs,e,q,A,m,t,z,r⟩:=h;have n:=RelV.sl (w:=w) (R:=R) 3 (l.map Ky.rv) (some ⟨g,0,none⟩) c (by simpa using t) r g 0 (λ i j=>(cs[i*3+j]?).getD undef) (λ _=>⟨rfl,s⟩)
 have b:∀(i:Nat) (x:RV) (j:Nat) (y:RV),(l.map Ky.rv)[i]?=some x->x.cells[j]?=some y->∃u,y=.v u/\cs[i*3+j]?=some u/\u.oneCell'=true:=λ i x j y hi a=>by
  rw [List.getElem?_map,zbk] at hi;obtain ⟨k,p,rfl⟩:=hi;have f:j<3:=by have:=(zaf.1 a).1; simpa [Ky.rv,RV.cells] using this
  have d:=bce p f
  match j,f,a,d with
  | 0,_,a,d=>simp [Ky.rv,RV.cells] at a; subst a; exact ⟨_,rfl,m _ _ d,rfl⟩
  | 1,_,a,d=>simp [Ky.rv,RV.cells] at a; subst a; exact ⟨_,rfl,m _ _ d,rfl⟩
  | 2,_,a,d=>simp [Ky.rv,RV.cells] at a; subst a; exact ⟨_,rfl,m _ _ d,rfl⟩
 have:=n (λ i x hi=>by
  rw [List.getElem?_map,zbk] at hi;obtain ⟨k,p,rfl⟩:=hi
  rfl) (λ i x j y hi a=>by
  obtain ⟨u,rfl,h,o⟩:=b i x j y hi a;simp only [World.cell?,q,zbh,Bool.false_eq_true,if_false,zaa,h,zbe];exact ⟨trivial,o⟩) (λ i x j y hi a=>by
  obtain ⟨u,rfl,h,o⟩:=b i x j y hi a;simp only [h,zbe]
  exact .v u)
 simpa [eh] using this
def adr (a:Option Nat):Option Addr:=a.map λ g=>⟨g,0,none⟩
structure TL (w:World) (b:Nat) (og:Option Nat) (gs:List Nat) (cap:Nat) (ns:List (List Ky)) (n:Int):Prop where
 hd:∃e,w.heap[b]?=some (.cells #[.slice (adr og) ns.length cap,.int .i64 n] e (0,0))
 le:ns.length<=cap
 mx:cap<=maxLen
 no:og=none->cap=0
 out:∀g,og=some g->0<cap/\∃cs e,w.heap[g]?=some (.cells cs e (0,0))/\cap<=cs.size/\∀(i g':Nat) (l:List Ky),gs[i]?=some g'->ns[i]?=some l->∃c,cs[i]?=some (.slice (some ⟨g',0,none⟩) l.length c)/\aan w g' l c
 len:gs.length=ns.length
 nb:(b::(og.toList++gs)).Nodup
def Ft (b:Nat) (c:Option Nat) (a:List Nat) (x:Nat):Prop:=x=b\/c=some x\/x∈a
section
variable {w w':World} {b cap:Nat} {og:Option Nat} {gs:List Nat} {ns:List (List Ky)} {n:Int}
theorem TL.loc (h:TL w b og gs cap ns n) (a:∀x,Ft b og gs x->w'.heap[x]?=w.heap[x]?):TL w' b og gs cap ns n:=by
 refine ⟨?_,h.le,h.mx,h.no,λ g d=>?_,h.len,h.nb⟩
 ·obtain ⟨e,s⟩:=h.hd;exact ⟨e,by rw [a b (.inl rfl)]; exact s⟩
 obtain ⟨p,cs,e,j,q,r⟩:=h.out g d;refine ⟨p,cs,e,by rw [a g (.inr (.inl d))]; exact j,q,λ i f l hi m=>?_⟩;obtain ⟨c,o,k⟩:=r i f l hi m;exact ⟨c,o,k.loc (a f (.inr (.inr (zav hi))))⟩
theorem TL.lt (h:TL w b og gs cap ns n):∀x,Ft b og gs x->x<w.heap.size:=λ x hx=>by
 rcases hx with rfl | hx | hx
 ·obtain ⟨e,k⟩:=h.hd;exact (zbd.1 k).1
 ·obtain ⟨l,cs,e,d,_⟩:=h.out x hx;exact (zbd.1 d).1
 obtain ⟨i,hi⟩:=zbl.1 hx;have a:=(zaf.1 hi).1;rw [h.len] at a;rcases og with _ | g
 ·have:=h.no rfl; have:=h.le; omega
 obtain ⟨l,cs,e,d,m,j⟩:=h.out g rfl;obtain ⟨c,_,f⟩:=j i x ns[i] hi (by simp [a]);exact f.lt
theorem TL.rel (h:TL w b og gs cap ns n) (t:∀x,Ft b og gs x->R x):RelV w R (.sl 1 (ns.map eh)) (.slice (adr og) ns.length cap):=by
 rcases og with _ | g
 ·have u:=h.no rfl;have s:=h.le;have v:ns=[]:=List.eq_nil_of_length_eq_zero (by omega);subst v;subst u;exact .sl 1 [] none 0 (by simp) (by simp) 0 0 (λ _ _=>undef) (by simp) (by simp) (by simp) (by simp)
 obtain ⟨u,cs,e,s,v,A⟩:=h.out g rfl
 have a:∀(i:Nat) (x:RV),(ns.map eh)[i]?=some x->∃l d c,ns[i]?=some l/\x=eh l/\gs[i]?=some d/\cs[i]?=some (.slice (some ⟨d,0,none⟩) l.length c)/\aan w d l c:=λ i x hi=>by
  rw [List.getElem?_map,zbk] at hi;obtain ⟨l,q,rfl⟩:=hi;have f:=(zaf.1 q).1;have k:gs[i]?=some (gs[i]'(by rw [h.len]; exact f)):=by simp [h.len,f]
  obtain ⟨c,o,p⟩:=A i _ l k q;exact ⟨l,_,c,q,rfl,k,o,p⟩
 have r:=RelV.sl (w:=w) (R:=R) 1 (ns.map eh) (some ⟨g,0,none⟩) cap (by simpa using h.le) h.mx g 0 (λ i _=>(cs[i]?).getD undef) (λ _=>⟨rfl,t g (.inr (.inl rfl))⟩) (λ i x hi=>by
  obtain ⟨l,d,c,_,rfl,_⟩:=a i x hi
  rfl) (λ i x j y hi m=>by
  obtain ⟨l,d,c,_,rfl,_,o,_⟩:=a i x hi;have:j=0:=by have:=(zaf.1 m).1; simp [eh,RV.cells] at this; exact this
  subst this;simp only [World.cell?,s,zbh,Bool.false_eq_true,if_false,zaa,Nat.mul_one,Nat.add_zero,o,zbe];exact ⟨trivial,rfl⟩) (λ i x j y hi m=>by
  obtain ⟨l,d,c,_,rfl,z,o,p⟩:=a i x hi;have:j=0:=by have:=(zaf.1 m).1; simp [eh,RV.cells] at this; exact this
  subst this;simp [eh,RV.cells] at m;subst m;simp only [o,zbe]
  exact p.rel (t d (.inr (.inr (zav z)))))
 simpa [adr] using r
theorem TL.rp (h:TL w b og gs cap ns n) (d:∀x,Ft b og gs x->R x) :
 ∃g:Nat->Value,∀(j:Nat) (y:RV),(bz ns n)[j]?=some y->w.cell? ⟨b,0+j,none⟩=some (g j)/\(g j).oneCell'=true/\RelV w R y (g j):=by
 obtain ⟨e,c⟩:=h.hd;refine ⟨λ j=>(#[Value.slice (adr og) ns.length cap,.int .i64 n][j]?).getD undef,λ j y a=>?_⟩
 match j,a with
 | 0,a=>
   simp [bz] at a;subst a;refine ⟨by simp [World.cell?,c],rfl,h.rel d⟩
 | 1,a=>
   simp [bz] at a;subst a;exact ⟨by simp [World.cell?,c],rfl,.v _⟩
 | j+2,a=>simp [bz] at a
def fpt (b:Option Nat) (a:List Nat):Nat->Option Nat
 | 0=>b
 | j+1=>a[j]?
theorem ahy {x:Nat}:(∃j,fpt og gs j=some x)↔(og=some x\/x∈gs):=by
 constructor
 ·rintro ⟨j,a⟩;cases j with
  | zero=>exact .inl a
  | succ j=>exact .inr (zav a)
 rintro (h | h)
 ·exact ⟨0,h⟩
 obtain ⟨i,hi⟩:=zbl.1 h;exact ⟨i+1,hi⟩
end
def bmi (ns:List (List Ky)) (n:Int):AbsT where
 size:=2
 Q w b φ:=∃d f cap,TL w b d f cap ns n/\φ=fpt d f
 loc:=by
  rintro w l b φ ⟨d,f,cap,h,rfl⟩ i g;refine ⟨d,f,cap,h.loc λ x hx=>?_,rfl⟩;rcases hx with rfl | hx
  ·exact i
  obtain ⟨j,a⟩:=ahy.2 hx;exact g j x a
 root:=by
  rintro w b φ ⟨d,f,cap,h,rfl⟩;obtain ⟨e,k⟩:=h.hd;exact ⟨_,e,k,rfl⟩
 lt:=by
  rintro w b φ ⟨d,f,cap,h,rfl⟩ j c g;exact h.lt c (.inr (ahy.1 ⟨j,g⟩))
 view:=bz ns n
 rp:=by
  rintro w b φ R ⟨d,f,cap,h,rfl⟩ i g;refine h.rp λ x hx=>?_;rcases hx with rfl | hx
  ·exact i
  obtain ⟨j,a⟩:=ahy.2 hx;exact g j x a

theorem glT (w:World):Gl P0 w λ _=>False:=gl_none (by kernel_rfl) (λ _=>by kernel_rfl) (λ _=>by kernel_rfl) w
def Ky.val (k:Ky):Value:=.agg #[.int .u64 k.c,.int .i64 k.v,.int .i64 k.d]
theorem Ky.rel {w:World} (k:Ky):RelV w R k.rv k.val:=by
 refine .agg _ _ rfl λ i x c hx hc=>?_
 match i,hx,hc with
 | 0,hx,hc=>simp [] at hx hc; subst hx; subst hc; exact .v _
 | 1,hx,hc=>simp [] at hx hc; subst hx; subst hc; exact .v _
 | 2,hx,hc=>simp [] at hx hc; subst hx; subst hc; exact .v _
 | i+3,hx,hc=>simp at hx
theorem bc9 {w:World} {x:Nat} (h:x<w.heap.size):a0d w x:=⟨h,λ ⟨id,v,o,a,_⟩=>by simp [ob0,obs] at a,trivial⟩
variable {I:Nat->Prop}
theorem ap6 {w a:World} (h:Go.RowKit.Below w.heap.size w a):Keeps I w a:=⟨h.os,h.tape,h.output,h.size,λ b c _=>h.block b c⟩
section
variable {w:World} {b cap:Nat} {og:Option Nat} {gs:List Nat} {ns:List (List Ky)} {n:Int}
theorem ayt (h:TL w b og gs cap ns n) (k:Ky) (r:Nat) (hN:Nod ns k r):Calls P0 111 #[.pointer (some ⟨b,0,none⟩),k.val] w λ e a=>e=.returned (.int .i64 ((r-1:Nat):Int))/\∀I,Keeps I w a:=by
 obtain ⟨g,i⟩:=h.rp (R:=a0d w) λ x hx=>bc9 (h.lt x hx);refine (acp (a7y ns n k r hN) w (glT w) rfl (rel0_cons (.rp _ b 0 g (bc9 (h.lt b (.inl rfl))) i) (rel0_cons (.r k.rel) rel0_nil))).mono ?_;rintro e a ⟨c,rfl,f,ρ',d⟩;cases d with
 | r hv=>cases hv; exact ⟨rfl,λ I=>ap6 f⟩
theorem azj {g:Nat} (h:aan w g l c) (k:Ky) (r:Nat) (t:Plc l k r):Calls P0 112 #[.slice (some ⟨g,0,none⟩) l.length c,k.val] w λ e f=>
 e=.returned (.tuple #[.int .i64 r,.bool (decide (l[r]?=some k))])/\∀I,Keeps I w f:=by
 have a:l.length<=maxLen:=by obtain ⟨_,_,_,_,_,x,_,u⟩:=h; omega
 refine (acp (bk7 l k r t a) w (glT w) rfl (rel0_cons (.r (h.rel (bc9 h.lt))) (rel0_cons (.r k.rel) rel0_nil))).mono ?_;rintro e f ⟨c,rfl,s,ρ',o⟩;cases o with
 | tup _ cs a h=>
   have q:=h 0 _ (cs[0]'(by rw [a]; simp)) rfl (by simp [a]);have n:=h 1 _ (cs[1]'(by rw [a]; simp)) rfl (by simp [a]);refine ⟨?_,λ I=>ap6 s⟩;congr 2;have d:∀{v c:Value},RelA f (g9 (λ _=>True) (ob0 []) ρ' f) (ob0 []) ρ' (.r (.v v)) c->c=v:=λ h=>by cases h with | r h=>cases h; rfl
   have m:=d q;have p:=d n;apply Array.ext (by simp [a]);intro i b j
   match i,b,j with
   | 0,b,j=>simpa using m
   | 1,b,j=>simpa using p
   | i+2,b,j=>rw [a] at b; exact absurd (show i+2<2 from b) (by omega)
end
theorem a3h {f:FuncId} {T A:AbsT} {res:Value} (hs:A.size=T.size) (h:∀(w:World) (b:Nat) (φ:Nat->Option Nat),T.Q w b φ->Calls P0 f #[.pointer (some ⟨b,0,none⟩),k.val] w λ e M=>
 e=.returned res/\∃n,A.Q M b n/\Keeps (λ x=>x=b\/∃j,φ j=some x) w M/\(∀j c,n j=some c->(∃R,φ R=some c)\/w.heap.size<=c)) :
 a8 P0 f [.ptr 1000000 0 0,k.av] [.abs T] (.r (.v res)) [.abs A]:=by
 intro w a ρ B U hB X K q;have t:ob0 [Ob.abs T] 1000000=some (0,.abs T):=by simp [ob0,obs,upd]
 obtain ⟨b,u,W⟩:=X.obj 1000000 0 (.abs T) t
 have g:∀(H:AbsT) id x,ob0 [Ob.abs H] id=some x->id=1000000/\x=(0,.abs H):=λ H id x hx=>by
  obtain ⟨m,d,Z⟩:=aad hx
  have:id-1000000=0:=by
   have:=(zaf.1 d).1;simpa using this
  have g:id=1000000:=by omega
  subst g;have I:ob0 [Ob.abs H] 1000000=some (0,.abs H):=by simp [ob0,obs,upd]
  rw [I] at hx;exact ⟨rfl,(Option.some.inj hx).symm⟩
 have l:∀x,ng (ob0 [.abs T]) ρ x↔(x=b\/∃j,ρ (.s 1000000 j)=some x):=λ x=>by
  constructor
  ·rintro ⟨id,y,m,d⟩;obtain ⟨rfl,rfl⟩:=g T id _ m;rcases d with d | ⟨_,j,d⟩
   ·rw [u] at d; cases d; exact .inl rfl
   exact .inr ⟨j,d⟩
  rintro (rfl | ⟨j,d⟩)
  ·exact ⟨1000000,(0,.abs T),t,.inl u⟩
  exact ⟨1000000,(0,.abs T),t,.inr ⟨rfl,j,d⟩⟩
 have hc:a=#[.pointer (some ⟨b,0,none⟩),k.val]:=by
  simp at K;apply Array.ext (by simpa using K);intro i m d
  match i,m,d with
  | 0,m,d=>
    have p:=q 0 _ a[0] rfl (by simp [m]);generalize a[0]=Y at p;cases p with
    | ptr _ _ _ _ hc1 hat=>
      obtain ⟨b',L,rfl⟩:=hat.live t;rw [u] at L;cases L
      rfl
  | 1,m,d=>
    have p:=q 1 _ a[1] rfl (by simp [m]);generalize a[1]=c1 at p;cases p with
    | r p=>
      cases p with
      | agg xs cs hl p=>
        have C:∀{v c:Value},RelV w (g9 B (ob0 [.abs T]) ρ w) (.v v) c->c=v:=λ h=>by cases h; rfl
        simp only [Ky.val,List.getElem_toArray,List.getElem_cons_succ,List.getElem_cons_zero];congr 1;apply Array.ext (by simpa using hl);intro j z E
        match j,z,E with
        | 0,z,E=>exact C (p 0 _ cs[0] rfl (by simp [z]))
        | 1,z,E=>exact C (p 1 _ cs[1] rfl (by simp [z]))
        | 2,z,E=>exact C (p 2 _ cs[2] rfl (by simp [z]))
        | j+3,z,E=>exact absurd (show j+3<3 from E) (by omega)
  | i+2,m,d=>exact absurd (show i+2<2 from d) (by omega)
 subst hc;refine (h w b _ W).mono ?_;rintro e M ⟨rfl,n,S,G,N⟩;obtain ⟨ρ',m,d⟩:∃ρ':Pl->Option Nat,ρ' (.o 1000000)=some b/\∀j,ρ' (.s 1000000 j)=n j:=⟨fun | .o i=>if i=1000000 then some b else none | .s i j=>if i=1000000 then n j else none,by simp,by simp⟩
 refine ⟨_,ρ',rfl,⟨λ id v o hx=>?_,λ id O x x' c hx J _ _=>?_,⟨G.os,G.tape,G.output,G.size,λ c hc V=>G.block c hc λ hx=>V ((l c).2 hx)⟩,λ id v o c hx D=>?_,λ id c F=>?_⟩,.r (.v _)⟩
 ·obtain ⟨rfl,hx⟩:=g A id _ hx;cases hx;refine ⟨b,m,?_⟩;rw [show (λ j=>ρ' (.s 1000000 j))=n from funext d];exact S
 ·rw [(g A id _ hx).1,(g A O _ J).1]
 ·obtain ⟨rfl,hx⟩:=g A id _ hx;cases hx;rcases D with D | ⟨_,j,D⟩
  ·rw [m] at D; cases D; exact .inl ((l b).2 (.inl rfl))
  rw [d] at D;rcases N j c D with ⟨R,P⟩ | h
  ·exact .inl ((l c).2 (.inr ⟨R,P⟩))
  exact .inr h
 simp only [pu] at F;split at F
 ·rename_i v o hx;split at F
  ·rename_i ho;obtain ⟨rfl,J⟩:=g T id _ hx;refine ⟨?_,_,by simp [ob0,obs,upd]; rfl,rfl,λ h=>by cases h⟩;rw [m,<- F,u]
  cases F
 cases F

open Go Go.RowKit
variable {x:Obj}
theorem ww {w:World} {k:Nat} (h:k<w.heap.size):(w.alloc x).heap[k]?=w.heap[k]?:=by
 show (w.heap.push x)[k]? = _;simp [Array.getElem?_push,Nat.ne_of_lt h]
theorem ac3 {w:World} {k:Nat} (h:k=w.heap.size):(w.alloc x).heap[k]?=some x:=by
 subst h;show (w.heap.push x)[w.heap.size]? = _;simp
theorem ck {w:World}:Keeps I w (w.alloc x):=anq (er x)
theorem Keeps.mono {J:Nat->Prop} {w a:World} (h:Keeps I w a) (hi:∀x,I x->J x):Keeps J w a:=⟨h.os,h.tape,h.output,h.size,λ b d c=>h.block b d λ hx=>c (hi b hx)⟩
theorem bjt {w:World} {b cap:Nat} {G:Option Nat} {H:List Nat} {n:Int} (h:TL w b G H cap [] n) (k:Ky):Calls P0 64 #[.pointer (some ⟨b,0,none⟩),k.val] w λ e L=>e=.returned (.bool true) /\
 ∃F D E,TL L b F D E [[k]] 1/\Keeps (Ft b G H) w L/\∀x,Ft b F D x->Ft b G H x\/w.heap.size<=x:=by
 obtain ⟨e,A⟩:=h.hd;have O:=h.lt b (.inl rfl);have hc:w.cell? ⟨b,0,none⟩=some (.slice (adr G) 0 cap):=by simp [World.cell?,A]
 have Q:w.cell? ⟨b,1,none⟩=some (.int .i64 n):=by simp [World.cell?,A]
 have T:w.frozen? ⟨b,0,none⟩=false:=by simp [World.frozen?,A]
 have Y:w.frozen? ⟨b,1,none⟩=false:=by simp [World.frozen?,A]
 have K:b<w.heap.size+1:=by omega
 have N:b<w.heap.size+1+1:=by omega
 have P:¬b=w.heap.size:=by omega
 have U:¬b=w.heap.size+1:=by omega
 have X:¬b=w.heap.size+1+1:=by omega
 simp only [Ky.val]
 go_enter func64,Go.Proofs.Tryz.ntmps64
 go_wp2_with fail
 go_ret
 rw [setCell_eq_setRow w b 0 _ _ _ _ A,setCell_eq_setRow _ b 1 _ _ _ _ (setRow_heap w b _ _ _ _ A),setRow_setRow];generalize B:w.setRow b _=J;have S:J.heap[b]?=some (.cells #[.slice (some ⟨w.heap.size+1+1,0,none⟩) 1 1,.int .i64 1] e):=by rw [<- B]; exact setRow_heap w b _ _ _ _ A
 have W:Keeps (· = b) w J:=by rw [<- B]; exact ai8 A
 have C:J.heap.size=w.heap.size:=by rw [<- B]; simp [World.setRow]
 refine ⟨rfl,some (w.heap.size+1+1),[w.heap.size+1],1,⟨⟨e,?_⟩,by simp,by simp [maxLen],by simp,λ g V=>?_,rfl,?_⟩,?_,λ x hx=>?_⟩
 ·rw [ww (by simp [C]; omega),ww (by simp [C]; omega),ww (by simp [C]; omega),S]
  rfl
 ·cases V;refine ⟨by omega,_,_,ac3 (by simp [C]),by simp,λ i Z l hi M=>?_⟩;have I:i=0:=by have:=(zaf.1 hi).1; simp at this; exact this
  subst I;simp at hi M;subst hi; subst M;refine ⟨1,rfl,_,_,by rw [ww (by simp [C])]; exact ac3 (by simp [C]),by simp,?_,by simp,by simp,by simp [maxLen]⟩;intro j u R;simpa [flat,kc] using R
 ·simp;omega
 ·exact (W.mono λ x hx=>.inl hx).trans ((ck.trans ck).trans ck)
 rcases hx with h | h | h
 ·exact .inl (.inl h)
 ·simp at h; omega
 simp at h; omega

open Go Go.RowKit
section
variable {w:World} {b g cap:Nat} {og:Option Nat} {gs:List Nat} {ns:List (List Ky)} {n:Int}
theorem TL.root (h:TL w b (some g) gs cap ns n):w.cell? ⟨b,0,none⟩=some (.slice (some ⟨g,0,none⟩) ns.length cap)/\w.cell? ⟨b,1,none⟩=some (.int .i64 n)/\w.frozen? ⟨b,0,none⟩=false/\w.frozen? ⟨b,1,none⟩=false/\b<w.heap.size:=by
 obtain ⟨e,a⟩:=h.hd;exact ⟨by simp [World.cell?,a,adr],by simp [World.cell?,a],by simp [World.frozen?,a],by simp [World.frozen?,a],h.lt b (.inl rfl)⟩
theorem TL.some_ (h:TL w b og gs cap ns n) (a:ns[i]?=some l):∃g,og=some g:=by
 rcases og with _ | g
 ·have:=h.no rfl;have:=h.le;have:=(zaf.1 a).1;omega
 exact ⟨g,rfl⟩
theorem TL.node (h:TL w b (some g) gs cap ns n) (j:ns[i]?=some l):∃f c,gs[i]?=some f/\aan w f l c/\w.cell? ⟨g,i,none⟩=some (.slice (some ⟨f,0,none⟩) l.length c)/\w.frozen? ⟨g,i,none⟩=false:=by
 obtain ⟨r,cs,e,k,q,o⟩:=h.out g rfl;have a:=(zaf.1 j).1;have d:gs[i]?=some (gs[i]'(by rw [h.len]; exact a)):=by simp [h.len,a]
 obtain ⟨c,p,m⟩:=o i _ l d j;exact ⟨_,c,d,m,by simp [World.cell?,k,p],by simp [World.frozen?,k]⟩
end
def KB (w:World) (B:Nat) (k:Ky):Prop:=w.heap[B]?=some (.cells #[.int .u64 k.c,.int .i64 k.v,.int .i64 k.d] 120 (0,0))
variable {B:Nat}
theorem KB.cells {w:World} (h:KB w B k):w.cell? ⟨B,0,none⟩=some (.int .u64 k.c)/\w.cell? ⟨B,1,none⟩=some (.int .i64 k.v)/\w.cell? ⟨B,2,none⟩=some (.int .i64 k.d):=by
 unfold KB at h;exact ⟨by simp [World.cell?,h],by simp [World.cell?,h],by simp [World.cell?,h]⟩
theorem KB.keeps {w a:World} (h:KB w B k) (c:Keeps I w a) (b:¬I B):KB a B k:=by
 unfold KB at h |-;rw [c.block B (zbd.1 h).1 b];exact h
theorem TL.keeps {w d:World} {b cap:Nat} {a:Option Nat} {c:List Nat} {ns:List (List Ky)} {n:Int} (h:TL w b a c cap ns n) (f:Keeps I w d) (e:∀x,Ft b a c x->¬I x):TL d b a c cap ns n:=
 h.loc λ x hx=>f.block x (h.lt x hx) (e x hx)
theorem bjs {w:World} {b cap:Nat} {J:Option Nat} {K:List Nat} {ns:List (List Ky)} {n:Int} (h:TL w b J K cap ns n) (k:Ky) (r s:Nat) (l:List Ky) (hN:Nod ns k r) (E:ns[r-1]?=some l) (T:Plc l k s) (O:l[s]?=some k):Calls P0 64 #[.pointer (some ⟨b,0,none⟩),k.val] w λ e G=>e=.returned (.bool false) /\
 TL G b J K cap ns n/\∀I,Keeps I w G:=by
 obtain ⟨g,rfl⟩:=h.some_ E;have P:r-1<ns.length:=(zaf.1 E).1;generalize S:r-1=i at *;obtain ⟨U,c1,Z,f1,L⟩:=h.root;have N:((ns.length:Int) == 0)=false:=by rw [beq_eq_false_iff_ne]; omega
 have D:∀x,Keeps (λ _=>False) w (w.alloc x):=λ x=>ck;have i0:(0:Int)<=(i:Int):=by omega
 have W:(i:Int)<(ns.length:Int):=by omega
 simp only [Ky.val]
 go_enter func64,Go.Proofs.Tryz.ntmps64
 go_wp2_with fail
 have H:=h.keeps (D (.cells #[.int .u64 k.c,.int .i64 k.v,.int .i64 k.d] 120)) (λ _ _ q=>q);have Q:KB (w.alloc (.cells #[.int .u64 k.c,.int .i64 k.v,.int .i64 k.d] 120)) w.heap.size k:=ac3 rfl;refine (ayt H k r hN).mono ?_;rintro e w2 ⟨rfl,A⟩;rw [S];have F:=H.keeps (A λ _=>False) (λ _ _ q=>q);have R:=Q.keeps (A λ _=>False) (λ q=>q);obtain ⟨d0,d1,f2,V,_⟩:=F.root;obtain ⟨g',c,M,C,d2,X⟩:=F.node E;obtain ⟨k0,k1,Y⟩:=R.cells
 go_wp2_with fail
 refine (azj C k s T).mono ?_;rintro e w3 ⟨rfl,B⟩;rw [decide_eq_true O]
 go_wp2_with fail
 go_ret
 refine ⟨rfl,F.keeps (B λ _=>False) (λ _ _ q=>q),λ I=>(ck.trans (A I)).trans (B I)⟩

open Go Go.RowKit
theorem aey (a b:List Ky):flat (a++b)=flat a++flat b:=by simp [flat]
theorem a8u (k:Ky) (b:List Ky):flat (k::b)=kc k++flat b:=by simp [flat]
variable {α:Type}
theorem a3p (L:List α) (i:Nat) (a b c:α) (h:i+3<=L.length):((L.set i a).set (i+1) b).set (i+2) c=d9 L i [a,b,c]:=by
 apply zbf;intro j;rw [cg (by simpa using h)];simp only [List.getElem?_set,List.length_set,zah,zab];by_cases f:j=i
 ·subst f; simp; omega
 by_cases e:j=i+1
 ·subst e; simp; omega
 by_cases d:j=i+2
 ·subst d; simp; omega
 rw [if_neg (by omega),if_neg (by omega),if_neg (by omega),if_neg (by omega)]
theorem aja {cs:List Value} {s:Nat} (m:s<=l.length) (n:(flat l++kc k) <+: cs) :
 flat (l.take s++k::l.drop s) <+: d9 (d9 cs ((s+1)*3) ((cs.drop (s*3)).take ((l.length-s)*3))) (s*3) (kc k):=by
 obtain ⟨t,rfl⟩:=n;obtain ⟨A,a⟩:∃A,A=flat (l.take s):=⟨_,rfl⟩
 obtain ⟨D,b⟩:∃D,D=flat (l.drop s):=⟨_,rfl⟩
 have h:flat l=A++D:=by rw [a,b,<- aey,zbm]
 have o:A.length=s*3:=by rw [a,fv,zay,zaz m]
 have g:D.length=(l.length-s)*3:=by rw [b,fv,List.length_drop]
 have c:(kc k).length=3:=rfl;rw [aey,a8u,<- a,<- b,h,<- o,<- g,show (s+1)*3=A.length+3 by omega];refine ⟨t,?_⟩;obtain ⟨E,d⟩:∃E,E=(D++kc k++t).take 3:=⟨_,rfl⟩
 have f:E.length=3:=by rw [d]; simp; omega
 have i:(A++D++kc k++t).take (A.length+3)=A++E:=by
  rw [d,zal A D,zal A,List.take_length_add_append]
 have p:((A++D++kc k++t).drop A.length).take D.length=D:=by
  rw [zal A D,zal A,List.drop_left,zal D,List.take_left]
 have q:(A++D++kc k++t).drop (A.length+3+D.length)=t:=by
  have:A.length+3+D.length=(A++D++kc k).length:=by simp [c]; omega
  rw [this,List.drop_left]
 have j:d9 (A++D++kc k++t) (A.length+3) D=A++(E++(D++t)):=by
  unfold d9;rw [i,q];simp
 rw [p,j];unfold d9
 have e:(A++(E++(D++t))).drop (A.length+3)=D++t:=by
  have:A.length+3=(A++E).length:=by simp [f]
  rw [this,<- zal,List.drop_left]
 rw [List.take_left,c,e];simp
variable {cs2:Array Value} {X:List Value}
theorem bju (h:∀j,j<X.length->cs2[j]?=X[j]?) (b:X.length<=cs2.size):X <+: cs2.toList:=by
 rw [List.prefix_iff_eq_take];apply zbf;intro j;rw [zao];by_cases a:j<X.length
 ·rw [if_pos a,<- h j a];simp
 rw [if_neg a];simp;omega
theorem dw {w a:World} {x:Nat} (h:a.heap[x]?=w.heap[x]?) (o:Nat):a.cell? ⟨x,o,none⟩=w.cell? ⟨x,o,none⟩:=by simp only [World.cell?,h]
theorem ui {w a:World} {x:Nat} (h:a.heap[x]?=w.heap[x]?) (o:Nat):a.frozen? ⟨x,o,none⟩=w.frozen? ⟨x,o,none⟩:=by simp only [World.frozen?,h]
variable {cs:Array Value} {e:TypeId} {fr:Nat×Nat}
theorem yi {w:World} {g o:Nat} (h:w.heap[g]?=some (.cells cs e fr)) (a:o<cs.size):∃v,w.cell? ⟨g,o,none⟩=some v:=⟨cs[o],by simp [World.cell?,h,a]⟩
theorem om {w:World} {g o:Nat} (h:w.heap[g]?=some (.cells cs e (0,0))):w.frozen? ⟨g,o,none⟩=false:=by simp [World.frozen?,h]
theorem ao0 {w:World}:(w.alloc x).heap.size=w.heap.size+1:=by simp
variable {v:Value}
theorem bd {w:World} {g o:Nat} (h:w.heap[g]?=some (.cells cs e fr)):(w.setCell ⟨g,o,none⟩ v).heap[g]?=some (.cells (cs.setIfInBounds o v) e fr):=by
 rw [setCell_eq_setRow w g o cs e fr v h];exact setRow_heap w g _ _ _ _ h
theorem z7 {w:World} {g o x:Nat} (h:w.heap[g]?=some (.cells cs e fr)) (hx:x≠g):(w.setCell ⟨g,o,none⟩ v).heap[x]?=w.heap[x]?:=by
 rw [setCell_eq_setRow w g o cs e fr v h];exact setRow_other w g x _ hx
theorem z8 {w:World} {g o:Nat} (h:w.heap[g]?=some (.cells cs e fr)) (d:I g):Keeps I w (w.setCell ⟨g,o,none⟩ v):=by
 rw [setCell_eq_setRow w g o cs e fr v h];have a:=ai8 (cs:=cs.setIfInBounds o v) h;exact ⟨a.os,a.tape,a.output,a.size,λ b f c=>a.block b f λ q=>c (q▸d)⟩
theorem vr {w a:World} (h:Keeps (λ x=>I x\/w.heap.size<=x) w a):Keeps I w a:=⟨h.os,h.tape,h.output,h.size,λ b d c=>h.block b d λ q=>by rcases q with q | q; exact c q; omega⟩
theorem awv {a:Nat} (b:a<=l.length):(flat l)[a*3+j]?=(flat (l.drop a))[j]?:=by
 have:flat l=flat (l.take a)++flat (l.drop a):=by rw [<- aey,zbm]
 have c:(flat (l.take a)).length=a*3:=by rw [fv,zay,zaz b]
 rw [this,zbj (by omega),c];congr 1;omega
theorem awu {a:Nat} {u:Value} (h:(flat (l.take a))[j]?=some u):(flat l)[j]?=some u:=by
 have:flat l=flat (l.take a)++flat (l.drop a):=by rw [<- aey,zbm]
 rw [this,zar (zaf.1 h).1];exact h
variable {A:List Value}
theorem ba8 (c:∀(j:Nat) (u:Value),A[j]?=some u->cs[j]?=some u):cs.toList.take A.length=A:=by
 apply zbf;intro j;rw [zao];by_cases a:j<A.length
 ·have b:A[j]?=some A[j]:=by simp [a]
  rw [if_pos a,b,<- c j _ b];simp
 rw [if_neg a,eq_comm,List.getElem?_eq_none_iff];omega
theorem a1r {B:List Value} {N:Nat} (hN:A.length=N) (a:∀(j:Nat) (u:Value),A[j]?=some u->cs[j]?=some u) (h:∀j,j<N+B.length->cs2[j]?=(cs.toList.take N++B)[j]?) (b:N+B.length<=cs2.size):(A++B) <+: cs2.toList:=by
 subst hN;rw [ba8 a] at h;exact bju (λ j c=>h j (by simpa using c)) (by simpa using b)
theorem a1b {L:List Value} (c:X <+: L) (d:∀u∈X,u.oneCell'=true) {a m:Nat} (h:a+m<=X.length):∀u∈(L.drop a).take m,u.oneCell'=true:=λ u e=>by
 obtain ⟨t,rfl⟩:=c;obtain ⟨j,b⟩:=zbl.1 e;rw [zao] at b;split at b
 ·rw [List.getElem?_drop,zar (by omega)] at b;exact d u (zav b)
 cases b
theorem bku {L:List α} {x y:α} (h:i<L.length) (j:Nat):(L.take i++x::y::L.drop (i+1))[j]?=if j<i then L[j]? else if j=i then some x else if j=i+1 then some y else L[j-1]?:=by
 have d:(L.take i).length=i:=by simp; omega
 rw [List.getElem?_append,d];by_cases a:j<i
 ·rw [if_pos a,if_pos a,zao,if_pos a]
 rw [if_neg a,if_neg a];by_cases b:j=i
 ·subst b; simp
 rw [if_neg b];by_cases c:j=i+1
 ·subst c; simp
 rw [if_neg c];obtain ⟨m,rfl⟩:∃m,j=i+2+m:=⟨j-(i+2),by omega⟩
 rw [show i+2+m-i=m+2 by omega];simp only [List.getElem?_cons_succ,List.getElem?_drop];congr 1;omega
section
variable {w w':World} {b g cap:Nat} {gs:List Nat} {ns:List (List Ky)} {n n':Int}
theorem TL.put (h:TL w b (some g) gs cap ns n) (hi:i<ns.length) {k c2:Nat} {t:List Ky} (R:∃e,w'.heap[b]?=some (.cells #[.slice (some ⟨g,0,none⟩) ns.length cap,.int .i64 n'] e (0,0)))
 (K:∃cs e,w.heap[g]?=some (.cells cs e (0,0))/\w'.heap[g]?=some (.cells (cs.setIfInBounds i (.slice (some ⟨k,0,none⟩) t.length c2)) e (0,0))) (r:aan w' k t c2)
 (E:∀(j x:Nat),j≠i->gs[j]?=some x->w'.heap[x]?=w.heap[x]?) (f:gs[i]?=some k\/(k≠b/\k≠g/\k∉gs)):TL w' b (some g) (gs.set i k) cap (ns.set i t) n':=by
 obtain ⟨L,cs,e,D,P,S⟩:=h.out g rfl;obtain ⟨H,e',B,J⟩:=K;rw [D] at B;cases B;refine ⟨?_,by simpa using h.le,h.mx,by simp,λ U s=>?_,by simp [h.len],?_⟩
 ·obtain ⟨e,T⟩:=R;exact ⟨e,by rw [T]; simp [adr]⟩
 ·cases s;refine ⟨L,_,_,J,by simpa using P,λ j x l o p=>?_⟩;rw [List.getElem?_set] at o p;by_cases a:i=j
  ·subst a;simp [h.len,hi] at o p;subst o; subst p;refine ⟨c2,?_,r⟩;have:i<cs.size:=by have:=h.le; omega
   simp [this]
  rw [if_neg a] at o p;obtain ⟨c,M,F⟩:=S j x l o p;refine ⟨c,?_,F.loc (E j x (Ne.symm a) o)⟩;rw [Array.getElem?_setIfInBounds,if_neg a];exact M
 have m:=h.nb;simp only [Option.toList_some,zba,List.nil_append] at m |-;rcases f with f | ⟨Q,p2,N⟩
 ·have:gs.set i k=gs:=by
   apply zbf;intro j;rw [List.getElem?_set];split
   ·rename_i a; subst a; rw [f]; simp; exact (zaf.1 f).1
   rfl
  rw [this];exact m
 simp only [List.nodup_cons,zai,not_or] at m |-;obtain ⟨⟨G,I⟩,O,C⟩:=m;refine ⟨⟨G,λ d=>?_⟩,λ d=>?_,?_⟩
 ·rcases List.mem_or_eq_of_mem_set d with d | d
  ·exact I d
  exact Q d.symm
 ·rcases List.mem_or_eq_of_mem_set d with d | d
  ·exact O d
  exact p2 d.symm
 rw [List.Nodup,List.pairwise_iff_getElem] at C |-;intro x y hx hy u;rw [List.length_set] at hx hy;simp only [List.getElem_set];have v:∀z (A:z<gs.length),gs[z]≠k:=λ z A q=>N (q▸List.getElem_mem A);split
 ·rw [if_neg (by omega)];exact λ q=>v y hy q.symm
 split
 ·exact v x hx
 exact C x y hx hy u
end

end
end Go.Ev

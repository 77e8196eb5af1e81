import Derived.Test.YtpibfnekkfhkmaaGreatM12
open Nat renaming reduceBEq → zB, reduceEqDiff → zE, reduceAdd → zA, reduceSub → zS, reduceLT → zL, reduceLeDiff → zD, reduceMul → zM
open Go.Proofs.Tryz renaming prog → P0
open Go.Proofs.Tryz
open Int renaming toNat_natCast → zaa, toNat_natCast_add_one → zah
open List renaming length_pos_iff → zab, length_map → zad, length_nil → zae, mem_of_getElem? → zaf, take_of_length_le → zai, mem_map → zaj, take_length → zak, foldl_append → zal, pairwise_iff_getElem → zam
open Nat renaming zero_add → zac
namespace Go.Ev
set_option maxHeartbeats 8000000
set_option maxRecDepth 100000
noncomputable section
open Go
set_option linter.unusedSectionVars false
set_option linter.unnecessarySimpa false
set_option linter.unusedVariables false
def adj:Mk P0 f51:={ x:=_ }
def adh:Mk P0 f25:={ x:=_ }
theorem bjd (a:List Int) (b:a.length<=1000):a8 P0 93 [.r (.sl 1 (be a))] [] (.own 1000000 0 0 (qj a).length) [j7 (qj a)]:=by
 by_cases h:qj a=[]
 ·have:=aed (bdo a b (.inl ⟨h,rfl,rfl⟩));rw [h];exact this
 exact bdo a b (.inr ⟨h,rfl,rfl⟩)
def ak (L:List Pt):AV:=.r (.sl 4 (L.map Pt.rv))
variable {L:List Pt} {i:Nat} {p:Pt}
theorem a7f (h:L[i]?=some p) (z:RV):(L.map Pt.rv).getD i z=.agg [.v (.int .i64 p.k),.v (.int .i64 p.x),.v (.int .i64 p.y),.v (.int .i64 p.v)]:=by
 rw [List.getD_eq_getElem?_getD,List.getElem?_map,h]; rfl
def ws9 (L:List Pt) (r:Nat):List Int:=L.map λ p=>((p.w r:Nat):Int)
def ua (L:List Pt) (r:Nat):List Int:=qj (ws9 L r)
theorem bcx (L:List Pt) (E:L.length<=40) (q:∀p∈L,p.ok) (r:Int) (D:0<=r/\r<=12) :
 a8 P0 51 [ak L,int .i64 r] [] (.own 1000000 0 0 (ua L r.toNat).length) [j7 (ua L r.toNat)]:=by
 refine adj.t func51 ?_;have B:=g7;have j:decide (r>=0)=true:=decide_eq_true (by omega);have h:decide (r<=12)=true:=decide_eq_true (by omega);have b:=bjd (ws9 L r.toNat) (by simp [ws9]; omega);have l:∀i,(ws9 (L.take i) r.toNat).length<=i:=λ i=>by unfold ws9; simp; omega
 push_cast [adj,ak,zae]
 refine b9 [(6,false),(0,false),(1,false),(5,false)] (λ vs pos d=>∃i:Nat,i<=L.length/\pos=[] /\
  (i=0/\vs=[int .i64 i,ak L,int .i64 r,.nils 1 (.v (.int .u64 0))]/\d=[] \/
   i≠0/\vs=[int .i64 i,ak L,int .i64 r,.own 2000000 0 0 (ws9 (L.take i) r.toNat).length]/\d=[j7 (ws9 (L.take i) r.toNat)]))
  (λ vs _ _=>match vs with | .r (.v (.int _ a))::_=>(L.length-a).toNat | _=>0) rfl ?_ ?_
 ·push_cast [ak]
  exact ⟨0,by omega,.inl ⟨rfl,by simp⟩⟩
 rintro vs pos d ⟨i,hi,rfl,c⟩;have s:=l i;have u:IntKind.i64.wrap ((i:Int)+1)=(i:Int)+1:=a5 (by omega);by_cases C:i<L.length
 ·have f:decide ((i:Int)<(L.length:Int))=true:=decide_eq_true (by omega);obtain ⟨p,o⟩:∃p,L[i]?=some p:=⟨L[i],by simp [C]⟩
  have m:=q p (zaf o);have g:=λ z=>a7f o z;have A:=avp p.x p.y r m.2.1 D
  have hN:ws9 (L.take (i+1)) r.toNat=ws9 (L.take i) r.toNat++[((p.w r.toNat:Nat):Int)]:=by
   unfold ws9;rw [List.take_add_one,o,List.map_append]
   rfl
  rcases c with ⟨k,rfl,rfl⟩ | ⟨k,rfl,rfl⟩
  ·push_cast [ak,zad,f,j,h,g,zaa,zah,zac]
   refine And.intro (by omega) (And.intro (by omega) ?_);refine i5 (as':=[int .i64 p.x,int .i64 p.y,int .i64 r]) rfl ?_;refine d5 A rfl trivial ?_
   push_cast [ak,uw,u,j8,zaa,zah,zac]
   refine And.intro (by simp) (And.intro (by omega) (And.intro (by kernel_rfl) ?_));subst k;exact ⟨⟨1,by omega,.inr ⟨by omega,by rw [hN]; simp [ws9],by rw [hN]; simp [ws9,j7,be,Pt.w]⟩⟩,by omega⟩
  push_cast [ak,j7,zad,f,j,h,g,zaa,zah,zac]
  refine And.intro (by omega) (And.intro (by omega) ?_);refine i5 (as':=[int .i64 p.x,int .i64 p.y,int .i64 r]) rfl ?_;refine d5 A rfl trivial ?_
  push_cast [ak,uw,u,j8,zaa,zah,zac]
  refine And.intro (by simp) (And.intro ⟨by omega,by omega⟩ (And.intro (by kernel_rfl) ?_));exact ⟨⟨i+1,by omega,.inr ⟨by omega,by rw [hN]; simp,by rw [hN]; simp [be,Pt.w,zai]⟩⟩,by omega⟩
 have f:decide ((i:Int)<(L.length:Int))=false:=decide_eq_false (by omega);have n:i=L.length:=by omega
 rcases c with ⟨k,rfl,rfl⟩ | ⟨k,rfl,rfl⟩
 ·push_cast [ak,zad,f,j,h]
  have e:ws9 L r.toNat=[]:=by
   have:L=[]:=List.eq_nil_of_length_eq_zero (by omega);rw [this]; rfl
  rw [e] at b;refine b5 (as':=[.r (.sl 1 (be []))]) rfl ?_;refine a6 b rfl trivial ?_;unfold ua
  push_cast [e,j7]
 push_cast [ak,j7,zad,f,j,h]
 rw [n,zak];refine j9 ?_;rw [zai (by rw [j8]; exact Nat.le_refl _)];refine a6 b rfl trivial ?_;unfold ua
 push_cast [j7]
def fg (L:List Pt) (t:Til):List Int:=(ua L t.r.toNat).filter (tw t)
variable {r:Nat} {n:Int}
theorem awp (h:n∈ua L r):∃p∈L,n=((p.w r:Nat):Int):=by
 have a:=((aiz (ws9 L r) [] List.Pairwise.nil).2 n).1 h;rcases a with a | a
 ·cases a
 obtain ⟨p,b,rfl⟩:=zaj.1 a;exact ⟨p,b,rfl⟩
theorem att (L:List Pt) (r:Nat):(ua L r).length<=L.length:=by
 have:=ax3 (ws9 L r);simpa [ua,ws9] using this
theorem bmx (t:Til) (h:tis t=true) (c:cn t=false) (p:Pt) (a:p.ok):a8 P0 52 [t.v,int .u64 ((p.w t.r.toNat:Nat):Int)] [] (bl (tw t ((p.w t.r.toNat:Nat):Int))) []:=by
 have g:0<=t.z/\t.z<=18/\0<=t.r/\t.r<=12/\0<=t.x/\t.x<2^t.z.toNat/\0<=t.y/\t.y<2^t.z.toNat:=by simpa [tis] using h
 have b:=mf p.x p.y t.r.toNat a.2.1.1 a.2.1.2 (by omega);obtain ⟨i,c2,f,j⟩:=nh t.r.toNat _ b;have d:=aq7 p.x p.y t.r.toNat (by omega);have:=bd0 t h c _ b (rz (by omega) a.2.1 d)
 have e:tw t ((p.w t.r.toNat:Nat):Int)=tch (g8 p.x p.y t.r.toNat) t.r.toNat (2^(30-t.z).toNat) t.x t.y:=by
  unfold tw;rw [zaa,show p.w t.r.toNat=y6 t.r.toNat (g8 p.x p.y t.r.toNat) from rfl,f]
 rw [e];exact this
theorem ax2 (L:List Pt) (H:L.length<=40) (o:∀p∈L,p.ok) (t:Til) (h:tis t=true) (K:cn t=false) {res:AV} {ro:List Ob}
 (e:(fg L t=[]/\res=.nils 1 (.v (.int .u64 0))/\ro=[])\/(fg L t≠[]/\res=.own 1000000 0 0 (fg L t).length/\ro=[j7 (fg L t)])) :
 a8 P0 25 [t.v,ak L] [] res ro:=by
 refine adh.t func25 ?_;have G:=g7;have E:0<=t.z/\t.z<=18/\0<=t.r/\t.r<=12/\0<=t.x/\t.x<2^t.z.toNat/\0<=t.y/\t.y<2^t.z.toNat:=by simpa [tis] using h
 have q:=bcx L H o t.r ⟨E.2.2.1,E.2.2.2.1⟩;have F:=att L t.r.toNat;have B:=λ n (h:n∈ua L t.r.toNat)=>awp h;have s:fg L t=(ua L t.r.toNat).filter (tw t):=rfl;rw [s] at e;have u:∀C:List Int,∀i,((C.take i).filter (tw t)).length<=C.length:=λ C i=>Nat.le_trans (List.length_filter_le _ _) (by rw [List.length_take]; exact Nat.min_le_right _ _);generalize ua L t.r.toNat=C at *
 push_cast [adh,Til.v,ak,zae]
 refine b5 (as':=[ak L,int .i64 t.r]) rfl ?_;refine a6 q rfl trivial ?_
 push_cast [j7,j8]
 refine b9 [(7,false),(6,false),(2,false),(5,false)] (λ vs pos j=>∃i:Nat,i<=C.length/\pos=[] /\
  ((C.take i).filter (tw t)=[]/\vs=[int .i64 i,.own 2000000 0 0 C.length,.ptr 2000001 0 0,.nils 1 (.v (.int .u64 0))]/\j=[j7 C,.box [int .i64 t.z,int .i64 t.x,int .i64 t.y,int .i64 t.r]] \/
   (C.take i).filter (tw t)≠[]/\vs=[int .i64 i,.own 2000000 0 0 C.length,.ptr 2000001 0 0,.own 2000002 0 0 ((C.take i).filter (tw t)).length]/\j=[j7 C,.box [int .i64 t.z,int .i64 t.x,int .i64 t.y,int .i64 t.r],j7 ((C.take i).filter (tw t))]))
  (λ vs _ _=>match vs with | .r (.v (.int _ a))::_=>(C.length-a).toNat | _=>0) rfl ?_ ?_
 ·push_cast [j7]
  exact ⟨0,by omega,.inl ⟨rfl,by simp⟩⟩
 rintro vs pos j ⟨i,hi,rfl,c⟩;have k:IntKind.i64.wrap ((i:Int)+1)=(i:Int)+1:=a5 (by omega);have I:=u C i;by_cases J:i<C.length
 ·have l:decide ((i:Int)<(C.length:Int))=true:=decide_eq_true (by omega);obtain ⟨n,g⟩:∃n,C[i]?=some n:=⟨C[i],by simp [J]⟩
  obtain ⟨p,M,rfl⟩:=B n (zaf g);have D:=bmx t h K p (o p M);have b:=ajm (f:=tw t) g;rcases c with ⟨d,rfl,rfl⟩ | ⟨d,rfl,rfl⟩
  ·push_cast [j7,l,aj g,y7 g,j8]
   refine sO ?_;refine i5 (as':=[t.v,int .u64 ((p.w t.r.toNat:Nat):Int)]) rfl ?_;refine d5 D rfl trivial ?_
   push_cast [j7,j8,k]
   refine And.intro (by kernel_rfl) ?_;refine b7 (λ hc=>?_) (λ hc=>?_)
   ·rw [if_pos hc] at b
    push_cast [k,j7,aj g,y7 g,j8]
    refine And.intro (by omega) (And.intro (by simp) (And.intro (by omega) ?_));exact ⟨⟨i+1,by omega,.inr ⟨by rw [b]; simp,by rw [b]; simp [d],by rw [b]; simp [be,d]⟩⟩,by omega⟩
   rw [if_neg (by rw [hc]; simp),List.append_nil] at b
   push_cast [k,j7,j8]
   exact ⟨⟨i+1,by omega,.inl ⟨by rw [b]; exact d,by simp⟩⟩,by omega⟩
  push_cast [j7,l,aj g,y7 g,j8]
  refine sO ?_;refine i5 (as':=[t.v,int .u64 ((p.w t.r.toNat:Nat):Int)]) rfl ?_;refine d5 D rfl trivial ?_
  push_cast [j7,j8,k]
  refine And.intro (by kernel_rfl) ?_;refine b7 (λ hc=>?_) (λ hc=>?_)
  ·rw [if_pos hc] at b
   push_cast [k,j7,aj g,y7 g,j8]
   refine And.intro (by omega) (And.intro (by simp) (And.intro ⟨by omega,by omega⟩ ?_));exact ⟨⟨i+1,by omega,.inr ⟨by rw [b]; simp,by rw [b]; simp [],by rw [b]; simp [be,zai]⟩⟩,by omega⟩
  rw [if_neg (by rw [hc]; simp),List.append_nil] at b
  push_cast [k,j7,j8]
  exact ⟨⟨i+1,by omega,.inr ⟨by rw [b]; exact d,by rw [b]; simp,by rw [b]⟩⟩,by omega⟩
 have l:decide ((C.length:Int)<(C.length:Int))=false:=decide_eq_false (by omega);have A:i=C.length:=by omega
 rw [A,zak] at c;rcases c with ⟨d,rfl,rfl⟩ | ⟨d,rfl,rfl⟩
 ·rcases e with ⟨m,rfl,rfl⟩ | ⟨m,rfl,rfl⟩
  ·push_cast [j7,l,j8]
  exact absurd d m
 rcases e with ⟨m,rfl,rfl⟩ | ⟨m,rfl,rfl⟩
 ·exact absurd m d
 push_cast [j7,l,j8]
theorem ax1 (L:List Pt) (d:L.length<=40) (a:∀p∈L,p.ok) (t:Til) (h:tis t=true) (c:cn t=false) :
 a8 P0 25 [t.v,ak L] [] (.own 1000000 0 0 (fg L t).length) [j7 (fg L t)]:=by
 by_cases b:fg L t=[]
 ·have:=aed (ax2 L d a t h c (.inl ⟨b,rfl,rfl⟩));rw [b];exact this
 exact ax2 L d a t h c (.inr ⟨b,rfl,rfl⟩)

def acw:Mk P0 f43:={ x:=_ }
structure Sm where
 n:Int
 s:Int
 lo:Int
 hi:Int
def smS (w:Nat) (r:Nat) (a:Sm) (p:Pt):Sm:=
 if p.w r=w then ⟨a.n+1,if a.n=0 then p.v else a.s+p.v,if a.n=0 then p.v else min a.lo p.v,if a.n=0 then p.v else max a.hi p.v⟩ else a
def smL (L:List Pt) (w:Nat) (r:Nat):Sm:=L.foldl (smS w r) ⟨0,0,0,0⟩
def Sm.ok (a:Sm) (i:Nat):Prop:=(0<=a.n/\a.n<=i)/\(-2147483648*i<=a.s/\a.s<=2147483648*i)/\(-2147483648<=a.lo/\a.lo<=2147483648)/\(-2147483648<=a.hi/\a.hi<=2147483648)
variable {w:Nat}
theorem bja {a:Sm} (h:a.ok i) (p:Pt) (b:p.ok):(smS w r a p).ok (i+1):=by
 obtain ⟨f,e,c,d⟩:=h;have hv:=b.2.2;unfold smS;split
 ·refine ⟨by simp only; omega,?_,?_,?_⟩
  ·simp only;split<;>omega
  ·simp only;split<;>omega
  simp only;split<;>omega
 exact ⟨by omega,by omega,c,d⟩
theorem axy (L:List Pt) (a:∀p∈L,p.ok) (w r:Nat):∀i,i<=L.length->(smL (L.take i) w r).ok i
 | 0,_=>by simp [smL,Sm.ok]
 | i+1,hi=>by
   have b:=axy L a w r i (by omega)
   have e:smL (L.take (i+1)) w r=smS w r (smL (L.take i) w r) (L[i]'(by omega)):=by
    unfold smL;rw [List.take_succ_eq_append_getElem (by omega),zal]
    rfl
   rw [e];exact bja b _ (a _ (List.getElem_mem _))
theorem bh3 {a b:Int} (h:(a != b)=true):decide (a≠b)=true:=by simpa using h
def Sm.bx (a:Sm) (w:Nat):List AV:=[int .u64 (if a.n=0 then 0 else (w:Nat)),int .i64 a.n,int .i64 a.s,int .i64 a.lo,int .i64 a.hi]
def Sm.v (a:Sm) (w:Nat):RV:=.agg [.v (.int .u64 (if a.n=0 then 0 else (w:Nat))),.v (.int .i64 a.n),.v (.int .i64 a.s),.v (.int .i64 a.lo),.v (.int .i64 a.hi)]
theorem bck (L:List Pt) (V:L.length<=40) (k:∀p∈L,p.ok) (r:Nat) (U:r<=12) (q:Pt) (F:q.ok) :
 a8 P0 43 [ak L,int .u64 ((q.w r:Nat):Int)] [] (.tup [.r ((smL L (q.w r) r).v (q.w r)),bl (decide ((smL L (q.w r) r).n>0))]) []:=by
 refine acw.t func43 ?_;have R:=mf q.x q.y r F.2.1.1 F.2.1.2 U;have hc:=aqv (r:Int) (g8 q.x q.y r) (by omega) (by rw [zaa]; exact R);rw [zaa,show y6 r (g8 q.x q.y r)=q.w r from rfl] at hc;obtain ⟨W,K⟩:∃W,q.w r=W:=⟨_,rfl⟩
 rw [K] at hc |-;have P:∀i,smL (L.take i) W r=smL (L.take i) W r:=λ i=>rfl;simp only [acw,ak,push_cast,↓reduceIte,reduceCtorEq,zE,zA,zD];refine b5 (as':=[uw W]) rfl ?_;refine a6 hc rfl trivial ?_;have N:((0:Int) != 0)=false:=rfl;simp only [cel,N,push_cast,↓reduceIte,zE,zA,zL,zD]
 refine b9 [(9,false),(0,false),(1,false),(7,false),(6,false),(4,false)] (λ vs pos f=>∃i:Nat,i<=L.length/\pos=[] /\
  vs=[int .i64 i,ak L,int .u64 W,.ptr 2000000 0 0,.ptr 2000001 0 0,.ptr 2000002 0 0] /\
  f=[.box [int .i64 r,int .i64 (g8 q.x q.y r).a,int .i64 (g8 q.x q.y r).b],.box ((smL (L.take i) W r).bx W),.box [int .u64 0,int .i64 0,int .i64 0,int .i64 0,int .i64 0]])
  (λ vs _ _=>match vs with | .r (.v (.int _ a))::_=>(L.length-a).toNat | _=>0) rfl ?_ ?_
 ·simp only [ak,push_cast,↓reduceIte,reduceCtorEq,zB,zE,zA,zL,zD];exact ⟨0,by omega,rfl,rfl⟩
 rintro vs pos f ⟨i,hi,rfl,rfl,rfl⟩;have m:IntKind.i64.wrap ((i:Int)+1)=(i:Int)+1:=a5 (by omega);obtain ⟨a,g⟩:∃a,smL (L.take i) W r=a:=⟨_,rfl⟩
 have j:=axy L k W r i hi;rw [g] at j |-;obtain ⟨e,sm,u,s⟩:=a;obtain ⟨M,Q,T,S⟩:=j;simp only at M Q T S;by_cases O:i<L.length
 ·have A:decide ((i:Int)<(L.length:Int))=true:=decide_eq_true (by omega);obtain ⟨p,D⟩:∃p,L[i]?=some p:=⟨L[i],by simp [O]⟩
  have c:=k p (zaf D);have d:=λ z=>a7f D z;have G:=avp p.x p.y r c.2.1 ⟨by omega,by omega⟩;rw [zaa] at G
  have hN:smL (L.take (i+1)) W r=smS W r ⟨e,sm,u,s⟩ p:=by
   unfold smL at g |-;rw [List.take_add_one,D,zal,g]
   rfl
  simp only [ak,Sm.bx,A,d,zaa,zac,push_cast,↓reduceIte,reduceCtorEq,zE,zA,zL];refine And.intro (by omega) (And.intro (by omega) ?_);refine i5 (as':=[int .i64 p.x,int .i64 p.y,int .i64 r]) rfl ?_;refine d5 G rfl trivial ?_;simp only [uw,push_cast,↓reduceIte,reduceCtorEq,zE];refine And.intro (by kernel_rfl) ?_;refine b7 (λ hc=>?_) (λ hc=>?_)
  ·have hc:=of_decide_eq_true (bh3 hc);rw [smS,if_neg (λ h=>hc (by rw [<- h]; rfl))] at hN;simp only [m,push_cast,↓reduceIte,reduceCtorEq,zB,zE,zA,zL,zD];exact ⟨⟨i+1,by omega,by simp [],by rw [hN]⟩,by omega⟩
  have hc:(arw p.x p.y r:Int)=W:=by simpa using hc
  have C:p.w r=W:=by
   have:arw p.x p.y r=W:=by omega
   exact this
  rw [smS,if_pos C] at hN;have J:IntKind.i64.wrap (e+1)=e+1:=a5 (by omega);have E:IntKind.i64.wrap (sm+p.v)=sm+p.v:=a5 (by have:=c.2.2; omega);have H:IntKind.i64.wrap (0+1)=1:=rfl;have I:IntKind.i64.wrap (0+p.v)=p.v:=by rw [a5 (by have:=c.2.2; omega)]; omega
  by_cases l:e=0
  ·have o:(e == 0)=true:=beq_iff_eq.2 l;simp only [d,o,m,H,I,zaa,zac,push_cast,↓reduceIte,reduceCtorEq,zB,zE,zA,zL,zD];refine ⟨by omega,⟨i+1,by omega,by simp [],?_⟩,by omega⟩;rw [hN,l];simp
  have o:(e == 0)=false:=beq_eq_false_iff_ne.2 l;simp only [d,o,m,J,E,zaa,zac,push_cast,↓reduceIte,reduceCtorEq,zB,zE,zA,zL,zD];refine ⟨by omega,⟨i+1,by omega,by simp [],?_⟩,by omega⟩;rw [hN];simp [l,show ¬e+1=0 by omega]
 have A:decide ((i:Int)<(L.length:Int))=false:=decide_eq_false (by omega);have B:i=L.length:=by omega
 subst B;rw [zak] at g;simp only [ak,Sm.bx,A,g,push_cast,↓reduceIte,reduceCtorEq,zE,zA,zL,zD];exact ⟨by kernel_rfl,rfl⟩

def adm:Mk P0 f21:={ x:=_ }
theorem a8i (l:List P2):(qf l).length<=l.length+1:=by
 have:=amt l (tx l) (l.length+1) (tx l);unfold qf;split
 ·simp
 split
 ·simp
 exact this
theorem a8h {l:List P2} {q:P2} (h:q∈qf l):q∈l:=by
 unfold qf at h;split at h
 ·simp at h
 rename_i a;split at h
 ·simp at h
 exact au8 _ (a4o a) _ h
theorem a3n (t:Til) (b:t.r<=12) (z:Ei):(fh t z).length<=11:=by
 unfold fh;split
 ·refine Nat.le_trans (a8i _) ?_
  have a:(ra t z).length<=10:=by
   have:=(aku (lo:=(-192*q8 t,-192*q8 t)) (hi:=(12480*q8 t,12480*q8 t)) (alt z t.r.toNat (by omega) (-(3*(t.x*aev t)),-(3*(t.y*aev t)))) 4 (Nat.le_refl _)).2;rw [zad,alu] at this;exact this
  have:(z6 (3*q8 t) (ra t z)).length=(ra t z).length:=by simp [z6]
  omega
 simp
theorem a6a (t:Til) (h:0<=t.z/\t.z<=18) (z:Ei) (f:∀p∈dm t z,(-1099511627776<=p.1/\p.1<=1099511627776)/\(-1099511627776<=p.2/\p.2<=1099511627776)):∀p∈fh t z,(-64<=p.1/\p.1<=4160)/\(-64<=p.2/\p.2<=4160):=λ p c=>by
 have g:1<=q8 t:=by
  have l:((2^(18-t.z).toNat:Nat):Int)=(2:Int)^(18-t.z).toNat:=by simp
  have o:0<2^(18-t.z).toNat:=Nat.pow_pos (by decide);unfold q8;omega
 unfold fh at c;split at c
 ·have d:=a8h c;obtain ⟨q,i,rfl⟩:=zaj.1 d;have e:=apm (a:=(-1099511627776,-1099511627776)) (b:=(1099511627776,1099511627776)) (-192*q8 t,-192*q8 t) (12480*q8 t,12480*q8 t) f q i;simp only at e;generalize q8 t=U at *;have n:-64<=q.1/(3*U):=(Int.le_ediv_iff_mul_le (by omega)).2 (by omega);have j:q.1/(3*U)<4161:=(Int.ediv_lt_iff_lt_mul (by omega)).2 (by omega);have k:-64<=q.2/(3*U):=(Int.le_ediv_iff_mul_le (by omega)).2 (by omega);have m:q.2/(3*U)<4161:=(Int.ediv_lt_iff_lt_mul (by omega)).2 (by omega);simp only;omega
 simp at c
def fp (L:List Pt) (t:Til) (n:Int):Fea:=⟨n,fh t (s7 n.toNat t.r.toNat),(smL L n.toNat t.r.toNat).n,(smL L n.toNat t.r.toNat).s,(smL L n.toNat t.r.toNat).lo,(smL L n.toNat t.r.toNat).hi⟩
def aw6 (L:List Pt) (t:Til):List UInt8:=if (fg L t).map (fp L t)=[] then [] else s6 ((fg L t).map (fp L t))
variable {t:Til}
theorem avl (h:n∈fg L t):∃p∈L,n=((p.w t.r.toNat:Nat):Int):=awp (List.mem_filter.1 h).1
theorem a3l (L:List Pt) (t:Til):(fg L t).length<=L.length:=Nat.le_trans (List.length_filter_le ..) (att L _)
theorem bch (u:L.length<=40) (d:∀p∈L,p.ok) (b:tis t=true) (l:p∈L):(fp L t ((p.w t.r.toNat:Nat):Int)).ok/\(fp L t ((p.w t.r.toNat:Nat):Int)).ring.length<=11:=by
 have e:0<=t.z/\t.z<=18/\0<=t.r/\t.r<=12/\0<=t.x/\t.x<2^t.z.toNat/\0<=t.y/\t.y<2^t.z.toNat:=by simpa [tis] using b
 have a:=d p l;have n:=mf p.x p.y t.r.toNat a.2.1.1 a.2.1.2 (by omega);obtain ⟨v,c2,g,k⟩:=nh t.r.toNat _ n;have h:s7 (p.w t.r.toNat) t.r.toNat=g8 p.x p.y t.r.toNat:=by rw [show p.w t.r.toNat=y6 t.r.toNat (g8 p.x p.y t.r.toNat) from rfl,g]
 have m:qg (g8 p.x p.y t.r.toNat) t.r.toNat:=rz (by omega) a.2.1 (aq7 p.x p.y t.r.toNat (by omega));have j:p.w t.r.toNat<18446744073709551616:=k;have f:=axy L d (p.w t.r.toNat) t.r.toNat L.length (Nat.le_refl _);rw [zak] at f;obtain ⟨A,o,s,B⟩:=f;have c:=a3n t e.2.2.2.1 (g8 p.x p.y t.r.toNat);unfold fp;rw [zaa,h];refine ⟨⟨⟨by simp only; omega,by simp only; omega⟩,by simp only; omega,λ q i=>?_,?_,?_,?_,?_⟩,c⟩
 ·have:=a6a t ⟨e.1,e.2.1⟩ _ (a1i b m) q i;unfold c7;omega
 ·unfold c7; simp only; omega
 ·unfold c7; simp only; omega
 ·unfold c7; simp only; omega
 unfold c7; simp only; omega
theorem a8y (g:L.length<=40) (b:∀p∈L,p.ok) (a:tis t=true):∀f∈(fg L t).map (fp L t),f.ok/\f.ring.length<=11:=λ f c=>by
 obtain ⟨n,d,rfl⟩:=zaj.1 c;obtain ⟨p,e,rfl⟩:=avl d;exact bch g b a e
theorem bhi (L:List Pt) (G:L.length<=40) (j:∀p∈L,p.ok) (t:Til) (g:tis t=true) (J:cn t=false) :
 a8 P0 21 [t.v,ak L] [] (dj (n8 (aw6 L t))) []:=by
 refine adm.t func21 ?_;have P:=g7;have hr:0<=t.z/\t.z<=18/\0<=t.r/\t.r<=12/\0<=t.x/\t.x<2^t.z.toNat/\0<=t.y/\t.y<2^t.z.toNat:=by simpa [tis] using g
 have hc:=ax1 L G j t g J;have U:=a3l L t;have I:=λ n h=>avl (L:=L) (t:=t) (n:=n) h;have F:=λ f h=>(a8y G j g f h).1;have k:=ax9 ((fg L t).map (fp L t)) (by simp; omega) F;rw [show aw6 L t=if (fg L t).map (fp L t)=[] then [] else s6 ((fg L t).map (fp L t)) from rfl];generalize fg L t=S at *
 push_cast [adm,Til.v,ak,List.length_cons,zae]
 refine b5 (as':=[t.v,ak L]) rfl ?_;refine a6 hc rfl trivial ?_
 push_cast [j7,ak]
 have O:∀i,((S.take i).map (fp L t)).length<=50:=λ i=>by simp; omega
 refine b9 [(7,false),(6,false),(5,false),(2,false),(1,false)] (λ vs pos m=>∃i:Nat,i<=S.length/\pos=[] /\
  (i=0/\vs=[int .i64 i,.own 2000000 0 0 S.length,.nils 6 m9,.ptr 2000001 0 0,ak L]/\m=[j7 S,.box [int .i64 t.z,int .i64 t.x,int .i64 t.y,int .i64 t.r]] \/
   i≠0/\vs=[int .i64 i,.own 2000000 0 0 S.length,.own 2000001 0 0 i,.ptr 2000002 0 0,ak L]/\m=[j7 S,kg ((S.take i).map (fp L t)),.box [int .i64 t.z,int .i64 t.x,int .i64 t.y,int .i64 t.r]]))
  (λ vs _ _=>match vs with | .r (.v (.int _ a))::_=>(S.length-a).toNat | _=>0) rfl ?_ ?_
 ·push_cast [m9,j7,ak]
  exact ⟨0,by omega,.inl ⟨rfl,by simp⟩⟩
 rintro vs pos m ⟨i,hi,rfl,c⟩;have K:IntKind.i64.wrap ((i:Int)+1)=i+1:=a5 (by omega);by_cases V:i<S.length
 ·have C:decide ((i:Int)<(S.length:Int))=true:=decide_eq_true (by omega);obtain ⟨n,E⟩:∃n,S[i]?=some n:=⟨S[i],by simp [V]⟩
  obtain ⟨p,W,rfl⟩:=I n (zaf E);have e:=j p W;have M:=mf p.x p.y t.r.toNat e.2.1.1 e.2.1.2 (by omega);obtain ⟨Y,c2,N,Z⟩:=nh t.r.toNat _ M;have T:s7 (p.w t.r.toNat) t.r.toNat=g8 p.x p.y t.r.toNat:=by rw [show p.w t.r.toNat=y6 t.r.toNat (g8 p.x p.y t.r.toNat) from rfl,N]
  have X:=rz (by omega) e.2.1 (aq7 p.x p.y t.r.toNat (by omega));have l:=a6p t g J (g8 p.x p.y t.r.toNat) M X;rw [show y6 t.r.toNat (g8 p.x p.y t.r.toNat)=p.w t.r.toNat from rfl] at l;have A:=bck L G j t.r.toNat (by omega) p e;have u:fp L t ((p.w t.r.toNat:Nat):Int)=⟨(p.w t.r.toNat:Nat),fh t (g8 p.x p.y t.r.toNat),(smL L (p.w t.r.toNat) t.r.toNat).n,(smL L (p.w t.r.toNat) t.r.toNat).s,(smL L (p.w t.r.toNat) t.r.toNat).lo,(smL L (p.w t.r.toNat) t.r.toNat).hi⟩:=by unfold fp; rw [zaa,T]
  have d:=λ z=>aj E z;have b:=λ z=>y7 E z;generalize fh t (g8 p.x p.y t.r.toNat)=Q at *;have B:List.take Q.length (Q.map ptR)=Q.map ptR:=m5 Q;have R:=O i;have o:List.take i (((S.take i).map (fp L t)).map Fea.rv)=((S.take i).map (fp L t)).map Fea.rv:=zai (by simp; omega)
  have q:(S.take (i+1)).map (fp L t)=(S.take i).map (fp L t)++[fp L t ((p.w t.r.toNat:Nat):Int)]:=by
   rw [List.take_add_one,E,List.map_append]; rfl
  rcases c with ⟨D,rfl,rfl⟩ | ⟨D,rfl,rfl⟩
  ·push_cast [m9,j7,ak,j8,C,d,b]
   refine sO ?_;refine b5 (as':=[ak L,int .u64 ((p.w t.r.toNat:Nat):Int)]) rfl ?_;refine a6 A rfl trivial ?_
   push_cast [m9,j7,ak,Sm.v,j8,d,b]
   refine And.intro (by omega) (And.intro (by omega) ?_);refine i5 (as':=[t.v,uw (p.w t.r.toNat:Nat)]) rfl ?_;refine d5 l rfl trivial ?_
   push_cast [i7,pnt,B,K]
   refine And.intro (by simp) (And.intro (by omega) (And.intro (by kernel_rfl) ?_));subst D;exact ⟨⟨1,by omega,.inr ⟨by omega,rfl,by rw [q,u]; rfl⟩⟩,by omega⟩
  push_cast [m9,j7,ak,kg,j8,C,d,b]
  refine sO ?_;refine b5 (as':=[ak L,int .u64 ((p.w t.r.toNat:Nat):Int)]) rfl ?_;refine a6 A rfl trivial ?_
  push_cast [m9,j7,ak,Sm.v,j8,d,b]
  refine And.intro (by omega) (And.intro (by omega) ?_);refine i5 (as':=[t.v,uw (p.w t.r.toNat:Nat)]) rfl ?_;refine d5 l rfl trivial ?_
  push_cast [i7,pnt,B,o,K]
  refine And.intro (by simp) (And.intro ⟨by omega,by omega⟩ (And.intro (by kernel_rfl) ?_));exact ⟨⟨i+1,by omega,.inr ⟨by omega,by simp,by rw [q,u,List.map_append]; rfl⟩⟩,by omega⟩
 have C:decide ((S.length:Int)<(S.length:Int))=false:=decide_eq_false (by omega);obtain rfl:i=S.length:=by omega
 rcases c with ⟨D,rfl,rfl⟩ | ⟨D,rfl,rfl⟩
 ·push_cast [m9,j7,ak,j8,C]
  have H:S=[]:=List.eq_nil_of_length_eq_zero D;rw [H] at k |-;refine b5 (as':=[o4 []]) rfl ?_;refine a6 k rfl trivial ?_
  push_cast [List.map_nil]
 have o:List.take S.length ((S.map (fp L t)).map Fea.rv)=(S.map (fp L t)).map Fea.rv:=zai (by simp)
 push_cast [m9,j7,ak,kg,j8,C]
 rw [zak,o];refine j9 ?_;refine b5 (as':=[o4 (S.map (fp L t))]) rfl ?_;refine a6 k rfl trivial ?_
 push_cast

theorem a9t {d:List Nat} (h:d.Nodup):(asI d).Nodup:=List.pairwise_map.2 (h.imp λ {a b} c e=>c (by omega))
theorem azx (L:List Pt) (r:Nat):(bk L r).Nodup:=(List.mergeSort_perm _ _).nodup_iff.2 (a9t (al1 _))
theorem a4z:n∈bk L r↔∃p∈L,((p.w r:Nat):Int)=n:=by
 unfold bk zx asI;rw [List.mem_mergeSort,zaj];constructor
 ·rintro ⟨w,b,rfl⟩;obtain ⟨p,a,e⟩:=ag2.1 b;exact ⟨p,a,by rw [e]⟩
 rintro ⟨p,a,rfl⟩;exact ⟨p.w r,ag2.2 ⟨p,a,rfl⟩,rfl⟩
theorem bgv (b:∀p∈L,p.ok) (c:r<13) (f:∃p∈L,p.w r=w):mem L w=L.filter λ p=>((p.w r:Nat):Int) == (w:Int):=by
 obtain ⟨q,g,e⟩:=f;have a:=(Pt.w_res (b q g) c).2.1;rw [e] at a;unfold mem;apply List.filter_congr;intro p d;rw [bb4 (b p d) c a];rw [Bool.eq_iff_iff];simp;omega

theorem a0s (b:tis t=true) (c:cn t=false):aet (ar L t)=true:=by
 unfold aet;refine List.all_eq_true.2 λ f a=>?_;obtain ⟨n,d,rfl⟩:=zaj.1 a;exact decide_eq_true (a0h b c (List.mem_filter.1 d).2)
theorem ajd (L:List Pt) (t:Til):(ar L t).length=(bg L t).length:=by unfold ar; rw [zad]
theorem abb:ar L t=[]↔bg L t=[]:=by unfold ar; exact List.map_eq_nil_iff
theorem an4 {l:List Fea} (h:∀f∈l,f.ring.length<=20):∀i,(jg l i).length<=1000*i
 | 0=>by simp [jg]
 | j+1=>by
   have:=an4 h j;have c:=lc 2 (ek (l.getD j default).w (4*(j:Int)) (l.getD j default).ring);have a:=afi (l.getD j default).w (4*(j:Int)) (l.getD j default).ring
   have b:(l.getD j default).ring.length<=20:=by
    rw [List.getD_eq_getElem?_getD];cases e:l[j]? with
    | none=>exact Nat.zero_le _
    | some f=>exact h f (zaf e)
   rw [ae1,List.length_append];unfold fx;omega
theorem a85 (p:L.length<=40) (a:tis t=true):(oq L t).length<=60000:=by
 have d:0<=t.z/\t.z<=18/\0<=t.r/\t.r<=12/\0<=t.x/\t.x<2^t.z.toNat/\0<=t.y/\t.y<2^t.z.toNat:=by simpa [tis] using a
 unfold oq
 have g:(ar L t).length<=40:=by
  have:=afb L t;rw [ajd];omega
 have e:∀f∈ar L t,f.ring.length<=20:=λ f b=>by
  obtain ⟨n,h,rfl⟩:=zaj.1 b;exact avm t d.2.2.2.1 _
 generalize ar L t=l at *;split
 ·simp
 have m:=an4 e l.length;have i:=aaq l l.length;have j:=aa6 4;have o:=afg;have k:=et 5 4096;have c:=lc 3 (sf++jg l l.length++qe 4++pt l l.length++q9 5 4096);unfold s6;simp only [List.length_append] at c;omega
theorem a3v (k:L.length<50) (f:∀p∈L,p.ok) (b:tis t=true) (g:cn t=false):rdT (oq L t)=some (ar L t):=by
 unfold oq;by_cases d:bg L t=[]
 ·rw [if_pos d,abb.2 d];exact if_pos rfl
 rw [if_neg d];have a:ar L t≠[]:=λ h=>d (abb.1 h);have i:(ar L t).length<=100000:=by have:=afb L t; rw [ajd]; omega
 have c:=ak4 i (aoa k f b);rw [if_pos ⟨a0s b g,a⟩] at c
 have l:s6 (ar L t)≠[]:=λ h=>by
  rw [h] at c
  have:cz []=([],false):=ak5 λ m e=>by
   have:m=[]:=by
    have j:u7 []=some []:=rfl;rw [j] at e
    injection e with e
    exact e.symm
   rw [this]; decide
  rw [this] at c;exact a (congrArg Prod.fst c).symm
 unfold rdT;rw [if_neg l,c,if_pos ⟨rfl,rfl⟩]

abbrev bjo (L:List Pt):Ob:=.row 4 (.agg [.v (.int .i64 0),.v (.int .i64 0),.v (.int .i64 0),.v (.int .i64 0)]) true true (L.map Pt.rv)
theorem bb9 (h:GP L):(L.map (·.k)).Nodup:=by
 rw [List.nodup_iff_pairwise_ne,List.pairwise_map];refine zam.2 λ i j hi b a=>?_;have d:=(h i _ (List.getElem?_eq_getElem hi)).1;have c:=(h j _ (List.getElem?_eq_getElem b)).1;omega

theorem a9i (L:List Pt) (r:Nat):(bk L r).Pairwise (· < ·):=by
 refine zam.2 λ i j hi c a=>?_;have tr:∀x y z:Int,decide (x<=y)=true->decide (y<=z)=true->decide (x<=z)=true:=by simp; omega
 have b:∀x y:Int,(decide (x<=y)||decide (y<=x))=true:=by simp; omega
 have d:(bk L r).Pairwise λ x y=>decide (x<=y)=true:=List.pairwise_mergeSort tr b _;have e:=(zam.1 d) i j hi c a;have f:=(zam.1 (azx L r)) i j hi c a;simp at e;omega
theorem biv {a b:List Int} (c:a.Pairwise (· < ·)) (d:b.Pairwise (· < ·)) (h:∀n,n∈a↔n∈b):a=b:=by
 have e:a.Nodup:=c.imp λ {x y} h=>by omega
 have f:b.Nodup:=d.imp λ {x y} h=>by omega
 exact List.Perm.eq_of_pairwise (le:=(· < ·)) (λ a b _ _ i g=>by omega) c d ((List.perm_ext_iff_of_nodup e f).2 h)
theorem a4x (L:List Pt) (r:Nat):ua L r=bk L r:=by
 obtain ⟨b,a⟩:=aiz (ws9 L r) [] List.Pairwise.nil;refine biv b (a9i L r) λ n=>?_;refine (a n).trans ?_;rw [a4z];unfold ws9;rw [zaj];simp
theorem ar7 (L:List Pt) (t:Til):fg L t=bg L t:=by unfold fg bg; rw [a4x]
theorem a3m (a:tis t=true) (b:cn t=false) (z:Ei):fh t z=bv t z:=by
 unfold fh bv;split
 ·rename_i h;exact a8e (ar8 a b h)
 rfl
def smM (M:List Pt):Sm:=⟨M.length,abp M,loV M,hiV M⟩
theorem bak (M:List Pt) (p:Pt):smM (M++[p])=⟨(smM M).n+1,if (smM M).n=0 then p.v else (smM M).s+p.v,if (smM M).n=0 then p.v else min (smM M).lo p.v,if (smM M).n=0 then p.v else max (smM M).hi p.v⟩:=by
 cases M with
 | nil=>simp [smM,abp,loV,hiV]
 | cons q M=>
   have:¬((M.length:Int)+1=0):=by omega
   simp [smM,abp,loV,hiV,zal,this];omega
theorem bjb (w r:Nat) (L:List Pt):smL L w r=smM (L.filter λ p=>((p.w r:Nat):Int) == (w:Int)):=by
 refine ke (P:=λ L=>smL L w r=smM (L.filter λ p=>((p.w r:Nat):Int) == (w:Int))) rfl (λ L p a=>?_) L;have e:smL (L++[p]) w r=smS w r (smL L w r) p:=by unfold smL; rw [zal]; rfl
 rw [e,a,List.filter_append];unfold smS;by_cases h:p.w r=w
 ·rw [if_pos h,List.filter_cons_of_pos (by simp [h]),List.filter_nil,bak]
 rw [if_neg h,List.filter_cons_of_neg (by simp; omega),List.filter_nil,List.append_nil]
theorem a8z (b:∀p∈L,p.ok) (a:tis t=true) (c:cn t=false) (d:n∈bg L t):fp L t n=cr L t n:=by
 have f:0<=t.z/\t.z<=18/\0<=t.r/\t.r<=12/\0<=t.x/\t.x<2^t.z.toNat/\0<=t.y/\t.y<2^t.z.toNat:=by simpa [tis] using a
 obtain ⟨p,e,rfl⟩:=aqq d;unfold fp cr;rw [zaa,a3m a c,bjb,bgv b (show t.r.toNat<13 by omega) ⟨p,e,rfl⟩]
 rfl
theorem a84 (c:∀p∈L,p.ok) (b:tis t=true) (d:cn t=false):aw6 L t=oq L t:=by
 have h:(fg L t).map (fp L t)=ar L t:=by
  rw [ar7];exact List.map_congr_left λ n f=>a8z c b d f
 unfold aw6 oq;rw [h];by_cases a:bg L t=[]
 ·rw [if_pos a,if_pos (abb.2 a)]
 rw [if_neg a,if_neg (λ e=>a (abb.1 e))]

def mo:Mk P0 f5:={ x:=_ }
def okV (t:Til):Int:=if tis t then (if cn t then 14 else 0) else 1
variable {V:Int}
theorem a5s (T:AbsT) (t:Til) (b:t.ok) (a:okV t=V) (c:V≠0):a8 P0 37 [t.v,.ptr 1000000 0 0] [.abs T] (.tup [.nils 1 (.v (.int .u64 0)),int .i64 V]) [.abs T]:=by
 refine zn.t func37 ?_;have hO:=bbl t b;rw [show (if tis t then (if cn t then (14:Int) else 0) else 1)=V from a] at hO;have e:(V != 0)=true:=by simpa using c
 push_cast [zn,Til.v,List.length_cons,zae]
 refine b5 (as':=[t.v]) rfl ?_;refine a6 hO rfl trivial ?_
 push_cast [e]
theorem bhh (T:AbsT) (t:Til) (c:t.ok) (b:okV t=V) (a:V≠0):a8 P0 19 [t.v,.ptr 1000000 0 0] [.abs T] (.tup [.nils 1 (.v (.int .u8 0)),int .i64 V]) [.abs T]:=by
 refine abm.t func19 ?_;have e:(V != 0)=true:=by simpa using a
 push_cast [abm,Til.v,List.length_cons,zae]
 refine b5 (as':=[t.v,.ptr 1000000 0 0]) rfl ?_;refine a6 (a5s T t c b a) rfl ⟨rfl,trivial⟩ ?_
 push_cast [e]
theorem tdraws_t (raw:Til) (hraw:raw.ok) (xs:List Int) (hx:∀x∈xs,-9223372036854775808<=x/\x<=9223372036854775807) (z r:Int) (hz:c7 z) (hr:c7 r) :
 a8 P0 5 [raw.v,.r (aej xs),int .i64 z,int .i64 r] [] (bl true) []:=by
 refine mo.t func5 ?_;have hmx:=g7;by_cases h60:xs.length>50
 ·have e1:decide ((xs.length:Int)>50)=true:=by simp; omega
  push_cast [mo,Til.v,aej,zad,e1,zae]
  repeat refine sI ?_
  refine a6 awr rfl trivial ?_
  push_cast
 have e1:decide ((xs.length:Int)>50)=false:=by simp; omega
 have hgp:GP (nf xs []):=a2n xs [] (by simp [GP]);have hle:=a2m xs [] (by decide);have hPt:=bbd xs hx
 push_cast [mo,Til.v,aej,zad,e1,zae]
 repeat refine sI ?_
 refine b5 (as':=[.r (aej xs)]) rfl ?_;refine a6 hPt rfl trivial ?_;generalize hG:nf xs []=L at *;have hlen0:L.length<=40:=hle
 have hok:∀p∈L,p.ok:=λ p hp=>by
  obtain ⟨j,hj⟩:=List.getElem?_of_mem hp;exact (hgp j p hj).2
 have hO:=bd1 L (by omega) hok (bb9 hgp)
 push_cast [Pt.rv,aej,zad]
 refine jr ?_
 push_cast
 refine lq hO rfl trivial (by simp [bj]) (by simp [jt]) ?_
 push_cast
 repeat refine sI ?_
 refine b9 [(12,false),(11,false),(10,false),(9,false),(2,false),(3,false)] (λ vs pos los=>∃(i:Nat) (t:Til),i<=2/\t.ok/\vs=[int .i64 i,.ptr 2000000 0 0,.ptr 2000001 0 0,.own 2000002 0 0 L.length,int .i64 z,int .i64 r]/\pos=[]/\los=[.box [int .i64 t.z,int .i64 t.x,int .i64 t.y,int .i64 t.r],.abs (sT L),bjo L]) (λ vs _ _=>match vs with | .r (.v (.int _ j))::_=>(2-j).toNat | _=>0) rfl ?_ ?_
 ·push_cast
  exact ⟨0,raw,by omega,hraw,by simp⟩
 rintro vs pos los ⟨i,t,hi,ht,rfl,rfl,rfl⟩;obtain ⟨I,hI⟩:∃I:Int,(i:Int)=I:=⟨_,rfl⟩
 rw [hI]
 push_cast
 refine b7 (λ hd=>?_) (λ hd=>?_)
 ·have hd:=of_decide_eq_true hd;have wi:IntKind.i64.wrap (I+1)=I+1:=a5 (by omega);have hTO:=avr t ht;rw [show (if tis t then (if cn t then (14:Int) else 0) else 1)=okV t from rfl] at hTO;obtain ⟨V,hV⟩:∃V,okV t=V:=⟨_,rfl⟩
  rw [hV] at hTO;by_cases hV0:V=0
  ·subst hV0
   have hti:tis t=true:=by
    cases h:tis t with
    | true=>rfl
    | false=>unfold okV at hV; rw [h] at hV; simp at hV
   have hfi:cn t=false:=by
    cases h:cn t with
    | false=>rfl
    | true=>unfold okV at hV; rw [hti,h] at hV; simp at hV
   have h9:=bhi L hlen0 hok t hti hfi;rw [a84 hok hti hfi] at h9;have hsh:=ax1 L hlen0 hok t hti hfi;rw [ar7] at hsh;have hrd:=a3v (L:=L) (show L.length<50 by omega) hok hti hfi;have hbl:=a85 hlen0 (t:=t) hti;have hrt:=a04 (oq L t) (by omega);have hun:=bmd (oq L t) (by omega);rw [<- a6x _ (by omega),hrd] at hun;rw [hrd] at hrt;have hsf:=bf3 (ar L t) (by have:=afb L t; rw [ajd]; omega) (aoa (show L.length<50 by omega) hok hti);have hdl:=ajd L t;have f00:((0:Int) != 0)=false:=rfl;have f01:((0:Int) == 0)=true:=rfl;by_cases hS:bg L t=[]
   ·have hD:=atj L (by omega) hok t ht hti hfi (.inl ⟨hS,rfl,rfl⟩)
    push_cast
    refine b5 (as':=[t.v,.ptr 1000000 0 0]) rfl ?_;refine a6 hD rfl ⟨rfl,trivial⟩ ?_
    push_cast
    refine b5 (as':=[t.v]) rfl ?_;refine a6 hTO rfl trivial ?_
    push_cast [f00,f01]
    have hd0:oq L t=[]:=by unfold oq; rw [if_pos hS]
    have hn0:ar L t=[]:=abb.2 hS;rw [hd0] at h9 hrt hun;rw [hn0] at hrt hun hsf;refine i5 (as':=[t.v,ak L]) rfl ?_;refine ach h9 rfl trivial (by simp [bj,ft]) (by simp [jt]) ?_;have sne:(!(({ data:=#[] }:ByteArray).toList == (n8 []).toList))=false:=by simp [n8]
    push_cast [sne,f00,f01]
    repeat refine sI ?_
    refine b5 (as':=[sb []]) rfl ?_;refine a6 hrt rfl trivial ?_
    push_cast [rdR,rdO,f00,f01]
    repeat refine sI ?_
    refine b5 (as':=[dj (n8 [])]) rfl ?_;refine a6 hun rfl trivial ?_
    push_cast [rdR,rdO,f00,f01]
    repeat refine sI ?_
    refine b5 (as':=[o4 [],o4 []]) rfl ?_;refine a6 hsf rfl trivial ?_
    push_cast [f00,f01]
    repeat refine sI ?_
    refine jr ?_
    push_cast
    refine b5 (as':=[t.v,ak L]) rfl ?_;refine lq hsh rfl trivial (by simp [bj]) (by simp [jt,j7,be,ft]) ?_;rw [hS]
    push_cast [f00,f01,j7,zae]
    repeat refine sI ?_
    by_cases hL0:L=[]
    ·have g0:decide ((L.length:Int)>0)=false:=by simp [hL0]
     push_cast [g0]
     refine a6 (aj9 1 2 z r (by unfold c7; omega) (by unfold c7; omega) hz hr) rfl trivial ?_;have ht':=abn (aj8 1 2 z r);generalize zd 1 2 z r=u at *
     push_cast [Til.v,wi]
     repeat refine sI ?_
     exact ⟨⟨i+1,u,by omega,ht',by simp [hI]⟩,by omega⟩
    have g0:decide ((L.length:Int)>0)=true:=by simp; exact zab.2 hL0
    obtain ⟨q,hq⟩:∃q,L[0]?=some q:=⟨L[0]'(zab.2 hL0),by simp [zab.2 hL0]⟩
    have gq:∀z,(L.map Pt.rv).getD 0 z=.agg [.v (.int .i64 q.k),.v (.int .i64 q.x),.v (.int .i64 q.y),.v (.int .i64 q.v)]:=λ z=>by simp [List.getD,hq,Pt.rv]
    have hll:=zab.2 hL0;have hqo:=hok q (zaf hq)
    have hqx:c7 q.x/\c7 q.y:=by
     have:=hqo.2.1;unfold inW at this;unfold c7;omega
    push_cast [g0,Int.toNat_zero,zac,gq]
    repeat refine sI ?_
    refine a6 (aj9 q.x q.y z r hqx.1 hqx.2 hz hr) rfl trivial ?_;have ht':=abn (aj8 q.x q.y z r);generalize zd q.x q.y z r=u at *
    push_cast [Til.v,wi]
    repeat refine sI ?_
    exact ⟨⟨i+1,u,by omega,ht',by simp [hI]⟩,by omega⟩
   have hD:=atj L (by omega) hok t ht hti hfi (.inr ⟨hS,rfl,rfl⟩)
   push_cast
   refine b5 (as':=[t.v,.ptr 1000000 0 0]) rfl ?_;refine a6 hD rfl ⟨rfl,trivial⟩ ?_
   push_cast
   refine b5 (as':=[t.v]) rfl ?_;refine a6 hTO rfl trivial ?_
   push_cast [f00,f01,ep,di]
   repeat refine sI ?_
   refine i5 (as':=[t.v,ak L]) rfl ?_;refine ach h9 rfl trivial (by simp [bj,ft]) (by simp [jt]) ?_
   push_cast [f00,f01,ep,di]
   repeat refine sI ?_
   have hFn:ar L t≠[]:=λ e=>hS (abb.1 e);have hrr:=ah8 hFn;rw [hrr.1,hrr.2] at hrt hun;have hFl:(ar L t).length<=40:=by have:=afb L t; rw [hdl]; omega
   have tl:List.take (ar L t).length ((ar L t).map Fea.rv)=(ar L t).map Fea.rv:=zai (by simp);refine j9 ?_;refine b5 (as':=[sb (oq L t)]) rfl ?_;refine a6 hrt rfl trivial ?_
   push_cast [f00,f01,ep,di,kg]
   repeat refine sI ?_
   refine b5 (as':=[dj (n8 (oq L t))]) rfl ?_;refine a6 hun rfl trivial ?_
   push_cast [f00,f01,tl,kg]
   repeat refine sI ?_
   refine j9 ?_;refine b5 (as':=[o4 (ar L t),o4 (ar L t)]) rfl ?_;refine a6 hsf rfl trivial ?_
   push_cast [f00,f01,tl,kg]
   repeat refine sI ?_
   refine jr ?_
   push_cast
   refine b5 (as':=[t.v,ak L]) rfl ?_;refine lq hsh rfl trivial (by simp [bj]) (by simp [jt,j7,be,ft]) ?_;have ne:(((ar L t).length:Int) != ((bg L t).length:Int))=false:=by rw [hdl]; simp
   push_cast [f00,f01,ne,kg,j7,j8]
   repeat refine sI ?_
   by_cases hL0:L=[]
   ·have g0:decide ((L.length:Int)>0)=false:=by simp [hL0]
    push_cast [g0]
    refine a6 (aj9 1 2 z r (by unfold c7; omega) (by unfold c7; omega) hz hr) rfl trivial ?_;have ht':=abn (aj8 1 2 z r);generalize zd 1 2 z r=u at *
    push_cast [Til.v,wi]
    repeat refine sI ?_
    exact ⟨⟨i+1,u,by omega,ht',by simp [hI]⟩,by omega⟩
   have g0:decide ((L.length:Int)>0)=true:=by simp; exact zab.2 hL0
   obtain ⟨q,hq⟩:∃q,L[0]?=some q:=⟨L[0]'(zab.2 hL0),by simp [zab.2 hL0]⟩
   have gq:∀z,(L.map Pt.rv).getD 0 z=.agg [.v (.int .i64 q.k),.v (.int .i64 q.x),.v (.int .i64 q.y),.v (.int .i64 q.v)]:=λ z=>by simp [List.getD,hq,Pt.rv]
   have hll:=zab.2 hL0;have hqo:=hok q (zaf hq)
   have hqx:c7 q.x/\c7 q.y:=by
    have:=hqo.2.1;unfold inW at this;unfold c7;omega
   push_cast [g0,Int.toNat_zero,zac,gq]
   repeat refine sI ?_
   refine a6 (aj9 q.x q.y z r hqx.1 hqx.2 hz hr) rfl trivial ?_;have ht':=abn (aj8 q.x q.y z r);generalize zd q.x q.y z r=u at *
   push_cast [Til.v,wi]
   repeat refine sI ?_
   exact ⟨⟨i+1,u,by omega,ht',by simp [hI]⟩,by omega⟩
  have v1:(V != V)=false:=by simp
  have v2:(V != 0)=true:=by simpa using hV0
  have v3:(V == 0)=false:=by simpa using hV0
  have f00:((0:Int) != 0)=false:=rfl
  push_cast
  refine b5 (as':=[t.v,.ptr 1000000 0 0]) rfl ?_;refine a6 (bhh (sT L) t ht hV hV0) rfl ⟨rfl,trivial⟩ ?_
  push_cast
  refine b5 (as':=[t.v]) rfl ?_;refine a6 hTO rfl trivial ?_
  push_cast [v1,v2,v3,f00]
  repeat refine sI ?_
  by_cases hL0:L=[]
  ·have g0:decide ((L.length:Int)>0)=false:=by simp [hL0]
   push_cast [g0]
   refine a6 (aj9 1 2 z r (by unfold c7; omega) (by unfold c7; omega) hz hr) rfl trivial ?_;have ht':=abn (aj8 1 2 z r);generalize zd 1 2 z r=u at *
   push_cast [Til.v,wi]
   repeat refine sI ?_
   exact ⟨⟨i+1,u,by omega,ht',by simp [hI]⟩,by omega⟩
  have g0:decide ((L.length:Int)>0)=true:=by simp; exact zab.2 hL0
  obtain ⟨q,hq⟩:∃q,L[0]?=some q:=⟨L[0]'(zab.2 hL0),by simp [zab.2 hL0]⟩
  have gq:∀z,(L.map Pt.rv).getD 0 z=.agg [.v (.int .i64 q.k),.v (.int .i64 q.x),.v (.int .i64 q.y),.v (.int .i64 q.v)]:=λ z=>by simp [List.getD,hq,Pt.rv]
  have hll:=zab.2 hL0;have hqo:=hok q (zaf hq)
  have hqx:c7 q.x/\c7 q.y:=by
   have:=hqo.2.1;unfold inW at this;unfold c7;omega
  push_cast [g0,Int.toNat_zero,zac,gq]
  repeat refine sI ?_
  refine a6 (aj9 q.x q.y z r hqx.1 hqx.2 hz hr) rfl trivial ?_;have ht':=abn (aj8 q.x q.y z r);generalize zd q.x q.y z r=u at *
  push_cast [Til.v,wi]
  repeat refine sI ?_
  exact ⟨⟨i+1,u,by omega,ht',by simp [hI]⟩,by omega⟩
 have hd:=of_decide_eq_false hd
 push_cast
 refine a6 awr rfl trivial ?_
 push_cast

end
end Go.Ev

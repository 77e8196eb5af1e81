import Derived.Test.YtpibfnekkfhkmaaGreatM11
open Nat renaming reduceBEq → zB, reduceEqDiff → zE, reduceAdd → zA, reduceSub → zS, reduceLT → zL, reduceLeDiff → zD, reduceMul → zM
open Go.Proofs.Tryz renaming prog → P0
open Go.Proofs.Tryz
open Nat renaming zero_add → zaa, zero_mul → zax, mul_one → zay, one_mul → zbd, le_refl → zbt
open Int renaming toNat_zero → zab, reduceToNat → zad, toNat_natCast → zae, toNat_natCast_add_one → zaf, toNat_one → zal, mul_nonneg → zan, le_of_lt → zap, mul_pos → zbj, le_of_mul_le_mul_left → zbp, mul_le_mul_of_nonneg_left → zbv, zero_mul → zcb, mul_eq_zero → zcc, mul_le_mul_of_nonneg_right → zcd, natCast_add → zci, emod_nonneg → zcl, emod_lt_of_pos → zcm, mul_ediv_add_emod → zcn, mul_nonpos_of_nonneg_of_nonpos → zcr
open List renaming length_map → zac, pairwise_cons → zah, length_cons → zai, getD_cons_zero → zaj, getD_cons_succ → zak, cons_append → zam, length_nil → zao, range → zaq, getD_eq_getElem?_getD → zar, mem_cons → zas, append_assoc → zat, getElem?_eq_none → zau, mem_of_getElem? → zav, mem_map → zaw, mem_singleton → zaz, map_cons → zba, length_append → zbb, getElem?_eq_getElem → zbc, nil_append → zbe, map_append → zbf, mem_append → zbg, pairwise_append → zbh, foldl_cons → zbi, map_map → zbk, getElem?_map → zbl, drop_eq_getElem_cons → zbm, map_nil → zbn, drop_zero → zbo, take_of_length_le → zbq, append_nil → zbr, drop_succ_cons → zbs, mem_range → zbu, ext_getElem? → zbw, drop_length → zbx, set_cons_zero → zby, set_cons_succ → zbz, getElem_mem → zca, filter_cons_of_neg → zce, filter_append → zcf, getElem?_eq_some_iff → zcg, foldl_nil → zch, eq_nil_or_concat → zco, concat_eq_append → zcp, pairwise_reverse → zcq, filter_cons_of_pos → zcs, pairwise_iff_getElem → zct, reverse_reverse → zcu, getElem?_range → zcv, map_congr_left → zcw
open Bool renaming or_eq_true → zcj, and_eq_true → zck
namespace Go.Ev
set_option maxHeartbeats 8000000
set_option maxRecDepth 100000
noncomputable section
open Go
set_option linter.unusedSectionVars false
set_option linter.unnecessarySimpa false
set_option linter.unusedVariables false
def afp:Mk P0 f187:={ x:=_ }
def afq:Mk P0 f142:={ x:=_ }
def abc:Mk P0 f144:={ x:=_ }
def afo:Mk P0 f143:={ x:=_ }
def adg:Mk P0 f141:={ x:=_ }
def oz:Mk P0 f86:={ x:=_ }
def mq (n:Int):Int:=if n<0 then -n else n
theorem apc (n:Int) (h:-9007199254740992<=n/\n<=9007199254740992):a8 P0 187 [int .i64 n] [] (int .i64 (mq n)) []:=by
 refine afp.t func187 ?_;have w:IntKind.i64.wrap (0-n)=-n:=by rw [a5 (by omega)]; omega
 have b:IntKind.i64.wrap (-n)=-n:=a5 (by omega)
 push_cast [afp,zao]
 refine b7 (λ a=>?_) (λ a=>?_)
 ·have a:=of_decide_eq_true a;have e:mq n=-n:=if_pos a;rw [e]
  push_cast [w,b]
 have a:=of_decide_eq_false a;have e:mq n=n:=if_neg a;rw [e]
 push_cast
def apa (a b:P2):Bool:=decide (a.1<b.1)||(a.1 == b.1&&decide (a.2<b.2))
theorem bgx (a b:P2):a8 P0 142 [pv2 a,pv2 b] [] (bl (apa a b)) []:=by
 refine afq.t func142 ?_;unfold apa
 cases d1:decide (a.1<b.1)<;>cases d2:(a.1 == b.1)<;>cases d3:decide (a.2<b.2) <;>
  (push_cast [afq,pv2,pnt,d1,d2,d3,zao,zab,zad,zaj,zak]
   first | done | omega | (refine ⟨?_,?_⟩<;>first | omega | rfl) | skip)
def aux (a q p:P2):Bool:=decide (mq (p.1-a.1)+mq (p.2-a.2)>mq (q.1-a.1)+mq (q.2-a.2))
theorem a8q (a q p:P2) (j:aa a) (g:aa q) (k:aa p):a8 P0 144 [pv2 a,pv2 q,pv2 p] [] (bl (aux a q p)) []:=by
 refine abc.t func144 ?_;unfold aa at j g k;have f:IntKind.i64.wrap (p.1-a.1)=p.1-a.1:=a5 (by omega);have c:IntKind.i64.wrap (p.2-a.2)=p.2-a.2:=a5 (by omega);have d:IntKind.i64.wrap (q.1-a.1)=q.1-a.1:=a5 (by omega);have e:IntKind.i64.wrap (q.2-a.2)=q.2-a.2:=a5 (by omega);have b:∀x:Int,-2147483648<=x/\x<=2147483648->0<=mq x/\mq x<=2147483648:=λ x hx=>by unfold mq; split<;>omega
 have m:=b (p.1-a.1) (by omega);have n:=b (p.2-a.2) (by omega);have o:=b (q.1-a.1) (by omega);have l:=b (q.2-a.2) (by omega);have i:IntKind.i64.wrap (mq (p.1-a.1)+mq (p.2-a.2))=mq (p.1-a.1)+mq (p.2-a.2):=a5 (by omega);have h:IntKind.i64.wrap (mq (q.1-a.1)+mq (q.2-a.2))=mq (q.1-a.1)+mq (q.2-a.2):=a5 (by omega)
 push_cast [abc,pv2,pnt,f,c,d,e,zao,zab,zad,zaj,zak]
 repeat refine sO ?_
 refine d5 (apc (p.1-a.1) (by omega)) rfl trivial ?_
 push_cast [pnt,f,c,d,e,zab,zad,zaj,zak]
 repeat refine sO ?_
 refine d5 (apc (p.2-a.2) (by omega)) rfl trivial ?_
 push_cast [pnt,f,c,d,e,zab,zad,zaj,zak]
 repeat refine sO ?_
 refine d5 (apc (q.1-a.1) (by omega)) rfl trivial ?_
 push_cast [pnt,f,c,d,e,zab,zad,zaj,zak]
 repeat refine sO ?_
 refine d5 (apc (q.2-a.2) (by omega)) rfl trivial ?_
 push_cast [i,h]
 exact ⟨by kernel_rfl,rfl⟩
theorem bez (a b c:P2) (d:aa a) (e:aa b) (hc:aa c):a8 P0 143 [pv2 a,pv2 b,pv2 c] [] (int .i64 (sg (k7 a b c))) []:=by
 refine afo.t func143 ?_;unfold aa at d e hc;have hx:=aqu a.1 a.2 b.1 b.2 c.1 c.2 (by unfold bw; omega) (by unfold bw; omega) (by unfold bw; omega) (by unfold bw; omega) (by unfold bw; omega) (by unfold bw; omega)
 push_cast [afo,pv2,pnt,zao,zab,zad,zaj,zak]
 repeat refine sO ?_
 refine b5 (as':=[pv a.1 a.2,pv b.1 b.2,int .i64 c.1,int .i64 c.2]) rfl ?_;refine a6 hx rfl trivial ?_
 push_cast
 rfl
variable {i:Nat} {p:P2}
theorem rq {l:List P2} (h:l[i]?=some p) (z:RV):(l.map ptR).getD i z=.agg [.v (.int .i64 p.1),.v (.int .i64 p.2)]:=by
 rw [zar,zbl,h]; rfl
theorem axx (l:List P2) (q:l.length<=1000) (h:∀p∈l,aa p):a8 P0 141 [a9 l,int .i64 1000] [] (bl true) []:=by
 refine adg.t func141 ?_;have n:decide ((l.length:Int)>1000)=false:=decide_eq_false (by omega);simp only [adg,a9,n,push_cast,↓reduceIte,reduceCtorEq,zE,zA]
 refine b9 [(5,false),(0,false)] (λ vs pos b=>∃i:Nat,i<=l.length/\vs=[int .i64 i,a9 l]/\pos=[]/\b=[])
  (λ vs _ _=>match vs with | .r (.v (.int _ a))::_=>(l.length-a).toNat | _=>0) rfl ?_ ?_
 ·simp only [a9,push_cast,↓reduceIte,reduceCtorEq,zA];exact ⟨0,by omega,rfl⟩
 rintro vs pos b ⟨i,hi,rfl,rfl,rfl⟩;have m:IntKind.i64.wrap ((i:Int)+1)=i+1:=a5 (by omega);simp only [a9,push_cast,↓reduceIte,reduceCtorEq,zE];refine b7 (λ g=>?_) (λ g=>?_)
 ·have e:i<l.length:=by have:=of_decide_eq_true g; omega
  obtain ⟨p,k⟩:∃p,l[i]?=some p:=⟨l[i],by simp [e]⟩
  have o:=h p (zav k);unfold aa at o;have j:=λ z=>rq k z;simp only [push_cast]
  refine b9 [(6,false),(5,false),(0,false)] (λ vs pos b=>∃a:Nat,a<=2/\vs=[int .i64 a,int .i64 i,a9 l]/\pos=[]/\b=[])
   (λ vs _ _=>match vs with | .r (.v (.int _ a))::_=>(2-a).toNat | _=>0) rfl ?_ ?_
  ·simp only [a9,push_cast,↓reduceIte,reduceCtorEq,zE,zA];exact ⟨0,by omega,rfl⟩
  rintro vs pos b ⟨a,s,rfl,rfl,rfl⟩;rcases (show a=0\/a=1\/a=2 by omega) with rfl | rfl | rfl
  ·have c:decide ((0:Int)<2)=true:=rfl;have d:decide (p.1 < -536870912)=false:=decide_eq_false (by omega);have f:decide (p.1>536870912)=false:=decide_eq_false (by omega);simp only [a9,j,c,d,f,zab,zaa,zax,zae,zaa,push_cast,↓reduceIte,reduceCtorEq,zE,zA,zL];exact ⟨by omega,by omega,by omega,by omega,⟨1,by omega,rfl⟩,by decide⟩
  ·have c:decide ((1:Int)<2)=true:=rfl;have d:decide (p.2 < -536870912)=false:=decide_eq_false (by omega);have f:decide (p.2>536870912)=false:=decide_eq_false (by omega);simp only [a9,j,c,d,f,zal,zaa,zay,zae,zaa,push_cast,↓reduceIte,reduceCtorEq,zE,zA,zL];exact ⟨by omega,by omega,by omega,by omega,⟨2,by omega,rfl⟩,by decide⟩
  have c:decide ((2:Int)<2)=false:=rfl;simp only [a9,c,m,push_cast,↓reduceIte,reduceCtorEq,zE,zA];exact ⟨⟨i+1,by omega,rfl⟩,by omega⟩
 simp only [push_cast,↓reduceIte,zA]
def aec (a nx p:P2):P2:=if p=a then nx else if nx=a then p else if k7 a nx p<0\/(k7 a nx p=0/\aux a nx p=true) then p else nx
def alh (l:List P2) (a:P2):P2:=l.foldl (aec a) a
def agf (f p:P2):P2:=if apa p f=true then p else f
def tx (l:List P2):P2:=l.foldl agf (l.getD 0 (0,0))
def pq (l:List P2) (first:P2):Nat->P2->List P2
 | 0,_=>[]
 | k+1,now=>now::(if alh l now=first\/alh l now=now then [] else pq l first k (alh l now))
def qf (l:List P2):List P2:=if l=[] then [] else if (pq l (tx l) (l.length+1) (tx l)).length<3 then [] else pq l (tx l) (l.length+1) (tx l)
theorem arh (g:P2->P2->P2) (b:∀a p,g a p=a\/g a p=p):∀(l:List P2) (a:P2),l.foldl g a=a\/l.foldl g a∈l
 | [],a=>.inl rfl
 | p::l,a=>by
   rw [zbi];rcases arh g b l (g a p) with h | h
   ·rw [h];rcases b a p with e | e
    ·exact .inl e
    exact .inr (by rw [e]; simp)
   exact .inr (List.mem_cons_of_mem _ h)
theorem a1z (b a p:P2):aec b a p=a\/aec b a p=p:=by
 unfold aec;split
 ·exact .inl rfl
 split
 ·exact .inr rfl
 split
 ·exact .inr rfl
 exact .inl rfl
theorem a2b (a p:P2):agf a p=a\/agf a p=p:=by
 unfold agf;split
 ·exact .inr rfl
 exact .inl rfl
theorem bbn {l:List P2} {a:P2} (h:a∈l):alh l a∈l:=by
 rcases arh (aec a) (a1z a) l a with e | e
 ·unfold alh; rw [e]; exact h
 exact e
theorem a4o {l:List P2} (h:l≠[]):tx l∈l:=by
 have b:l.getD 0 (0,0)∈l:=by
  cases l with
  | nil=>exact absurd rfl h
  | cons a r=>simp
 rcases arh agf a2b l (l.getD 0 (0,0)) with e | e
 ·unfold tx; rw [e]; exact b
 exact e
theorem au8 {l:List P2} {first:P2}:∀(k:Nat) {a:P2},a∈l->∀p∈pq l first k a,p∈l
 | 0,a,h,p,b=>by simp [pq] at b
 | k+1,a,h,p,b=>by
   rw [pq] at b;rcases zas.1 b with rfl | b
   ·exact h
   split at b
   ·simp at b
   exact au8 k (bbn h) p b
theorem amt (l:List P2) (first:P2):∀(k:Nat) (a:P2),(pq l first k a).length<=k
 | 0,a=>by simp [pq]
 | k+1,a=>by
   rw [pq,zai];split
   ·simp
   have:=amt l first k (alh l a)
   omega
variable {res:AV} {ro:List Ob}
theorem a1j (l:List P2) (hl:l.length<=1000) (V:l≠[]) (h:∀p∈l,aa p)
 (e:(qf l=[]/\res=.nils 2 (pnt 0 0)/\ro=[])\/(qf l≠[]/\res=.own 1000000 0 0 (qf l).length/\ro=[i7 (qf l)])) :
 a8 P0 86 [a9 l] [] res ro:=by
 refine oz.t func86 ?_;have ha:=g7
 obtain ⟨Z,r0,I⟩:∃q r,l=q::r:=by
  cases l with
  | nil=>exact absurd rfl V
  | cons q r=>exact ⟨q,r,rfl⟩
 have h8:∀z,(l.map ptR).getD 0 z=.agg [.v (.int .i64 Z.1),.v (.int .i64 Z.2)]:=λ z=>rq (by rw [I]; rfl) z;have h5:l.getD 0 (0,0)=Z:=by rw [I]; rfl
 have h9:1<=l.length:=by rw [I]; simp
 have n0:((l.length:Int) == 0)=false:=beq_eq_false_iff_ne.2 (by omega);have h0:=axx l hl h
 push_cast [oz,a9,zao]
 refine b5 (as':=[a9 l,int .i64 1000]) rfl ?_;refine a6 h0 rfl trivial ?_
 push_cast [a9,h8,n0,zac,zab,zaa]
 refine sO ?_
 refine b9 [(4,false),(0,false),(3,false)] (λ vs pos g=>∃(i:Nat) (f:P2),i<=l.length/\f∈l/\tx l=(l.drop i).foldl agf f/\vs=[int .i64 i,a9 l,.ptr 2000000 0 0]/\pos=[]/\g=[.box [int .i64 f.1,int .i64 f.2]])
  (λ vs _ _=>match vs with | .r (.v (.int _ a))::_=>(l.length-a).toNat | _=>0) rfl ?_ ?_
 ·push_cast [a9]
  exact ⟨0,Z,by omega,by rw [I]; simp,by unfold tx; rw [h5]; rfl,rfl,rfl⟩
 rintro vs pos g ⟨i,f,hi,M,u,rfl,rfl,rfl⟩;have B:IntKind.i64.wrap ((i:Int)+1)=i+1:=a5 (by omega)
 push_cast [a9,zac]
 refine b7 (λ hd=>?_) (λ hd=>?_)
 ·have j:i<l.length:=by have:=of_decide_eq_true hd; omega
  obtain ⟨p,N⟩:∃p,l[i]?=some p:=⟨l[i],by simp [j]⟩
  have w:=zav N;have hg:=λ z=>rq N z;have L:l.drop i=p::l.drop (i+1):=by rw [zbm j,(zcg.1 N).2]
  rw [L,zbi] at u;have h1:=bgx p f
  push_cast [a9,hg,zac,zae,zaf,zaa]
  refine sO ?_;refine i5 (as':=[pv2 p,pv2 f]) rfl ?_;refine d5 h1 rfl trivial ?_
  push_cast
  refine And.intro (by kernel_rfl) ?_;cases hb:apa p f with
  | true=>
    rw [show agf f p=p by rw [agf,hb]; rfl] at u
    push_cast [a9,hg,B,zac,zae,zaf,zaa]
    exact ⟨by omega,⟨i+1,p,by omega,w,u,rfl,rfl⟩,by omega⟩
  | false=>
    rw [show agf f p=f by rw [agf,hb]; rfl] at u
    push_cast [B]
    exact ⟨⟨i+1,f,by omega,M,u,rfl,rfl⟩,by omega⟩
 have j:i=l.length:=by have:=of_decide_eq_false hd; omega
 subst j;rw [zbx,zch] at u;obtain ⟨W,hW⟩:∃W,pq l f (l.length+1) f=W:=⟨_,rfl⟩
 have h6:qf l=if W.length<3 then [] else W:=by unfold qf; rw [if_neg V,u,hW]
 have h4:=amt l f (l.length+1) f;rw [hW] at h4;rw [h6] at e;have he:=h f M
 push_cast
 refine b9 [(7,false),(0,false),(3,false),(5,false),(6,false)] (λ vs pos g=>∃(n:Nat) (o:List P2) (b:P2),n<=l.length+1/\o.length=n/\b∈l/\W=o++pq l f (l.length+1-n) b/\pos=[] /\
  (o=[]/\vs=[int .i64 n,a9 l,.ptr 2000000 0 0,.nils 2 (pnt 0 0),.ptr 2000001 0 0]/\g=[.box [int .i64 f.1,int .i64 f.2],.box [int .i64 b.1,int .i64 b.2]] \/
   o≠[]/\vs=[int .i64 n,a9 l,.ptr 2000000 0 0,.own 2000001 0 0 n,.ptr 2000002 0 0]/\g=[.box [int .i64 f.1,int .i64 f.2],i7 o,.box [int .i64 b.1,int .i64 b.2]]))
  (λ vs _ _=>match vs with | .r (.v (.int _ a))::_=>(l.length+2-a).toNat | _=>0) rfl ?_ ?_
 ·push_cast [a9,pnt]
  exact ⟨0,[],f,by omega,rfl,M,by rw [zbe,<- hW]; rfl,by simp⟩
 rintro vs pos g ⟨n,o,b,hn,s,X,d,rfl,A⟩;have S:=h b X;have wn:IntKind.i64.wrap ((n:Int)+1)=n+1:=a5 (by omega);have D:decide ((-1:Int)<0)=true:=rfl;have K:decide ((0:Int)<0)=false:=rfl;have F:decide ((1:Int)<0)=false:=rfl;have J:((0:Int) == 0)=true:=rfl;have E:((1:Int) == 0)=false:=rfl;have tO:List.take n (o.map ptR)=o.map ptR:=zbq (by simp; omega);have Y:o=[]->n=0:=λ h=>by rw [<- s,h]; rfl
 by_cases hd:n<=l.length
 ·have P:decide ((n:Int)<=(l.length:Int))=true:=decide_eq_true (by omega);obtain ⟨k,hk⟩:∃k,l.length+1-n=k+1:=⟨l.length-n,by omega⟩
  rw [hk,pq] at d
  rcases A with ⟨m,rfl,rfl⟩ | ⟨m,rfl,rfl⟩<;>(
   push_cast [a9,i7,pnt,tO,P,zac]
   refine And.intro (by simp) (And.intro (by first | omega | exact ⟨by omega,by omega⟩) ?_)
   refine b9 [(9,false),(0,false),(3,false),(5,false),(6,false),(8,false),(7,false)] (λ vs pos g=>∃(i:Nat) (nx:P2),i<=l.length/\nx∈l/\alh l b=(l.drop i).foldl (aec b) nx/\pos=[] /\
    vs=[int .i64 i,a9 l,.ptr 2000000 0 0,.own 2000001 0 0 (n+1),.ptr 2000002 0 0,.ptr 2000003 0 0,int .i64 n]/\g=[.box [int .i64 f.1,int .i64 f.2],i7 (o++[b]),.box [int .i64 b.1,int .i64 b.2],.box [int .i64 nx.1,int .i64 nx.2]])
    (λ vs _ _=>match vs with | .r (.v (.int _ a))::_=>(l.length-a).toNat | _=>0) rfl ?_ ?_
   ·push_cast [a9,i7,pnt]
    exact ⟨0,b,by omega,X,rfl,by first | (simp [m,Y m,ptR,pnt]; done) | simp [ptR,pnt]⟩
   rintro vs pos g ⟨i,nx,hi,y,c,rfl,rfl,rfl⟩;have U:=h nx y;have B:IntKind.i64.wrap ((i:Int)+1)=i+1:=a5 (by omega);have q1:=aph nx b;have q2:=aph nx f
   push_cast [a9,i7,pnt,zac]
   refine b7 (λ Q=>?_) (λ Q=>?_)
   ·have j:i<l.length:=by have:=of_decide_eq_true Q; omega
    obtain ⟨p,N⟩:∃p,l[i]?=some p:=⟨l[i],by simp [j]⟩
    have w:=zav N;have T:=h p w;have hg:=λ z=>rq N z;have L:l.drop i=p::l.drop (i+1):=by rw [zbm j,(zcg.1 N).2]
    rw [L,zbi] at c;have q3:=aph p b
    push_cast [a9,i7,pnt,hg,q1,q3,zac,zae,zaf,zaa]
    refine sO ?_;by_cases C:p=b
    ·have G:decide (p=b)=true:=decide_eq_true C;rw [show aec b nx p=nx from if_pos C] at c
     push_cast [G,B]
     exact ⟨⟨i+1,nx,by omega,y,c,rfl,rfl⟩,by omega⟩
    have G:decide (p=b)=false:=decide_eq_false C;by_cases c2:nx=b
    ·have O:decide (nx=b)=true:=decide_eq_true c2;rw [show aec b nx p=p by rw [aec,if_neg C,if_pos c2]] at c
     push_cast [q1,q3,G,O,B]
     exact ⟨⟨i+1,p,by omega,w,c,rfl,rfl⟩,by omega⟩
    have O:decide (nx=b)=false:=decide_eq_false c2;have hN:aec b nx p=if k7 b nx p<0\/(k7 b nx p=0/\aux b nx p=true) then p else nx:=by rw [aec,if_neg C,if_neg c2]
    have h2:=bez b nx p S U T;have H:=a8q b nx p S U T
    push_cast [q1,q3,G,O]
    refine b5 (as':=[pv2 b,pv2 nx,pv2 p]) rfl ?_;refine a6 h2 rfl trivial ?_;rcases (show k7 b nx p<0\/k7 b nx p=0\/0<k7 b nx p by omega) with R | R | R
    ·have es:sg (k7 b nx p)=-1:=if_pos R;rw [hN,if_pos (.inl R)] at c
     push_cast [es,D,K,F,J,E,B]
     exact ⟨⟨i+1,p,by omega,w,c,rfl,rfl⟩,by omega⟩
    ·have es:sg (k7 b nx p)=0:=by rw [sg,if_neg (by omega),if_neg (by omega)]
     cases hfb:aux b nx p with
     | true=>
       rw [hfb] at H;rw [hN,if_pos (.inr ⟨R,hfb⟩)] at c
       push_cast [es,D,K,F,J,E,B]
       refine b5 (as':=[pv2 b,pv2 nx,pv2 p]) rfl ?_;refine a6 H rfl trivial ?_
       push_cast [B]
       exact ⟨⟨i+1,p,by omega,w,c,rfl,rfl⟩,by omega⟩
     | false=>
       rw [hfb] at H;rw [hN,if_neg (λ q=>q.elim (λ q=>by omega) (λ q=>by rw [hfb] at q; exact absurd q.2 (by decide)))] at c
       push_cast [es,D,K,F,J,E,B]
       refine b5 (as':=[pv2 b,pv2 nx,pv2 p]) rfl ?_;refine a6 H rfl trivial ?_
       push_cast [B]
       exact ⟨⟨i+1,nx,by omega,y,c,rfl,rfl⟩,by omega⟩
    have es:sg (k7 b nx p)=1:=by rw [sg,if_neg (by omega),if_pos R]
    rw [hN,if_neg (λ q=>q.elim (λ q=>by omega) (λ q=>by omega))] at c
    push_cast [es,D,K,F,J,E,B]
    exact ⟨⟨i+1,nx,by omega,y,c,rfl,rfl⟩,by omega⟩
   have j:i=l.length:=by have:=of_decide_eq_false Q; omega
   subst j;rw [zbx,zch] at c;rw [c] at d
   push_cast [a9,i7,pnt,q1,q2]
   by_cases C:nx=f
   ·have G:decide (nx=f)=true:=decide_eq_true C;rw [if_pos (.inl C)] at d
    push_cast [G]
    by_cases h3:n+1<3
    ·have x:decide ((n:Int)+1<3)=true:=decide_eq_true (by omega);rw [if_pos (by rw [d]; first | (simp; omega) | omega)] at e;rcases e with ⟨_,rfl,rfl⟩ | ⟨q,_⟩
     ·push_cast [x,pnt]
     exact absurd rfl q
    have x:decide ((n:Int)+1<3)=false:=decide_eq_false (by omega);rw [if_neg (by rw [d]; first | (simp; omega) | omega)] at e;rcases e with ⟨q,_⟩ | ⟨_,rfl,rfl⟩
    ·first | (rw [q] at d; simp at d; done) | exact absurd (d.symm.trans q) m
    rw [d]
    push_cast [x,i7,pnt]
    first | (simp [s]; done) | exact ⟨by simp [s],rfl⟩ | rfl
   have G:decide (nx=f)=false:=decide_eq_false C;by_cases c2:nx=b
   ·have O:decide (nx=b)=true:=decide_eq_true c2;rw [if_pos (.inr c2)] at d
    push_cast [G,O]
    by_cases h3:n+1<3
    ·have x:decide ((n:Int)+1<3)=true:=decide_eq_true (by omega);rw [if_pos (by rw [d]; first | (simp; omega) | omega)] at e;rcases e with ⟨_,rfl,rfl⟩ | ⟨q,_⟩
     ·push_cast [x,pnt]
     exact absurd rfl q
    have x:decide ((n:Int)+1<3)=false:=decide_eq_false (by omega);rw [if_neg (by rw [d]; first | (simp; omega) | omega)] at e;rcases e with ⟨q,_⟩ | ⟨_,rfl,rfl⟩
    ·first | (rw [q] at d; simp at d; done) | exact absurd (d.symm.trans q) m
    rw [d]
    push_cast [x,i7,pnt]
    first | (simp [s]; done) | exact ⟨by simp [s],rfl⟩ | rfl
   have O:decide (nx=b)=false:=decide_eq_false c2;rw [if_neg (λ q=>q.elim C c2)] at d
   push_cast [G,O,wn]
   exact ⟨⟨n+1,o++[b],nx,by omega,by simp [s],y,by rw [d,show l.length+1-(n+1)=k by omega,zat]; rfl,.inr ⟨by simp,rfl,rfl⟩⟩,by omega⟩)
 have P:decide ((n:Int)<=(l.length:Int))=false:=decide_eq_false (by omega);rcases A with ⟨m,rfl,rfl⟩ | ⟨m,rfl,rfl⟩
 ·have:=Y m;omega
 have h7:n=l.length+1:=by omega
 rw [h7,Nat.sub_self,pq,zbr] at d
 push_cast [a9,i7,pnt,P]
 by_cases h3:n<3
 ·have x:decide ((n:Int)<3)=true:=decide_eq_true (by omega);rw [if_pos (by rw [d]; first | (simp; omega) | omega)] at e;rcases e with ⟨_,rfl,rfl⟩ | ⟨q,_⟩
  ·push_cast [x,pnt]
  exact absurd rfl q
 have x:decide ((n:Int)<3)=false:=decide_eq_false (by omega);rw [if_neg (by rw [d]; first | (simp; omega) | omega)] at e;rcases e with ⟨q,_⟩ | ⟨_,rfl,rfl⟩
 ·first | (rw [q] at d; simp at d; done) | exact absurd (d.symm.trans q) m
 rw [d]
 push_cast [x,i7,pnt]
 first | (simp [s]; done) | exact ⟨by simp [s],rfl⟩ | rfl

def dq:Mk P0 f188:={ x:=_ }
def afr:Mk P0 f145:={ x:=_ }
def aef (a:Int) (lo:Int) (p:P2):Int:=min lo (sel a p)
def aeg (a:Int) (hi:Int) (p:P2):Int:=max hi (sel a p)
def ue (a:Int) (l:List P2):Int:=match l with
 | []=>0
 | p::r=>(p::r).foldl (aeg a) (sel a p)-(p::r).foldl (aef a) (sel a p)
theorem a2o (a:Int):∀(l:List P2) (x:Int),(l.foldl (aef a) x=x\/∃p∈l,l.foldl (aef a) x=sel a p)
 | [],x=>.inl rfl
 | p::l,x=>by
   rw [zbi];rcases a2o a l (aef a x p) with h | ⟨q,b,h⟩
   ·rw [h];unfold aef;rcases (show min x (sel a p)=x\/min x (sel a p)=sel a p by omega) with e | e
    ·exact .inl e
    exact .inr ⟨p,by simp,e⟩
   exact .inr ⟨q,by simp [b],h⟩
theorem a2p (a:Int):∀(l:List P2) (x:Int),(l.foldl (aeg a) x=x\/∃p∈l,l.foldl (aeg a) x=sel a p)
 | [],x=>.inl rfl
 | p::l,x=>by
   rw [zbi];rcases a2p a l (aeg a x p) with h | ⟨q,b,h⟩
   ·rw [h];unfold aeg;rcases (show max x (sel a p)=x\/max x (sel a p)=sel a p by omega) with e | e
    ·exact .inl e
    exact .inr ⟨p,by simp,e⟩
   exact .inr ⟨q,by simp [b],h⟩
theorem bcd (a:Int) (k:a=0\/a=1) (l:List P2) (h:qv l) (p:P2) (r:List P2) (e:l=p::r):l.foldl (aeg a) (sel a p)-l.foldl (aef a) (sel a p)<=1073741824:=by
 obtain ⟨_,_,g⟩:=h;have f:p∈l:=by rw [e]; simp
 have d:∃q∈l,l.foldl (aef a) (sel a p)=sel a q:=by
  rcases a2o a l (sel a p) with x | ⟨q,c,x⟩
  ·exact ⟨p,f,x⟩
  exact ⟨q,c,x⟩
 have b:∃q∈l,l.foldl (aeg a) (sel a p)=sel a q:=by
  rcases a2p a l (sel a p) with x | ⟨q,c,x⟩
  ·exact ⟨p,f,x⟩
  exact ⟨q,c,x⟩
 obtain ⟨u,i,j⟩:=d;obtain ⟨v,hv,m⟩:=b;have:=g v hv u i;rw [j,m];rcases k with rfl | rfl
 ·show v.1-u.1<=1073741824;omega
 show v.2-u.2<=1073741824;omega
theorem a57 (l:List P2) (h:qv l):a8 P0 188 [a9 l,int .i64 0] [] (int .i64 (ue 0 l)) []:=by
 refine dq.t func188 ?_;obtain ⟨x,s,w⟩:=h;cases l with
 | nil=>
   push_cast [dq,a9,ue,zbn,zao]
   done
 | cons p r=>
   obtain ⟨l,c⟩:∃l,l=p::r:=⟨_,rfl⟩
   have k:ue 0 (p::r)=l.foldl (aeg 0) p.1-l.foldl (aef 0) p.1:=by rw [c]; rfl
   rw [k,<- c];rw [<- c] at x s w;have o:l[0]?=some p:=by rw [c]; rfl
   have g:=λ z=>rq o z;have u:1<=l.length:=by rw [c]; simp
   have C:((l.length:Int) == 0)=false:=beq_eq_false_iff_ne.2 (by omega);have y:=s p (by rw [c]; simp)
   push_cast [dq,a9,g,C,zac,zao,zab,zal,zaa,zax,zbd,zay,zaj,zak]
   repeat refine And.intro (by first | omega | kernel_rfl) ?_
   refine b9 [(7,false),(0,false),(5,false),(6,false),(1,false)] (λ vs pos d=>∃(i:Nat) (lo hi:Int),i<=l.length/\(-1099511627776<=lo/\lo<=1099511627776)/\(-1099511627776<=hi/\hi<=1099511627776)/\l.foldl (aeg 0) p.1=(l.drop i).foldl (aeg 0) hi/\l.foldl (aef 0) p.1=(l.drop i).foldl (aef 0) lo/\vs=[int .i64 i,a9 l,int .i64 lo,int .i64 hi,int .i64 0]/\pos=[]/\d=[])
    (λ vs _ _=>match vs with | .r (.v (.int _ a))::_=>(l.length-a).toNat | _=>0) rfl ?_ ?_
   ·push_cast [a9]
    exact ⟨0,p.1,p.1,by omega,by omega,by omega,rfl,rfl,rfl⟩
   rintro vs pos d ⟨i,lo,hi,F,B,E,e,f,rfl,rfl,rfl⟩;have G:IntKind.i64.wrap ((i:Int)+1)=i+1:=a5 (by omega)
   push_cast [a9,zac]
   refine b7 (λ m=>?_) (λ m=>?_)
   ·have b:i<l.length:=by have:=of_decide_eq_true m; omega
    obtain ⟨q,n⟩:∃q,l[i]?=some q:=⟨l[i],by simp [b]⟩
    have H:=s q (zav n);have D:=λ z=>rq n z;have j:l.drop i=q::l.drop (i+1):=by rw [zbm b,(zcg.1 n).2]
    rw [j,zbi] at e f
    push_cast [a9,D,G,zac,zab,zal,zaa,zax,zbd,zay,zaj,zak,zae,zaf,zaa]
    repeat refine And.intro (by first | omega | kernel_rfl) ?_
    exact ⟨⟨i+1,min lo q.1,max hi q.1,by omega,by omega,by omega,e,f,rfl⟩,by omega⟩
   have b:i=l.length:=by have:=of_decide_eq_false m; omega
   subst b;rw [zbx,zch] at e f;have A:IntKind.i64.wrap (hi-lo)=hi-lo:=a5 (by omega);rw [e,f]
   push_cast [A]
theorem a56 (l:List P2) (h:qv l):a8 P0 188 [a9 l,int .i64 1] [] (int .i64 (ue 1 l)) []:=by
 refine dq.t func188 ?_;obtain ⟨x,s,w⟩:=h;cases l with
 | nil=>
   push_cast [dq,a9,ue,zbn,zao]
   done
 | cons p r=>
   obtain ⟨l,c⟩:∃l,l=p::r:=⟨_,rfl⟩
   have k:ue 1 (p::r)=l.foldl (aeg 1) p.2-l.foldl (aef 1) p.2:=by rw [c]; rfl
   rw [k,<- c];rw [<- c] at x s w;have o:l[0]?=some p:=by rw [c]; rfl
   have g:=λ z=>rq o z;have u:1<=l.length:=by rw [c]; simp
   have C:((l.length:Int) == 0)=false:=beq_eq_false_iff_ne.2 (by omega);have y:=s p (by rw [c]; simp)
   push_cast [dq,a9,g,C,zac,zao,zab,zal,zaa,zax,zbd,zay,zaj,zak]
   repeat refine And.intro (by first | omega | kernel_rfl) ?_
   refine b9 [(7,false),(0,false),(5,false),(6,false),(1,false)] (λ vs pos d=>∃(i:Nat) (lo hi:Int),i<=l.length/\(-1099511627776<=lo/\lo<=1099511627776)/\(-1099511627776<=hi/\hi<=1099511627776)/\l.foldl (aeg 1) p.2=(l.drop i).foldl (aeg 1) hi/\l.foldl (aef 1) p.2=(l.drop i).foldl (aef 1) lo/\vs=[int .i64 i,a9 l,int .i64 lo,int .i64 hi,int .i64 1]/\pos=[]/\d=[])
    (λ vs _ _=>match vs with | .r (.v (.int _ a))::_=>(l.length-a).toNat | _=>0) rfl ?_ ?_
   ·push_cast [a9]
    exact ⟨0,p.2,p.2,by omega,by omega,by omega,rfl,rfl,rfl⟩
   rintro vs pos d ⟨i,lo,hi,F,B,E,e,f,rfl,rfl,rfl⟩;have G:IntKind.i64.wrap ((i:Int)+1)=i+1:=a5 (by omega)
   push_cast [a9,zac]
   refine b7 (λ m=>?_) (λ m=>?_)
   ·have b:i<l.length:=by have:=of_decide_eq_true m; omega
    obtain ⟨q,n⟩:∃q,l[i]?=some q:=⟨l[i],by simp [b]⟩
    have H:=s q (zav n);have D:=λ z=>rq n z;have j:l.drop i=q::l.drop (i+1):=by rw [zbm b,(zcg.1 n).2]
    rw [j,zbi] at e f
    push_cast [a9,D,G,zac,zab,zal,zaa,zax,zbd,zay,zaj,zak,zae,zaf,zaa]
    repeat refine And.intro (by first | omega | kernel_rfl) ?_
    exact ⟨⟨i+1,min lo q.2,max hi q.2,by omega,by omega,by omega,e,f,rfl⟩,by omega⟩
   have b:i=l.length:=by have:=of_decide_eq_false m; omega
   subst b;rw [zbx,zch] at e f;have A:IntKind.i64.wrap (hi-lo)=hi-lo:=a5 (by omega);rw [e,f]
   push_cast [A]
theorem avi (a:Int) (b:a=0\/a=1) (l:List P2) (h:qv l):ue a l<=1073741824:=by
 cases l with
 | nil=>simp [ue]
 | cons p r=>exact bcd a b (p::r) h p r rfl
theorem a8v (l:List P2) (h:qv l):a8 P0 145 [a9 l] [] (bl true) []:=by
 refine afr.t func145 ?_;have q:=a57 l h;have w:=a56 l h;have n:decide (ue 0 l<=1073741824)=true:=decide_eq_true (avi 0 (.inl rfl) l h);have s:decide (ue 1 l<=1073741824)=true:=decide_eq_true (avi 1 (.inr rfl) l h);obtain ⟨y,u,x⟩:=h;have o:decide ((l.length:Int)>100)=false:=decide_eq_false (by omega);simp only [afr,a9,o,push_cast,↓reduceIte,reduceCtorEq]
 refine b9 [(3,false),(0,false)] (λ vs pos b=>∃i:Nat,i<=l.length/\vs=[int .i64 i,a9 l]/\pos=[]/\b=[])
  (λ vs _ _=>match vs with | .r (.v (.int _ a))::_=>(l.length-a).toNat | _=>0) rfl ?_ ?_
 ·simp only [a9,push_cast,↓reduceIte,reduceCtorEq,zA];exact ⟨0,by omega,rfl⟩
 rintro vs pos b ⟨i,hi,rfl,rfl,rfl⟩;have m:IntKind.i64.wrap ((i:Int)+1)=i+1:=a5 (by omega);simp only [a9,push_cast,↓reduceIte,reduceCtorEq,zE];refine b7 (λ g=>?_) (λ g=>?_)
 ·have e:i<l.length:=by have:=of_decide_eq_true g; omega
  obtain ⟨p,k⟩:∃p,l[i]?=some p:=⟨l[i],by simp [e]⟩
  have B:=u p (zav k);have j:=λ z=>rq k z;simp only [push_cast]
  refine b9 [(4,false),(3,false),(0,false)] (λ vs pos b=>∃a:Nat,a<=2/\vs=[int .i64 a,int .i64 i,a9 l]/\pos=[]/\b=[])
   (λ vs _ _=>match vs with | .r (.v (.int _ a))::_=>(2-a).toNat | _=>0) rfl ?_ ?_
  ·simp only [a9,push_cast,↓reduceIte,reduceCtorEq,zE,zA];exact ⟨0,by omega,rfl⟩
  rintro vs pos b ⟨a,A,rfl,rfl,rfl⟩;rcases (show a=0\/a=1\/a=2 by omega) with rfl | rfl | rfl
  ·have c:decide ((0:Int)<2)=true:=rfl;have d:decide (p.1 < -1099511627776)=false:=decide_eq_false (by omega);have f:decide (p.1>1099511627776)=false:=decide_eq_false (by omega);simp only [a9,j,c,d,f,zab,zaa,zax,zae,zaa,push_cast,↓reduceIte,reduceCtorEq,zE,zA,zL];exact ⟨by omega,by omega,by omega,by omega,⟨1,by omega,rfl⟩,by decide⟩
  ·have c:decide ((1:Int)<2)=true:=rfl;have d:decide (p.2 < -1099511627776)=false:=decide_eq_false (by omega);have f:decide (p.2>1099511627776)=false:=decide_eq_false (by omega);simp only [a9,j,c,d,f,zal,zaa,zay,zae,zaa,push_cast,↓reduceIte,reduceCtorEq,zE,zA,zL];exact ⟨by omega,by omega,by omega,by omega,⟨2,by omega,rfl⟩,by decide⟩
  have c:decide ((2:Int)<2)=false:=rfl;simp only [a9,c,m,push_cast,↓reduceIte,reduceCtorEq,zE,zA];exact ⟨⟨i+1,by omega,rfl⟩,by omega⟩
 simp only [push_cast,↓reduceIte,reduceCtorEq];refine b5 (as':=[a9 l,int .i64 0]) rfl ?_;refine a6 q rfl trivial ?_;simp only [n,push_cast,↓reduceIte,reduceCtorEq,zE];refine b5 (as':=[a9 l,int .i64 1]) rfl ?_;refine a6 w rfl trivial ?_;simp only [s,push_cast,↓reduceIte,zE,zA]

def afs:Mk P0 f140:={ x:=_ }
theorem bgz (x c:Int) (ab:Bool):(bif x == c then true else decide (x>c) == ab)=(if ab then decide (x>=c) else decide (x<=c)):=by
 by_cases h:x=c
 ·subst h;cases ab<;>simp
 have:(x == c)=false:=beq_eq_false_iff_ne.2 h;rw [this];cases ab
 ·by_cases a:x>c
  ·simp [a]
   try omega
  simp [a]
  try omega
 by_cases a:x>c
 ·simp [a]
  try omega
 simp [a]
 try omega
def sA (a x y:Int):Int:=if a=0 then x else y
theorem sA0 (x y:Int):sA 0 x y=x:=rfl
theorem sA1 (x y:Int):sA 1 x y=y:=rfl
def kpB (ab:Bool) (c a:Int):Bool:=if ab then decide (a>=c) else decide (a<=c)
def btB (c b a:Int):Bool:=bif bif decide (b<c) then decide (a>c) else false then true else bif decide (b>c) then decide (a<c) else false
variable {rg:List P2}
theorem bfg {a c:Int} {ab:Bool} (d:a=0\/a=1) (hc:-9007199254740992<=c/\c<=9007199254740992) (h:qv rg) (hi:i<rg.length) :
 ∃(b po e k:Int) (J:Nat) (X:P2),(∀z,(rg.map ptR).getD i z=.agg [.v (.int .i64 (sA a b po)),.v (.int .i64 (sA a po b))])/\(∀z,(rg.map ptR).getD J z=.agg [.v (.int .i64 (sA a e k)),.v (.int .i64 (sA a k e))]) /\
  J<rg.length/\((i:Int)+1).tmod (rg.length:Int)=(J:Int) /\
  (∀K B,kpB ab c b=K->btB c b e=B->al ⟨a,c,ab⟩ rg (i+1)=al ⟨a,c,ab⟩ rg i++((bif K then [(sA a b po,sA a po b)] else [])++(bif B then [X] else []))) /\
  (btB c b e=true->∃E D F:Int,(k-po)*(c-b)=E/\e-b=D/\c7 (k-po)/\c7 (c-b)/\(-1152921504606846976<=E/\E<=1152921504606846976)/\(-1099511627776<=D/\D<=1099511627776)/\D≠0/\F=(if D<0 then (-E)/(-D) else E/D)/\X=(sA a c (po+F),sA a (po+F) c)/\c7 (po+F)):=by
 obtain ⟨Z,W,Q⟩:=h;obtain ⟨p,I⟩:∃p,rg[i]?=some p:=⟨rg[i],by simp [hi]⟩
 obtain ⟨J,w⟩:∃J,(i+1)%rg.length=J:=⟨_,rfl⟩
 have f:J<rg.length:=by rw [<- w]; exact Nat.mod_lt _ (by omega)
 obtain ⟨q,t⟩:∃q,rg[J]?=some q:=⟨rg[J],by simp [f]⟩
 have A:rg.getD i (0,0)=p:=by rw [zar,I]; rfl
 have C:ngh rg i=q:=by unfold ngh; rw [w,zar,t]; rfl
 have j:=zav I;have r:=zav t;have R:=W p j;have T:=Q p j q r;have N:(⟨a,c,ab⟩:Lin).ok:=d;have M:al ⟨a,c,ab⟩ rg (i+1)=al ⟨a,c,ab⟩ rg i++ss ⟨a,c,ab⟩ p q:=by rw [al,A,C]
 refine ⟨sel a p,sel (1-a) p,sel a q,sel (1-a) q,J,t7 ⟨a,c,ab⟩ p q,λ z=>?_,λ z=>?_,f,by rw [Int.tmod_eq_emod_of_nonneg (by omega),<- w,Int.natCast_emod,zci]; rfl,λ K B S U=>?_,λ P=>?_⟩
 ·rw [rq I];rcases d with rfl | rfl<;>rfl
 ·rw [rq t];rcases d with rfl | rfl<;>rfl
 ·have o:jb ⟨a,c,ab⟩ p q=B:=by
   rw [<- U,btB,a46];show (decide (sel a p<c)&&decide (c<sel a q)||decide (sel a q<c)&&decide (c<sel a p)) = _;rw [Bool.and_comm (decide (sel a q<c))]
  have G:u6 ⟨a,c,ab⟩ p=K:=S;rw [M,ss,o,G];have s:(sA a (sel a p) (sel (1-a) p),sA a (sel (1-a) p) (sel a p))=p:=by rcases d with rfl | rfl<;>rfl
  rw [s];cases K<;>cases B<;>rfl
 have l:(sel a p<c/\c<sel a q)\/(sel a q<c/\c<sel a p):=by
  rw [btB,a46] at P;simp only [zcj,zck,decide_eq_true_eq] at P;omega
 have g:=aob N (p:=p) (q:=q) (by
  unfold jb;simp only [zcj,zck,decide_eq_true_eq]
  exact l)
 have Y:(-1099511627776<=sel a p/\sel a p<=1099511627776)/\(-1099511627776<=sel (1-a) p/\sel (1-a) p<=1099511627776)/\(-1073741824<=sel a q-sel a p/\sel a q-sel a p<=1073741824)/\(-1073741824<=sel (1-a) q-sel (1-a) p/\sel (1-a) q-sel (1-a) p<=1073741824):=by
  have H:∀p:P2,sel 0 p=p.1:=λ _=>rfl;have L:∀p:P2,sel 1 p=p.2:=λ _=>rfl;rcases d with rfl | rfl<;>simp only [Int.sub_zero,Int.sub_self,H,L]<;>omega
 have O:t7 ⟨a,c,ab⟩ p q=(sA a c (sel (1-a) p+(if sel a q-sel a p<0 then (-((sel (1-a) q-sel (1-a) p)*(c-sel a p)))/(-(sel a q-sel a p)) else (sel (1-a) q-sel (1-a) p)*(c-sel a p)/(sel a q-sel a p))),sA a (sel (1-a) p+(if sel a q-sel a p<0 then (-((sel (1-a) q-sel (1-a) p)*(c-sel a p)))/(-(sel a q-sel a p)) else (sel (1-a) q-sel (1-a) p)*(c-sel a p)/(sel a q-sel a p))) c):=by
  have V:∀u v:Int,(if sel a q-sel a p<0 then u else if 0<sel a q-sel a p then v else 0)=if sel a q-sel a p<0 then u else v:=λ u v=>by
   split
   ·rfl
   rw [if_pos (by omega)]
  unfold t7;simp only [V];rcases d with rfl | rfl<;>rfl
 have m:=gm (n:=1073741824) (m:=1073741824) (x:=sel (1-a) q-sel (1-a) p) (y:=c-sel a p) (by omega) (by omega);refine ⟨_,_,_,rfl,rfl,by unfold c7; omega,by unfold c7; omega,by omega,by omega,by omega,rfl,O,?_⟩;rw [O] at g;unfold Btw at g;unfold c7;have H:∀p:P2,sel 0 p=p.1:=λ _=>rfl;have L:∀p:P2,sel 1 p=p.2:=λ _=>rfl;generalize (if sel a q-sel a p<0 then (-((sel (1-a) q-sel (1-a) p)*(c-sel a p)))/(-(sel a q-sel a p)) else (sel (1-a) q-sel (1-a) p)*(c-sel a p)/(sel a q-sel a p))=F at *;rcases d with rfl | rfl<;>simp only [Int.sub_zero,Int.sub_self,H,L,sA0,sA1] at * <;> omega
theorem ao3 (l:Lin) (q:l.ok) (hc:-9007199254740992<=l.at'/\l.at'<=9007199254740992) (rg:List P2) (h:qv rg) :
 a8 P0 140 [a9 rg,int .i64 l.axis,int .i64 l.at',bl l.above] [] (.own 1000000 0 0 (af l rg).length) [i7 (af l rg)]:=by
 obtain ⟨a,c,ab⟩:=l;have k:a=0\/a=1:=q;simp only at hc |-;have n:=λ i hi=>bfg (ab:=ab) k hc h (i:=i) hi;have hf:=a8v rg h;obtain ⟨h1,h2,h3⟩:=h;obtain ⟨l,q⟩:∃l:Lin,l=⟨a,c,ab⟩:=⟨_,rfl⟩
 rw [<- q] at n |-
 have f:∀{res:AV} {ro:List Ob},((af l rg=[]/\res=.nils 2 (pnt 0 0)/\ro=[])\/(af l rg≠[]/\res=.own 1000000 0 0 (af l rg).length/\ro=[i7 (af l rg)]))->a8 P0 140 [a9 rg,int .i64 a,int .i64 c,bl ab] [] res ro:=λ {res ro} m=>by
  refine afs.t func140 ?_;have h4:=g7;have Z:decide (a<0)=false:=decide_eq_false (by omega);have T:decide (a>1)=false:=decide_eq_false (by omega)
  push_cast [afs,a9,zac,zao]
  refine b5 (as':=[a9 rg]) rfl ?_;refine a6 hf rfl trivial ?_
  push_cast [a9,Z,T,zac]
  refine b9 [(10,false),(0,false),(1,false),(2,false),(3,false),(9,false)] (λ vs pos g=>∃i:Nat,i<=rg.length/\pos=[] /\
   (al l rg i=[]/\vs=[int .i64 i,a9 rg,int .i64 a,int .i64 c,bl ab,.nils 2 (pnt 0 0)]/\g=[] \/
    al l rg i≠[]/\vs=[int .i64 i,a9 rg,int .i64 a,int .i64 c,bl ab,.own 2000000 0 0 (al l rg i).length]/\g=[i7 (al l rg i)]))
   (λ vs _ _=>match vs with | .r (.v (.int _ a))::_=>(rg.length-a).toNat | _=>0) rfl ?_ ?_
  ·push_cast [a9,pnt]
   exact ⟨0,by omega,.inl ⟨rfl,by simp⟩⟩
  rintro vs pos g ⟨i,hi,rfl,e⟩;have M:=aij l rg i;have x:IntKind.i64.wrap ((i:Int)+1)=(i:Int)+1:=a5 (by omega);by_cases w:i<rg.length
  ·have y:decide ((i:Int)<(rg.length:Int))=true:=decide_eq_true (by omega);have C:¬((rg.length:Int)=0):=by omega
   have P:IntKind.i64.wrap 1=1:=rfl;have Q:IntKind.i64.wrap 0=0:=rfl;obtain ⟨o,po,W,I,J,X,A,s,hJ,wJ,hN,hX⟩:=n i w
   rcases e with ⟨d,rfl,rfl⟩ | ⟨d,rfl,rfl⟩<;>rcases k with k | k<;>(
    push_cast [a9,i7,pnt,A,s,x,wJ,C,y,k,sA0,sA1,zac,zab,zal,zad,zaa,zax,zbd,zay,zaj,zak,zby,zbz,zae,zaf,zaa]
    repeat refine And.intro (by first | omega | kernel_rfl | exact λ h=>by rw [h]; rfl) ?_
    rw [bgz,<- kpB];obtain ⟨K,N⟩:∃K,kpB ab c o=K:=⟨_,rfl⟩
    obtain ⟨B,z⟩:∃B,btB c o W=B:=⟨_,rfl⟩
    have hN:=hN K B N z;rw [N]
    refine b7 (λ L=>?_) (λ L=>?_)<;>(
     subst L
     push_cast [a9,i7,pnt,m5,zac]
     repeat refine And.intro (by first | omega | exact ⟨by omega,by omega⟩ | kernel_rfl | (simp; done) | exact λ a=>by rw [a]; rfl | exact λ a b=>by rw [a,b]; rfl) ?_
     rw [<- btB,z];refine b7 (λ G=>?_) (λ G=>?_)
     ·subst G;obtain ⟨E,D,F,hE,hD,R,S,g3,g4,g5,n,p,g6⟩:=hX z;have v1:IntKind.i64.wrap (I-po)=I-po:=a5 R;have v2:IntKind.i64.wrap (c-o)=c-o:=a5 S;have V:IntKind.i64.wrap E=E:=a5 (by omega);have v4:IntKind.i64.wrap D=D:=a5 (by omega);have v5:IntKind.i64.wrap (-E)=-E:=a5 (by omega);have v6:IntKind.i64.wrap (-D)=-D:=a5 (by omega);have U:IntKind.i64.wrap (0-E)=-E:=by rw [a5 (by omega)]; omega
      have v8:IntKind.i64.wrap (0-D)=-D:=by rw [a5 (by omega)]; omega
      have Y:IntKind.i64.wrap (po+F)=po+F:=a5 g6
      push_cast [P,Q,v1,v2,hE,hD,V,v4,zab,zal,zad,zaa,zax,zbd,zay,zaj,zak,zby,zbz]
      repeat refine And.intro (by first | omega | exact ⟨by omega,by omega⟩ | kernel_rfl | (simp; done) | exact λ a=>by rw [a]; rfl | exact λ a b=>by rw [a,b]; rfl) ?_
      rw [p,k] at hN;have j:=aab (if D<0 then -E else E) (if D<0 then -D else D) (by unfold c7; split<;>omega) (by unfold c7; split<;>omega)
      by_cases O:D<0<;>(
       simp only [O,if_true,if_false] at n j;rw [if_pos (by omega),if_pos (by omega),<- n] at j
       push_cast [O,decide_true,decide_false,v5,v6,U,v8,zab,zal,zad,zaa,zax,zbd,zay,zaj,zak,zby,zbz]
       refine a6 j rfl trivial ?_
       push_cast [P,Q,Y,x,pnt,m5,zab,zal,zad,zaa,zax,zbd,zay,zaj,zak,zby,zbz]
       repeat refine And.intro (by first | omega | exact ⟨by omega,by omega⟩ | kernel_rfl | (simp; done) | exact λ a=>by rw [a]; rfl | exact λ a b=>by rw [a,b]; rfl) ?_
       refine ⟨⟨i+1,by omega,.inr ⟨?_,?_,?_⟩⟩,by omega⟩<;>rw [hN]<;>simp [ptR,pnt,d,sA0,sA1,zci,zbq])
     subst G
     push_cast [x]
     rw [k] at hN
     first
     | exact ⟨⟨i+1,by omega,.inl ⟨by rw [hN,d]; rfl,by simp [zci]⟩⟩,by omega⟩
     | (refine ⟨⟨i+1,by omega,.inr ⟨?_,?_,?_⟩⟩,by omega⟩<;>rw [hN]<;>simp [ptR,pnt,d,sA0,sA1,zci]; done)))
  have y:decide ((i:Int)<(rg.length:Int))=false:=decide_eq_false (by omega);have u:i=rg.length:=by omega
  subst u;rcases e with ⟨d,rfl,rfl⟩ | ⟨d,rfl,rfl⟩<;>push_cast [a9,i7,pnt,y]<;>rcases m with ⟨H,rfl,rfl⟩ | ⟨H,rfl,rfl⟩<;>first
  | exact absurd d H
  | exact absurd H d
  | exact ⟨rfl,rfl⟩
  | push_cast [pnt]
 by_cases d:af l rg=[]
 ·have:=aed (f (.inl ⟨d,rfl,rfl⟩));rw [d];exact this
 exact f (.inr ⟨d,rfl,rfl⟩)

def afv:Mk P0 f85:={ x:=_ }
def acv:Mk P0 f87:={ x:=_ }
theorem bgf (lo hi:P2) (b:(-9007199254740992<=lo.1/\lo.1<=9007199254740992)/\(-9007199254740992<=lo.2/\lo.2<=9007199254740992)) (c:(-9007199254740992<=hi.1/\hi.1<=9007199254740992)/\(-9007199254740992<=hi.2/\hi.2<=9007199254740992))
 (rg:List P2) (h:∀i,i<4->qv (du lo hi rg i)):a8 P0 85 [a9 rg,pv2 lo,pv2 hi] [] (.own 1000000 0 0 (ml lo hi rg).length) [i7 (ml lo hi rg)]:=by
 refine afv.t func85 ?_;simp only [afv,a9,pv2,pnt,zab,zaa,push_cast,↓reduceIte,reduceCtorEq,zE,zA,zL,zM]
 have d:∀(i:Nat) (l:Lin),(mg lo hi)[i]?=some l->du lo hi rg (i+1)=af l (du lo hi rg i):=λ i l k=>by
  unfold du;rw [List.take_add_one,k,List.foldl_append]
  rfl
 have e:=ao3 ⟨0,lo.1,true⟩ (.inl rfl) b.1 _ (h 0 (by decide));have g:=ao3 ⟨0,hi.1,false⟩ (.inl rfl) c.1 _ (h 1 (by decide));have j:=ao3 ⟨1,lo.2,true⟩ (.inr rfl) b.2 _ (h 2 (by decide));have f:=ao3 ⟨1,hi.2,false⟩ (.inr rfl) c.2 _ (h 3 (by decide));rw [<- d 0 _ rfl] at e;rw [<- d 1 _ rfl] at g;rw [<- d 2 _ rfl] at j;rw [<- d 3 _ rfl] at f;refine sO ?_;refine i5 (as':=[a9 rg,int .i64 0,int .i64 lo.1,bl true]) rfl ?_;refine d5 e rfl trivial ?_;simp only [i7,pnt,zab,zaa,push_cast,↓reduceIte,zE,zA,zS,zL,zD,zM];refine sO ?_
 try rw [m5]
 refine i5 (as':=[a9 (du lo hi rg 1),int .i64 0,int .i64 hi.1,bl false]) rfl ?_
 refine ach g rfl trivial (by simp [bj]) (by
  intro o a;simp only [zaz] at a;subst a
  exact ael _) ?_
 simp only [i7,pnt,zal,zaa,push_cast,↓reduceIte,zE,zA,zS,zL,zD,zM];refine sO ?_
 try rw [m5]
 refine i5 (as':=[a9 (du lo hi rg 2),int .i64 1,int .i64 lo.2,bl true]) rfl ?_
 refine ach j rfl trivial (by simp [bj]) (by
  intro o a;simp only [zaz] at a;subst a
  exact ael _) ?_
 simp only [i7,pnt,zal,zaa,push_cast,↓reduceIte,zE,zA,zS,zL,zD,zM];refine sO ?_
 try rw [m5]
 refine i5 (as':=[a9 (du lo hi rg 3),int .i64 1,int .i64 hi.2,bl false]) rfl ?_
 refine ach f rfl trivial (by simp [bj]) (by
  intro o a;simp only [zaz] at a;subst a
  exact ael _) ?_
 simp only [i7,pnt,zaa,push_cast,↓reduceIte,zE,zA,zS,zL,zD,zM];refine And.intro (by kernel_rfl) ?_;exact ⟨rfl,rfl⟩
theorem a6u (b:Int) (B:1<=b/\b<=9007199254740992) (rg:List P2) (h:qv rg)
 (g:(rg=[]/\res=.nils 2 (pnt 0 0)/\ro=[])\/(rg≠[]/\res=.own 1000000 0 0 (z6 b rg).length/\ro=[i7 (z6 b rg)])) :
 a8 P0 87 [a9 rg,int .i64 b] [] res ro:=by
 refine acv.t func87 ?_;have y:=g7;have u:=a8v rg h;obtain ⟨A,x,z⟩:=h;have w:decide (b<1)=false:=by simp; omega
 push_cast [acv,a9,w,zao]
 refine b5 (as':=[a9 rg]) rfl ?_;refine a6 u rfl trivial ?_
 push_cast [w,zac]
 have m:∀i,(z6 b (rg.take i)).length<=i:=λ i=>by unfold z6; simp; omega
 refine b9 [(6,false),(0,false),(1,false),(5,false)] (λ vs pos j=>∃i:Nat,i<=rg.length/\pos=[] /\
  (i=0/\vs=[int .i64 i,a9 rg,int .i64 b,.nils 2 (pnt 0 0)]/\j=[] \/
   i≠0/\vs=[int .i64 i,a9 rg,int .i64 b,.own 2000000 0 0 (z6 b (rg.take i)).length]/\j=[i7 (z6 b (rg.take i))]))
  (λ vs _ _=>match vs with | .r (.v (.int _ a))::_=>(rg.length-a).toNat | _=>0) rfl ?_ ?_
 ·push_cast [a9,pnt]
  exact ⟨0,by omega,.inl ⟨rfl,by simp⟩⟩
 rintro vs pos j ⟨i,hi,rfl,⟨s,rfl,rfl⟩ | ⟨s,rfl,rfl⟩⟩
 ·have n:=m i
  push_cast [a9,pnt,zac]
  refine b7 (λ k=>?_) (λ k=>?_)
  ·have c:i<rg.length:=by simpa using k
   obtain ⟨p,f⟩:∃p,rg[i]?=some p:=⟨rg[i],by simp [c]⟩
   have q:=x p (zav f);have l:IntKind.i64.wrap ((i:Int)+1)=(i:Int)+1:=a5 (by omega);have e:=aab p.1 b (by unfold c7; omega) (by unfold c7; omega);have d:=aab p.2 b (by unfold c7; omega) (by unfold c7; omega);rw [if_pos (by omega),if_pos (by omega)] at e d
   have hN:z6 b (rg.take (i+1))=[(p.1/b,p.2/b)]:=by
    unfold z6;rw [List.take_add_one,f,zbf];rw [s]; rfl
   push_cast [a9,zac,rq f,l,zab,zal,zad,zaj,zak,zbo,zbs,zai,zae,zaf,zaa]
   repeat refine sI ?_
   refine a6 e rfl trivial ?_
   push_cast [a9,zac,rq f,l,zab,zal,zad,zaj,zak,zbo,zbs,zai,zae,zaf,zaa]
   repeat refine sI ?_
   refine a6 d rfl trivial ?_
   push_cast [a9,zac,m5,l,zab,zal,zad,zaj,zak,zbo,zbs,zai,zae,zaf,zaa]
   repeat refine sI ?_
   exact ⟨⟨i+1,by omega,.inr ⟨by omega,by rw [hN]; simp,by rw [hN]; simp [ptR,pnt]⟩⟩,by omega⟩
  have c:i=rg.length:=by
   have:¬i<rg.length:=by simpa using k
   omega
  rcases g with ⟨o,rfl,rfl⟩ | ⟨o,rfl,rfl⟩
  ·push_cast [pnt]
  exact absurd (List.length_eq_zero_iff.1 (by omega)) o
 have n:=m i
 push_cast [a9,pnt,zac]
 refine b7 (λ k=>?_) (λ k=>?_)
 ·have c:i<rg.length:=by simpa using k
  obtain ⟨p,f⟩:∃p,rg[i]?=some p:=⟨rg[i],by simp [c]⟩
  have q:=x p (zav f);have l:IntKind.i64.wrap ((i:Int)+1)=(i:Int)+1:=a5 (by omega);have e:=aab p.1 b (by unfold c7; omega) (by unfold c7; omega);have d:=aab p.2 b (by unfold c7; omega) (by unfold c7; omega);rw [if_pos (by omega),if_pos (by omega)] at e d
  have hN:z6 b (rg.take (i+1))=z6 b (rg.take i)++[(p.1/b,p.2/b)]:=by
   unfold z6;rw [List.take_add_one,f,zbf]
   rfl
  push_cast [a9,zac,rq f,l,zab,zal,zad,zaj,zak,zbo,zbs,zai,zae,zaf,zaa]
  repeat refine sI ?_
  refine a6 e rfl trivial ?_
  push_cast [a9,zac,rq f,l,zab,zal,zad,zaj,zak,zbo,zbs,zai,zae,zaf,zaa]
  repeat refine sI ?_
  refine a6 d rfl trivial ?_
  push_cast [a9,zac,m5,l,zab,zal,zad,zaj,zak,zbo,zbs,zai,zae,zaf,zaa]
  repeat refine sI ?_
  exact ⟨⟨i+1,by omega,.inr ⟨by omega,by rw [hN]; simp,by rw [hN]; simp [ptR,pnt]⟩⟩,by omega⟩
 have c:i=rg.length:=by
  have:¬i<rg.length:=by simpa using k
  omega
 rcases g with ⟨o,rfl,rfl⟩ | ⟨o,rfl,rfl⟩
 ·exfalso; rw [o] at c; exact s c
 rw [c,List.take_length]; push_cast [pnt]; rfl

def adi:Mk P0 f44:={ x:=_ }
variable {a b:P2}
theorem bgg (lo hi:P2) (e:(-9007199254740992<=lo.1/\lo.1<=9007199254740992)/\(-9007199254740992<=lo.2/\lo.2<=9007199254740992)) (f:(-9007199254740992<=hi.1/\hi.1<=9007199254740992)/\(-9007199254740992<=hi.2/\hi.2<=9007199254740992)) (h:ut a b rg) (g:rg.length<=6) (l:-1099511627776<=a.1/\b.1<=1099511627776/\b.1-a.1<=1073741824) (j:-1099511627776<=a.2/\b.2<=1099511627776/\b.2-a.2<=1073741824) :
 a8 P0 85 [a9 rg,pv2 lo,pv2 hi] [] (.own 1000000 0 0 (ml lo hi rg).length) [i7 (ml lo hi rg)]/\ut a b (ml lo hi rg)/\qv (ml lo hi rg):=by
 have d:∀i,i<=4->qv (du lo hi rg i):=λ i c=>by
  obtain ⟨k,m⟩:=akv (lo:=lo) (hi:=hi) h i c;have:2^i<=2^4:=Nat.pow_le_pow_right (by decide) c;have:=Nat.mul_le_mul this g;exact a1k k (by omega) l j
 exact ⟨bgf lo hi e f rg λ i c=>d i (by omega),(akv h 4 (zbt _)).1,d 4 (zbt _)⟩
def fh (t:Til) (z:Ei):List P2:=if tch z t.r.toNat (2^(30-t.z).toNat) t.x t.y=true then qf (z6 (3*q8 t) (ra t z)) else []
theorem bgb:a8 P0 86 [a9 []] [] (.nils 2 (pnt 0 0)) []:=by
 refine oz.t func86 ?_
 push_cast [oz,a9,zbn,zao]
 refine b5 (as':=[a9 [],int .i64 1000]) rfl ?_;refine a6 (axx [] (by decide) (by simp)) rfl trivial ?_
 push_cast [pnt,zao]
theorem avs (t:Til) (h:tis t=true) (hf:cn t=false) (z:Ei) (hk:okc t.r.toNat z) (hz:z.In 1073741824) (hb:qg z t.r.toNat)
 (c:(fh t z=[]/\res=.nils 2 (pnt 0 0)/\ro=[])\/(fh t z≠[]/\res=.own 1000000 0 0 (fh t z).length/\ro=[i7 (fh t z)])) :
 a8 P0 44 [t.v,uw (y6 t.r.toNat z)] [] res ro:=by
 refine adi.t func44 ?_;have C:0<=t.z/\t.z<=18/\0<=t.r/\t.r<=12/\0<=t.x/\t.x<2^t.z.toNat/\0<=t.y/\t.y<2^t.z.toNat:=by simpa [tis] using h
 have ho:=abn h;have h1:=bd0 t h hf z hk hb
 push_cast [adi,Til.v,uw,zao]
 refine b5 (as':=[t.v,uw (y6 t.r.toNat z)]) rfl ?_;refine a6 h1 rfl trivial ?_
 push_cast
 cases H:tch z t.r.toNat (2^(30-t.z).toNat) t.x t.y with
 | false=>
   have hN:fh t z=[]:=by
    unfold fh;rw [H];exact if_neg (by decide)
   rcases c with ⟨_,rfl,rfl⟩ | ⟨h,_⟩
   ·push_cast [pnt]
   exact absurd hN h
 | true=>
   have hN:fh t z=qf (z6 (3*q8 t) (ra t z)):=by
    unfold fh;rw [H];exact if_pos rfl
   rw [hN] at c
   push_cast
   refine b5 (as':=[uw (y6 t.r.toNat z)]) rfl ?_;refine a6 (aqv t.r z C.2.2.1 hk) rfl trivial ?_
   push_cast [cel]
   refine b5 (as':=[t.v]) rfl ?_;refine a6 (avu t h) rfl trivial ?_
   push_cast [pnt]
   refine b5 (as':=[z.v,int .i64 t.r]) rfl ?_;refine a6 (a6t z t.r hz ⟨C.2.2.1,C.2.2.2.1⟩) rfl trivial ?_;rw [a8p]
   push_cast [pnt]
   have K:=aav h;have S:=xk ⟨C.1,C.2.1⟩;obtain ⟨f,n⟩:∃f,t.x*2^(30-t.z).toNat=f:=⟨_,rfl⟩
   obtain ⟨g,o⟩:∃g,t.y*2^(30-t.z).toNat=g:=⟨_,rfl⟩
   obtain ⟨S0,m⟩:∃S0:Int,2^(30-t.z).toNat=S0:=⟨_,rfl⟩
   rw [Int.add_mul,Int.one_mul,Int.add_mul,Int.one_mul] at K;rw [n,o,m] at K;rw [m] at S;have e:dm t z=(aca z t.r.toNat).map (shP (-(3*f),-(3*g))):=by unfold dm aev; rw [n,o]
   obtain ⟨R,s⟩:∃R,aca z t.r.toNat=R:=⟨_,rfl⟩
   have Z:R.length=6:=by rw [<- s,alu]
   have O:∀p∈R,(-4294967296<=p.1/\p.1<=4294967296)/\(-4294967296<=p.2/\p.2<=4294967296):=λ p j=>by
    rw [<- s] at j;obtain ⟨i,hi,rfl⟩:=zaw.1 j;exact hb i (zbu.1 hi)
   rw [n,o,m,s];rw [s] at e;obtain ⟨d,hd⟩:∃d:P2,(-(3*f),-(3*g))=d:=⟨_,rfl⟩
   rw [hd] at e
   refine b9 [(11,false),(10,false),(7,false),(8,false),(2,false)] (λ vs pos w=>∃i:Nat,i<=6/\vs=[int .i64 i,.own 2000000 0 0 6,int .i64 f,int .i64 g,.ptr 2000001 0 0]/\pos=[]/\w=[i7 ((R.take i).map (shP d)++R.drop i),.box [int .i64 t.z,int .i64 t.x,int .i64 t.y,int .i64 t.r]])
    (λ vs _ _=>match vs with | .r (.v (.int _ a))::_=>(6-a).toNat | _=>0) rfl ?_ ?_
   ·push_cast [i7,pnt]
    exact ⟨0,by omega,rfl,by simp⟩
   rintro vs pos w ⟨i,hi,rfl,rfl,rfl⟩
   push_cast [i7,pnt]
   refine b7 (λ l=>?_) (λ l=>?_)
   ·have G:i<6:=by have:=of_decide_eq_true l; omega
    obtain ⟨p,j⟩:∃p,R[i]'(by omega)=p:=⟨_,rfl⟩
    have hh:=O p (j▸zca _);have wi:IntKind.i64.wrap ((i:Int)+1)=(i:Int)+1:=a5 (by omega);have Q:R.drop i=p::R.drop (i+1):=by rw [zbm (by omega),j]
    have h2:(R.take (i+1)).map (shP d)=(R.take i).map (shP d)++[shP d p]:=by rw [List.take_succ_eq_append_getElem (by omega),j,zbf]; rfl
    obtain ⟨A,X⟩:∃A,(R.take i).map (shP d)=A:=⟨_,rfl⟩
    have J:A.length=i:=by rw [<- X]; simp; omega
    obtain ⟨T,H⟩:∃T,R.drop (i+1)=T:=⟨_,rfl⟩
    rw [Q,X,H]
    have hg:∀q:P2,∀z,((A++q::T).map ptR).getD i z=.agg [.v (.int .i64 q.1),.v (.int .i64 q.2)]:=λ q z=>by
     rw [<- J]; exact acb A T q z
    have hs:∀(q:P2) (a b:Int),((A++q::T).map ptR).set i (.agg [.v (.int .i64 a),.v (.int .i64 b)])=(A++(a,b)::T).map ptR:=λ q a b=>by
     rw [show (RV.agg [.v (.int .i64 a),.v (.int .i64 b)])=ptR (a,b) from rfl,<- List.map_set,<- J];congr 1;simp
    have P:IntKind.i64.wrap (3*f)=3*f:=a5 (by omega);have m2:IntKind.i64.wrap (3*g)=3*g:=a5 (by omega);have M:IntKind.i64.wrap (p.1-3*f)=p.1-3*f:=a5 (by omega);have m4:IntKind.i64.wrap (p.2-3*g)=p.2-3*g:=a5 (by omega)
    push_cast [i7,pnt,hg,hs,P,m2,M,m4,wi,d9,zab,zad,zaa,zax,zay,zaj,zak,zby,zbz,zae,zaf,zaa]
    repeat refine And.intro (by first | exact ⟨by omega,by omega⟩ | kernel_rfl) ?_
    refine ⟨⟨i+1,by omega,by simp,?_⟩,by omega⟩;rw [h2,X,H,<- hd];simp [shP,Int.sub_eq_add_neg]
   have G:i=6:=by have:=of_decide_eq_false l; omega
   subst G
   have B:(R.take 6).map (shP d)++R.drop 6=dm t z:=by
    rw [e,zbq (by omega),List.drop_of_length_le (by omega),zbr]
   rw [B];have h9:=ao4 (18-t.z) (by omega) (by omega)
   have h8:1<=q8 t/\q8 t<=262144:=by
    have h1:2^(18-t.z).toNat<=2^18:=Nat.pow_le_pow_right (by decide) (by omega);have h3:((2^(18-t.z).toNat:Nat):Int)=(2:Int)^(18-t.z).toNat:=by simp
    have h4:0<2^(18-t.z).toNat:=Nat.pow_pos (by decide);unfold q8;omega
   push_cast
   rw [show IntKind.i64.wrap (18-t.z)=18-t.z from a5 (by omega)];refine a6 h9 rfl trivial ?_;rw [show (2:Int)^(18-t.z).toNat=q8 t from rfl];obtain ⟨U,hU⟩:∃U,q8 t=U:=⟨_,rfl⟩
   rw [hU] at h8 c |-;have P:IntKind.i64.wrap (-192*U)=-192*U:=a5 (by omega);have m2:IntKind.i64.wrap (12480*U)=12480*U:=a5 (by omega);have M:IntKind.i64.wrap (3*U)=3*U:=a5 (by omega)
   push_cast [i7,pnt,P,m2,M]
   have ha:=aq9 t.r.toNat 0 (by omega) (by decide);have h6:=hb 0 (by decide);rw [bq,bp] at h6
   have D:ut (3*cx z t.r.toNat-100000000-3*f,3*cy z t.r.toNat-100000000-3*g) (3*cx z t.r.toNat+100000000-3*f,3*cy z t.r.toNat+100000000-3*g) (dm t z):=λ p j=>by
    rw [e,<- s,<- hd] at j;obtain ⟨q,Y,rfl⟩:=zaw.1 j;obtain ⟨i,hi,rfl⟩:=zaw.1 Y;have hk:=aq9 t.r.toNat i (by omega) (zbu.1 hi);simp only [shP,bq,bp];omega
   have u:(dm t z).length=6:=by rw [e]; simp [Z]
   have h5:aor (dm t z):=by rw [e,<- s]; exact alt z _ (by omega) d
   obtain ⟨c1,c2,N⟩:=bgg (-192*U,-192*U) (12480*U,12480*U) (by simp only; omega) (by simp only; omega) D (by omega) (by simp only; omega) (by simp only; omega);have V:=apm (-192*U,-192*U) (12480*U,12480*U) D
   have c5:(ml (-192*U,-192*U) (12480*U,12480*U) (dm t z)).length<=10:=by
    have:=(aku (lo:=(-192*U,-192*U)) (hi:=(12480*U,12480*U)) h5 4 (zbt _)).2;rw [u] at this;exact this
   have hW:ra t z=ml (-192*U,-192*U) (12480*U,12480*U) (dm t z):=by unfold ra; rw [hU]
   rw [<- hW] at c1 c2 N V c5;obtain ⟨W,h7⟩:∃W,ra t z=W:=⟨_,rfl⟩
   rw [h7] at c1 c2 N V c5 c;have F:List.take 6 ((dm t z).map ptR)=(dm t z).map ptR:=zbq (by simp [u]);refine j9 ?_;rw [F]
   push_cast [pnt]
   refine b5 (as':=[a9 (dm t z),pv2 (-192*U,-192*U),pv2 (12480*U,12480*U)]) rfl ?_;refine a6 c1 rfl trivial ?_
   push_cast [i7,pnt,M]
   refine j9 ?_
   try rw [m5]
   push_cast [pnt]
   refine b5 (as':=[a9 W,int .i64 (3*U)]) rfl ?_;by_cases k:W=[]
   ·refine a6 (a6u (3*U) (by omega) W N (.inl ⟨k,rfl,rfl⟩)) rfl trivial ?_
    push_cast [pnt]
    refine b5 (as':=[a9 []]) rfl ?_;refine a6 bgb rfl trivial ?_;have h0:qf (z6 (3*U) W)=[]:=by rw [k]; rfl
    rw [h0] at c;rcases c with ⟨_,rfl,rfl⟩ | ⟨h,_⟩
    ·push_cast [pnt]
    exact absurd rfl h
   refine a6 (a6u (3*U) (by omega) W N (.inr ⟨k,rfl,rfl⟩)) rfl trivial ?_
   push_cast [i7,pnt]
   refine j9 ?_
   try rw [m5]
   push_cast [pnt]
   refine b5 (as':=[a9 (z6 (3*U) W)]) rfl ?_;have E:(z6 (3*U) W).length=W.length:=by simp [z6]
   have he:1<=W.length:=by
    cases W with
    | nil=>exact absurd rfl k
    | cons a r=>simp
   have L:∀p∈z6 (3*U) W,aa p:=λ p j=>by
    obtain ⟨q,Y,rfl⟩:=zaw.1 j;have:=V q Y;simp only at this;have e1:-64<=q.1/(3*U):=(Int.le_ediv_iff_mul_le (by omega)).2 (by omega);have e2:q.1/(3*U)<4161:=(Int.ediv_lt_iff_lt_mul (by omega)).2 (by omega);have e3:-64<=q.2/(3*U):=(Int.le_ediv_iff_mul_le (by omega)).2 (by omega);have e4:q.2/(3*U)<4161:=(Int.ediv_lt_iff_lt_mul (by omega)).2 (by omega);unfold aa;simp only;omega
   have I:z6 (3*U) W≠[]:=λ h=>by rw [h] at E; simp at E; omega
   rcases c with ⟨a,rfl,rfl⟩ | ⟨a,rfl,rfl⟩
   ·refine a6 (a1j (z6 (3*U) W) (by omega) I L (.inl ⟨a,rfl,rfl⟩)) rfl trivial ?_
    push_cast [i7,pnt]
   refine a6 (a1j (z6 (3*U) W) (by omega) I L (.inr ⟨a,rfl,rfl⟩)) rfl trivial ?_
   push_cast [i7,pnt]
theorem a6p (t:Til) (h:tis t=true) (c:cn t=false) (z:Ei) (a:okc t.r.toNat z) (d:qg z t.r.toNat) :
 a8 P0 44 [t.v,uw (y6 t.r.toNat z)] [] (.own 1000000 0 0 (fh t z).length) [i7 (fh t z)]:=by
 by_cases b:fh t z=[]
 ·have:=aed (avs t h c z a a.2.1 d (.inl ⟨b,rfl,rfl⟩));rw [b];exact this
 exact avs t h c z a a.2.1 d (.inr ⟨b,rfl,rfl⟩)

def upc (c p:P2):Bool:=decide (c.2<p.2)
def wcx (c p q:P2):Int:=(q.2-c.2)*(p.1-c.1)-(q.1-c.1)*(p.2-c.2)
def wcr (c p q:P2):Int:=if upc c p=upc c q then 0 else if upc c q=true then (if 0<wcx c p q then 1 else 0) else if wcx c p q<0 then -1 else 0
def pth (c:P2):P2->List P2->Int
 | _,[]=>0
 | p,q::l=>wcr c p q+pth c q l
def wnd (c:P2):List P2->Int
 | []=>0
 | p::l=>pth c p (l++[p])
def hv (c:P2) (a b:Int) (p:P2):Int:=a*(p.1-c.1)+b*(p.2-c.2)
def phi (c:P2) (a:Int) (p:P2):Int:=if 0<a then (if upc c p=true then 1 else 0) else 0
variable {u:Int}
theorem a8o {a b v s t:Int} (c:0<a*u+b*v) (h:0<a*s+b*t) (hv:v<=0) (d:0<t):0<a*(t*u-s*v):=by
 have g:0<t*(a*u+b*v):=zbj d c;have f:0<=(-v)*(a*s+b*t):=zan (by omega) (by omega);have e:a*(t*u-s*v)=t*(a*u+b*v)+(-v)*(a*s+b*t):=by grind
 omega
theorem am3 {a w:Int} (h:0<a*w):(0<a/\0<w)\/(a<0/\w<0):=by
 rcases Int.lt_trichotomy 0 a with c | c | c
 ·refine .inl ⟨c,?_⟩;rcases Int.lt_or_le 0 w with b | b
  ·exact b
  have:=zcr (zap c) b;omega
 ·rw [<- c,zcb] at h; omega
 refine .inr ⟨c,?_⟩;rcases Int.lt_or_le w 0 with b | b
 ·exact b
 have:=Int.mul_nonpos_of_nonpos_of_nonneg (zap c) b;omega
variable {c q:P2}
theorem rb {a b:Int} (g:0<hv c a b p) (h:0<hv c a b q):wcr c p q=phi c a q-phi c a p:=by
 unfold wcr phi;unfold hv at g h;cases h1:upc c p<;>cases h2:upc c q<;>simp only [upc,decide_eq_true_eq,decide_eq_false_iff_not] at h1 h2
 ·simp
 ·have k:=am3 (a8o g h (by omega) (by omega:0<q.2-c.2));have e:wcx c p q=(q.2-c.2)*(p.1-c.1)-(q.1-c.1)*(p.2-c.2):=rfl;rw [<- e] at k;rcases k with ⟨d,f⟩ | ⟨d,f⟩
  ·simp [d,f]
  simp [show ¬0<a by omega,show ¬0<wcx c p q by omega]
 ·have k:=am3 (a8o h g (by omega) (by omega:0<p.2-c.2));have e:wcx c p q=-((p.2-c.2)*(q.1-c.1)-(p.1-c.1)*(q.2-c.2)):=by unfold wcx; grind
  rcases k with ⟨d,f⟩ | ⟨d,f⟩
  ·simp [d,show wcx c p q<0 by omega]
  simp [show ¬0<a by omega,show ¬wcx c p q<0 by omega]
 simp
theorem auj (c:P2):∀(X:List P2) (p q:P2) (Y:List P2),pth c p (X++q::Y)=pth c p (X++[q])+pth c q Y
 | [],p,q,Y=>by simp [pth]
 | x::X,p,q,Y=>by
   have:=auj c X x q Y;simp only [zam,pth] at this |-;omega
theorem a00 (c:P2) (A B:List P2):wnd c (A++B)=wnd c (B++A):=by
 cases A with
 | nil=>simp
 | cons a A=>
   cases B with
   | nil=>simp
   | cons b B=>
     have e:=auj c A a b (B++[a]);have d:=auj c B b a (A++[b]);simp only [zam,wnd,zat,zam] at e d |-;omega
def RP (R:P2->P2->Prop):P2->List P2->Prop
 | _,[]=>True
 | p,q::l=>R p q/\RP R q l
def RG (R:P2->P2->Prop):List P2->Prop
 | []=>True
 | p::l=>RP R p (l++[p])
theorem at5 (R:P2->P2->Prop):∀(X:List P2) (p q:P2) (Y:List P2),RP R p (X++q::Y)↔RP R p (X++[q])/\RP R q Y
 | [],p,q,Y=>by simp [RP]
 | x::X,p,q,Y=>by
   have:=at5 R X x q Y;simp only [zam,RP] at this |-;rw [this,and_assoc]
theorem a91 (R:P2->P2->Prop) (A B:List P2) (h:RG R (A++B)):RG R (B++A):=by
 cases A with
 | nil=>simpa using h
 | cons a A=>
   cases B with
   | nil=>simpa using h
   | cons b B=>
     have d:=at5 R A a b (B++[a]);have c:=at5 R B b a (A++[b]);simp only [zam,RG,zat,zam] at h d c |-;rw [d] at h;rw [c];exact ⟨h.2,h.1⟩
theorem aye {c:P2} {a b:Int}:∀{l:List P2} {p:P2} (z:P2),0<hv c a b p->(∀q∈l,0<hv c a b q)->(p::l).getLast?=some z->pth c p l=phi c a z-phi c a p
 | [],p,z,hp,_,hz=>by simp at hz; subst hz; simp [pth]
 | q::l,p,z,hp,hl,hz=>by
   have e:=rb hp (hl q (by simp));have d:=aye (l:=l) (p:=q) z (hl q (by simp)) (λ x hx=>hl x (by simp [hx])) (by simpa using hz);rw [pth,e,d];omega
theorem aqk {a b:Int} {l:List P2} (h:∀q∈l,0<hv c a b q):wnd c l=0:=by
 cases l with
 | nil=>rfl
 | cons p l=>
   have:=aye (c:=c) (a:=a) (b:=b) (l:=l++[p]) (p:=p) p (h p (by simp)) (λ q d=>by
    rcases zbg.1 d with d | d
    ·exact h q (by simp [d])
    rw [zaz.1 d]; exact h p (by simp)) (by simp [List.getLast?_cons])
   rw [wnd,this];omega
theorem a95 {a b k:Int} (j:a≠0\/b≠0) {l:List P2} (h:∀q∈l,a*q.1+b*q.2=k):wnd c l=0:=by
 have g:∀q∈l,hv c a b q=k-(a*c.1+b*c.2):=λ q d=>by
  have:=h q d;unfold hv
  grind
 rcases Int.lt_trichotomy 0 (k-(a*c.1+b*c.2)) with i | i | i
 ·exact aqk (a:=a) (b:=b) λ q d=>by rw [g q d]; exact i
 ·have r:∀p∈l,∀q∈l,wcr c p q=0:=λ p f q d=>by
   have n:=g p f;have o:=g q d;rw [<- i] at n o;unfold hv at n o
   have e:wcx c p q=0:=by
    have s:a*wcx c p q=0:=by unfold wcx; grind
    have u:b*wcx c p q=0:=by unfold wcx; grind
    rcases j with t | v
    ·exact (zcc.1 s).resolve_left t
    exact (zcc.1 u).resolve_left v
   unfold wcr;rw [e];simp
  have f:∀(m:List P2) (p:P2),p∈l->(∀q∈m,q∈l)->pth c p m=0:=by
   intro m
   induction m with
   | nil=>intro p _ _; rfl
   | cons q m ih=>
     intro p f d;rw [pth,r p f q (d q (by simp)),ih q (d q (by simp)) (λ x hx=>d x (by simp [hx]))]
     rfl
  cases l with
  | nil=>rfl
  | cons p l=>
    refine f _ p (by simp) λ q d=>?_;rcases zbg.1 d with d | d
    ·simp [d]
    rw [zaz.1 d]; simp
 refine aqk (a:=-a) (b:=-b) λ q d=>?_;have:=g q d;have e:hv c (-a) (-b) q=- hv c a b q:=by unfold hv; grind
 omega

def Edg (c:P2) (r:Int) (p q:P2):Prop:=∃a b A B:Int,(-A<=a/\a<=A)/\(-B<=b/\b<=B)/\0<A+B/\r*(A+B)<=hv c a b p/\r*(A+B)<=hv c a b q
variable {d A D:Int}
theorem anm {a:Int} (b:-A<=a/\a<=A) (g:-D<=d/\d<=D):-(A*D)<=a*d/\a*d<=A*D:=by
 have e:0<=A:=by omega
 have j:0<=D:=by omega
 rcases Int.le_total 0 d with h | h
 ·have c:=zcd b.1 h;have i:=zcd b.2 h;have f:=zbv g.2 e;rw [Int.neg_mul] at c;omega
 have c:=Int.mul_le_mul_of_nonpos_right b.1 h;have i:=Int.mul_le_mul_of_nonpos_right b.2 h;have f:=zbv g.1 e;rw [Int.neg_mul] at c;rw [Int.mul_neg] at f;omega
variable {B δ:Int}
theorem a2i {a b:Int} {x:P2} (g:-A<=a/\a<=A) (h:-B<=b/\b<=B) (f:-δ<=x.1-p.1/\x.1-p.1<=δ) (d:-δ<=x.2-p.2/\x.2-p.2<=δ):hv c a b p-δ*(A+B)<=hv c a b x:=by
 have i:=anm g f;have j:=anm h d;have e:hv c a b x=hv c a b p+(a*(x.1-p.1)+b*(x.2-p.2)):=by unfold hv; grind
 rw [e,Int.mul_add,Int.mul_comm δ A,Int.mul_comm δ B];omega
theorem ayd {c:P2} {r:Int} {f:P2->P2} {δ:Int} (e:δ<r) (d:∀p,(-δ<=(f p).1-p.1/\(f p).1-p.1<=δ)/\(-δ<=(f p).2-p.2/\(f p).2-p.2<=δ)) :
 ∀{l:List P2} {p:P2} (z:P2),RP (Edg c r) p l->(p::l).getLast?=some z->pth c (f p) (l.map f)=pth c p l-wcr c p (f p)+wcr c z (f z)
 | [],p,z,_,hz=>by simp at hz; subst hz; simp [pth]; omega
 | q::l,p,z,hR,hz=>by
   have m:=ayd e d (l:=l) (p:=q) z hR.2 (by simpa using hz);obtain ⟨a,b,A,B,i,j,g,x,w⟩:=hR.1;have h:0<=δ:=by have:=(d p).1; omega
   have t:=Int.mul_lt_mul_of_pos_right e g;have s:=a2i (c:=c) i j (d p).1 (d p).2;have u:=a2i (c:=c) i j (d q).1 (d q).2;have v:0<=δ*(A+B):=zan h (zap g);have n:=rb (c:=c) (a:=a) (b:=b) (p:=p) (q:=q) (by omega) (by omega);have c2:=rb (c:=c) (a:=a) (b:=b) (p:=f p) (q:=f q) (by omega) (by omega);have k:=rb (c:=c) (a:=a) (b:=b) (p:=p) (q:=f p) (by omega) (by omega);have o:=rb (c:=c) (a:=a) (b:=b) (p:=q) (q:=f q) (by omega) (by omega);simp only [zba,pth];rw [m,n,c2,k,o];omega
theorem a94 {r:Int} {f:P2->P2} (a:δ<r) (b:∀p,(-δ<=(f p).1-p.1/\(f p).1-p.1<=δ)/\(-δ<=(f p).2-p.2/\(f p).2-p.2<=δ)) {l:List P2} (h:RG (Edg c r) l):wnd c (l.map f)=wnd c l:=by
 cases l with
 | nil=>rfl
 | cons p l=>
   have:=ayd a b (l:=l++[p]) (p:=p) p h (by simp [List.getLast?_cons]);simp only [zba,wnd];rw [zbf] at this;simp only [zba,zbn] at this;rw [this];omega
theorem bcq {l:Lin} (G:l.ok) (j:jb l p q=true) {a b r:Int} (z:-A<=a/\a<=A) (C:-B<=b/\b<=B) (o:r*(A+B)<=hv c a b p) (m:r*(A+B)<=hv c a b q):(r-1)*(A+B)<=hv c a b (t7 l p q):=by
 have k:∀(d w e o m hx B' K:Int),0<d->0<w->w<d->0<=e->e<d->K<=o->K<=m->(∃y,-B'<=y/\y<=B'/\d*hx=(d-w)*o+w*m-y*e)->K-B'<=hx:=by
  intro d w e o m hx B' K E O P T L v x ⟨y,M,N,F⟩;have R:=zbv v (show 0<=d-w by omega);have m2:=zbv x (zap O);have S:=(anm (D:=d) ⟨M,N⟩ (⟨by omega,by omega⟩:-d<=e/\e<=d)).2
  have J:d*(K-B')<=d*hx:=by
   rw [F];have:d*(K-B')=(d-w)*K+w*K-B'*d:=by grind
   omega
  exact zbp J E
 have H:(r-1)*(A+B)=r*(A+B)-(A+B):=by grind
 have Q:0<=A:=by omega
 have I:0<=B:=by omega
 obtain ⟨ax,f,ab⟩:=l;have i:∀e d:Int,0<d->∃g,0<=g/\g<d/\d*(e/d)=e-g:=λ e d E=>⟨e%d,zcl _ (by omega),zcm _ E,by have:=zcn e d; omega⟩
 rcases G with h | h<;>simp only at h<;>subst h
 ·simp only [jb,sel,if_true,zcj,zck,decide_eq_true_eq] at j;rcases j with ⟨v,x⟩ | ⟨v,x⟩
  ·obtain ⟨g,s,t,u⟩:=i ((q.2-p.2)*(f-p.1)) (q.1-p.1) (by omega)
   have hx:t7 ⟨0,f,ab⟩ p q=(f,p.2+(q.2-p.2)*(f-p.1)/(q.1-p.1)):=by
    simp [t7,sel,show ¬q.1-p.1<0 by omega];intro h; omega
   have:=k (q.1-p.1) (f-p.1) g (hv c a b p) (hv c a b q) (hv c a b (t7 ⟨0,f,ab⟩ p q)) B (r*(A+B)) (by omega) (by omega) (by omega) s t o m ⟨b,C.1,C.2,by
    rw [hx]; unfold hv; simp only; generalize (q.2-p.2)*(f-p.1)/(q.1-p.1)=n at u |-; grind⟩
   omega
  obtain ⟨g,s,t,u⟩:=i (-((q.2-p.2)*(f-p.1))) (-(q.1-p.1)) (by omega)
  have hx:t7 ⟨0,f,ab⟩ p q=(f,p.2 + -((q.2-p.2)*(f-p.1)) / -(q.1-p.1)):=by
   simp [t7,sel,show q.1-p.1<0 by omega]
  have:=k (-(q.1-p.1)) (-(f-p.1)) g (hv c a b p) (hv c a b q) (hv c a b (t7 ⟨0,f,ab⟩ p q)) B (r*(A+B)) (by omega) (by omega) (by omega) s t o m ⟨b,C.1,C.2,by
   rw [hx]; unfold hv; simp only; generalize -((q.2-p.2)*(f-p.1)) / -(q.1-p.1)=n at u |-; grind⟩
  omega
 simp only [jb,sel,show ¬((1:Int)=0) by decide,if_false,zcj,zck,decide_eq_true_eq] at j;rcases j with ⟨v,x⟩ | ⟨v,x⟩
 ·obtain ⟨g,s,t,u⟩:=i ((q.1-p.1)*(f-p.2)) (q.2-p.2) (by omega)
  have hx:t7 ⟨1,f,ab⟩ p q=(p.1+(q.1-p.1)*(f-p.2)/(q.2-p.2),f):=by
   simp [t7,sel,show ¬q.2-p.2<0 by omega];intro h; omega
  have:=k (q.2-p.2) (f-p.2) g (hv c a b p) (hv c a b q) (hv c a b (t7 ⟨1,f,ab⟩ p q)) A (r*(A+B)) (by omega) (by omega) (by omega) s t o m ⟨a,z.1,z.2,by
   rw [hx]; unfold hv; simp only; generalize (q.1-p.1)*(f-p.2)/(q.2-p.2)=n at u |-; grind⟩
  omega
 obtain ⟨g,s,t,u⟩:=i (-((q.1-p.1)*(f-p.2))) (-(q.2-p.2)) (by omega)
 have hx:t7 ⟨1,f,ab⟩ p q=(p.1 + -((q.1-p.1)*(f-p.2)) / -(q.2-p.2),f):=by
  simp [t7,sel,show q.2-p.2<0 by omega]
 have:=k (-(q.2-p.2)) (-(f-p.2)) g (hv c a b p) (hv c a b q) (hv c a b (t7 ⟨1,f,ab⟩ p q)) A (r*(A+B)) (by omega) (by omega) (by omega) s t o m ⟨a,z.1,z.2,by
  rw [hx]; unfold hv; simp only; generalize -((q.1-p.1)*(f-p.2)) / -(q.2-p.2)=n at u |-; grind⟩
 omega

def ald (l:Lin):P2->List P2->List P2
 | _,[]=>[]
 | p,q::r=>up l p q++q::ald l q r
theorem avv (l:Lin):∀(r:List P2) (p n:P2),gj l (prs n (p::r))++[n]=p::ald l p (r++[n])
 | [],p,n=>by simp [prs,gj,ald]
 | q::r,p,n=>by
   have:=avv l r q n;rw [prs];unfold gj at this |-;rw [List.flatMap_cons];simp only [zam,zat,ald];rw [this]
def loW (l:Lin) (v:P2):Prop:=if l.above=true then sel l.axis v<=l.at' else l.at'<=sel l.axis v
def Stp (l:Lin) (u v:P2):Prop:=(u6 l u=false->loW l v)/\(u6 l v=false->loW l u)
theorem a6w {l:Lin} {v:P2} (h:u6 l v=false):loW l v:=by
 unfold u6 at h;unfold loW;split at h<;>rename_i a<;>simp only [decide_eq_false_iff_not] at h<;>simp [a]<;>omega
theorem bi4 {l:Lin} (h:jb l p q=false):Stp l p q:=by
 unfold jb at h;unfold Stp loW u6;simp only [Bool.or_eq_false_iff,Bool.and_eq_false_iff,decide_eq_false_iff_not] at h;split<;>simp only [decide_eq_false_iff_not]<;>omega
theorem bd5 {l:Lin} (a:l.ok) (p q:P2):loW l (t7 l p q):=by
 unfold loW;rw [bcp a];split<;>omega
theorem ayc {l:Lin} (e:l.ok) {c:P2} {ρ:Int} (i:2<=ρ):∀{r:List P2} {p:P2},RP (Edg c ρ) p r->pth c p (ald l p r)=pth c p r/\RP (λ u v=>Edg c (ρ-1) u v/\Stp l u v) p (ald l p r)
 | [],p,_=>⟨rfl,trivial⟩
 | q::r,p,h=>by
   obtain ⟨j,m⟩:=ayc e i h.2;obtain ⟨a,b,A,B,f,g,d,w,t⟩:=h.1;have y:(ρ-1)*(A+B)=ρ*(A+B)-(A+B):=by grind
   have x:0<(ρ-1)*(A+B):=zbj (by omega) d;rw [ald];unfold up;cases hx:jb l p q with
   | false=>
     simp only [Bool.false_eq_true,if_false,zbe,pth,RP,j];exact ⟨trivial,⟨⟨a,b,A,B,f,g,d,by omega,by omega⟩,bi4 hx⟩,m⟩
   | true=>
     have k:=bcq e hx f g w t;have s:=rb (c:=c) (a:=a) (b:=b) (p:=p) (q:=t7 l p q) (by omega) (by omega);have c2:=rb (c:=c) (a:=a) (b:=b) (p:=t7 l p q) (q:=q) (by omega) (by omega);have o:=rb (c:=c) (a:=a) (b:=b) (p:=p) (q:=q) (by omega) (by omega);have n:=ajz l e p q;simp only [if_true,zam,zbe,pth,RP,j,s,c2,o];refine ⟨by omega,⟨⟨a,b,A,B,f,g,d,by omega,k⟩,λ _=>bd5 e p q,λ h=>?_⟩,⟨⟨a,b,A,B,f,g,d,k,by omega⟩,λ h=>?_,λ _=>bd5 e p q⟩,m⟩
     ·rw [n] at h; cases h
     rw [n] at h; cases h
theorem azh {c:P2} {E:P2->P2->Prop} {k:P2->Bool} {Lo:P2->Prop} {φ:P2->Int} (a:∀u v,Lo u->Lo v->E u v/\wcr c u v=φ v-φ u) (g:∀v,k v=false->Lo v) :
 ∀(l:List P2) (p:P2),RP (λ u v=>E u v/\((k u=false->Lo v)/\(k v=false->Lo u))) p l->(∃z,(p::l).getLast?=some z/\k z=true) ->
  (k p=true->pth c p (l.filter k)=pth c p l/\RP E p (l.filter k))/\(k p=false->∀u,Lo u->pth c u (l.filter k)=pth c p l+(φ p-φ u)/\RP E u (l.filter k))
 | [],p,_,⟨z,hz,hkz⟩=>by
   simp at hz;subst hz;exact ⟨λ _=>⟨rfl,trivial⟩,λ h=>by rw [hkz] at h; cases h⟩
 | q::l,p,h,⟨z,hz,hkz⟩=>by
   obtain ⟨⟨s,o,m⟩,t⟩:=h;obtain ⟨r,n⟩:=azh a g l q t ⟨z,by simpa using hz,hkz⟩;cases hq:k q with
   | true=>
     obtain ⟨e,d⟩:=r hq;rw [zcs hq];refine ⟨λ b=>⟨by rw [pth,pth,e],s,d⟩,λ b u i=>?_⟩;have j:=a u q i (o b);have f:=a p q (g p b) (o b);rw [pth,pth,e,j.2,f.2];exact ⟨by omega,j.1,d⟩
   | false=>
     rw [zce (by simp [hq])];refine ⟨λ b=>?_,λ b u i=>?_⟩
     ·obtain ⟨e,d⟩:=n hq p (m hq);have f:=a p q (m hq) (g q hq);rw [e,pth,f.2];exact ⟨by omega,d⟩
     obtain ⟨e,d⟩:=n hq u i;have f:=a p q (g p b) (g q hq);rw [e,pth,f.2];exact ⟨by omega,d⟩
def Ins (l:Lin) (r:Int) (c:P2):Prop:=if l.above=true then l.at'+r<=sel l.axis c else sel l.axis c+r<=l.at'
theorem bkt {l:Lin} (f:l.ok) {r:Int} (h:Ins l r c):∃a b A B:Int,(-A<=a/\a<=A)/\(-B<=b/\b<=B)/\A+B=1/\∀v,loW l v->r<=hv c a b v:=by
 obtain ⟨ax,g,ab⟩:=l;unfold Ins at h;unfold loW hv;rcases f with e | e<;>simp only at e<;>subst e<;>cases ab<;>simp [sel] at h
 ·exact ⟨1,0,1,0,by omega,by omega,by omega,λ v d=>by simp [sel] at d; simp; omega⟩
 ·exact ⟨-1,0,1,0,by omega,by omega,by omega,λ v d=>by simp [sel] at d; simp; omega⟩
 ·exact ⟨0,1,0,1,by omega,by omega,by omega,λ v d=>by simp [sel] at d; simp; omega⟩
 exact ⟨0,-1,0,1,by omega,by omega,by omega,λ v d=>by simp [sel] at d; simp; omega⟩
variable {ρ:Int}
theorem apj {l:Lin} (m:l.ok) (j:2<=ρ) (hc:Ins l ρ c) (h:RG (Edg c ρ) rg) (s:wnd c rg≠0):RG (Edg c (ρ-1)) (af l rg)/\wnd c (af l rg)=wnd c rg:=by
 obtain ⟨a,b,A,B,I,M,g,f⟩:=bkt m hc;cases rg with
 | nil=>exact absurd rfl s
 | cons p r=>
   rw [ae2 l m (p::r) p rfl];obtain ⟨X,G⟩:∃X,gj l (prs p (p::r))=X:=⟨_,rfl⟩
   have e:=avv l r p p;rw [G] at e |-;obtain ⟨H,z⟩:=ayc m j h
   have n:wnd c X=wnd c (p::r)/\RG (λ u v=>Edg c (ρ-1) u v/\Stp l u v) X:=by
    cases X with
    | nil=>
      exfalso;have:ald l p (r++[p])=[]:=by simpa using e.symm
      cases r<;>simp [ald] at this
    | cons x Y=>
      simp only [zam,List.cons.injEq] at e;obtain ⟨rfl,e⟩:=e;exact ⟨by show pth c x (Y++[x]) = _; rw [e]; exact H,by show RP _ x (Y++[x]); rw [e]; exact z⟩
   obtain ⟨o,D⟩:=n
   have:∃k∈X,u6 l k=true:=by
    apply Classical.byContradiction;intro K;refine s ?_;rw [<- o];refine aqk (a:=a) (b:=b) λ q F=>?_
    have:u6 l q=false:=by
     cases hq':u6 l q with
     | false=>rfl
     | true=>exact absurd ⟨q,F,hq'⟩ K
    have:=f q (a6w this);omega
   obtain ⟨k,N,d⟩:=this;obtain ⟨A',B',rfl⟩:=List.append_of_mem N;rw [a00] at o;have w:=a91 _ _ _ D
   have J:=azh (c:=c) (E:=Edg c (ρ-1)) (k:=u6 l) (Lo:=loW l) (φ:=phi c a) (λ u v C i=>by
    have P:=f u C;have Q:=f v i;exact ⟨⟨a,b,A,B,I,M,by omega,by rw [g]; omega,by rw [g]; omega⟩,rb (b:=b) (by omega) (by omega)⟩) (λ v=>a6w) (B'++A'++[k]) k (by
    rw [zam] at w
    exact w) ⟨k,by simp [List.getLast?_cons],d⟩
   obtain ⟨t,y⟩:=J.1 d;have L:(A'++k::B').filter (u6 l)=A'.filter (u6 l)++(k::B'.filter (u6 l)):=by rw [zcf,zcs d]
   have O:(B'++A'++[k]).filter (u6 l)=B'.filter (u6 l)++A'.filter (u6 l)++[k]:=by rw [zcf,zcf,zcs d]; rfl
   rw [O] at t y;rw [L];refine ⟨a91 _ (k::B'.filter (u6 l)) _ y,?_⟩;rw [a00,<- o];exact t
theorem bh2 {lo hi:P2} (k:5<=ρ) (p:lo.1+ρ<=c.1/\c.1+ρ<=hi.1) (o:lo.2+ρ<=c.2/\c.2+ρ<=hi.2) (h:RG (Edg c ρ) rg) (b:wnd c rg≠0):RG (Edg c (ρ-4)) (ml lo hi rg)/\wnd c (ml lo hi rg)=wnd c rg:=by
 obtain ⟨n,a⟩:=apj (l:=⟨0,lo.1,true⟩) (.inl rfl) (by omega) (by simp [Ins,sel]; omega) h b;obtain ⟨i,d⟩:=apj (l:=⟨0,hi.1,false⟩) (.inl rfl) (by omega) (by simp [Ins,sel]; omega) n (by rw [a]; exact b);obtain ⟨g,f⟩:=apj (l:=⟨1,lo.2,true⟩) (.inr rfl) (by omega) (by simp [Ins,sel]; omega) i (by rw [d,a]; exact b);obtain ⟨m,j⟩:=apj (l:=⟨1,hi.2,false⟩) (.inr rfl) (by omega) (by simp [Ins,sel]; omega) g (by rw [f,d,a]; exact b);have e:ml lo hi rg=af ⟨1,hi.2,false⟩ (af ⟨1,lo.2,true⟩ (af ⟨0,hi.1,false⟩ (af ⟨0,lo.1,true⟩ rg))):=rfl;rw [e,show ρ-4=ρ-1-1-1-1 by omega];exact ⟨m,by rw [j,f,d,a]⟩
def aot (l:List P2):Prop:=¬∃a b k:Int,(a≠0\/b≠0)/\∀q∈l,a*q.1+b*q.2=k
theorem a4n (g:0<u) (d:u<ρ) (h:RG (Edg c ρ) rg) (n:wnd c rg≠0):aot (z6 u rg):=by
 rintro ⟨a,b,k,e,j⟩
 have i:=a94 (c:=c) (r:=ρ) (f:=λ p=>(u*(p.1/u),u*(p.2/u))) (δ:=u) d (λ p=>by
  have s:=zcn p.1 u;have w:=zcn p.2 u;have o:=zcl p.1 (show u≠0 by omega);have m2:=zcl p.2 (show u≠0 by omega);have t:=zcm p.1 g;have v:=zcm p.2 g;simp only
  omega) h
 refine n ?_;rw [<- i];refine a95 (a:=a) (b:=b) (k:=u*k) e λ q l=>?_;obtain ⟨p,m,rfl⟩:=zaw.1 l;have:=j (p.1/u,p.2/u) (zaw.2 ⟨p,m,rfl⟩);simp only at this |-;rw [<- this]
 grind

def hAb (x:Int):Int:=max x (-x)
def hN (r i:Nat):Int:=hAb (eA r i)+hAb (eB r i)
def hH (r i:Nat):Int:=eB r i*kx r i-eA r i*ky r i
def hO (r:Nat):Int:=(zaq 6).foldl (λ m i=>max m (max (hAb (kx r i)) (hAb (ky r i)))) 0
theorem bg5:∀r,r<13->∀e,e<19->16*2^e*(2:Int)^e<=169*7^(12-r)->∀i,i<6->8*2^e*hN r i<=hH r i:=by decide +kernel
theorem aek:∀r,r<13->∀i,i<6->0<hN r i/\(hAb (kx r i)<=hO r/\hAb (ky r i)<=hO r)/\(hO r+1)*hN r i<=2*hH r i:=by decide +kernel
theorem bg4:∀r,r<13->∃m,m<6/\eB r m<=0/\0<=eB r ((m+5)%6)/\eB r m<eB r ((m+5)%6)/\0<eA r ((m+5)%6)*eB r m-eA r m*eB r ((m+5)%6):=by decide +kernel
theorem bg6:∀r,r<13->∃m,m<6/\0<=eB r m/\eB r ((m+5)%6)<=0/\eB r ((m+5)%6)<eB r m/\0<eA r ((m+5)%6)*eB r m-eA r m*eB r ((m+5)%6):=by decide +kernel
theorem ax0 {z:Ei} {r:Nat} (d:r<13) {ly uy:Int} (hy:ly<=uy):∀(n:Nat) (lx ux:Int),lx<=ux->ux-lx<=n->ca z r lx ly ux uy=true->∃a c,lx<=a/\a<=c/\c<=ux/\c<=a+1/\ca z r a ly c uy=true
 | 0,lx,ux,h,hn,b=>⟨lx,ux,by omega,h,by omega,by omega,b⟩
 | n+1,lx,ux,h,hn,b=>by
   by_cases i:ux<=lx+1
   ·exact ⟨lx,ux,by omega,h,by omega,i,b⟩
   rcases be3 d (m:=lx+1) (by omega) (by omega) hy b with b | b
   ·exact ⟨lx,lx+1,by omega,by omega,by omega,by omega,b⟩
   obtain ⟨a,c,k,e,g,j,f⟩:=ax0 d hy n (lx+1) ux (by omega) (by omega) b;exact ⟨a,c,by omega,e,g,j,f⟩
theorem axz {z:Ei} {r:Nat} (d:r<13) {lx ux:Int} (hx:lx<=ux):∀(n:Nat) (ly uy:Int),ly<=uy->uy-ly<=n->ca z r lx ly ux uy=true->∃a c,ly<=a/\a<=c/\c<=uy/\c<=a+1/\ca z r lx a ux c=true
 | 0,ly,uy,h,hn,b=>⟨ly,uy,by omega,h,by omega,by omega,b⟩
 | n+1,ly,uy,h,hn,b=>by
   by_cases i:uy<=ly+1
   ·exact ⟨ly,uy,by omega,h,by omega,i,b⟩
   rcases be2 d (m:=ly+1) (by omega) (by omega) hx b with b | b
   ·exact ⟨ly,ly+1,by omega,by omega,by omega,by omega,b⟩
   obtain ⟨a,c,k,e,g,j,f⟩:=axz d hx n (ly+1) uy (by omega) (by omega) b;exact ⟨a,c,by omega,e,g,j,f⟩
theorem a9z (a:0<=d/\d<=1):-(hAb A)<=A*d/\A*d<=hAb A:=by
 have:d=0\/d=1:=by omega
 unfold hAb;rcases this with rfl | rfl<;>omega
variable {lx ly ux uy:Int}
theorem bgu {z:Ei} {r:Nat} (e:r<13) (j:lx<=ux) (f:ly<=uy) (t:ca z r lx ly ux uy=true) :
 ∃a b:Int,(lx<=a/\a<=ux)/\(ly<=b/\b<=uy)/\(-(hO r+1)<=3*cx z r-a/\3*cx z r-a<=hO r+1)/\(-(hO r+1)<=3*cy z r-b/\3*cy z r-b<=hO r+1)/\∀i,i<6->-(hN r i)<=sd (eA r) (eB r) (eC z r) i a b:=by
 obtain ⟨a,h,M,E,X,V,m⟩:=ax0 e f (ux-lx).toNat lx ux j (by omega) t;obtain ⟨b,g,W,Y,P,Q,H⟩:=axz e E (uy-ly).toNat ly uy f (by omega) m;obtain ⟨R,S,K⟩:=aau.1 H;obtain ⟨p,C,u⟩:=as1 (hx z r) 6 (by decide);obtain ⟨o,s,I⟩:=as0 (hx z r) 6 (by decide);obtain ⟨k,w,J⟩:=as1 (hy z r) 6 (by decide);obtain ⟨l,q,D⟩:=as0 (hy z r) 6 (by decide);rw [bq] at u I;rw [bp] at J D;have F:=(aek r e p C).2.1;have B:=(aek r e o s).2.1;have G:=(aek r e k w).2.1;have v:=(aek r e l q).2.1;unfold hAb at F B G v;refine ⟨a,b,by omega,by omega,by omega,by omega,λ i hi=>?_⟩;have L:=K i hi
 have c:∀x y,(x=a\/x=h)->(y=b\/y=g)->sd (eA r) (eB r) (eC z r) i x y<=sd (eA r) (eB r) (eC z r) i a b+hN r i:=λ x y hx hy=>by
  have n:=a9z (A:=eA r i) (d:=y-b) (by omega);have m2:=a9z (A:=eB r i) (d:=x-a) (by omega);unfold sd hN;rw [Int.mul_sub] at n m2;omega
 have U:=c a b (.inl rfl) (.inl rfl);have N:=c h b (.inr rfl) (.inl rfl);have T:=c h g (.inr rfl) (.inr rfl);have O:=c a g (.inl rfl) (.inr rfl);omega
theorem a86 {T M:Int} (b:0<M) (c:0<=T) (d:-M<=D/\D<=M):∃n a,D*T/M=n/\0<=a/\a<M/\M*n=D*T-a/\-T<=n/\n<=T:=by
 have g:=zcn (D*T) M;have e:=zcl (D*T) (show M≠0 by omega);have f:=zcm (D*T) b;have h:=zcd d.2 c;have m2:=zcd d.1 c;refine ⟨_,_,rfl,e,f,by omega,?_,?_⟩
 ·have:M*(-T-1)<M*(D*T/M):=by
   rw [Int.mul_sub,Int.mul_neg,Int.mul_one];rw [Int.neg_mul] at m2;omega
  have:=Int.lt_of_mul_lt_mul_left this (zap b);omega
 have:M*(D*T/M)<=M*T:=by omega
 exact zbp this b
theorem a6g (z:Ei) (r i:Nat):sd (eA r) (eB r) (eC z r) i (3*cx z r) (3*cy z r)=hH r i:=by
 unfold sd eC hH;rw [bq,bp]
 grind
theorem a4l {z:Ei} {r:Nat} (u:r<13) {e:Nat} (he:e<19) (Y:16*2^e*(2:Int)^e<=169*7^(12-r)) (v:lx<=ux) (s:ly<=uy) (Q:ca z r lx ly ux uy=true) :
 ∃x y:Int,(lx-96*2^e<=x/\x<=ux+96*2^e)/\(ly-96*2^e<=y/\y<=uy+96*2^e)/\∀i,i<6->8*2^e*hN r i<=sd (eA r) (eB r) (eC z r) i x y:=by
 obtain ⟨a,b,ha,hb,J,B,Z⟩:=bgu u v s Q;have c:=bg5 r u e he Y;have h:=aek r u
 have k:(1:Int)<=2^e:=by
  have:=Int.pow_pos (n:=2) (m:=e) (by decide);omega
 obtain ⟨U,O⟩:∃U:Int,2^e=U:=⟨_,rfl⟩
 rw [O] at c k |-;by_cases hc:hO r+1<=96*U
 ·refine ⟨3*cx z r,3*cy z r,by omega,by omega,λ i hi=>?_⟩;rw [a6g];exact c i hi
 obtain ⟨M,I⟩:∃M,hO r+1=M:=⟨_,rfl⟩
 rw [I] at hc J B;obtain ⟨G,f,e1,p1,p2,p3,p4,p5⟩:=a86 (D:=3*cx z r-a) (T:=96*U) (M:=M) (by omega) (by omega) J;obtain ⟨E,j,e2,q1,q2,q3,q4,q5⟩:=a86 (D:=3*cy z r-b) (T:=96*U) (M:=M) (by omega) (by omega) B;refine ⟨a+G,b+E,by omega,by omega,λ i hi=>?_⟩;obtain ⟨p,_,l⟩:=h i hi;rw [I] at l;have o:=Z i hi;have F:=a6g z r i;obtain ⟨S,w⟩:∃S,sd (eA r) (eB r) (eC z r) i a b=S:=⟨_,rfl⟩
 obtain ⟨H,q⟩:∃H,hH r i=H:=⟨_,rfl⟩
 obtain ⟨N,g⟩:∃N,hN r i=N:=⟨_,rfl⟩
 obtain ⟨R,C⟩:∃R,sd (eA r) (eB r) (eC z r) i (a+G) (b+E)=R:=⟨_,rfl⟩
 rw [w] at o;rw [q] at l F;rw [g] at p l o |-;rw [C];have b1:=(anm (a:=eA r i) (d:=j) (A:=hAb (eA r i)) (D:=M) (by unfold hAb; omega) (by omega)).2;have b2:=(anm (a:=eB r i) (d:=f) (A:=hAb (eB r i)) (D:=M) (by unfold hAb; omega) (by omega)).1
 have t:M*R=(M-96*U)*S+96*U*H-eA r i*j+eB r i*f:=by
  unfold sd at w C F
  grind
 have X:hAb (eA r i)*M+hAb (eB r i)*M=N*M:=by rw [<- g]; unfold hN; grind
 have V:-((M-96*U)*N)<=(M-96*U)*S:=by
  have:=zbv o (show 0<=M-96*U by omega);rw [Int.mul_neg] at this;exact this
 have c2:=zbv l (show 0<=48*U by omega);have W:0<N*M:=zbj p (by omega)
 have L:N*M<=U*(N*M):=by
  have:=zcd k (zap W);omega
 have UN:0<=U*N:=zan (by omega) (zap p);have f1:(M-96*U)*N=N*M-96*(U*N):=by grind
 have f2:48*U*(M*N)=48*(U*(N*M)):=by grind
 have K:48*U*(2*H)=96*U*H:=by grind
 have P:M*(8*U*N)=8*(U*(N*M)):=by grind
 have:M*(8*U*N)<=M*R:=by
  rw [P,t];rw [f2,K] at c2;rw [f1] at V;omega
 exact zbp this (by omega)

variable {X Y:Int}
theorem aup (g:0<=X) (k:ip a b) (j:ip b p) (i:k7 a b p<=0):X*a.2-Y*a.1<=X*b.2-Y*b.1\/X*p.2-Y*p.1<=X*b.2-Y*b.1:=by
 apply Classical.byContradiction;intro f;rw [not_or] at f;obtain ⟨o,n⟩:=f;unfold ip at k j;unfold k7 at i;have c:0<=b.1-a.1:=by omega
 have d:0<=p.1-b.1:=by omega
 have A:0<X*(a.2-b.2)+Y*(b.1-a.1):=by grind
 have B:0<X*(p.2-b.2)-Y*(p.1-b.1):=by grind
 have q:=zan d (zap A);have m2:=zan c (zap B);have e:(p.1-b.1)*(X*(a.2-b.2)+Y*(b.1-a.1))+(b.1-a.1)*(X*(p.2-b.2)-Y*(p.1-b.1))=X*((b.1-a.1)*(p.2-a.2)-(b.2-a.2)*(p.1-a.1)):=by grind
 have m:=zcr g i
 have r:p.1-b.1=0:=by
  rcases zcc.1 (show (p.1-b.1)*(X*(a.2-b.2)+Y*(b.1-a.1))=0 by omega) with h | h<;>omega
 have l:b.1-a.1=0:=by
  rcases zcc.1 (show (b.1-a.1)*(X*(p.2-b.2)-Y*(p.1-b.1))=0 by omega) with h | h<;>omega
 rw [l,Int.mul_zero] at A;have:=zcr g (show a.2-b.2<=0 by omega);omega
theorem bew (c:0<=X) (f:ip b a) (d:ip p b) (e:k7 a b p<=0):X*b.2-Y*b.1<=X*a.2-Y*a.1\/X*b.2-Y*b.1<=X*p.2-Y*p.1:=by
 have h:∀q:P2,X*(-q.2)-Y*(-q.1)=-(X*q.2-Y*q.1):=λ q=>by grind
 have:=aup (X:=X) (Y:=Y) (a:=(-a.1,-a.2)) (b:=(-b.1,-b.2)) (p:=(-p.1,-p.2)) c (by unfold ip at f |-; simp only; omega) (by unfold ip at d |-; simp only; omega) (by unfold k7 at e |-; simp only; grind);simp only [h] at this;omega
variable {m:List P2}
theorem a07 {l:List P2} {x y:P2} (e:l=x::(m++[y])) (h:(p9 l).length<=2):p9 l=[y,x]:=by
 obtain ⟨T,c,g⟩:=ao2 x (m++[y]);have f:=ff (x::m) y;rw [zam,<- e] at f;rw [<- e] at c;have d:=g (by simp);rw [f] at c h |-;cases hp:dt y (p9 (x::m)) with
 | nil=>
   rw [hp] at c;cases T with
   | nil=>exact absurd rfl d
   | cons t T=>simp at c
 | cons a r=>
   rw [hp] at c h;cases r with
   | cons b r=>simp at h
   | nil=>
     cases T with
     | nil=>simp at c
     | cons t T=>
       cases T with
       | nil=>simp at c; rw [c.2]
       | cons u T=>simp at c
theorem a8g {l:List P2} (h:2<=l.length) (z:l.Pairwise ip) (P:aot l):3<=(aq l++aq l.reverse).length:=by
 apply Classical.byContradiction;intro A
 obtain ⟨x,m,y,j⟩:∃x m y,l=x::(m++[y]):=by
  cases l with
  | nil=>simp at h
  | cons x r=>
    rcases zco r with rfl | ⟨H,y,rfl⟩
    ·simp at h
    exact ⟨x,H,y,by rw [zcp]⟩
 have E:l.reverse=y::(m.reverse++[x]):=by rw [j]; simp
 have L:(aq l).length=(p9 l).length-1:=by unfold aq; simp
 have c2:(aq l.reverse).length=(p9 l.reverse).length-1:=by unfold aq; simp
 have f:∀(x:P2) (m:List P2) (y:P2),2<=(p9 (x::(m++[y]))).length:=λ x m y=>by
  obtain ⟨T,G,A⟩:=ao2 x (m++[y]);rw [G,zbb];have:=A (by simp);cases T with
  | nil=>exact absurd rfl this
  | cons t T=>simp
 have N:=f x m y;have J:=f y m.reverse x;rw [<- j] at N;rw [<- E] at J;rw [zbb,L,c2] at A;have O:=a07 j (by omega);have F:=a07 E (by omega)
 have k:∀q∈l,ip x q/\ip q y:=λ q d=>by
  have n:=z;rw [j] at n d;have B:=zah.1 n;have p2:=zbh.1 B.2;have e:∀p:P2,ip p p:=λ p=>.inr ⟨rfl,Int.le_refl _⟩;rcases zas.1 d with rfl | d
  ·exact ⟨e _,B.1 y (by simp)⟩
  refine ⟨B.1 q d,?_⟩;rcases zbg.1 d with d | d
  ·exact p2.2.2 q d y (by simp)
  rw [zaz.1 d]; exact e _
 have w:=(k x (by rw [j]; simp)).2;obtain ⟨X,M⟩:∃X,y.1-x.1=X:=⟨_,rfl⟩
 obtain ⟨Y,K⟩:∃Y,y.2-x.2=Y:=⟨_,rfl⟩
 have u:0<=X:=by unfold ip at w; omega
 have C:X*y.2-Y*y.1=X*x.2-Y*x.1:=by rw [<- M,<- K]; grind
 refine P ?_;by_cases S:X=0/\Y=0
 ·refine ⟨1,0,x.1,.inl (by decide),λ q d=>?_⟩;have:=k q d;unfold ip at this;omega
 refine ⟨-Y,X,X*x.2-Y*x.1,by omega,λ q d=>?_⟩;obtain ⟨c,hc,R⟩:=aua (D:=λ c q=>X*c.2-Y*c.1<=X*q.2-Y*q.1) (o:=ip) (λ a=>Int.le_refl _) (λ a b c=>Int.le_trans) (λ a b p i s v=>aup u i s v) l z q d;obtain ⟨c',g,I⟩:=aua (D:=λ c q=>X*q.2-Y*q.1<=X*c.2-Y*c.1) (o:=λ p q=>ip q p) (λ a=>Int.le_refl _) (λ a b c i s=>Int.le_trans s i) (λ a b p i s v=>bew u i s v) l.reverse (zcq.2 z) q (by simpa using d);rw [O] at hc;rw [F] at g
 have Q:X*c.2-Y*c.1=X*x.2-Y*x.1:=by
  simp at hc;rcases hc with rfl | rfl
  ·exact C
  rfl
 have U:X*c'.2-Y*c'.1=X*x.2-Y*x.1:=by
  simp at g;rcases g with rfl | rfl
  ·rfl
  exact C
 rw [Int.neg_mul];omega
theorem bc3 {l:List P2} (h:l.length<=2):¬aot l:=by
 intro c;refine c ?_
 match l,h with
 | [],_=>exact ⟨1,0,0,.inl (by decide),λ q b=>by simp at b⟩
 | [p],_=>exact ⟨1,0,p.1,.inl (by decide),λ q b=>by simp at b; subst b; omega⟩
 | [p,q],_=>
   by_cases d:p.1=q.1
   ·exact ⟨1,0,p.1,.inl (by decide),λ r a=>by simp at a; rcases a with rfl | rfl<;>omega⟩
   refine ⟨q.2-p.2,p.1-q.1,(q.2-p.2)*p.1+(p.1-q.1)*p.2,.inr (by omega),λ r a=>?_⟩;simp at a;rcases a with rfl | rfl
   ·rfl
   grind
 | _::_::_::_,h=>simp at h
theorem atb (g:aot rg):3<=(ko rg).length:=by
 have c:aot (cd (ah rg)):=λ ⟨a,b,k,f,d⟩=>g ⟨a,b,k,f,λ q i=>d q (atn (ar5 i))⟩;have e:¬(cd (ah rg)).length<3:=λ h=>bc3 (by omega) c;have:=a8g (by omega) ((avk rg).sublist (aoc _)) c;unfold ko;rw [if_neg e,if_neg (by omega)];exact this
section
variable {z:Ei} {r:Nat} {x y:Int}
theorem bj9 (r i:Nat) (z:Ei):hx z r ((i+1)%6)=hx z r i+eA r i:=by rw [bq,bq]; unfold eA; omega
theorem bj8 (r i:Nat) (z:Ei):hy z r ((i+1)%6)=hy z r i+eB r i:=by rw [bp,bp]; unfold eB; omega
theorem a3q (z:Ei) (r i:Nat) (x y:Int):sd (eA r) (eB r) (eC z r) i x y=eA r i*(y-hy z r ((i+1)%6))-eB r i*(x-hx z r ((i+1)%6)):=by
 rw [bj9,bj8];unfold sd eC
 grind
theorem awy (z:Ei) (r i:Nat) (x y:Int):sd (eA r) (eB r) (eC z r) i x y=eA r i*(y-hy z r i)-eB r i*(x-hx z r i):=by
 unfold sd eC
 grind
theorem bbq (l:r<13) (b:∀i,i<6->0<sd (eA r) (eB r) (eC z r) i x y):¬∀i,i<6->hy z r i<=y:=by
 intro h;obtain ⟨m,a,o,g,n,k⟩:=bg4 r l;have f:((m+5)%6+1)%6=m:=by omega
 have j:=b m a;have c:=b ((m+5)%6) (by omega);rw [awy] at j;rw [a3q,f] at c;have s:=h m a;have p:=zan g (show 0<=eA r m*(y-hy z r m)-eB r m*(x-hx z r m)-1 by omega);have m2:=zan (show 0<=-eB r m by omega) (show 0<=eA r ((m+5)%6)*(y-hy z r m)-eB r ((m+5)%6)*(x-hx z r m)-1 by omega);have q:=zan (show 0<=y-hy z r m by omega) (zap k);generalize eA r m=A at *;generalize eB r m=B at *;generalize eA r ((m+5)%6)=A' at *;generalize eB r ((m+5)%6)=B' at *;generalize y-hy z r m=e at *;generalize x-hx z r m=d at *;have e:B'*(A*e-B*d-1) + -B*(A'*e-B'*d-1)=-(e*(A'*B-A*B'))-(B'-B):=by grind
 omega
theorem bkb (l:r<13) (b:∀i,i<6->0<sd (eA r) (eB r) (eC z r) i x y):¬∀i,i<6->y<hy z r i:=by
 intro h;obtain ⟨m,a,f,q,n,k⟩:=bg6 r l;have g:((m+5)%6+1)%6=m:=by omega
 have j:=b m a;have c:=b ((m+5)%6) (by omega);rw [awy] at j;rw [a3q,g] at c;have s:=h m a;have o:=zan (show 0<=-eB r ((m+5)%6) by omega) (show 0<=eA r m*(y-hy z r m)-eB r m*(x-hx z r m)-1 by omega);have m2:=zan f (show 0<=eA r ((m+5)%6)*(y-hy z r m)-eB r ((m+5)%6)*(x-hx z r m)-1 by omega);have p:=zan (show 0<=-(y-hy z r m) by omega) (zap k);generalize eA r m=A at *;generalize eB r m=B at *;generalize eA r ((m+5)%6)=A' at *;generalize eB r ((m+5)%6)=B' at *;generalize y-hy z r m=e at *;generalize x-hx z r m=d at *;have e:-B'*(A*e-B*d-1)+B*(A'*e-B'*d-1)=-(-e*(A'*B-A*B'))-(B-B'):=by grind
 omega
end
theorem aya (z:Ei) (r:Nat) (d:P2):(aca z r).map (shP d)=[(hx z r 0+d.1,hy z r 0+d.2),(hx z r 1+d.1,hy z r 1+d.2),(hx z r 2+d.1,hy z r 2+d.2),(hx z r 3+d.1,hy z r 3+d.2),(hx z r 4+d.1,hy z r 4+d.2),(hx z r 5+d.1,hy z r 5+d.2)]:=rfl
theorem ba0 {z:Ei} {r:Nat} (c:r<13) {x y K:Int} (b:∀i,i<6->K*hN r i<=sd (eA r) (eB r) (eC z r) i x y) (d:P2) (i:Nat) (hi:i<6):Edg (x+d.1,y+d.2) K (hx z r i+d.1,hy z r i+d.2) (hx z r ((i+1)%6)+d.1,hy z r ((i+1)%6)+d.2):=by
 have a:=b i hi;have e:=(aek r c i hi).1;have g:hAb (eB r i)+hAb (eA r i)=hN r i:=by unfold hN; omega
 refine ⟨eB r i,-eA r i,hAb (eB r i),hAb (eA r i),by unfold hAb; omega,by unfold hAb; omega,by omega,?_,?_⟩
 ·rw [g];rw [awy] at a;unfold hv;simp only
  grind
 rw [g];rw [a3q] at a;unfold hv;simp only
 grind
theorem baz {z:Ei} {r:Nat} {x y:Int} (a:∀i,i<6->0<sd (eA r) (eB r) (eC z r) i x y) (d:P2) (i:Nat) (hi:i<6):wcr (x+d.1,y+d.2) (hx z r i+d.1,hy z r i+d.2) (hx z r ((i+1)%6)+d.1,hy z r ((i+1)%6)+d.2)=if decide (y<hy z r i)=false/\decide (y<hy z r ((i+1)%6))=true then 1 else 0:=by
 have b:=a i hi
 have e:wcx (x+d.1,y+d.2) (hx z r i+d.1,hy z r i+d.2) (hx z r ((i+1)%6)+d.1,hy z r ((i+1)%6)+d.2)=sd (eA r) (eB r) (eC z r) i x y:=by
  rw [awy,bj9,bj8];unfold wcx;simp only
  grind
 unfold wcr;rw [e];have u:∀q:Int,upc (x+d.1,y+d.2) (q,hy z r i+d.2)=decide (y<hy z r i):=λ q=>by unfold upc; simp
 have c:∀q:Int,upc (x+d.1,y+d.2) (q,hy z r ((i+1)%6)+d.2)=decide (y<hy z r ((i+1)%6)):=λ q=>by unfold upc; simp
 rw [u,c];cases decide (y<hy z r i)<;>cases decide (y<hy z r ((i+1)%6))<;>simp [b];omega
theorem bay {z:Ei} {r:Nat} (p:r<13) {x y:Int} (h:∀i,i<6->0<sd (eA r) (eB r) (eC z r) i x y) (d:P2):wnd (x+d.1,y+d.2) ((aca z r).map (shP d))≠0:=by
 have w:=λ i hi=>baz h d i hi;have n:=w 0 (by decide);have o:=w 1 (by decide);have j:=w 2 (by decide);have l:=w 3 (by decide);have m:=w 4 (by decide);have k:=w 5 (by decide);simp only [zaa,Nat.reduceAdd,Nat.reduceMod] at n o j l m k;rw [aya];simp only [wnd,zam,zbe,pth];rw [n,o,j,l,m,k];have s:=bkb p h;have q:=bbq p h
 have g:∀P:Nat->Prop,P 0->P 1->P 2->P 3->P 4->P 5->∀i,i<6->P i:=λ P a b c d e f i hi=>by
  match i,hi with
  | 0,_=>exact a
  | 1,_=>exact b
  | 2,_=>exact c
  | 3,_=>exact d
  | 4,_=>exact e
  | 5,_=>exact f
 cases h0:decide (y<hy z r 0)<;>cases h1:decide (y<hy z r 1)<;>cases h2:decide (y<hy z r 2)<;>cases h3:decide (y<hy z r 3)<;>cases h4:decide (y<hy z r 4)<;>cases h5:decide (y<hy z r 5)<;>simp
 ·simp only [decide_eq_false_iff_not,Int.not_lt] at h0 h1 h2 h3 h4 h5;exact q (g _ h0 h1 h2 h3 h4 h5)
 simp only [decide_eq_true_eq] at h0 h1 h2 h3 h4 h5;exact s (g _ h0 h1 h2 h3 h4 h5)
variable {t:Til}
theorem ar8 {z:Ei} (A:tis t=true) (B:cn t=false) (f:tch z t.r.toNat (2^(30-t.z).toNat) t.x t.y=true):aot (z6 (3*q8 t) (ra t z)):=by
 have N:0<=t.z/\t.z<=18/\0<=t.r/\t.r<=12/\0<=t.x/\t.x<2^t.z.toNat/\0<=t.y/\t.y<2^t.z.toNat:=by simpa [tis] using A
 have h:t.r.toNat<13:=by omega
 have o:16*2^(18-t.z).toNat*(2:Int)^(18-t.z).toNat<=169*7^(12-t.r.toNat):=by
  unfold cn at B;rw [A,Bool.true_and,decide_eq_false_iff_not] at B;rw [show 12-t.r.toNat=(12-t.r).toNat by omega];omega
 have D:(2:Int)^(30-t.z).toNat=4096*2^(18-t.z).toNat:=by
  rw [show (30-t.z).toNat=(18-t.z).toNat+12 by omega,Int.pow_add,Int.mul_comm]
  rfl
 have u:(1:Int)<=2^(18-t.z).toNat:=by
  have:=Int.pow_pos (n:=2) (m:=(18-t.z).toNat) (by decide);omega
 unfold tch at f;have I:(t.x+1)*2^(30-t.z).toNat=t.x*2^(30-t.z).toNat+2^(30-t.z).toNat:=by rw [Int.add_mul,Int.one_mul]
 have K:(t.y+1)*2^(30-t.z).toNat=t.y*2^(30-t.z).toNat+2^(30-t.z).toNat:=by rw [Int.add_mul,Int.one_mul]
 have F:=f;rw [I,K] at f;obtain ⟨x,y,l,a,s⟩:=a4l h (e:=(18-t.z).toNat) (by omega) o (by omega) (by omega) f;unfold ra dm aev q8;obtain ⟨k,v⟩:∃k,t.x*2^(30-t.z).toNat=k:=⟨_,rfl⟩
 obtain ⟨j,w⟩:∃j,t.y*2^(30-t.z).toNat=j:=⟨_,rfl⟩
 simp only [v,w] at l a |-;simp only [D] at l a |-;obtain ⟨U,G⟩:∃U:Int,2^(18-t.z).toNat=U:=⟨_,rfl⟩
 simp only [G] at l a s u |-
 have q:∀i,i<6->0<sd (eA t.r.toNat) (eB t.r.toNat) (eC z t.r.toNat) i x y:=λ i hi=>by
  have g:=(aek t.r.toNat h i hi).1;have:=s i hi;have:=zbj (show 0<8*U by omega) g;omega
 obtain ⟨d,p⟩:∃d:P2,(-(3*k),-(3*j))=d:=⟨_,rfl⟩
 have M:d.1=-(3*k):=by rw [<- p]
 have L:d.2=-(3*j):=by rw [<- p]
 rw [p];have C:=bay h q d;have b:=λ i hi=>ba0 h s d i hi
 have J:RG (Edg (x+d.1,y+d.2) (8*U)) ((aca z t.r.toNat).map (shP d)):=by
  rw [aya];exact ⟨b 0 (by decide),b 1 (by decide),b 2 (by decide),b 3 (by decide),b 4 (by decide),b 5 (by decide),trivial⟩
 obtain ⟨E,H⟩:=bh2 (lo:=(-192*U,-192*U)) (hi:=(12480*U,12480*U)) (c:=(x+d.1,y+d.2)) (by omega) (by simp only; omega) (by simp only; omega) J C;exact a4n (by omega) (by omega) E (by rw [H]; exact C)
theorem a0h {z:Ei} (d:tis t=true) (c:cn t=false) (b:tch z t.r.toNat (2^(30-t.z).toNat) t.x t.y=true):3<=(bv t z).length:=by
 have a:bv t z=ko (z6 (3*q8 t) (ra t z)):=by
  unfold bv;exact if_pos b
 rw [a];exact atb (ar8 d c b)

def ltO (p q:P2):Prop:=p.1<q.1\/(p.1=q.1/\p.2<q.2)
theorem ltO.trans (h:ltO a b) (k:ltO b c):ltO a c:=by unfold ltO at *; omega
variable {x1 y1 x2 y2:Int}
theorem bn0 {x3 y3:Int} (d:0<x1\/(x1=0/\0<y1)) (c:0<x2\/(x2=0/\0<y2)) (g:0<x3\/(x3=0/\0<y3)) (b:0<x1*y2-y1*x2) (a:0<x2*y3-y2*x3):0<x1*y3-y1*x3:=by
 have f:0<x1:=by
  rcases d with h | ⟨h,k⟩
  ·exact h
  subst h;have:=zan (zap k) (show 0<=x2 by omega);rw [zcb] at b;omega
 have p2:0<x2:=by
  rcases c with h | ⟨h,k⟩
  ·exact h
  subst h;have:=zan (zap k) (show 0<=x3 by omega);rw [zcb] at a;omega
 have e:x2*(x1*y3-y1*x3)=x1*(x2*y3-y2*x3)+x3*(x1*y2-y1*x2):=by grind
 have i:=zbj f a;have m2:=zan (show 0<=x3 by omega) (zap b);have:0<x2*(x1*y3-y1*x3):=by omega
 rcases am3 this with ⟨_,h⟩ | ⟨h,_⟩
 ·exact h
 omega
theorem bit {d:P2} (j:ltO a b) (f:ltO b c) (h:ltO c d) (k:0<k7 a b c) (i:0<k7 b c d):0<k7 a b d/\0<k7 a c d:=by
 unfold ltO at j f h;unfold k7 at k i |-;have g:=bn0 (x1:=b.1-a.1) (y1:=b.2-a.2) (x2:=c.1-b.1) (y2:=c.2-b.2) (x3:=d.1-c.1) (y3:=d.2-c.2) (by omega) (by omega) (by omega) (by grind) (by grind);constructor
 ·have e:(b.1-a.1)*(d.2-a.2)-(b.2-a.2)*(d.1-a.1)=((b.1-a.1)*(c.2-a.2)-(b.2-a.2)*(c.1-a.1))+((b.1-a.1)*(d.2-c.2)-(b.2-a.2)*(d.1-c.1)):=by grind
  omega
 have e:(c.1-a.1)*(d.2-a.2)-(c.2-a.2)*(d.1-a.1)=((c.1-b.1)*(d.2-b.2)-(c.2-b.2)*(d.1-b.1))+((b.1-a.1)*(d.2-c.2)-(b.2-a.2)*(d.1-c.1)):=by grind
 omega
def Tri:List P2->Prop
 | []=>True
 | c::r=>r.Pairwise (λ b a=>0<k7 a b c)/\Tri r
theorem Tri.drop:∀(k:Nat) {s:List P2},Tri s->Tri (s.drop k)
 | 0,_,h=>h
 | k+1,[],h=>h
 | k+1,_::r,h=>Tri.drop k h.2
theorem a1t (p:P2):∀s:List P2,(∃x,dt p s=[x])\/dt p s=[]\/∃b a r,dt p s=b::a::r/\0<k7 a b p
 | []=>.inr (.inl rfl)
 | [x]=>.inl ⟨x,rfl⟩
 | b::a::r=>by
   rw [dt];split
   ·exact a1t p (a::r)
   rename_i h;exact .inr (.inr ⟨b,a,r,rfl,by omega⟩)
theorem ao1 (l:List P2):l.Pairwise ltO->Tri (p9 l):=by
 refine ke (P:=λ l=>l.Pairwise ltO->Tri (p9 l)) (λ _=>trivial) (λ l p w=>?_) l;intro A;rw [ff];have g:=zbh.1 A;have v:=w g.1;obtain ⟨k,C,_⟩:=ah9 p (p9 l);have q:Tri (dt p (p9 l)):=by rw [C]; exact v.drop k
 have c:(p::dt p (p9 l)).Pairwise (λ b a=>ltO a b):=by
  have d:(p::l.reverse).Pairwise (λ b a=>ltO a b):=by
   refine zah.2 ⟨λ x hx=>g.2.2 x (by simpa using hx) p (by simp),?_⟩;exact zcq.2 g.1
  exact d.sublist (List.Sublist.cons_cons p ((ayg p _).trans (ad3 l)))
 refine ⟨?_,q⟩;rcases a1t p (p9 l) with ⟨x,e⟩ | e | ⟨b,a,r,e,u⟩
 ·rw [e]; simp
 ·rw [e]; simp
 rw [e] at q c |-;obtain ⟨y,z,D⟩:=q;have h:=zah.1 c;have t:=zah.1 h.2;have m:=zah.1 t.2;have o:=zah.1 y;have n:∀x∈r,0<k7 x a p/\0<k7 x b p:=λ x hx=>bit (m.1 x hx) (t.1 a (by simp)) (h.1 b (by simp)) (o.1 x hx) u;refine zah.2 ⟨λ x hx=>?_,zah.2 ⟨λ x hx=>(n x hx).1,?_⟩⟩
 ·rcases zas.1 hx with rfl | hx
  ·exact u
  exact (n x hx).2
 refine (zct.2 λ i j hi s f=>?_);have B:=zct.1 z i j hi s f;have p2:=zct.1 m.2 i j hi s f;exact (bit p2 (m.1 _ (zca hi)) (h.1 a (by simp)) B (n _ (zca hi)).1).1

def Seg (a b q:P2):Prop:=Btw q.1 a.1 b.1/\Btw q.2 a.2 b.2
def Lft (l:List P2) (a b:P2):Prop:=a≠b/\∀q∈l,0<k7 a b q\/(k7 a b q=0/\Seg a b q)
theorem axo (a b c:P2):k7 a b c=k7 c a b:=by unfold k7; grind
theorem a1w {vx vy:Int} (f:0<x1\/(x1=0/\0<y1)) (d:0<x2\/(x2=0/\0<y2)) (c:x1*y2-y1*x2=0) (hv:0<x1*vy-y1*vx):0<x2*vy-y2*vx:=by
 rcases f with h | ⟨h,k⟩
 ·have p2:0<x2:=by
   rcases d with g | ⟨g,k⟩
   ·exact g
   subst g;have:=zbj h k;rw [Int.mul_zero] at c;omega
  have e:x1*(x2*vy-y2*vx)=x2*(x1*vy-y1*vx):=by grind
  have m:=zbj p2 hv;rcases am3 (show 0<x1*(x2*vy-y2*vx) by omega) with ⟨_,g⟩ | ⟨g,_⟩
  ·exact g
  omega
 subst h
 have b:x2=0:=by
  rcases zcc.1 (show y1*x2=0 by rw [zcb] at c; omega) with g | g
  ·omega
  exact g
 subst b;have a:0<y2:=by omega
 rw [zcb] at hv |-;have e:y1*(y2*vx)=y2*(y1*vx):=by grind
 have:0<y1*(-vx):=by rw [Int.mul_neg]; omega
 rcases am3 this with ⟨_,g⟩ | ⟨g,_⟩
 ·have:=zbj a g;rw [Int.mul_neg] at this;omega
 omega
theorem bje (l:ltO a b) (m:ltO a q\/q=a) (r:ltO q b\/q=b) (o:k7 a b q=0):Seg a b q:=by
 unfold ltO at *;unfold k7 at o;unfold Seg Btw;obtain ⟨X,w⟩:∃X,b.1-a.1=X:=⟨_,rfl⟩
 obtain ⟨Y,u⟩:∃Y,b.2-a.2=Y:=⟨_,rfl⟩
 obtain ⟨f,j⟩:∃d,q.1-a.1=d:=⟨_,rfl⟩
 obtain ⟨c,i⟩:∃d,q.2-a.2=d:=⟨_,rfl⟩
 rw [w,u,j,i] at o
 have s:a.1<=q.1/\q.1<=b.1:=by
  constructor
  ·rcases m with h | rfl<;>omega
  rcases r with h | rfl<;>omega
 refine ⟨.inl s,?_⟩;rcases l with hx | ⟨hx,hy⟩
 ·have g:0<X:=by omega
  have n:0<=f:=by omega
  have p:0<=X-f:=by omega
  rcases Int.le_total 0 Y with k | k
  ·have t:=zan k n;have m2:=zan k p;have e:X*(Y-c)=Y*(X-f):=by grind
   have x:0<=c:=zbp (show X*0<=X*c by omega) g;have v:0<=Y-c:=zbp (show X*0<=X*(Y-c) by omega) g;left; omega
  have t:=zan (show 0<=-Y by omega) n;have m2:=zan (show 0<=-Y by omega) p;have e:X*(c-Y)=-Y*(X-f):=by grind
  have e':X * -c=-Y*f:=by grind
  have x:0<=-c:=zbp (show X*0<=X * -c by omega) g;have v:0<=c-Y:=zbp (show X*0<=X*(c-Y) by omega) g;right; omega
 left;have:q.1=a.1:=by omega
 constructor
 ·rcases m with h | rfl<;>omega
 rcases r with h | rfl<;>omega
section
variable {l:List P2}
theorem bbt (h:ltO a b):ip a b:=by unfold ltO at h; unfold ip; omega
theorem ad2 (c:l.Pairwise ltO):(p9 l).Pairwise (λ b a=>ltO a b):=
 (zcq.2 c).sublist (ad3 l)
theorem Tri.app:∀{U r:List P2},Tri (U++r)->Tri r/\∀c∈U,r.Pairwise (λ b a=>0<k7 a b c)
 | [],r,h=>⟨h,λ c hc=>by simp at hc⟩
 | x::U,r,h=>by
   obtain ⟨e,d⟩:=h;obtain ⟨f,g⟩:=Tri.app d;refine ⟨f,λ c hc=>?_⟩;rcases zas.1 hc with rfl | hc
   ·exact (zbh.1 e).2.1
   exact g c hc
theorem aq6 (f:l.Pairwise ltO) {U V:List P2} (e:p9 l=U++b::a::V):∀q∈l,0<=k7 a b q:=λ q r=>by
 have h:=ao1 l f;have hO:=ad2 f;rw [e] at h hO;obtain ⟨⟨k,u,_⟩,m⟩:=h.app;have g:ltO a b:=(zah.1 (zbh.1 hO).2.1).1 a (by simp);have s:0<=b.1-a.1:=by unfold ltO at g; omega
 obtain ⟨c,hc,w⟩:=aua (D:=λ c q=>(b.1-a.1)*c.2-(b.2-a.2)*c.1<=(b.1-a.1)*q.2-(b.2-a.2)*q.1) (o:=ip) (λ a=>Int.le_refl _) (λ a b c=>Int.le_trans) (λ a b p j t i=>aup s j t i) l (f.imp bbt) q r;have n:∀v:P2,k7 a b v=((b.1-a.1)*v.2-(b.2-a.2)*v.1)-((b.1-a.1)*a.2-(b.2-a.2)*a.1):=λ v=>by unfold k7; grind
 have d:0<=k7 a b c:=by
  rw [e] at hc;rcases zbg.1 hc with hc | hc
  ·exact zap ((zah.1 (m c hc)).1 a (by simp))
  rcases zas.1 hc with rfl | hc
  ·unfold k7; grind
  rcases zas.1 hc with rfl | hc
  ·unfold k7; grind
  rw [axo];exact zap ((zah.1 k).1 c hc)
 rw [n] at d |-;omega
theorem atf (b:l.Pairwise ltO) (a:q∈l):(∀x U,p9 l=x::U->ltO q x\/q=x)/\(∀x U,p9 l=U++[x]->ltO x q\/q=x):=by
 constructor
 ·intro x U e;rcases zco l with rfl | ⟨d,y,rfl⟩
  ·simp at a
  rw [zcp] at e b a;rw [ff] at e
  injection e with e1 _
  subst e1;rcases zbg.1 a with a | a
  ·exact .inl ((zbh.1 b).2.2 q a y (by simp))
  exact .inr (zaz.1 a)
 intro x U e;cases l with
 | nil=>simp at a
 | cons y r=>
   obtain ⟨T,c,_⟩:=ao2 y r;rw [c] at e;have:=List.append_inj_right' e rfl;simp at this;subst this;rcases zas.1 a with rfl | a
   ·exact .inr rfl
   exact .inl ((zah.1 b).1 q a)
theorem ay4 (i:l.Pairwise ltO) {U V:List P2} (e:p9 l=U++b::a::V):Lft l a b:=by
 have k:=ao1 l i;have hO:=ad2 i;rw [e] at k hO;have m:=(zbh.1 hO).2.1;have d:ltO a b:=(zah.1 m).1 a (by simp);refine ⟨λ h=>by rw [h] at d; unfold ltO at d; omega,λ q j=>?_⟩;have s:=aq6 i e q j;rcases Int.lt_or_eq_of_le s with h | h
 ·exact .inl h
 refine .inr ⟨h.symm,bje d ?_ ?_ h.symm⟩
 ·cases V with
  | nil=>exact (atf i j).2 a (U++[b]) (by rw [e]; simp)
  | cons c V=>
    rcases Classical.em (ltO a q\/q=a) with f | f
    ·exact f
    exfalso;have o:ltO q a:=by unfold ltO at f |-; rw [not_or,Prod.ext_iff] at f; omega
    have g:=aq6 i (U:=U++[b]) (a:=c) (b:=a) (V:=V) (by rw [e]; simp) q j;obtain ⟨⟨p,_,_⟩,_⟩:=k.app;have tc:=(zah.1 p).1 c (by simp);unfold ltO at d o;unfold k7 at h g tc;have:=a1w (x1:=b.1-a.1) (y1:=b.2-a.2) (x2:=a.1-q.1) (y2:=a.2-q.2) (vx:=-(a.1-c.1)) (vy:=-(a.2-c.2)) (by omega) (by omega) (by grind) (by grind)
    grind
 rcases zco U with rfl | ⟨r,c,rfl⟩
 ·exact (atf i j).1 b (a::V) (by rw [e]; rfl)
 rcases Classical.em (ltO q b\/q=b) with f | f
 ·exact f
 exfalso;have n:ltO b q:=by unfold ltO at f |-; rw [not_or,Prod.ext_iff] at f; omega
 rw [zcp] at e k;have g:=aq6 i (U:=r) (a:=b) (b:=c) (V:=a::V) (by rw [e]; simp) q j;obtain ⟨_,t⟩:=k.app;have tc:=(zah.1 (t c (by simp))).1 a (by simp);unfold ltO at d n;unfold k7 at h g tc;have:=a1w (x1:=b.1-a.1) (y1:=b.2-a.2) (x2:=q.1-b.1) (y2:=q.2-b.2) (vx:=c.1-b.1) (vy:=c.2-b.2) (by omega) (by omega) (by grind) (by grind)
 grind
end

def nP (p:P2):P2:=(-p.1,-p.2)
theorem at8 (a b c:P2):k7 (nP a) (nP b) (nP c)=k7 a b c:=by unfold k7 nP; grind
theorem a7h (p:P2):∀s:List P2,dt (nP p) (s.map nP)=(dt p s).map nP
 | []=>rfl
 | [a]=>rfl
 | b::a::r=>by
   have c:=a7h p (a::r);simp only [zba] at c |-;rw [dt,dt,at8];split
   ·exact c
   rfl
theorem a53 (l:List P2):p9 (l.map nP)=(p9 l).map nP:=by
 refine ke (P:=λ l=>p9 (l.map nP)=(p9 l).map nP) rfl (λ l p a=>?_) l;rw [zbf,zba,zbn,ff,ff,a,a7h]
 rfl
theorem a54 {l:List P2} (c:l.Pairwise ltO):(l.reverse.map nP).Pairwise ltO:=by
 rw [List.pairwise_map];refine (zcq.2 c).imp λ {a b} h=>?_;unfold ltO nP at *;simp only;omega
theorem bac {l:List P2} (c:l.Pairwise ltO) {U V:List P2} (e:p9 l.reverse=U++b::a::V):Lft l a b:=by
 have h:=ay4 (a54 c) (U:=U.map nP) (V:=V.map nP) (a:=nP a) (b:=nP b) (by rw [a53,e]; simp);refine ⟨λ d=>h.1 (by rw [d]),λ q f=>?_⟩;have:=h.2 (nP q) (zaw.2 ⟨q,by simpa using f,rfl⟩);rw [at8] at this;rcases this with g | ⟨g,k⟩
 ·exact .inl g
 refine .inr ⟨g,?_⟩;unfold Seg Btw nP at k;unfold Seg Btw;simp only at k;omega
theorem bdq {R:P2->P2->Prop}:∀(t:List P2) (x:P2),(∀X a b Y,x::t=X++a::b::Y->R a b)->RP R x t
 | [],_,_=>trivial
 | y::t,x,h=>⟨h [] x y t rfl,bdq t y λ X a b Y e=>h (x::X) a b Y (by rw [e]; rfl)⟩
theorem a6q {R:P2->P2->Prop} {s:List P2} (h:∀U b a V,s=U++b::a::V->R a b) {x:P2} {t:List P2} (e:s.reverse=x::t):RP R x t:=by
 refine bdq t x λ X a b Y e'=>?_;rw [<- e] at e';refine h Y.reverse b a X.reverse ?_;have:=congrArg List.reverse e';rw [zcu] at this;rw [this];simp
theorem auz {g:P2->P2->P2} {b:P2} {S:P2->Prop} (c:∀p,S p->g b p=b) (sw:∀n,S n->g n b=b) (d:∀n p,S n->S p->S (g n p)):∀(rg:List P2) (a:P2),(∀p∈rg,S p)->S a->(b∈rg\/a=b)->rg.foldl g a=b
 | [],a,_,_,h=>by simpa using h
 | p::r,a,h1,h2,h=>by
   rw [zbi];have e:=h1 p (by simp);refine auz c sw d r _ (λ q f=>h1 q (by simp [f])) (d _ _ h2 e) ?_;rcases h with h | h
   ·rcases zas.1 h with rfl | h
    ·exact .inr (sw _ h2)
    exact .inl h
   subst h;exact .inr (c _ e)
theorem a7v {l:List P2} (i:∀p,p∈rg↔p∈l) (o:a∈l) (r:b∈l) (h:Lft l a b):alh rg a=b:=by
 unfold alh;have m:¬b=a:=λ e=>h.1 e.symm;refine auz (S:=(·∈l)) (λ p d=>?_) (λ n q=>?_) (λ n p t u=>?_) rg a (λ p d=>(i p).1 d) o (.inl ((i b).2 r))
 ·unfold aec;split
  ·rfl
  rw [if_neg];rintro (g | ⟨g,k⟩)
  ·rcases h.2 p d with f | ⟨f,_⟩<;>omega
  rcases h.2 p d with f | ⟨f,s⟩
  ·omega
  unfold aux mq at k;rw [decide_eq_true_eq] at k;unfold Seg Btw at s
  revert k
  split<;>split<;>split<;>split<;>omega
 ·unfold aec;rw [if_neg m];split
  ·rfl
  rename_i j;by_cases c:n=b
  ·subst c;split<;>rfl
  rw [if_pos];have e:k7 a n b=- k7 a b n:=by unfold k7; grind
  rcases h.2 n q with f | ⟨f,s⟩
  ·exact .inl (by omega)
  refine .inr ⟨by omega,?_⟩;unfold aux mq;rw [decide_eq_true_eq];unfold Seg Btw at s
  have:n.1≠b.1\/n.2≠b.2:=by
   rw [Prod.ext_iff] at c;omega
  split<;>split<;>split<;>split<;>omega
 rcases a1z a n p with e | e<;>rw [e]<;>assumption
theorem a0x {l rg:List P2} (a:∀p,p∈rg↔p∈l) {f:P2} (b:f∈l):∀(t:List P2) (x:P2) (k:Nat),x∈l->(∀y∈t,y∈l)->RP (Lft l) x (t++[f])->f∉t->t.length+1<=k->pq rg f k x=x::t
 | t,x,0,_,_,_,_,hk=>by omega
 | [],x,k+1,hx,_,hR,_,_=>by
   rw [pq,a7v a hx b hR.1,if_pos (.inl rfl)]
 | y::t,x,k+1,hx,ht,hR,hft,hk=>by
   have hy:=ht y (by simp);rw [pq,a7v a hx hy hR.1];rw [if_neg]
   ·rw [a0x a b t y k hy (λ z c=>ht z (by simp [c])) hR.2 (λ h=>hft (by simp [h])) (by simp at hk; omega)]
   rintro (h | h)
   ·exact hft (by simp [h])
   exact hR.1.1 h.symm
variable {f:P2}
theorem bcf {l:List P2} (i:∀p,p∈rg↔p∈l) (j:f∈l) (h:∀p∈l,ltO f p\/p=f) (d:rg≠[]):tx rg=f:=by
 have lb:∀p q,apa p q=true↔ltO p q:=λ p q=>by unfold apa ltO; simp
 unfold tx;refine auz (S:=(·∈l)) (λ p c=>?_) (λ n k=>?_) (λ n p o m=>?_) rg _ (λ p c=>(i p).1 c) ?_ (.inl ((i f).2 j))
 ·unfold agf;rw [if_neg];rw [lb];intro b;rcases h p c with g | rfl<;>unfold ltO at * <;> omega
 ·unfold agf;split
  ·rfl
  rename_i b;rw [lb] at b;rcases h n k with g | rfl
  ·exact absurd g b
  rfl
 ·rcases a2b n p with e | e<;>rw [e]<;>assumption
 refine (i _).1 ?_;cases rg with
 | nil=>exact absurd rfl d
 | cons a r=>simp

theorem arl:∀(r:List P2) (u:P2),(u::r).Pairwise ip->(u::mj u r).Pairwise ltO
 | [],u,_=>by simp [mj]
 | q::r,u,h=>by
   have b:=zah.1 h;have d:=zah.1 b.2;rw [mj];split
   ·exact arl r u (zah.2 ⟨λ x hx=>b.1 x (by simp [hx]),d.2⟩)
   rename_i f;have c:=arl r q b.2;have e:=zah.1 c
   have a:ltO u q:=by
    have:=b.1 q (by simp);rw [Prod.ext_iff] at f;unfold ip at this;unfold ltO;omega
   refine zah.2 ⟨λ x hx=>?_,c⟩;rcases zas.1 hx with rfl | hx
   ·exact a
   exact a.trans (e.1 x hx)
theorem a9d {l:List P2} (h:l.Pairwise ip):(cd l).Pairwise ltO:=by
 cases l with
 | nil=>exact List.Pairwise.nil
 | cons u r=>exact arl r u h
theorem axv {l:List P2} {g:P2} (d:l=f::(m++[g])):∃M,p9 l=g::(M++[f]):=by
 obtain ⟨T,c,e⟩:=ao2 f (m++[g]);have a:=ff (f::m) g;rw [zam,<- d] at a;rw [<- d] at c;have b:=e (by simp);cases T with
 | nil=>exact absurd rfl b
 | cons t T=>
   rw [a] at c
   injection c with e1 e2
   exact ⟨T,by rw [a,e2]; rfl⟩
theorem axn (p q:P2->Bool) (a:∀x,¬(p x=true/\q x=true)):∀r:List P2,(r.filter p).length+(r.filter q).length<=r.length
 | []=>by simp
 | x::r=>by
   have:=axn p q a r;have hx:=a x;rw [List.filter_cons,List.filter_cons];split<;>split<;>simp_all<;>omega
theorem RP.imp {R S:P2->P2->Prop} (h:∀a b,R a b->S a b):∀(t:List P2) (x:P2),RP R x t->RP S x t
 | [],_,_=>trivial
 | y::t,x,k=>⟨h x y k.1,RP.imp h t y k.2⟩
theorem Lft.mono {l:List P2} (h:Lft l a b) (c:∀q∈m,q∈l):Lft m a b:=⟨h.1,λ q d=>h.2 q (c q d)⟩
theorem a8f (hb:aot rg):∃f T,ko rg=f::T/\2<=T.length/\T.length+1<=rg.length/\f∈rg/\(∀p∈rg,ltO f p\/p=f)/\f∉T/\(∀p∈T,p∈rg)/\RP (Lft rg) f (T++[f]):=by
 have d:=atb hb
 have hP:ko rg=aq (cd (ah rg))++aq (cd (ah rg)).reverse:=by
  unfold ko at d |-;split
  ·rename_i h; rw [if_pos h] at d; simp at d
  rename_i h;rw [if_neg h] at d;split
  ·rename_i Y; rw [if_pos Y] at d; simp at d
  rfl
 have i:=a9d (avk rg);have A:∀p,p∈rg↔p∈cd (ah rg):=λ p=>⟨λ h=>atn (ar5 h),λ h=>aiy ((aoc _).subset h)⟩
 have J:(cd (ah rg)).length<=rg.length:=by
  have h1:=(aoc (ah rg)).length_le;have h2:(ah rg).length=rg.length:=aax rg;omega
 rw [hP] at d |-;generalize cd (ah rg)=l at *
 obtain ⟨f,m,g,j⟩:∃f m g,l=f::(m++[g]):=by
  cases l with
  | nil=>simp [aq,p9] at d
  | cons x r=>
    rcases zco r with rfl | ⟨L,y,rfl⟩
    ·simp [aq,p9,dt] at d
    exact ⟨x,L,y,by rw [zcp]⟩
 obtain ⟨M,t⟩:=axv j;obtain ⟨N,hN⟩:=axv (l:=l.reverse) (f:=g) (g:=f) (m:=m.reverse) (by rw [j]; simp)
 have P:aq l=f::M.reverse:=by
  unfold aq;rw [t];simp only [List.reverse_cons,List.reverse_append,List.reverse_nil,zbe,List.singleton_append];rw [List.dropLast_concat]
 have c2:aq l.reverse=g::N.reverse:=by
  unfold aq;rw [hN];simp only [List.reverse_cons,List.reverse_append,List.reverse_nil,zbe,List.singleton_append];rw [List.dropLast_concat]
 rw [P,c2] at d |-;have fl:f∈l:=by rw [j]; simp
 have W:g∈l:=by rw [j]; simp
 have u:∀p∈l,ltO f p\/p=f:=λ p n=>by
  rw [j] at i n;rcases zas.1 n with rfl | n
  ·exact .inr rfl
  exact .inl ((zah.1 i).1 p n)
 have w:ltO f g:=by
  rw [j] at i;exact (zah.1 i).1 g (by simp)
 have sM:(g::(M++[f])).Pairwise (λ b a=>ltO a b):=by rw [<- t]; exact ad2 i
 have R:(f::(N++[g])).Pairwise ltO:=by
  have:=ad3 l.reverse;rw [zcu,hN] at this;exact i.sublist this
 have D:∀x∈M,ltO f x:=λ x hx=>(zbh.1 (zah.1 sM).2).2.2 x hx f (by simp);have E:∀x∈N,ltO f x:=λ x hx=>(zah.1 R).1 x (by simp [hx]);have o:¬ltO f f:=by unfold ltO; omega
 have C:f∉M.reverse++g::N.reverse:=λ h=>by
  rcases zbg.1 h with h | h
  ·exact o (D f (by simpa using h))
  rcases zas.1 h with h | h
  ·rw [<- h] at w; exact o w
  exact o (E f (by simpa using h))
 have F:∀x∈M,x∈l:=λ x hx=>ak7 l (by rw [t]; simp [hx]);have B:∀x∈N,x∈l:=λ x hx=>by simpa using ak7 l.reverse (q:=x) (by rw [hN]; simp [hx])
 have O:RP (Lft l) f ((M.reverse++g::N.reverse)++[f]):=by
  rw [zat,zam,at5];refine ⟨a6q (s:=p9 l) (λ U b a V e=>ay4 i e) (by rw [t]; simp),a6q (s:=p9 l.reverse) (λ U b a V e=>bac i e) (by rw [hN]; simp)⟩
 have X:∀c∈M,k7 f g c<0:=λ c hc=>by
  have k:=ao1 l i;rw [t] at k;have:=(zbh.1 k.1).2.2 c hc f (by simp);have e:k7 f g c=- k7 f c g:=by unfold k7; grind
  omega
 have S:∀c∈N,0<k7 f g c:=λ c hc=>by
  have k:=ao1 _ (a54 i);rw [a53,hN] at k;simp only [zba,zbf,zbn] at k;have:=(zbh.1 k.1).2.2 (nP c) (zaw.2 ⟨c,hc,rfl⟩) (nP g) (by simp);rw [at8,axo] at this;exact this
 have v:(M.reverse++g::N.reverse).length+1<=rg.length:=by
  have f1:M.filter (λ c=>decide (k7 f g c<0))=M:=List.filter_eq_self.2 λ c hc=>decide_eq_true (X c hc);have f2:N.filter (λ c=>decide (0<k7 f g c))=N:=List.filter_eq_self.2 λ c hc=>decide_eq_true (S c hc)
  have Z:M.Sublist l.reverse:=by
   have:=ad3 l;rw [t] at this;exact ((List.sublist_append_left M [f]).trans (List.sublist_cons_self g _)).trans this
  have K:N.Sublist l:=by
   have:=ad3 l.reverse;rw [zcu,hN] at this;exact ((List.sublist_append_left N [g]).trans (List.sublist_cons_self f _)).trans this
  have G:=(Z.filter (λ c=>decide (k7 f g c<0))).length_le;have I:=(K.filter (λ c=>decide (0<k7 f g c))).length_le;rw [f1,List.filter_reverse,List.length_reverse] at G;rw [f2] at I;have z:k7 f g f=0:=by unfold k7; grind
  have H:k7 f g g=0:=by unfold k7; grind
  rw [j,zce (by simp [z]),zcf,zce (by simp [H]),List.filter_nil,zbr] at G;rw [j,zce (by simp [z]),zcf,zce (by simp [H]),List.filter_nil,zbr] at I;have g3:=axn (λ c=>decide (k7 f g c<0)) (λ c=>decide (0<k7 f g c)) (λ x h=>by simp at h; omega) m;have g4:l.length=m.length+2:=by rw [j]; simp
  simp only [zbb,List.length_reverse,zai] at *;omega
 have k:∀p∈M.reverse++g::N.reverse,p∈l:=λ y hy=>by
  rcases zbg.1 hy with hy | hy
  ·exact F y (by simpa using hy)
  rcases zas.1 hy with rfl | hy
  ·exact W
  exact B y (by simpa using hy)
 exact ⟨f,M.reverse++g::N.reverse,rfl,by simp only [zbb,zai] at d |-; omega,v,(A f).2 fl,λ p n=>u p ((A p).1 n),C,λ p n=>(A p).2 (k p n),RP.imp (λ a b h=>h.mono λ q Q=>(A q).1 Q) _ _ O⟩
theorem a8c {T:List P2} (l:2<=T.length) (k:T.length<=rg.length) (a:f∈rg) (b:∀p∈rg,ltO f p\/p=f) (d:f∉T) (i:∀p∈T,p∈rg) (e:RP (Lft rg) f (T++[f])):qf rg=f::T:=by
 have c:rg≠[]:=λ h=>by rw [h] at a; simp at a
 have j:=bcf (λ p=>Iff.rfl) a b c;have g:=a0x (λ p=>Iff.rfl) a T f (rg.length+1) a i e d (by omega);unfold qf;rw [if_neg c,j,g,if_neg];simp only [zai];omega
theorem a8e (e:aot rg):qf rg=ko rg:=by
 obtain ⟨f,T,c,a,j,g,h,d,i,b⟩:=a8f e;rw [c];exact a8c a (by omega) g h d i b


theorem ar3:∀(r:List P2) (p:P2) (i:Nat) (q o:P2),r[i]?=some q->(p::r)[i]?=some o->(t6 p r).getD (2*i) 0=zig (IntKind.i64.wrap (q.1-o.1))/\(t6 p r).getD (2*i+1) 0=zig (IntKind.i64.wrap (q.2-o.2))
 | [],p,i,q,o,h,_=>by simp at h
 | a::r,p,0,q,o,h,g=>by
   simp at h g;subst h; subst g;exact ⟨rfl,rfl⟩
 | a::r,p,i+1,q,o,h,g=>by
   have b:=ar3 r a i q o (by simpa using h) (by simpa using g);rw [show 2*(i+1)=2*i+1+1 by omega,t6];exact b
theorem aj1 {r:List P2} (h:2<=r.length):o5 (p::r)=[9,zig p.1,zig p.2,8*(r.length:Int)+2]++t6 p r++[15]:=by
 rw [o5,if_neg (by omega)]
variable {ring:List P2}
theorem ato (h:3<=ring.length):(o5 ring).length=2*ring.length+3:=by
 cases ring with
 | nil=>simp at h
 | cons p r=>
   simp only [zai] at h;rw [aj1 (by omega)];have:=kk r p;simp [this];omega
theorem atp (h:3<=ring.length):dv (o5 ring)=true:=by
 have b:=ato h;cases ring with
 | nil=>simp at h
 | cons p r=>
   simp only [zai] at h b;have a:=aj1 (p:=p) (r:=r) (by omega);have c:=kk r p;unfold dv;rw [b];have g:(o5 (p::r)).getD 0 0=9:=by rw [a]; rfl
   have e:(o5 (p::r)).getD (2*(r.length+1)+3-1) 0=15:=by
    rw [a,zar,List.getElem?_append_right (by simp [c]; omega)];rw [show 2*(r.length+1)+3-1-([9,zig p.1,zig p.2,8*(r.length:Int)+2]++t6 p r).length=0 by simp [c]; omega]
    rfl
   have j:(o5 (p::r)).getD 3 0=8*(r.length:Int)+2:=by rw [a]; rfl
   rw [g,e,j];have i:decide (9<=2*(r.length+1)+3)=true:=decide_eq_true (by omega);have f:((2*(r.length+1)+3)%2 == 1)=true:=by rw [beq_iff_eq]; omega
   have d:(8*(r.length:Int)+2 == 8*((((2*(r.length+1)+3:Nat):Int)-5)/2)+2)=true:=by rw [beq_iff_eq]; omega
   rw [i,f,d]
   rfl
theorem a3u (h:3<=ring.length) (l:ans ring):iv (o5 ring)=ring:=by
 rw [iv,if_pos (atp h),ato h];cases ring with
 | nil=>simp at h
 | cons p r=>
   simp only [zai] at h |-;have g:=aj1 (p:=p) (r:=r) (by omega);have y:=kk r p
   have hc:∀j,j<r.length+1->∀o,(p::r)[j]?=some o->yg (o5 (p::r)) j=o:=λ j=>by
    induction j with
    | zero=>
      intro _ o c;simp at c;subst c;rw [yg,g];show (zag (zig p.1),zag (zig p.2))=p;rw [ahu,ahu]
    | succ j ih=>
      intro x q u;obtain ⟨o,c⟩:∃o,(p::r)[j]?=some o:=⟨(p::r)[j]'(by simp; omega),by simp [show j<r.length+1 by omega]⟩
      have e:r[j]?=some q:=by simpa using u
      obtain ⟨s,t⟩:=ar3 r p j q o e c;have f:=l q (by simp [zav e]);have d:=l o (zav c)
      have m:∀k,k<2*r.length->(o5 (p::r)).getD (4+k) 0=(t6 p r).getD k 0:=λ k z=>by
       rw [g,zat,zar,List.getElem?_append_right (by simp),zar];rw [show 4+k-[9,zig p.1,zig p.2,8*(r.length:Int)+2].length=k by simp];rw [List.getElem?_append_left (by omega)]
      rw [yg,ih (by omega) o c,m (2*j) (by omega),show 5+2*j=4+(2*j+1) by omega,m (2*j+1) (by omega),s,t,ahu,ahu]
      have n:∀a b:Int,c7 a->c7 b->IntKind.i64.wrap (b+IntKind.i64.wrap (a-b))=a:=λ a b v w=>by
       rw [IntKind.wrap_i64,IntKind.wrap_i64];unfold c7 at v w;omega
      rw [n _ _ f.1 d.1,n _ _ f.2 d.2]
   apply zbw;intro i;by_cases hi:i<r.length+1
   ·rw [ei,zbl,zcv (by omega),zbc (by simpa using hi)];rw [Option.map_some,hc i hi _ (zbc (by simpa using hi))]
   rw [zau (by simp [ei]; omega),zau (by simp; omega)]

def jv:Mk P0 f50:={ x:=_ }
def cw:Mk P0 f23:={ x:=_ }
def aqr (f:Fea) (k:Nat) (z:Int):Fea:=match k with
 | 0=>{ f with c:=z }
 | 1=>{ f with s:=z }
 | 2=>{ f with lo:=z }
 | _=>{ f with hi:=z }
def aac (b:List UInt8):Option Nat:=
 match u7 b with
 | some [x]=>if x.1=6/\x.2.1=0 then some x.2.2.1 else none
 | _=>none
def bn:List Fld->List Fea->Nat->Option (List Fea)
 | [],o,n=>some o
 | f::r,o,n=>
   if f.1=2/\f.2.1=2 then (if (bi f.2.2.2).2 then bn r (o++[(bi f.2.2.2).1]) n else none)
   else if f.1=4 then (match aac f.2.2.2 with
    | some m=>if n/4<o.length then bn r (o.set (n/4) (aqr (o.getD (n/4) default) (n%4) (zag m))) (n+1) else none
    | none=>none)
   else bn r o n
def zu (b:List UInt8):Option (List Fea):=
 match u7 b with
 | some [x]=>if x.2.1=2 then (match u7 x.2.2.2 with
  | some fs=>bn fs [] 0
  | none=>none) else none
 | _=>none
theorem aun {b:List UInt8} (h:∀m,u7 b=some m->m.length≠1):aac b=none:=by
 unfold aac;split
 ·rename_i x e;exact absurd rfl (h _ e)
 rfl
def ajs:Option Nat->AV
 | some n=>.tup [int .u64 (n:Nat),bl true]
 | none=>.tup [int .u64 0,bl false]
theorem bjp (b:List UInt8) (o:b.length<=1000000):a8 P0 50 [sb b,int .i64 6] [] (ajs (aac b)) []:=by
 refine jv.t func50 ?_;have e:=ai2 b (by omega);have l:=g7;have i:((10:Int) != 0)=true:=rfl;have a:((0:Int) != 0)=false:=rfl;have j:((0:Int) != 1)=true:=rfl;cases hm:u7 b with
 | none=>
   have hv:aac b=none:=aun (λ m h=>by rw [hm] at h; cases h);rw [hm] at e;rw [hv];simp only [jv,ep,di,push_cast,↓reduceIte,reduceCtorEq,zA];refine a6 e rfl trivial ?_;simp only [iw,jy,i,ajs,push_cast,↓reduceIte,reduceCtorEq,zE,zA,zL]
 | some m=>
   by_cases g:m=[]
   ·subst g;have hv:aac b=none:=aun (λ m h=>by rw [hm] at h; cases h; simp);rw [hm] at e;rw [hv];simp only [jv,ep,di,push_cast,↓reduceIte,reduceCtorEq,zA];refine a6 e rfl trivial ?_;simp only [iw,jy,a,j,ajs,push_cast,↓reduceIte,reduceCtorEq,zE,zA,zL]
   rw [hm,(x6 g).1,(x6 g).2] at e;have n:=ny hm;by_cases k:m.length≠1
   ·have hv:aac b=none:=aun (λ m' h=>by rw [hm] at h; cases h; exact k);rw [hv]
    obtain ⟨y,t,rfl⟩:∃y t,m=y::t:=by
     cases m with
     | nil=>exact absurd rfl g
     | cons y t=>exact ⟨y,t,rfl⟩
    simp only [zai] at k;have f:((t.length:Int)+1 != 1)=true:=bne_iff_ne.2 (by omega);simp only [jv,ep,di,push_cast,↓reduceIte,reduceCtorEq,zA];refine a6 e rfl trivial ?_;simp only [a,f,ajs,ez,zab,Nat.add_zero,zaa,push_cast,↓reduceIte,reduceCtorEq,zE,zA,zS,zL,zD,zM]
   obtain ⟨x,rfl⟩:∃x,m=[x]:=List.length_eq_one_iff.1 (by omega);have hx:=ay hm x (by simp);have f:((1:Int) != 1)=false:=rfl;have hv:aac b=if x.1=6/\x.2.1=0 then some x.2.2.1 else none:=by unfold aac; rw [hm]
   rw [hv];simp only [jv,ep,di,push_cast,↓reduceIte,reduceCtorEq,zA];refine a6 e rfl trivial ?_;cases e2:((x.1:Int) != 6) with
   | true=>
     have d:x.1≠6:=by have:=bne_iff_ne.1 e2; omega
     rw [if_neg (λ h=>d h.1)];simp only [a,f,e2,ez,ajs,zab,push_cast,↓reduceIte,reduceCtorEq,zE,zA,zS,zL,zD,zM];omega
   | false=>
     have d:x.1=6:=by
      have:((x.1:Int)=6):=by simpa using e2
      omega
     cases e3:((x.2.1:Int) != 0) with
     | true=>
       have c:x.2.1≠0:=by have:=bne_iff_ne.1 e3; omega
       rw [if_neg (λ h=>c h.2)];simp only [a,f,e2,e3,ez,ajs,zab,push_cast,↓reduceIte,reduceCtorEq,zE,zA,zS,zL,zD,zM];omega
     | false=>
       have c:x.2.1=0:=by
        have:((x.2.1:Int)=0):=by simpa using e3
        omega
       rw [if_pos ⟨d,c⟩];simp only [a,f,e2,e3,ez,ajs,zab,push_cast,↓reduceIte,reduceCtorEq,zE,zA,zS,zL,zD,zM];omega
theorem at7 {b:List UInt8} (h:∀m,u7 b=some m->m.length≠1):zu b=none:=by
 unfold zu;split
 ·rename_i x e;exact absurd rfl (h _ e)
 rfl
def uq (b:List UInt8):Option (List Fea)->Option (List Fea)
 | none=>none
 | some o=>if o≠[]/\s6 o=b then some o else none
def alb (b:List UInt8):Option (List Fea):=if b=[] then some [] else uq b (zu b)
def aww (o:List Fea):AV:=if o=[] then .nils 6 m9 else .own 2000001 0 0 o.length
def awx (o:List Fea):List Ob:=if o=[] then [] else [kg o]
theorem bfk (f:Fea) (k:Nat) (z:Int):(aqr f k z).rv=match k with
 | 0=>.agg [.v (.int .u64 f.w),.sl 2 (f.ring.map ptR),.v (.int .i64 z),.v (.int .i64 f.s),.v (.int .i64 f.lo),.v (.int .i64 f.hi)]
 | 1=>.agg [.v (.int .u64 f.w),.sl 2 (f.ring.map ptR),.v (.int .i64 f.c),.v (.int .i64 z),.v (.int .i64 f.lo),.v (.int .i64 f.hi)]
 | 2=>.agg [.v (.int .u64 f.w),.sl 2 (f.ring.map ptR),.v (.int .i64 f.c),.v (.int .i64 f.s),.v (.int .i64 z),.v (.int .i64 f.hi)]
 | _=>.agg [.v (.int .u64 f.w),.sl 2 (f.ring.map ptR),.v (.int .i64 f.c),.v (.int .i64 f.s),.v (.int .i64 f.lo),.v (.int .i64 z)]:=by
 match k with
 | 0=>rfl
 | 1=>rfl
 | 2=>rfl
 | k+3=>rfl
theorem a1y {b:List UInt8} {m:Nat} (h:aac b=some m):m<18446744073709551616:=by
 unfold aac at h;split at h
 ·rename_i x e;split at h
  ·cases h;exact (ay e x (by simp)).2.2.1
  cases h
 cases h
theorem bfl {f:Fea} (h:f.ok) (k:Nat) {z:Int} (c:c7 z):(aqr f k z).ok:=by
 obtain ⟨d,a,b,g,i,e,j⟩:=h;unfold aqr;split
 ·exact ⟨d,a,b,c,i,e,j⟩
 ·exact ⟨d,a,b,g,c,e,j⟩
 ·exact ⟨d,a,b,g,i,c,j⟩
 exact ⟨d,a,b,g,i,e,c⟩
theorem ah3:∀(g:List Fld) (o:List Fea) (n:Nat),(∀x∈g,x.2.2.2.length<=100000)->(∀f∈o,f.ok)->∀p,bn g o n=some p->(∀f∈p,f.ok)/\p.length<=o.length+g.length
 | [],o,n,h,ho,p,e=>by
   cases e;exact ⟨ho,by simp⟩
 | x::r,o,n,h,ho,p,e=>by
   have i:∀y∈r,y.2.2.2.length<=100000:=λ y hy=>h y (by simp [hy]);rw [bn] at e;split at e
   ·split at e
    ·obtain ⟨a,b⟩:=ah3 r _ _ i (λ f c=>by
      rcases zbg.1 c with c | c
      ·exact ho f c
      rw [zaz.1 c]
      exact azm _ (h x (by simp))) p e
     refine ⟨a,?_⟩;simp only [zbb,zai,zao] at b |-;omega
    cases e
   split at e
   ·split at e
    ·rename_i m j;split at e
     ·rename_i d
      obtain ⟨a,b⟩:=ah3 r _ _ i (λ f c=>by
       rcases List.mem_or_eq_of_mem_set c with c | rfl
       ·exact ho f c
       have:=a1y j
       exact bfl (acd ho d) _ (aru _ (by omega) (by omega))) p e
      refine ⟨a,?_⟩;simp only [List.length_set,zai] at b |-;omega
     cases e
    cases e
   obtain ⟨a,b⟩:=ah3 r _ _ i ho p e;refine ⟨a,?_⟩;simp only [zai];omega
theorem bmd (b:List UInt8) (hb:b.length<=100000):a8 P0 23 [dj (n8 b)] [] (rdR (alb b)) (rdO (alb b)):=by
 refine cw.t func23 ?_;have em:=g7
 have G:((n8 b).toList == ({ data:=#[] }:ByteArray).toList)=decide (b=[]):=by
  rw [aol,ByteArray.toList_eq];by_cases h:b=[]
  ·subst h; rfl
  rw [decide_eq_false h]; exact beq_eq_false_iff_ne.2 h
 by_cases h0:b=[]
 ·subst h0;simp only [cw,G,push_cast,↓reduceIte,reduceCtorEq,zE,zA];rw [show alb []=some [] from if_pos rfl];exact ⟨rfl,rfl⟩
 rw [decide_eq_false h0] at G;have gp:alb b=uq b (zu b):=if_neg h0;rw [gp];have Y:=ai2 b (by omega);have K:((10:Int) != 0)=true:=rfl;have j:((0:Int) != 0)=false:=rfl;have gl:((0:Int) != 1)=true:=rfl;have bad:∀(v:AV) (os:List Ob),v=.tup [.nils 6 m9,int .i64 10]->os=[]->v=rdR none/\os=rdO none:=λ v os h1 h2=>by rw [h1,h2]; exact ⟨rfl,rfl⟩
 cases hm:u7 b with
 | none=>
   have hv:zu b=none:=at7 (λ m h=>by rw [hm] at h; cases h);rw [hm] at Y;rw [hv,uq];simp only [cw,G,push_cast,↓reduceIte,reduceCtorEq];refine a6 Y rfl trivial ?_;simp only [iw,jy,K,rdR,rdO,m9,push_cast,↓reduceIte,reduceCtorEq,zE,zA,zL]
 | some m=>
   by_cases V:m=[]
   ·subst V;have hv:zu b=none:=at7 (λ m h=>by rw [hm] at h; cases h; simp);rw [hm] at Y;rw [hv,uq];simp only [cw,G,push_cast,↓reduceIte,reduceCtorEq];refine a6 Y rfl trivial ?_;simp only [iw,jy,j,gl,rdR,rdO,m9,push_cast,↓reduceIte,zE,zA,zL]
   rw [hm,(x6 V).1,(x6 V).2] at Y;have e5:=ny hm;by_cases h1:m.length≠1
   ·have hv:zu b=none:=at7 (λ m' h=>by rw [hm] at h; cases h; exact h1);rw [hv,uq]
    obtain ⟨y,t,rfl⟩:∃y t,m=y::t:=by
     cases m with
     | nil=>exact absurd rfl V
     | cons y t=>exact ⟨y,t,rfl⟩
    simp only [zai] at h1;have e1:((t.length:Int)+1 != 1)=true:=bne_iff_ne.2 (by omega);simp only [cw,G,push_cast,↓reduceIte,reduceCtorEq];refine a6 Y rfl trivial ?_;simp only [j,e1,rdR,rdO,m9,ez,zab,Nat.add_zero,zaa,push_cast,↓reduceIte,reduceCtorEq,zE,zA,zS,zL,zD,zM]
   obtain ⟨x,rfl⟩:∃x,m=[x]:=List.length_eq_one_iff.1 (by omega);have hx:=ay hm x (by simp);have e1:((1:Int) != 1)=false:=rfl
   have hv:zu b=if x.2.1=2 then (match u7 x.2.2.2 with
    | some fs=>bn fs [] 0
    | none=>none) else none:=by unfold zu; rw [hm]
   rw [hv];simp only [cw,G,push_cast,↓reduceIte,reduceCtorEq];refine a6 Y rfl trivial ?_;cases e2:((x.2.1:Int) != 2) with
   | true=>
     have D:x.2.1≠2:=by have:=bne_iff_ne.1 e2; omega
     rw [if_neg D,uq];simp only [j,e1,e2,ez,rdR,rdO,m9,zab,push_cast,↓reduceIte,zE,zA,zS,zL,zD,zM];omega
   | false=>
     have D:x.2.1=2:=by
      have:((x.2.1:Int)=2):=by simpa using e2
      omega
     rw [if_pos D];have H:=ai2 x.2.2.2 (by omega);simp only [j,e1,e2,ez,ep,di,zab,push_cast,↓reduceIte,zE,zA,zS,zL,zD,zM]
     repeat refine sO ?_
     cases hm2:u7 x.2.2.2 with
     | none=>
       rw [hm2] at H;simp only [uq];refine a6 H rfl trivial ?_;simp only [iw,jy,K,rdR,rdO,m9,push_cast,↓reduceIte,zE,zA,zL]
     | some fs=>
       have hf:=ay hm2;have eo:=ny hm2
       have g6:∀p,bn fs [] 0=some p->(∀f∈p,f.ok)/\p.length<=fs.length:=λ p hp=>by
        have:=ah3 fs [] 0 (λ y hy=>by have:=hf y hy; omega) (by simp) p hp;simpa using this
       have ga:((0:Int) != 4)=true:=rfl;have gg:((4:Int) != 4)=false:=rfl
       have g5:(match some fs with
        | some fs=>bn fs [] 0
        | none=>none)=bn fs [] 0:=rfl
       rw [g5];by_cases h2:fs=[]
       ·subst h2;rw [hm2] at H;refine a6 H rfl trivial ?_;have e7:decide ((0:Int)<0)=false:=rfl;have h6:((0:Int) == 0)=true:=rfl;have hl:uq b (bn [] [] 0)=none:=by rw [bn]; exact if_neg (t:=some ([]:List Fea)) (λ h:([]:List Fea)≠[]/\s6 []=b=>h.1 rfl)
        rw [hl];simp only [iw,jy,j,rdR,rdO,push_cast,↓reduceIte,zE,zA,zL];refine b9 [(9,false),(6,false),(7,false),(8,false),(0,false)] (λ vs pos L=>vs=[int .i64 0,aq3,.nils 6 m9,int .i64 0,dj (n8 b)]/\pos=[]/\L=[]) (λ _ _ _=>0) rfl ?_ ?_
        ·simp only [m9,push_cast,↓reduceIte,reduceCtorEq,zE,zA]
        rintro vs pos L ⟨rfl,rfl,rfl⟩;simp only [m9,e7,h6,push_cast,↓reduceIte,reduceCtorEq,zE,zA,zL]
       rw [hm2,(x6 h2).1,(x6 h2).2] at H;obtain ⟨M,Z,en⟩:∃M:Int,((fs.length:Nat):Int)=M/\0<=M/\M<=1000000:=⟨_,rfl,by omega,by omega⟩
       refine a6 H rfl trivial ?_;simp only [j,push_cast,↓reduceIte,zE,zA,zS,zL,zD,zM]
       refine b9 [(9,false),(6,false),(7,false),(8,false),(0,false)] (λ vs pos L=>∃(i:Nat) (o:List Fea) (n:Nat),i<=fs.length/\o.length<=i/\n<=i/\bn fs [] 0=bn (fs.drop i) o n /\
        vs=[int .i64 i,.own 2000000 0 0 fs.length,aww o,int .i64 n,dj (n8 b)]/\pos=[]/\L=auh fs::awx o)
        (λ vs _ _=>match vs with | .r (.v (.int _ a))::_=>(M-a).toNat | _=>0) rfl ?_ ?_
       ·simp only [push_cast,↓reduceIte,reduceCtorEq,zE,zA,zL,zD];exact ⟨0,[],0,by omega,by simp,by omega,rfl,rfl,rfl⟩
       rintro vs pos L ⟨i,o,n,hi,ee,e8,d,rfl,rfl,rfl⟩;have w1:IntKind.i64.wrap ((i:Int)+1)=i+1:=a5 (by omega);have wn:IntKind.i64.wrap ((n:Int)+1)=n+1:=a5 (by omega)
       have h7:∀g:i<fs.length,bn (fs.drop i) o n=if fs[i].1=2/\fs[i].2.1=2 then (if (bi fs[i].2.2.2).2 then bn (fs.drop (i+1)) (o++[(bi fs[i].2.2.2).1]) n else none)
        else if fs[i].1=4 then (match aac fs[i].2.2.2 with
         | some m=>if n/4<o.length then bn (fs.drop (i+1)) (o.set (n/4) (aqr (o.getD (n/4) default) (n%4) (zag m))) (n+1) else none
         | none=>none)
        else bn (fs.drop (i+1)) o n:=λ g=>by
        rw [zbm g,bn]
       have ho:∀(g:i<fs.length) z,(fs.map ez).getD i z=.agg [.v (.int .i64 (fs[i].1:Nat)),.v (.int .i64 (fs[i].2.1:Nat)),.v (.int .u64 (fs[i].2.2.1:Nat)),.sl 1 (bys fs[i].2.2.2)]:=λ g z=>by
        rw [zar,zbl,zbc g]; rfl
       have gd:∀g:i<fs.length,fs[i].2.2.2.length<=100000:=λ g=>by
        have:=hf _ (zca g);omega
       by_cases e:o=[]<;>(
        simp only [aww,awx,e,m9,Z,push_cast,↓reduceIte,zE,zA];refine b7 (λ hd=>?_) (λ hd=>?_)
        ·have hd:=of_decide_eq_true hd;have g:i<fs.length:=by omega
         have hg:=ho g;have hk:=h7 g;have e9:=gd g;rw [hk] at d;clear hk;generalize fs[i]=F at *;cases e2:((F.1:Int) == 2) with
         | false=>
           have D:¬(F.1=2/\F.2.1=2):=λ h=>by have:=beq_eq_false_iff_ne.1 e2; omega
           rw [if_neg D] at d;cases W:((F.1:Int) == 4) with
           | false=>
             have h5:¬F.1=4:=by have:=beq_eq_false_iff_ne.1 W; omega
             rw [if_neg h5] at d;simp only [hg,e2,W,w1,Z,zae,zaa,push_cast,↓reduceIte,reduceCtorEq,zB,zE,zA,zL,zD]
             repeat refine sO ?_
             exact ⟨⟨i+1,o,n,by omega,by omega,by omega,d,by simp [e],by simp [e,m9]⟩,by omega⟩
           | true=>
             have q4:F.1=4:=by have:=eq_of_beq W; omega
             rw [if_pos q4] at d;have ha:=bjp F.2.2.2 (by omega);simp only [hg,e2,W,Z,zae,zaa,push_cast,↓reduceIte,zE,zL,zD]
             repeat refine sO ?_
             refine a6 ha rfl trivial ?_;cases hO:aac F.2.2.2 with
             | none=>
               rw [hO] at d;simp only [ajs,d,uq,rdR,rdO,m9,push_cast,↓reduceIte,reduceCtorEq,zE,zA,zL]
             | some mm=>
               rw [hO] at d;simp only at d;have hq:(n:Int).tdiv 4=((n/4:Nat):Int):=by rw [Int.tdiv_eq_ediv_of_nonneg (by omega)]; omega
               have wq:IntKind.i64.wrap ((n/4:Nat):Int)=((n/4:Nat):Int):=a5 (by omega);have e5:=a1y hO;obtain ⟨Q,g4⟩:∃Q,n/4=Q:=⟨_,rfl⟩
               rw [g4] at hq wq d;by_cases J:Q<o.length
               ·first
                | (exfalso; rw [e] at J; exact absurd J (by simp))
                | (
                 rw [if_pos J] at d;have X:decide ((Q:Int)>=(o.length:Int))=false:=decide_eq_false (by omega);have hz:=a6h (mm:Int) (by omega) (by omega);have g3:(o.map Fea.rv).getD Q m9=.agg [.v (.int .u64 (o.getD Q default).w),.sl 2 ((o.getD Q default).ring.map ptR),.v (.int .i64 (o.getD Q default).c),.v (.int .i64 (o.getD Q default).s),.v (.int .i64 (o.getD Q default).lo),.v (.int .i64 (o.getD Q default).hi)]:=akn J m9;have e0:=λ k z=>bfk (o.getD Q default) k z;have h9:(n:Int).tmod 4=((n%4:Nat):Int):=by rw [Int.tmod_eq_emod_of_nonneg (by omega)]; omega
                 have hu:∀x,(o.set Q x).length=o.length:=λ x=>List.length_set;have T:∀x,o.set Q x≠[]:=λ x h=>by have:=hu x; rw [h] at this; simp at this; omega
                 generalize o.getD Q default=P at *;have g0:((0:Int) == 0)=true:=rfl;have gs:((1:Int) == 0)=false:=rfl;have ge:((1:Int) == 1)=true:=rfl;have g1:((2:Int) == 0)=false:=rfl;have gx:((2:Int) == 1)=false:=rfl;have g2:((2:Int) == 2)=true:=rfl;have gb:((3:Int) == 0)=false:=rfl;have gq:((3:Int) == 1)=false:=rfl;have e6:((3:Int) == 2)=false:=rfl;have U:=e0 (n%4) (zag mm)
                 rcases (show n%4=0\/n%4=1\/n%4=2\/n%4=3 by omega) with h4 | h4 | h4 | h4<;>(
                  rw [h4] at h9 d U;simp only at U;simp only [ajs,hq,wq,X,h9,g0,gs,ge,g1,gx,g2,gb,gq,e6,zae,zaa,push_cast,↓reduceIte,zE,zA,zL]
                  repeat refine And.intro (by first | decide | omega) ?_
                  refine a6 hz rfl trivial ?_;simp only [g3,w1,wn,zaa,push_cast,↓reduceIte,reduceCtorEq,zB,zE,zA,zL,zD]
                  exact ⟨⟨i+1,_,n+1,by omega,by rw [hu]; omega,by omega,d,by simp [e],by simp [e,List.map_set,U]⟩,by omega⟩))
               rw [if_neg J] at d;have X:decide ((Q:Int)>=(o.length:Int))=true:=decide_eq_true (by omega);have gw:decide ((Q:Int)>=0)=true:=decide_eq_true (by omega);simp only [ajs,d,hq,wq,X,gw,uq,rdR,rdO,m9,push_cast,↓reduceIte,zE,zA,zL]
               decide
         | true=>
           have q2:F.1=2:=by have:=eq_of_beq e2; omega
           have W:((F.1:Int) == 4)=false:=by rw [q2]; rfl
           have h5:¬F.1=4:=by omega
           cases e3:((F.2.1:Int) == 2) with
           | false=>
             have D:¬(F.1=2/\F.2.1=2):=λ h=>by have:=beq_eq_false_iff_ne.1 e3; omega
             rw [if_neg D,if_neg h5] at d;simp only [hg,e2,e3,W,w1,Z,zae,zaa,push_cast,↓reduceIte,reduceCtorEq,zB,zE,zA,zL,zD]
             repeat refine sO ?_
             exact ⟨⟨i+1,o,n,by omega,by omega,by omega,d,by simp [e],by simp [e,m9]⟩,by omega⟩
           | true=>
             have q3:F.2.1=2:=by have:=eq_of_beq e3; omega
             rw [if_pos ⟨q2,q3⟩] at d;have B:=ai2 F.2.2.2 (by omega);simp only [hg,e2,e3,ep,di,Z,zae,zaa,push_cast,↓reduceIte,zE,zL,zD]
             repeat refine sO ?_
             by_cases A:∃x4 y4 z4 l,u7 F.2.2.2=some [x4,y4,z4,l]
             ·obtain ⟨x4,y4,z4,l,A⟩:=A;have ea:=ay A x4 (by simp);have eb:=ay A l (by simp);have S:bi F.2.2.2=(⟨x4.2.2.1,iv (bh l.2.2.2),0,0,0,0⟩,dv (bh l.2.2.2)):=by unfold bi; rw [A]
              rw [S] at d;have I:=bf6 l.2.2.2 (by omega);have ed:=ani l.2.2.2;have gy:=anh l.2.2.2;have h8:=λ res ro=>bf8 (bh l.2.2.2) (by omega) gy (res:=res) (ro:=ro);have hj:bh l.2.2.2=((fo l.2.2.2).getD []).map λ n:Nat=>(n:Int):=rfl;rw [A] at B;refine a6 B rfl trivial ?_;simp only [iw,jy,j,gg,ez,ep,di,zad,push_cast,↓reduceIte,zE,zA,zS,zL,zD,zM]
              repeat refine sO ?_
              by_cases T:∃ns,fo l.2.2.2=some ns/\ns≠[]
              ·obtain ⟨ns,hh,hw⟩:=T;have E:bh l.2.2.2=ns.map λ n:Nat=>(n:Int):=by rw [hj,hh]; rfl
               rw [hh,(ag3 hw).1,(ag3 hw).2] at I;refine a6 I rfl trivial ?_;have gn:List.take ns.length (jf ns)=jf ns:=aiv ns;simp only [gn,push_cast,↓reduceIte,zE,zA,zS,zL,zD,zM];refine j9 ?_;refine b5 (as':=[.r (.sl 1 (o9 (bh l.2.2.2)))]) (by rw [E,<- asq]; rfl) ?_;cases C:dv (bh l.2.2.2) with
               | false=>
                 rw [C] at d;refine a6 (h8 _ _ (.inl ⟨C,rfl,rfl⟩)) rfl trivial ?_;simp only [j,d,uq,rdR,rdO,m9,push_cast,↓reduceIte,zE,zA,zL]
               | true=>
                 rw [C] at d;simp only [if_true] at d;refine a6 (h8 _ _ (.inr ⟨C,rfl,rfl⟩)) rfl trivial ?_;generalize iv (bh l.2.2.2)=R at *;have hn:List.take R.length (R.map ptR)=R.map ptR:=m5 R;simp only [j,W,w1,hg,hn,i7,pnt,zab,Z,zae,zaa,push_cast,↓reduceIte,reduceCtorEq,zB,zE,zA,zS,zL,zD,zM];exact ⟨by omega,by simp,(by first | omega | exact ⟨by omega,by omega⟩),by omega,⟨i+1,o++[⟨x4.2.2.1,R,0,0,0,0⟩],n,by omega,by simp; omega,by omega,d,by simp [e],by simp [e,Fea.rv,m9]⟩,by omega⟩
              have E:bh l.2.2.2=[]:=by
               rw [hj];cases hvl:fo l.2.2.2 with
               | none=>rfl
               | some ns=>
                 have:ns=[]:=Classical.byContradiction λ h=>T ⟨ns,hvl,h⟩;rw [this]; rfl
              have C:dv (bh l.2.2.2)=false:=by rw [E]; rfl
              have N:=h8 _ _ (.inl ⟨C,rfl,rfl⟩);rw [C] at d;rw [E] at N;cases hvl:fo l.2.2.2 with
              | none=>
                rw [hvl] at I;refine a6 I rfl trivial ?_;simp only [ag4,ag5,push_cast,↓reduceIte,zE,zA,zL];refine b5 (as':=[.r (.sl 1 (o9 []))]) rfl ?_;refine a6 N rfl trivial ?_;simp only [K,d,uq,rdR,rdO,m9,push_cast,↓reduceIte,reduceCtorEq,zE,zA,zL]
              | some ns=>
                obtain rfl:ns=[]:=Classical.byContradiction λ h=>T ⟨ns,hvl,h⟩;rw [hvl] at I;refine a6 I rfl trivial ?_;simp only [ag4,ag5,push_cast,↓reduceIte,zE,zA,zL];refine b5 (as':=[.r (.sl 1 (o9 []))]) rfl ?_;refine a6 N rfl trivial ?_;simp only [j,d,uq,rdR,rdO,m9,push_cast,↓reduceIte,zE,zA,zL]
             have S:=aly (b:=F.2.2.2) (λ m' h h4=>A (by
              rcases m' with _ | ⟨x,_ | ⟨y,_ | ⟨z,_ | ⟨u,_ | ⟨v,r⟩⟩⟩⟩⟩<;>simp at h4
              exact ⟨x,y,z,u,h⟩))
             rw [S] at d;simp only [Bool.false_eq_true,if_false] at d;cases hmF:u7 F.2.2.2 with
             | none=>
               rw [hmF] at B;refine a6 B rfl trivial ?_;simp only [iw,jy,K,d,uq,rdR,rdO,m9,push_cast,↓reduceIte,reduceCtorEq,zE,zA,zL]
             | some mF=>
               by_cases O:mF=[]
               ·subst O;rw [hmF] at B;refine a6 B rfl trivial ?_;simp only [iw,jy,j,ga,d,uq,rdR,rdO,m9,push_cast,↓reduceIte,zE,zA,zL]
               rw [hmF,(x6 O).1,(x6 O).2] at B
               have gu:((mF.length:Int) != 4)=true:=bne_iff_ne.2 (λ h=>A (by
                rcases mF with _ | ⟨x,_ | ⟨y,_ | ⟨z,_ | ⟨u,_ | ⟨v,r⟩⟩⟩⟩⟩<;>simp at h
                ·exact ⟨x,y,z,u,hmF⟩
                omega))
               refine a6 B rfl trivial ?_;simp only [j,gu,d,uq,rdR,rdO,m9,push_cast,↓reduceIte,zE,zA,zS,zL,zD,zM]
        have hd:=of_decide_eq_false hd;have g:i=fs.length:=by omega
        subst g;rw [zbx,bn] at d
        first
        | (have hE:uq b (some o)=none:=by rw [e]; exact if_neg (t:=some ([]:List Fea)) (λ h:([]:List Fea)≠[]/\s6 []=b=>h.1 rfl)
           have h6:((0:Int) == 0)=true:=rfl;rw [d,hE];simp only [h6,rdR,rdO,m9,push_cast,↓reduceIte,reduceCtorEq,zE,zA]
           done)
        | (
         have gv:=g6 o d;have n0:((o.length:Int) == 0)=false:=beq_eq_false_iff_ne.2 (λ h=>e (List.length_eq_zero_iff.1 (by omega)));have ht:=ax9 o (by omega) gv.1;rw [if_neg e] at ht
         have S:uq b (some o)=if s6 o=b then some o else none:=by
          show (if o≠[]/\s6 o=b then some o else none) = _;by_cases h:s6 o=b
          ·rw [if_pos ⟨e,h⟩,if_pos h]
          rw [if_neg (λ q=>h q.2),if_neg h]
         rw [d,S];generalize s6 o=LL at *;simp only [n0,push_cast,↓reduceIte,zE];refine jr ?_;refine b5 (as':=[o4 o]) rfl ?_;refine lq ht rfl trivial trivial (by simp) ?_;simp only [aol,push_cast,↓reduceIte,reduceCtorEq,zE];by_cases he:LL=b
         ·have h3:(LL == b)=true:=beq_iff_eq.2 he;rw [if_pos he,(ah8 e).1,(ah8 e).2];simp only [h3,m9,push_cast,↓reduceIte,zE,zA,zL,zD]
          rfl
         have h3:(LL == b)=false:=beq_eq_false_iff_ne.2 he;rw [if_neg he];simp only [h3,rdR,rdO,m9,push_cast,↓reduceIte,zE,zA]
         done))

theorem a3x:∀(f g:Nat) (l:List UInt8),l.length<=f->l.length<=g->ix f l=ix g l:=by
 intro f
 induction f with
 | zero=>
   intro g l a _;have:l=[]:=List.eq_nil_of_length_eq_zero (by omega);subst this;rw [ln,ln]
 | succ f ih=>
   intro g l a b
   match l with
   | []=>rw [ln,ln]
   | c::t=>
     match g with
     | 0=>simp at b
     | g+1=>
       rw [ix,ix];rcases h:y9 (c::t) with _ | ⟨x,k⟩
       ·rfl
       obtain ⟨i,d⟩:=ab0 h;have e:((c::t).drop k).length<=t.length-1:=by rw [List.length_drop,zai]; omega
       have j:0<t.length:=by rw [zai] at d; omega
       simp only;rw [zai] at a b;rw [ih g _ (by omega) (by omega)]
theorem a3d:∀(f g:Nat) (l:List UInt8),l.length<=f->l.length<=g->fw f l=fw g l:=by
 intro f
 induction f with
 | zero=>
   intro g l a _;have:l=[]:=List.eq_nil_of_length_eq_zero (by omega);subst this;rw [lj,lj]
 | succ f ih=>
   intro g l a b
   match l with
   | []=>rw [lj,lj]
   | c::t=>
     match g with
     | 0=>simp at b
     | g+1=>
       rw [fw,fw];split
       ·rfl
       rename_i h;rw [zai] at a b;have d:((c::t).drop (take (c::t)).2).length<=t.length:=by rw [List.length_drop,zai]; omega
       rw [ih g _ (by omega) (by omega)]
theorem a3w {x:Fld} {c a:List UInt8} (h:y9 (c++a)=some (x,c.length)):u7 (c++a)=(u7 a).map (x :: ·):=by
 obtain ⟨g,d⟩:=ab0 h;obtain ⟨f,b,e⟩:=vn (by rw [zbb] at d |-; omega) (zbt _) h;unfold u7;rw [e,List.drop_left,a3x f a.length a (by rw [zbb] at b; omega) (zbt _)]
theorem a3c (n:Nat) (a:List UInt8) (h:n<18446744073709551616):fo (n6 n++a)=(fo a).map (n :: ·):=by
 have b:=ak1 n;rw [a3a (by rw [zbb]; omega) (ak6 n a h) (by omega),List.drop_left];unfold fo;rw [a3d _ a.length a (by rw [zbb]; omega) (zbt _)]
theorem a3b (l:List Nat) (h:∀n∈l,n<18446744073709551616):fo (l.flatMap n6)=some l:=by
 induction l with
 | nil=>rfl
 | cons n l ih=>
   rw [List.flatMap_cons,a3c n _ (h n (by simp)),ih λ x hx=>h x (by simp [hx])]
   rfl
theorem abr (cs:List (List UInt8×Fld)) (h:∀c∈cs,∀a,y9 (c.1++a)=some (c.2,c.1.length)):u7 (cs.flatMap (·.1))=some (cs.map (·.2)):=by
 induction cs with
 | nil=>rfl
 | cons c cs ih=>
   rw [List.flatMap_cons,a3w (h c (by simp) _),ih λ x hx=>h x (by simp [hx])]
   rfl
theorem ayn (t:Nat) (a:List UInt8) (e:t<18446744073709551616) (i:1<=t/8) (g:t/8<=1000) (n j:Nat) (c:take a=(n,j)) :
 y9 (n6 t++a)=if j=0 then none else if t%8=0 then some ((t/8,0,n,[]),(n6 t).length+j)
  else if t%8=2/\n<=a.length-j then some ((t/8,2,0,(a.drop j).take n),(n6 t).length+j+n) else none:=by
 have h:=ak1 t;have b:(n6 t++a).drop (n6 t).length=a:=by simp
 unfold y9;rw [ak6 t a e];simp only [b,c];rw [if_neg (by omega)];split
 ·rfl
 split
 ·rfl
 have f:(n6 t++a).length-(n6 t).length-j=a.length-j:=by simp
 have d:(n6 t++a).drop ((n6 t).length+j)=a.drop j:=by rw [<- List.drop_drop,b]
 rw [f,d]
theorem afd (f:Nat) (n:Int) (a:List UInt8) (c:1<=f/\f<=1000) (h:0<=n) (g:n<18446744073709551616):y9 (q9 (f:Int) n++a)=some ((f,0,n.toNat,[]),(q9 (f:Int) n).length):=by
 have b:okB (f:Int)=true:=by simp [okB]; omega
 have d:=ak1 n.toNat;have e:((f:Int)*8).toNat=8*f:=by omega
 unfold q9;rw [if_pos b,e,zat,ayn (8*f) _ (by omega) (by omega) (by omega) n.toNat (n6 n.toNat).length (ak6 _ a (by omega)),if_neg (by omega),if_pos (by omega),zbb];rw [show 8*f/8=f by omega]
theorem pg (f:Nat) (x a:List UInt8) (c:1<=f/\f<=1000) (hx:x.length<18446744073709551616):y9 (l8 (f:Int) x++a)=some ((f,2,0,x),(l8 (f:Int) x).length):=by
 have b:okB (f:Int)=true:=by simp [okB]; omega
 have d:=ak1 x.length;have e:((f:Int)*8+2).toNat=8*f+2:=by omega
 unfold l8;rw [if_pos b,e,zat,zat,ayn (8*f+2) _ (by omega) (by omega) (by omega) x.length (n6 x.length).length (ak6 _ _ hx),if_neg (by omega),if_neg (by omega),if_pos ⟨by omega,by simp⟩];rw [List.drop_left,List.take_left,show (8*f+2)/8=f by omega];simp;omega
theorem a35 (l:List Int) (h:af8 l):bh (l.flatMap λ n=>n6 n.toNat)=l:=by
 have e:(l.flatMap λ n=>n6 n.toNat)=(l.map Int.toNat).flatMap n6:=by rw [List.flatMap_map]
 unfold bh
 rw [e,a3b _ (λ n a=>by
  obtain ⟨k,b,rfl⟩:=zaw.1 a;have:=h k b
  omega)]
 simp only [Option.getD_some,zbk]
 conv=>rhs; rw [<- List.map_id l]
 apply zcw;intro n a;have:=h n a;simp only [Function.comp,id];omega
def zf (f:Fea):Fea:=⟨f.w,f.ring,0,0,0,0⟩
theorem a0r {f:Fea} (l:f.ok) (n:Int) (m:c7 n):bi (ek f.w n f.ring)=(if 3<=f.ring.length then zf f else ⟨f.w,[],0,0,0,0⟩,decide (3<=f.ring.length)):=by
 obtain ⟨g,h,hi,_⟩:=l;have i:=aog f.ring h hi;have j:-9223372036854775808<=n/\n<=9223372036854775807:=m;have p:=aqm (k:=max n 0) (by omega);have s:=an0 (io (max n 0));have t:=an0 (o5 f.ring);have r:=ajf f.ring;have q:(io (max n 0)).length=8:=rfl
 have o:u7 (ek f.w n f.ring)=some [(1,0,f.w.toNat,[]),(2,2,0,(io (max n 0)).flatMap λ n=>n6 n.toNat),(3,0,3,[]),(4,2,0,(o5 f.ring).flatMap λ n=>n6 n.toNat)]:=by
  have e:ek f.w n f.ring=[(q9 ((1:Nat):Int) f.w,((1,0,f.w.toNat,[]):Fld)),(l8 ((2:Nat):Int) ((io (max n 0)).flatMap λ n=>n6 n.toNat),(2,2,0,(io (max n 0)).flatMap λ n=>n6 n.toNat)),(q9 ((3:Nat):Int) 3,(3,0,3,[])),(l8 ((4:Nat):Int) ((o5 f.ring).flatMap λ n=>n6 n.toNat),(4,2,0,(o5 f.ring).flatMap λ n=>n6 n.toNat))].flatMap (·.1):=by
   simp [ek,oe]
  rw [e,abr]
  ·rfl
  intro c hc a;simp only [zas,List.not_mem_nil,or_false] at hc;rcases hc with rfl | rfl | rfl | rfl
  ·exact afd 1 f.w a (by omega) g.1 g.2
  ·exact pg 2 _ a (by omega) (by omega)
  ·exact afd 3 3 a (by omega) (by omega) (by omega)
  exact pg 4 _ a (by omega) (by omega)
 unfold bi;rw [o];simp only;rw [a35 _ i];have d:((f.w.toNat:Nat):Int)=f.w:=by omega
 rw [d];by_cases b:3<=f.ring.length
 ·rw [if_pos b,atp b,a3u b hi,decide_eq_true b]
  rfl
 rw [if_neg b,aj0 (by omega),decide_eq_false b]
 rfl
theorem a6y {z:Int} (h:0<=z/\z<18446744073709551616):u7 (q9 6 z)=some [(6,0,z.toNat,[])]:=by
 have e:q9 6 z=[(q9 ((6:Nat):Int) z,((6,0,z.toNat,[]):Fld))].flatMap (·.1):=by simp
 rw [e,abr]
 ·rfl
 intro c hc a;rw [zaz.1 hc];exact afd 6 z a (by omega) h.1 h.2
theorem axm {n:Int} (h:c7 n):um (q9 6 (zig n))=n/\aac (q9 6 (zig n))=some (zig n).toNat:=by
 have a:=ae6 n h;unfold um aac;rw [a6y a];simp only;have:(((zig n).toNat:Nat):Int)=zig n:=by omega
 exact ⟨by rw [this,ahu],rfl⟩

def ftc (l:List Fea) (j:Nat):List UInt8×Fld:=(fx l j,(2,2,0,ek (l.getD j default).w (4*(j:Int)) (l.getD j default).ring))
def kyc (j:Nat):List UInt8×Fld:=(l8 3 (ir j),(3,2,0,ir j))
def oi (l:List Fea) (m:Nat):Int:=(l.getD (m/4) default).nums.getD (m%4) 0
def vlc (l:List Fea) (m:Nat):List UInt8×Fld:=(l8 4 (q9 6 (zig (oi l m))),(4,2,0,q9 6 (zig (oi l m))))
def hdc:List (List UInt8×Fld):=[(q9 15 2,(15,0,2,[])),(l8 1 [99,101,108,108,115],(1,2,0,[99,101,108,108,115]))]
def tlc:List (List UInt8×Fld):=[(q9 5 4096,(5,0,4096,[]))]
def fts (l:List Fea):List (List UInt8×Fld):=(zaq l.length).map (ftc l)
def vls (l:List Fea) (n:Nat):List (List UInt8×Fld):=(zaq n).map (vlc l)
def chs (l:List Fea):List (List UInt8×Fld):=hdc++(fts l++((zaq 4).map kyc++(vls l (4*l.length)++tlc)))
theorem ava (l:List Fea):∀n,(vls l (4*n)).flatMap (·.1)=pt l n
 | 0=>rfl
 | n+1=>by
   have e:vls l (4*(n+1))=vls l (4*n)++[vlc l (4*n),vlc l (4*n+1),vlc l (4*n+2),vlc l (4*n+3)]:=by
    unfold vls;rw [show 4*(n+1)=4*n+1+1+1+1 by omega];simp only [List.range_succ,zbf,zba,zbn,zat,zam,zbe]
   have h:∀k,k<4->(vlc l (4*n+k)).1=vx (l.getD n default) k:=λ k f=>by
    unfold vlc oi vx;rw [show (4*n+k)/4=n by omega,show (4*n+k)%4=k by omega]
   rw [e,List.flatMap_append,ava l n,ag6];have a:=h 0 (by omega);have d:=h 1 (by omega);have b:=h 2 (by omega);have c:=h 3 (by omega);simp only [Nat.add_zero] at a;simp [rc,List.range_succ,a,d,b,c]
theorem awn (l:List Fea):(chs l).flatMap (·.1)=sf++jg l l.length++qe 4++pt l l.length++q9 5 4096:=by
 simp only [chs,List.flatMap_append,ava];have c:hdc.flatMap (·.1)=sf:=by simp [hdc,sf]
 have a:(fts l).flatMap (·.1)=jg l l.length:=by rw [fts,List.flatMap_map]; rfl
 have b:((zaq 4).map kyc).flatMap (·.1)=qe 4:=by rw [List.flatMap_map]; rfl
 have d:tlc.flatMap (·.1)=q9 5 4096:=by simp [tlc]
 rw [c,a,b,d];simp only [zat]
theorem apy {l:List Fea} (v:l.length<=100000) (h:∀f∈l,f.ok):u7 (s6 l)=some [(3,2,0,(chs l).flatMap (·.1))]/\u7 ((chs l).flatMap (·.1))=some ((chs l).map (·.2)):=by
 have g:=as5 h
 have x:∀m,c7 (oi l m):=λ m=>by
  unfold oi
  have n:(l.getD (m/4) default).ok:=by
   by_cases d:m/4<l.length
   ·exact acd h d
   rw [zar,zau (by omega)];exact ⟨by decide,by decide,λ p q=>by simp [show (default:Fea).ring=[] from rfl] at q,by decide,by decide,by decide,by decide⟩
  obtain ⟨_,_,_,k,o,r,i⟩:=n;rcases (show m%4=0\/m%4=1\/m%4=2\/m%4=3 by omega) with e | e | e | e<;>rw [e]
  ·exact k
  ·exact o
  ·exact r
  exact i
 constructor
 ·have e:s6 l=[(l8 ((3:Nat):Int) ((chs l).flatMap (·.1)),((3,2,0,(chs l).flatMap (·.1)):Fld))].flatMap (·.1):=by
   rw [awn];simp [s6]
  have s:((chs l).flatMap (·.1)).length<18446744073709551616:=by
   have u:=acf h l.length;have A:=aaq l l.length;have t:=aa6 4;have B:=afg;have y:=et 5 4096;rw [awn];simp only [zbb];omega
  rw [e,abr]
  ·rfl
  intro c hc a;rw [zaz.1 hc];exact pg 3 _ a (by omega) s
 refine abr _ λ c hc a=>?_;simp only [chs,zbg] at hc;rcases hc with hc | hc | hc | hc | hc
 ·simp only [hdc,zas,List.not_mem_nil,or_false] at hc;rcases hc with rfl | rfl
  ·exact afd 15 2 a (by omega) (by omega) (by omega)
  exact pg 1 _ a (by omega) (by decide)
 ·obtain ⟨j,b,rfl⟩:=zaw.1 hc;have b:=zbu.1 b;have z:=afi (l.getD j default).w (4*(j:Int)) (l.getD j default).ring;have:=(acd h b).2.1;exact pg 2 _ a (by omega) (by omega)
 ·obtain ⟨j,b,rfl⟩:=zaw.1 hc;have:=aq8 j;exact pg 3 _ a (by omega) (by omega)
 ·obtain ⟨m,d,rfl⟩:=zaw.1 hc;have:=et 6 (zig (oi l m));exact pg 4 _ a (by omega) (by omega)
 rw [zaz.1 (show c∈[_] from hc)];exact afd 5 4096 a (by omega) (by omega) (by omega)
theorem ar9:∀(X:List Fld) (R:List Fld) (o:List Fea) (v:List Int),(∀x∈X,x.1=2)->(db (X++R) o v=if (X.all λ x=>(bi x.2.2.2).2)=true then db R (o++X.map λ x=>(bi x.2.2.2).1) v else none)
 | [],R,o,v,_=>by simp
 | x::X,R,o,v,h=>by
   rw [zam,db,if_pos (h x (by simp)),List.all_cons];by_cases hx:(bi x.2.2.2).2=true
   ·rw [if_pos hx,ar9 X R _ v λ y hy=>h y (by simp [hy]),hx,Bool.true_and,zba,zat]
    rfl
   rw [if_neg hx];have:(bi x.2.2.2).2=false:=by simpa using hx
   rw [this]
   rfl
theorem apt:∀(X:List Fld) (R:List Fld) (o:List Fea) (n:Nat),(∀x∈X,x.1=2/\x.2.1=2)->(bn (X++R) o n=if (X.all λ x=>(bi x.2.2.2).2)=true then bn R (o++X.map λ x=>(bi x.2.2.2).1) n else none)
 | [],R,o,n,_=>by simp
 | x::X,R,o,n,h=>by
   rw [zam,bn,if_pos (h x (by simp)),List.all_cons];by_cases hx:(bi x.2.2.2).2=true
   ·rw [if_pos hx,apt X R _ n λ y hy=>h y (by simp [hy]),hx,Bool.true_and,zba,zat]
    rfl
   rw [if_neg hx];have:(bi x.2.2.2).2=false:=by simpa using hx
   rw [this]
   rfl
theorem ai0:∀(X R:List Fld) (o:List Fea) (v:List Int),(∀x∈X,x.1≠2/\x.1≠4)->db (X++R) o v=db R o v
 | [],R,o,v,_=>rfl
 | x::X,R,o,v,h=>by
   have:=h x (by simp);rw [zam,db,if_neg this.1,if_neg this.2];exact ai0 X R o v λ y hy=>h y (by simp [hy])
theorem ag7:∀(X R:List Fld) (o:List Fea) (n:Nat),(∀x∈X,x.1≠2/\x.1≠4)->bn (X++R) o n=bn R o n
 | [],R,o,n,_=>rfl
 | x::X,R,o,n,h=>by
   have:=h x (by simp);rw [zam,bn,if_neg (λ q=>this.1 q.1),if_neg this.2];exact ag7 X R o n λ y hy=>h y (by simp [hy])
theorem avo:∀(X R:List Fld) (o:List Fea) (v:List Int),(∀x∈X,x.1=4)->db (X++R) o v=db R o (v++X.map λ x=>um x.2.2.2)
 | [],R,o,v,_=>by simp
 | x::X,R,o,v,h=>by
   have a:=h x (by simp);rw [zam,db,if_neg (by omega),if_pos a,avo X R o _ λ y hy=>h y (by simp [hy]),zba,zat]
   rfl

theorem aq2 {l:List Fea} (h:∀f∈l,f.ok) {m:Nat} (g:m<4*l.length):c7 (oi l m):=by
 obtain ⟨_,_,_,d,c,b,a⟩:=acd h (show m/4<l.length by omega);unfold oi;rcases (show m%4=0\/m%4=1\/m%4=2\/m%4=3 by omega) with e | e | e | e<;>rw [e]
 ·exact d
 ·exact c
 ·exact b
 exact a
def pf (l:List Fea) (m i:Nat):Fea:=
 ⟨(l.getD i default).w,(l.getD i default).ring,if 4*i<m then (l.getD i default).c else 0,if 4*i+1<m then (l.getD i default).s else 0,if 4*i+2<m then (l.getD i default).lo else 0,if 4*i+3<m then (l.getD i default).hi else 0⟩
def pfs (l:List Fea) (m:Nat):List Fea:=(zaq l.length).map (pf l m)
theorem aeb (l:List Fea) (m:Nat):(pfs l m).length=l.length:=by simp [pfs]
theorem akg (l:List Fea) (m:Nat) (h:i<l.length):(pfs l m)[i]?=some (pf l m i):=by simp [pfs,h]
theorem bgm (l:List Fea):pfs l (4*l.length)=l:=by
 apply zbw;intro i;by_cases hi:i<l.length
 ·rw [akg l _ hi,zbc hi];unfold pf;rw [if_pos (by omega),if_pos (by omega),if_pos (by omega),if_pos (by omega)];have:l.getD i default=l[i]:=by rw [zar,zbc hi]; rfl
  rw [this]
 rw [zau (by rw [aeb]; omega),zau (by omega)]
theorem bmt (l:List Fea):pfs l 0=l.map zf:=by
 apply zbw;intro i;by_cases hi:i<l.length
 ·rw [akg l _ hi,zbl,zbc hi];have:l.getD i default=l[i]:=by rw [zar,zbc hi]; rfl
  show some (pf l 0 i)=some (zf l[i]);unfold pf zf;rw [this];simp
 rw [zau (by rw [aeb]; omega),zau (by simp; omega)]
theorem bbe (l:List Fea) {m:Nat} (f:m<4*l.length):(pfs l m).set (m/4) (aqr ((pfs l m).getD (m/4) default) (m%4) (oi l m))=pfs l (m+1):=by
 apply zbw;intro i;rw [List.getElem?_set];by_cases hi:i<l.length
 ·by_cases a:m/4=i
  ·rw [if_pos a,if_pos (by rw [aeb]; omega),akg l _ hi];have d:(pfs l m).getD (m/4) default=pf l m i:=by rw [zar,a,akg l m hi]; rfl
   rw [d];congr 1;rcases (show m%4=0\/m%4=1\/m%4=2\/m%4=3 by omega) with e | e | e | e
   all_goals
    unfold oi pf;rw [e,a];simp only [aqr,Fea.nums,zaj,zak];congr 1
    all_goals (split<;>first | rfl | (exfalso; omega) | (split<;>first | rfl | (exfalso; omega)))
  rw [if_neg a,akg l m hi,akg l (m+1) hi];unfold pf;congr 2
  all_goals (split<;>first | rfl | (exfalso; omega) | (split<;>first | rfl | (exfalso; omega)))
 have c:(pfs l m)[i]?=none:=zau (by rw [aeb]; omega);have b:(pfs l (m+1))[i]?=none:=zau (by rw [aeb]; omega);rw [b,c];split
 ·rw [if_neg (by rw [aeb]; omega)]
 rfl
theorem arz (l:List Fea) (h:∀f∈l,f.ok) (R:List Fld):∀(k m:Nat),k+m=4*l.length->bn (((zaq (4*l.length)).drop m).map (λ j=>(vlc l j).2)++R) (pfs l m) m=bn R l (4*l.length)
 | 0,m,e=>by
   have a:m=4*l.length:=by omega
   subst a;rw [List.drop_of_length_le (by simp),bgm]
   rfl
 | k+1,m,e=>by
   have a:m<4*l.length:=by omega
   have c:(zaq (4*l.length)).drop m=m::(zaq (4*l.length)).drop (m+1):=by
    rw [zbm (by simpa using a)];simp
   have hv:=axm (aq2 h a);have d:=ae6 _ (aq2 h a);rw [c,zba,zam,bn];rw [if_neg (show ¬((vlc l m).2.1=2/\(vlc l m).2.2.1=2) by simp [vlc]),if_pos (show (vlc l m).2.1=4 from rfl)];rw [show (vlc l m).2.2.2.2=q9 6 (zig (oi l m)) from rfl,hv.2];simp only;rw [if_pos (by rw [aeb]; omega)];have b:(((zig (oi l m)).toNat:Nat):Int)=zig (oi l m):=by omega
   rw [b,ahu,bbe l a];exact arz l h R k (m+1) (by omega)
def aet (l:List Fea):Bool:=l.all λ f=>decide (3<=f.ring.length)
theorem a8r {l:List Fea} (h:∀f∈l,f.ok) (m:l.length<=100000):((fts l).map (·.2)).all (λ x=>(bi x.2.2.2).2)=aet l/\(aet l=true->((fts l).map (·.2)).map (λ x=>(bi x.2.2.2).1)=l.map zf):=by
 have e:∀j,j<l.length->bi (ftc l j).2.2.2.2=(if 3<=(l.getD j default).ring.length then zf (l.getD j default) else ⟨(l.getD j default).w,[],0,0,0,0⟩,decide (3<=(l.getD j default).ring.length)):=λ j e=>a0r (acd h e) _ (by unfold c7; omega)
 have c:l=(zaq l.length).map λ j=>l.getD j default:=by
  apply zbw;intro i;by_cases hi:i<l.length
  ·simp [hi]
  rw [zau (by omega),zau (by simp; omega)]
 constructor
 ·unfold aet
  conv=>rhs; rw [c]
  unfold fts;rw [zbk,List.all_map,List.all_map,Bool.eq_iff_iff,List.all_eq_true,List.all_eq_true];refine forall_congr' λ j=>forall_congr' λ a=>?_;simp only [Function.comp];rw [e j (zbu.1 a)]
 intro k
 have g:∀j,j<l.length->3<=(l.getD j default).ring.length:=λ j d=>by
  have:=List.all_eq_true.1 k (l.getD j default) (by rw [zar,zbc d]; exact zca d);simpa using this
 conv=>rhs; rw [c]
 unfold fts;rw [zbk,zbk,zbk];apply zcw;intro j a;have b:=zbu.1 a;simp only [Function.comp];rw [e j b,if_pos (g j b)]
theorem a8w {l:List Fea}:ae0 (l.map zf) ((zaq (4*l.length)).map (oi l))=l:=by
 apply zbw;intro i;by_cases hi:i<l.length
 ·have g:l.getD i default=l[i]:=by rw [zar,zbc hi]; rfl
  have hv:∀k,k<4->((zaq (4*l.length)).map (oi l)).getD (4*i+k) 0=(l[i]).nums.getD k 0:=λ k h=>by
   have a:4*i+k<4*l.length:=by omega
   rw [zar,zbl,zcv a];simp only [Option.map_some,Option.getD_some,oi];rw [show (4*i+k)/4=i by omega,show (4*i+k)%4=k by omega,g]
  have b:=hv 0 (by omega);have f:=hv 1 (by omega);have c:=hv 2 (by omega);have d:=hv 3 (by omega);simp only [Nat.add_zero] at b;have e:(l.map zf).getD i default=zf l[i]:=by rw [zar,zbl,zbc hi]; rfl
  rw [ae0,zbl,zac,zcv hi,Option.map_some,e,zbc hi];unfold atg;rw [b,f,c,d]
  rfl
 rw [zau (by simp [ae0]; omega),zau (by omega)]
theorem ak4 {l:List Fea} (d:l.length<=100000) (h:∀f∈l,f.ok):cz (s6 l)=if aet l=true/\l≠[] then (l,true) else ([],false):=by
 obtain ⟨i,o⟩:=apy d h;obtain ⟨j,n⟩:=a8r h d
 have g:cz (s6 l)=aeo (db ((chs l).map (·.2)) [] []):=by
  unfold cz;rw [i];simp only;rw [o]
 rw [g];simp only [chs,zbf];rw [ai0 (hdc.map (·.2)) _ _ _ (by simp [hdc])];rw [ar9 _ _ _ _ (by simp [fts,ftc]),j];by_cases b:aet l=true
 ·rw [if_pos b,n b,zbe];rw [ai0 (((zaq 4).map kyc).map (·.2)) _ _ _ (by simp [kyc])];rw [avo _ _ _ _ (by simp [vls,vlc]),zbe];have e:=ai0 (tlc.map (·.2)) [] (l.map zf) (((vls l (4*l.length)).map (·.2)).map λ x=>um x.2.2.2) (by simp [tlc]);rw [zbr] at e;rw [e,db]
  have a:((vls l (4*l.length)).map (·.2)).map (λ x=>um x.2.2.2)=(zaq (4*l.length)).map (oi l):=by
   unfold vls;rw [zbk,zbk];apply zcw;intro m k;exact (axm (aq2 h (zbu.1 k))).1
  rw [a,aeo];by_cases c:l=[]
  ·subst c
   rfl
  rw [if_neg (by simp [c]),if_pos ⟨b,c⟩,a8w]
 rw [if_neg b,if_neg (λ q=>b q.1)]
 rfl
theorem avd {l:List Fea} (b:l.length<=100000) (h:∀f∈l,f.ok):zu (s6 l)=if aet l=true then some l else none:=by
 obtain ⟨g,m⟩:=apy b h;obtain ⟨i,k⟩:=a8r h b
 have d:zu (s6 l)=bn ((chs l).map (·.2)) [] 0:=by
  unfold zu;rw [g];simp only [if_true];rw [m]
 rw [d];simp only [chs,zbf];rw [ag7 (hdc.map (·.2)) _ _ _ (by simp [hdc])];rw [apt _ _ _ _ (by simp [fts,ftc]),i];by_cases a:aet l=true
 ·rw [if_pos a,if_pos a,k a,zbe];rw [ag7 (((zaq 4).map kyc).map (·.2)) _ _ _ (by simp [kyc])];have hv:=arz l h (tlc.map (·.2)) (4*l.length) 0 (by omega);rw [zbo,bmt] at hv;have e:(vls l (4*l.length)).map (·.2)=(zaq (4*l.length)).map λ j=>(vlc l j).2:=by unfold vls; rw [zbk]; rfl
  rw [e,hv];have c:=ag7 (tlc.map (·.2)) [] l (4*l.length) (by simp [tlc]);rw [zbr] at c;rw [c,bn]
 rw [if_neg a,if_neg a]
theorem bey {b:List UInt8} (j:b.length<=100000) {o:List Fea} (h:zu b=some o):(∀f∈o,f.ok)/\o.length<=100000:=by
 unfold zu at h;split at h
 ·rename_i x e;have hx:=ay e x (by simp);split at h
  ·split at h
   ·rename_i g d;have c:=ay d;have i:=ny d;obtain ⟨a,b⟩:=ah3 g [] 0 (λ y hy=>by have:=c y hy; omega) (by simp) o h;simp only [zao] at b;exact ⟨a,by omega⟩
   cases h
  cases h
 cases h
theorem a6x (b:List UInt8) (m:b.length<=100000):rdT b=alb b:=by
 by_cases h:b=[]
 ·rw [rdT,alb,if_pos h,if_pos h]
 obtain ⟨n,r,p⟩:=axp b m;rw [rdT,alb,if_neg h,if_neg h];by_cases g:(cz b).2=true/\s6 (cz b).1=b
 ·rw [if_pos g];obtain ⟨c,f⟩:=g;have i:=p c;have d:=ak4 (l:=(cz b).1) (by omega) n;have e:=avd (l:=(cz b).1) (by omega) n;rw [f] at d e
  have a:aet (cz b).1=true:=by
   by_cases a:aet (cz b).1=true
   ·exact a
   rw [if_neg (λ q=>a q.1)] at d;rw [d] at c;cases c
  rw [e,if_pos a];exact (if_pos ⟨i,f⟩).symm
 rw [if_neg g];cases hU:zu b with
 | none=>rfl
 | some o=>
   refine (if_neg λ q=>g ?_).symm;obtain ⟨k,j⟩:=bey m hU;have d:=ak4 j k;have e:=avd j k;rw [q.2] at d e;rw [hU] at e
   have a:aet o=true:=by
    by_cases a:aet o=true
    ·exact a
    rw [if_neg a] at e;cases e
   rw [if_pos ⟨a,q.1⟩] at d;rw [d];exact ⟨rfl,q.2⟩

def we:Mk P0 f24:={ x:=_ }
theorem nes (x:Int):(x != x)=false:=by simp
theorem bf3 (l:List Fea) (o:l.length<=100000) (h:∀f∈l,f.ok):a8 P0 24 [o4 l,o4 l] [] (bl true) []:=by
 refine we.t func24 ?_;have k:=g7;obtain ⟨N,hN,m⟩:∃N:Int,((l.length:Nat):Int)=N/\0<=N/\N<=100000:=⟨_,rfl,by omega,by omega⟩
 push_cast [we,o4,zac,hN,nes,zao]
 refine b9 [(5,false),(0,false),(1,false)] (λ vs pos b=>∃i:Nat,i<=l.length/\vs=[int .i64 i,o4 l,o4 l]/\pos=[]/\b=[])
  (λ vs _ _=>match vs with | .r (.v (.int _ a))::_=>(N-a).toNat | _=>0) rfl ?_ ?_
 ·push_cast [o4]
  exact ⟨0,by omega,rfl⟩
 rintro vs pos b ⟨i,hi,rfl,rfl,rfl⟩;have e:IntKind.i64.wrap ((i:Int)+1)=i+1:=a5 (by omega)
 push_cast [o4,e,zac,hN]
 refine b7 (λ d=>?_) (λ d=>?_)
 ·have d:=of_decide_eq_true d;have c:i<l.length:=by omega
  have n:=akn c;have g:=acd h c;generalize l.getD i default=f at *;have j:=be0 f.ring f.ring (by have:=g.2.1; omega) (by have:=g.2.1; omega);rw [decide_eq_true rfl] at j
  push_cast [o4,n,nes,e,zac,hN,zae,zaf,zaa]
  repeat refine And.intro (by first | omega | kernel_rfl) ?_
  refine b5 (as':=[a9 f.ring,a9 f.ring]) rfl ?_;refine a6 j rfl trivial ?_
  push_cast [e]
  exact ⟨⟨i+1,by omega,rfl⟩,by omega⟩
 push_cast

end
end Go.Ev

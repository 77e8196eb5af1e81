import Derived.Test.YtocfnfcflljooaaGreatM9
open Go.Proofs.Tryz renaming prog → P0
open Go.Proofs.Tryz
open Nat renaming zero_add → zaa, add_zero → zaj
open List renaming length_map → zab, length_nil → zae, getD_cons_zero → zaf, getD_cons_succ → zag, getElem?_eq_getElem → zak, take_add_one → zal, length_cons → zam, getElem_mem → zan, getElem?_map → zao, length_eq_zero_iff → zap, getD_eq_getElem?_getD → zaq
open Int renaming toNat_natCast → zac, toNat_natCast_add_one → zad, toNat_zero → zah, reduceToNat → zai
namespace Go.Ev
set_option maxHeartbeats 8000000
set_option maxRecDepth 100000
noncomputable section
open Go
set_option linter.unusedSectionVars false
set_option linter.unnecessarySimpa false
set_option linter.unusedSimpArgs false
set_option linter.unusedVariables false
def lm:Mk P0 f19:={ x:=_ }
theorem ph:pg 19 3 lm:=ft func19
section
variable {L:List Pt} {es:List MapEntry} {c:Nat} {ns:List (List Ky)} {ce:Nat->List MapEntry} {cc:Nat->Nat}
def ck (L:List Pt) (r:Nat):List Wt:=(o8 L r).map λ n=>(n,((cnt L r n.toNat:Nat):Int))
def cz (W:List Wt) (i:Nat):List Wt:=(W.take i).foldl puW []
theorem agq {W:List Wt} {i:Nat} {x:Wt} (h:W[i]?=some x):cz W (i+1)=puW (cz W i) x:=by
 unfold cz;rw [zal,h];simp
theorem a0e {W l:List Wt} {i:Nat} {x:Wt} (c:(W.map (·.1)).Nodup) (h:W[i]?=some x) (b:l.Perm (W.take i)):x.1∉l.map (·.1)/\(l++[x]).Perm (W.take (i+1)):=by
 have d:=(List.getElem?_eq_some_iff.1 h).1;have e:W.take (i+1)=W.take i++[x]:=by rw [zal,h]; rfl
 refine ⟨λ q=>?_,by rw [e]; exact b.append_right _⟩;have a:((W.take (i+1)).map (·.1)).Nodup:=c.sublist ((List.take_sublist _ _).map _);rw [e,List.map_append,List.nodup_append] at a;have:=a.2.2 x.1 ((b.map (·.1)).subset q) x.1 (by simp);exact this rfl
theorem ah2:∀(j:Nat) (l:List Wt),ec j l≠[]->v7 (j+1) l=v7 j l++[gW (ec j l) 0]/\ec (j+1) l=ig (ec j l)
 | 0,l,h=>by
   have d:l≠[]:=h;simp [v7,ec,d]
 | j+1,l,h=>by
   by_cases a:l=[]
   ·rw [a] at h;simp [ec] at h
   rw [ec,if_neg a] at h |-;obtain ⟨c,b⟩:=ah2 j (ig l) h;rw [v7,if_neg a,c,v7,if_neg a];refine ⟨rfl,?_⟩;rw [ec,if_neg a,b]
theorem ah3:∀(j:Nat) (l:List Wt),ec j l=[]->∀k,j<=k->v7 k l=v7 j l
 | 0,l,h,k,_=>by
   have b:l=[]:=h;cases k<;>simp [v7,b]
 | j+1,l,h,k,hk=>by
   obtain ⟨k,rfl⟩:∃m,k=m+1:=⟨k-1,by omega⟩
   by_cases a:l=[]
   ·simp [v7,a]
   rw [ec,if_neg a] at h;rw [v7,v7,if_neg a,if_neg a,ah3 j (ig l) h k (by omega)]
theorem auy (x:Wt):puW [] x=[x]/\puS [] [] 0 x=puE [] 0 x.1 0:=by
 constructor
 ·unfold puW;rw [upW,dif_pos (.inl rfl)]
  rfl
 unfold puS;rw [upE,dif_pos (.inl rfl)]
 rfl
def svS (ns:List (List Ky)) (w:Int):Sa:=if (ae4 ns w).n=0 then ⟨0,0,0,0,0⟩ else ae4 ns w
theorem asm (ns:List (List Ky)) (w:Int):∃b,ab5 (ae4 ns w)=.tup [.r (svS ns w).rv,bl b]:=by
 unfold ab5 svS;split<;>exact ⟨_,rfl⟩
def zS:RV:=Sa.rv ⟨0,0,0,0,0⟩
def abg (ns:List (List Ky)) (o:List Wt):Ob:=.row 5 zS true true (o.map λ x=>(svS ns x.1).rv)
theorem aoj (h:StL L es c ns ce cc) (hl:L.length<128) (r:Nat) (hr:r<13) (K:Int) {res:AV} {X:List Ob}
 (g:(v7 K.toNat (cz (ck L r) (o8 L r).length)=[]/\res=.nils 5 zS/\X=c8 es c ns ce cc)\/(v7 K.toNat (cz (ck L r) (o8 L r).length)≠[]/\res=.own 1000016 0 0 (v7 K.toNat (cz (ck L r) (o8 L r).length)).length/\X=c8 es c ns ce cc++[abg ns (v7 K.toNat (cz (ck L r) (o8 L r).length))])) :
 b5 P0 19 [.ptr 1000000 0 0,int .i64 r,int .i64 K] (c8 es c ns ce cc) res X:=by
 refine ph rfl (by simp [c8]) ?_;have h7:=akl h hl r hr;obtain ⟨C,F⟩:∃C,o8 L r=C:=⟨_,rfl⟩
 rw [F] at h7 g
 push_cast [lm,c8,zam,zae]
 refine a7 aph rfl trivial ?_
 push_cast [qN,zW]
 refine b9 (as':=[.ptr 1000000 0 0,int .i64 r]) rfl ?_;refine a7 h7 rfl (by simp [c8,d8]) ?_;have hn:=ab4 L r;rw [F] at hn;have I:=adq L r;rw [F] at I;obtain ⟨W,hW⟩:∃W,ck L r=W:=⟨_,rfl⟩
 rw [hW] at g;have ho:W.length=C.length:=by rw [<- hW,ck,zab,F]
 have Z:W.map (·.1)=C:=by rw [<- hW,ck,List.map_map,F]; simp [Function.comp_def]
 have hb:=h.cm r hr
 have h8:∀i,i<C.length->∃x:Wt,W[i]?=some x/\(lx C).getD i (.v (.int .u64 0))=.v (.int .u64 x.1)/\okK (ce r) (.int .u64 x.1)=true/\lkR (ce r) (.int .u64 x.1) (.v (.int .i64 0))=.v (.int .i64 x.2):=λ i hi=>by
  obtain ⟨w,hw⟩:∃w:Nat,C[i]=(w:Int):=by
   have hm:C[i]∈o8 L r:=by rw [F]; exact zan hi
   obtain ⟨p,_,e⟩:=ag2.1 hm;exact ⟨_,e.symm⟩
  obtain ⟨g1,g2⟩:=ag0 hb w;refine ⟨((w:Int),((cnt L r w:Nat):Int)),?_,?_,g1,g2⟩
  ·rw [<- hW,ck,zao,F,zak hi,hw];simp
  rw [zaq,lx,zao,zak hi,hw]
  rfl
 push_cast [c8,t5]
 obtain ⟨R,hR⟩:∃R:Int,(r:Int)=R:=⟨_,rfl⟩
 rcases (show r=0\/r=1\/r=2\/r=3\/r=4\/r=5\/r=6\/r=7\/r=8\/r=9\/r=10\/r=11\/r=12 by omega) with rfl | rfl | rfl | rfl | rfl | rfl | rfl | rfl | rfl | rfl | rfl | rfl | rfl<;>(
  refine c9 [(20,false),(19,false),(18,false),(7,false),(0,false),(1,false),(2,false)] (λ vs pos k=>∃(i:Nat) (l:List Wt) (t:List MapEntry) (o:Nat),i<=C.length/\QI l t o/\l=cz W i/\l.length=i/\l.Perm (W.take i)/\pos=c8 es c ns ce cc /\
   vs=[int .i64 i,int .i64 C.length,.own 2000000 0 0 C.length,.ptr 2000001 0 0,.ptr 1000000 0 0,int .i64 R,int .i64 K] /\
   (i=0/\t=[]/\o=0/\k=[t5 C,.box [.ptr 2000002 0 0],.box [.nils 2 zW,.mp 2000003 0],.map [] 0]\/i≠0/\k=[t5 C,.box [.ptr 2000002 0 0],.box [.own 2000003 0 0 i,.mp 2000004 0],g8 l,.map t o]))
   (λ vs _ _=>match vs with | .r (.v (.int _ a))::_=>(C.length-a).toNat | _=>0) rfl ?_ ?_
  ·push_cast [c8,t5,zW,<- hR]
   exact ⟨0,[],[],0,by omega,QI.nil,rfl,rfl,by simp,by simp⟩
  rintro vs pos k ⟨i,l,t,o,hi,U,z,s,Y,rfl,rfl,b⟩;by_cases h9:i<C.length
  ·have E:decide ((i:Int)<C.length)=true:=decide_eq_true (by omega);obtain ⟨x,hx,x1,x2,x3⟩:=h8 i h9;have wi:IntKind.i64.wrap ((i:Int)+1)=i+1:=a6 (by omega);obtain ⟨f1,f2⟩:=a0e (by rw [Z]; exact I) hx Y;obtain ⟨q1,q2,q3,q4⟩:=U.put f1;have O:=agq hx;rcases b with ⟨P,rfl,rfl,rfl⟩ | ⟨P,rfl⟩
   ·subst P;obtain rfl:l=[]:=zap.1 s;obtain ⟨n1,n2⟩:=auy x;rw [n1,n2] at q1;rw [n1] at q2;rw [<- z,n1] at O;have f:decide ((0:Int)<C.length)=true:=decide_eq_true (by omega)
    push_cast [c8,t5,zW,E,f,<- hR,x1,x2,x3,zac,zad,zaa]
    refine And.intro (by first | omega | exact ⟨by omega,by omega⟩) ?_;refine b9 (as':=[.ptr 1000000 0 0,.r (wR x)]) rfl ?_;refine a7 (ark [] 0 x U.nm.1 q4) rfl (by simp [qN,d8]) ?_;have w1:IntKind.i64.wrap 1=1:=rfl
    push_cast [g8,zW,wi,w1,<- hR]
    exact ⟨⟨1,[x],puE [] 0 x.1 0,1,by omega,q1,O.symm,rfl,q2.symm.trans f2,rfl,.inr ⟨by omega,rfl⟩⟩,by have:=h9; simp; omega⟩
   push_cast [c8,t5,g8,zW,E,<- hR,x1,x2,x3,zac,zad,zaa]
   refine And.intro (by first | omega | exact ⟨by omega,by omega⟩) ?_;have ha:l≠[]:=λ q=>P (by rw [<- s,q]; rfl);have h5:=auw l (by omega) ha t o x U.nm q4;rw [s] at h5;refine b9 (as':=[.ptr 1000000 0 0,.r (wR x)]) rfl ?_;refine a7 h5 rfl (by simp [qS,g8,d8]) ?_
   push_cast [qS,g8,zW,wi,<- hR]
   exact ⟨⟨i+1,puW l x,puS l t o x,o+1,by omega,q1,by rw [O,z],by omega,q2.trans f2,by simp,.inr ⟨by omega,by simp [puW,puS,s]⟩⟩,by omega⟩
  have hg:i=C.length:=by omega
  subst hg;have E:decide ((C.length:Int)<C.length)=false:=decide_eq_false (by omega);obtain ⟨H,hH⟩:∃H,cz W C.length=H:=⟨_,rfl⟩
  rw [hH] at z g;subst z;obtain ⟨T,hT⟩:∃T,v7 K.toNat l=T:=⟨_,rfl⟩
  rw [hT] at g;rcases b with ⟨P,rfl,rfl,rfl⟩ | ⟨P,rfl⟩
  ·obtain rfl:l=[]:=zap.1 (by omega);obtain rfl:T=[]:=by rw [<- hT]; cases K.toNat<;>simp [v7]
   obtain ⟨rfl,rfl⟩:res=.nils 5 zS/\X=c8 es c ns ce cc:=by
    rcases g with ⟨_,S,Q⟩ | ⟨q,_⟩
    ·exact ⟨S,Q⟩
    exact absurd rfl q
   push_cast [c8,t5,zW,E,zS,Sa.rv]
   refine c9 [(10,false),(2,false),(7,false),(0,false)] (λ vs pos k=>vs=[.nils 5 zS,int .i64 K,.ptr 2000000 0 0,.ptr 1000000 0 0]/\pos=c8 es c ns ce cc/\k=[.box [.ptr 2000001 0 0],.box [.nils 2 zW,.mp 2000002 0],.map [] 0])
    (λ _ _ _=>0) rfl ?_ ?_
   ·push_cast [c8,zW,zS,Sa.rv]
   rintro vs pos k ⟨rfl,rfl,rfl⟩
   push_cast [c8,zW,zS,Sa.rv]
   refine c7 (λ E=>?_) (λ E=>?_)
   ·push_cast [c8,zW,zS,Sa.rv]
    refine a7 (alp [] 0) rfl (by simp [qN,d8]) ?_
    push_cast [qN,zW,zS,Sa.rv]
   push_cast [c8,zW,zS,Sa.rv]
  have ha:l≠[]:=λ q=>P (by rw [<- s,q]; rfl);have he:(l.map (·.1)).Nodup:=(Y.map (·.1)).nodup_iff.2 (((by rw [Z]; exact I:(W.map (·.1)).Nodup)).sublist ((List.take_sublist _ _).map _));have hf:QP l C.length t o:=⟨by rw [<- s]; exact U.hp,by rw [<- s]; exact U.nm,by rw [<- s,List.take_length]; exact he⟩
  push_cast [c8,t5,g8,zW,E]
  refine c9 [(10,false),(2,false),(7,false),(0,false)] (λ vs pos k=>∃(j n:Nat) (xs:List Wt) (t:List MapEntry) (o:Nat),QP xs n t o/\xs.length=l.length/\xs.take n=ec j l/\((j:Int)<=K\/j=0)/\(v7 j l).length=j/\pos=c8 es c ns ce cc /\
   (j=0/\vs=[.nils 5 zS,int .i64 K,.ptr 2000000 0 0,.ptr 1000000 0 0]/\k=[.box [.ptr 2000001 0 0],.box [.own 2000002 0 0 n,.mp 2000003 0],g8 xs,.map t o] \/
    j≠0/\vs=[.own 2000000 0 0 j,int .i64 K,.ptr 2000001 0 0,.ptr 1000000 0 0]/\k=[abg ns (v7 j l),.box [.ptr 2000002 0 0],.box [.own 2000003 0 0 n,.mp 2000004 0],g8 xs,.map t o]))
   (λ vs _ _=>match vs with | .own _ _ _ m::_=>(K-m).toNat | _=>K.toNat) rfl ?_ ?_
  ·push_cast [c8,g8,zW,zS,Sa.rv]
   exact ⟨0,C.length,l,t,o,hf,rfl,by rw [<- s,List.take_length]; rfl,by omega,rfl,by simp⟩
  rintro vs pos k ⟨j,n,xs,t,o,hP,h6,y,hq,G,rfl,b⟩;have ht:=hP.nm.2.1;have hs:j<=C.length:=by have:=(ahd j l U.hp).1; omega
  have B:T=v7 j l->j=0->res=.nils 5 zS/\X=c8 es c ns ce cc:=λ q q0=>by
   have hj:T=[]:=zap.1 (by rw [q,G,q0]);rcases g with ⟨_,S,Q⟩ | ⟨q',_⟩
   ·exact ⟨S,Q⟩
   exact absurd hj q'
  have D:T=v7 j l->j≠0->res=.own 1000016 0 0 j/\X=c8 es c ns ce cc++[abg ns (v7 j l)]:=λ q q0=>by
   have J:T.length=j:=by rw [q,G]
   rcases g with ⟨q',_⟩ | ⟨_,S,Q⟩
   ·rw [q'] at J; exact absurd J.symm q0
   rw [J] at S;rw [q] at Q;exact ⟨S,Q⟩
  by_cases h3:(j:Int)<K
  ·have A:decide ((j:Int)<K)=true:=decide_eq_true h3;have f:j=0->decide (0<K)=true:=λ q=>decide_eq_true (by omega);by_cases hh:n=0
   ·subst hh;have M:=ah3 j l (by rw [<- y]; rfl) K.toNat (by omega);rw [hT] at M;rcases b with ⟨d,rfl,rfl⟩ | ⟨d,rfl,rfl⟩
    ·have f:=f d
     push_cast [c8,g8,zW,zS,Sa.rv,f]
     refine a7 (alo xs t o) rfl (by simp [qS,g8,d8]) ?_;obtain ⟨rfl,rfl⟩:=B M d
     push_cast [qS,g8,zW,zS,Sa.rv,c8]
    push_cast [c8,g8,abg,zW,zS,Sa.rv,A]
    refine a7 (alo xs t o) rfl (by simp [qS,g8,d8]) ?_;obtain ⟨rfl,rfl⟩:=D M d
    push_cast [qS,g8,abg,zW,zS,Sa.rv,c8,List.cons_append,List.nil_append]
   obtain ⟨m,rfl⟩:∃m,n=m+1:=⟨n-1,by omega⟩
   obtain ⟨p1,p2,p3,p4⟩:=hP.pop;obtain ⟨V,s2⟩:=ah2 j l (by rw [<- y]; exact λ q=>by have:=congrArg List.length q; rw [List.length_take,zae] at this; omega);rw [<- y,<- p3] at V;have N:=axc xs m (by omega) t o hP.nm;obtain ⟨x,hx⟩:∃x,gW xs 0=x:=⟨_,rfl⟩
   rw [hx] at V N;obtain ⟨bb,hk⟩:=asm ns x.1;have u:=amo h x.1;rw [hk] at u;rcases b with ⟨d,rfl,rfl⟩ | ⟨d,rfl,rfl⟩
   ·have f:=f d
    push_cast [c8,g8,zW,zS,Sa.rv,f]
    refine a7 N rfl (by simp [qS,g8,d8]) ?_
    push_cast [qS,g8,zW,wR]
    refine b9 (as':=[.ptr 1000000 0 0,int .u64 x.1]) rfl ?_;refine a7 u rfl (by simp [c8,d8]) ?_
    push_cast [c8,qS,g8,zW,wR,Sa.rv]
    repeat refine And.intro (by first | (simp; done) | omega | (have:=v6; omega) | exact ⟨by omega,by have:=v6; omega⟩) ?_
    subst d;exact ⟨⟨1,m,poL xs m,poE xs t o m,o,p1,by rw [p4]; exact h6,by rw [p2,y]; exact s2.symm,by omega,by rw [V]; rfl,.inr ⟨by omega,rfl,by rw [V]; rfl⟩⟩,by omega⟩
   push_cast [c8,g8,abg,zW,zS,Sa.rv,A]
   refine a7 N rfl (by simp [qS,g8,d8]) ?_
   push_cast [qS,g8,zW,wR]
   refine b9 (as':=[.ptr 1000000 0 0,int .u64 x.1]) rfl ?_;refine a7 u rfl (by simp [c8,d8]) ?_;have tk:=List.take_of_length_le (l:=(v7 j l).map λ x=>(svS ns x.1).rv) (i:=j) (by rw [zab]; omega);simp only [Sa.rv] at tk
   push_cast [c8,qS,g8,zW,wR,Sa.rv,tk]
   repeat refine And.intro (by first | (simp; done) | omega | (have:=v6; omega) | exact ⟨by omega,by have:=v6; omega⟩) ?_
   exact ⟨⟨j+1,m,poL xs m,poE xs t o m,o,p1,by rw [p4]; exact h6,by rw [p2,y]; exact s2.symm,by omega,by rw [V]; simp [G],.inr ⟨by omega,rfl,by rw [V]; simp⟩⟩,by omega⟩
  have A:decide ((j:Int)<K)=false:=decide_eq_false h3;have f:j=0->decide (0<K)=false:=λ q=>decide_eq_false (by omega);have h4:T=v7 j l:=by rw [<- hT,show K.toNat=j by omega]
  rcases b with ⟨d,rfl,rfl⟩ | ⟨d,rfl,rfl⟩
  ·have f:=f d;obtain ⟨rfl,rfl⟩:=B h4 d
   push_cast [c8,g8,zW,zS,Sa.rv,f]
  obtain ⟨rfl,rfl⟩:=D h4 d
  push_cast [c8,g8,abg,zW,zS,Sa.rv,A,List.cons_append,List.nil_append])
end

variable {r w:Nat}
theorem axx {L:List Pt} (b:r<13) (h:∃p∈L,p.w r=w):mem L w≠[]:=λ e=>by
 obtain ⟨p,c,a⟩:=h;have:p∈mem L w:=List.mem_filter.2 ⟨c,ya.2 ⟨r,b,a⟩⟩;rw [e] at this;simp at this
theorem avx {L:List Pt} (a:∀p∈L,p.ok) (c:r<13) (b:∃p∈L,p.w r=w):cnt L r w=(mem L w).length:=by
 rw [avb a c b,cnt,List.countP_eq_length_filter];congr 1;apply List.filter_congr;intro p _;rw [Bool.eq_iff_iff];simp;omega
theorem aj7 (W:List Wt):∀i,i<=W.length->Hp (cz W i) (cz W i).length/\(cz W i).Perm (W.take i)
 | 0,_=>⟨λ j f a=>by simp [cz] at a,by simp [cz]⟩
 | i+1,h=>by
   obtain ⟨c,d⟩:=aj7 W i (by omega);have hx:W[i]?=some W[i]:=zak (by omega);obtain ⟨e,p2⟩:=ajg c W[i];rw [agq hx];have b:(puW (cz W i) W[i]).length=(cz W i).length+1:=by unfold puW; rw [ald]; simp
   refine ⟨by rw [b]; exact e,p2.trans ?_⟩;rw [zal,hx];exact d.append_right _
def km (L:List Pt) (r k:Nat):List Wt:=v7 k (cz (ck L r) (o8 L r).length)
def as9 (L:List Pt) (r k:Nat):List Wt:=ec k (cz (ck L r) (o8 L r).length)
theorem aex (L:List Pt) (r:Nat):(ck L r).length=(o8 L r).length:=by simp [ck]
theorem ale (L:List Pt) (r k:Nat):(km L r k).length=min k (o8 L r).length/\(ck L r).Perm (km L r k++as9 L r k)/\(km L r k).Pairwise (λ x y=>lsW y x=false)/\∀x∈km L r k,∀y∈as9 L r k,lsW y x=false:=by
 obtain ⟨e,a⟩:=aj7 (ck L r) (o8 L r).length (by rw [aex]; omega);obtain ⟨b,f,d,g⟩:=ahd k _ e
 have c:(cz (ck L r) (o8 L r).length).length=(o8 L r).length:=by
  rw [a.length_eq,List.length_take,aex]; omega
 rw [c] at b;refine ⟨b,?_,d,g⟩;have:(ck L r).take (o8 L r).length=ck L r:=List.take_of_length_le (by rw [aex]; omega);rw [this] at a;exact a.symm.trans f
variable {x:Wt}
theorem aoa {L:List Pt} (h:x∈ck L r):∃w:Nat,x=((w:Int),((cnt L r w:Nat):Int))/\∃p∈L,p.w r=w:=by
 obtain ⟨n,a,rfl⟩:=List.mem_map.1 h;obtain ⟨p,b,rfl⟩:=ag2.1 a;exact ⟨p.w r,by simp,p,b,rfl⟩
theorem atu {L:List Pt} {k:Nat} (h:x∈km L r k):x∈ck L r:=(ale L r k).2.1.symm.subset (List.mem_append_left _ h)
def ag (L:List Pt) (o:List Wt):Ob:=.row 5 zS true true (o.map λ x=>(sp L x.1.toNat).rv)
theorem aw9 {L:List Pt} {es:List MapEntry} {c:Nat} {ns:List (List Ky)} {ce:Nat->List MapEntry} {cc:Nat->Nat} (h:StL L es c ns ce cc) (b:r<13) (k:Nat):abg ns (km L r k)=ag L (km L r k):=by
 unfold abg ag;congr 1;apply List.map_congr_left;intro x hx;obtain ⟨w,rfl,d⟩:=aoa (atu hx);have a:=axx b d;unfold svS;rw [alj h w,zac,if_neg];unfold sp;rw [if_neg a];have:(mem L w).length≠0:=λ e=>a (zap.1 e);simp only;omega
theorem as7 (L:List Pt) (g:L.length<128) (r:Nat) (b:r<13) (K:Int) {res:AV} {e:List Ob}
 (a:(km L r K.toNat=[]/\res=.nils 5 zS/\e=[.abs (sT L)])\/(km L r K.toNat≠[]/\res=.own 1000001 0 0 (km L r K.toNat).length/\e=[.abs (sT L),ag L (km L r K.toNat)])) :
 b5 P0 19 [.ptr 1000000 0 0,int .i64 r,int .i64 K] [.abs (sT L)] res e:=by
 rcases a with ⟨d,rfl,rfl⟩ | ⟨d,rfl,rfl⟩
 ·have:=ac3 (P:=P0) (f:=19) (F:=SF L) (F':=SF L) rfl («as»:=[int .i64 r,int .i64 K]) (res:=.nils 5 zS) (ex:=[]) (λ os h=>by
   obtain ⟨es,c,ns,ce,cc,h,rfl⟩:=h;refine ⟨_,⟨_,_,_,_,_,h,rfl⟩,?_⟩;rw [List.append_nil]
   exact aoj h g r b K (.inl ⟨d,rfl,rfl⟩)) rfl (by simp) (by simp [y7,bz,gm,zS,Sa.rv])
  exact this
 exact ac3 (F:=SF L) (F':=SF L) rfl (ex:=[ag L (km L r K.toNat)]) (λ os h=>by
  obtain ⟨es,c,ns,ce,cc,h,rfl⟩:=h;refine ⟨_,⟨_,_,_,_,_,h,rfl⟩,?_⟩;rw [<- aw9 h b];exact aoj h g r b K (.inr ⟨d,rfl,rfl⟩)) rfl (by
  intro o i;simp at i;subst i;intro x hx;obtain ⟨n,_,rfl⟩:=List.mem_map.1 hx
  simp [bz,gm,Sa.rv]) (by simp [y7])

def ek:Mk P0 f5:={ x:=_ }
section
variable {L:List Pt} {es:List MapEntry} {c:Nat} {ns:List (List Ky)} {ce:Nat->List MapEntry} {cc:Nat->Nat}
theorem aqo (r:Int) (a:r<0\/13<=r):b5 P0 13 [.ptr 1000000 0 0,int .i64 r] (c8 es c ns ce cc) (.nils 1 (.v (.int .u64 0))) (c8 es c ns ce cc):=by
 refine lq rfl (by simp [c8]) ?_;rcases a with a | a
 ·have b:decide (r<0)=true:=decide_eq_true a
  push_cast [t6,c8,b,zam,zae]
 have b:decide (r<0)=false:=decide_eq_false (by omega);have d:decide (r>=13)=true:=decide_eq_true a
 push_cast [t6,c8,b,d,zam,zae]
theorem att (r:Int) (d:r<0\/13<=r) (K:Int):b5 P0 19 [.ptr 1000000 0 0,int .i64 r,int .i64 K] (c8 es c ns ce cc) (.nils 5 zS) (c8 es c ns ce cc):=by
 refine ph rfl (by simp [c8]) ?_;have b:=aqo r d (es:=es) (c:=c) (ns:=ns) (ce:=ce) (cc:=cc)
 push_cast [lm,c8,zam,zae]
 refine a7 aph rfl trivial ?_
 push_cast [qN,zW]
 refine b9 (as':=[.ptr 1000000 0 0,int .i64 r]) rfl ?_;refine a7 b rfl (by simp [c8,d8]) ?_
 push_cast [c8,zW]
 refine c9 [(20,false),(19,false),(7,false),(0,false),(2,false)] (λ vs pos a=>vs=[int .i64 0,int .i64 0,.ptr 2000000 0 0,.ptr 1000000 0 0,int .i64 K]/\pos=c8 es c ns ce cc/\a=[.box [.ptr 2000001 0 0],.box [.nils 2 zW,.mp 2000002 0],.map [] 0])
  (λ _ _ _=>0) rfl ?_ ?_
 ·push_cast [c8,zW]
 rintro vs pos a ⟨rfl,rfl,rfl⟩
 push_cast [c8,zW]
 refine c9 [(10,false),(2,false),(7,false),(0,false)] (λ vs pos a=>vs=[.nils 5 zS,int .i64 K,.ptr 2000000 0 0,.ptr 1000000 0 0]/\pos=c8 es c ns ce cc/\a=[.box [.ptr 2000001 0 0],.box [.nils 2 zW,.mp 2000002 0],.map [] 0])
  (λ _ _ _=>0) rfl ?_ ?_
 ·push_cast [c8,zW,zS,Sa.rv]
 rintro vs pos a ⟨rfl,rfl,rfl⟩
 push_cast [c8,zW,zS,Sa.rv]
 refine c7 (λ e=>?_) (λ e=>?_)
 ·push_cast [c8,zW,zS,Sa.rv]
  refine a7 (alp [] 0) rfl (by simp [qN,d8]) ?_
  push_cast [qN,zW,zS,Sa.rv]
 push_cast [c8,zW,zS,Sa.rv]
end
theorem awu (L:List Pt) (r:Int) (a:r<0\/13<=r) (K:Int):b5 P0 19 [.ptr 1000000 0 0,int .i64 r,int .i64 K] [.abs (sT L)] (.nils 5 zS) [.abs (sT L)]:=by
 have:=ac3 (P:=P0) (f:=19) (F:=SF L) (F':=SF L) rfl («as»:=[int .i64 r,int .i64 K]) (res:=.nils 5 zS) (ex:=[]) (λ os h=>by
  obtain ⟨es,c,ns,ce,cc,h,rfl⟩:=h;refine ⟨_,⟨_,_,_,_,_,h,rfl⟩,?_⟩;rw [List.append_nil]
  exact att r a K) rfl (by simp) (by simp [y7,bz,gm,zS,Sa.rv])
 exact this
theorem aol (L:List Pt) (b:L.length<128) (r:Nat) (c:r<13) (K:Int) :
 b5 P0 19 [.ptr 1000000 0 0,int .i64 r,int .i64 K] [.abs (sT L)] (.own 1000001 0 0 (km L r K.toNat).length) [.abs (sT L),ag L (km L r K.toNat)]:=by
 by_cases a:km L r K.toNat=[]
 ·rw [a];exact alz (os:=[.abs (sT L)]) (by simp) (by simp [imO]) (as7 L b r c K (.inl ⟨a,rfl,rfl⟩))
 exact as7 L b r c K (.inr ⟨a,rfl,rfl⟩)
def saT (L:List Pt) (o:List Wt) (i:Nat):Sa:=sp L (gW o i).1.toNat
theorem ahi {L:List Pt} {o:List Wt} {i:Nat} (h:i<o.length) (z:RV):(o.map λ x=>(sp L x.1.toNat).rv).getD i z=.agg [.v (.int .u64 (saT L o i).w),.v (.int .i64 (saT L o i).n),.v (.int .i64 (saT L o i).s),.v (.int .i64 (saT L o i).lo),.v (.int .i64 (saT L o i).hi)]:=by
 rw [zaq,zao,zak h,saT,gz h]
 rfl
theorem aok {L:List Pt} (r:∀p∈L,p.ok) {R:Nat} (u:R<13) (k:Nat) {O:List Wt} (F:km L R k=O) {C:List Int} (s:o8 L R=C) :
 O.length=min k C.length/\(∀i:Nat,i<O.length->∃w:Nat,gW O i=((w:Int),((mem L w).length:Int))/\mem L w≠[]/\saT L O i=⟨w,(mem L w).length,acv (mem L w),loV (mem L w),hiV (mem L w)⟩) /\
  (∀i:Nat,i+1<O.length->(gW O (i+1)).2<(gW O i).2\/((gW O (i+1)).2=(gW O i).2/\(gW O i).1<(gW O (i+1)).1)) /\
  (∀(i:Nat) (n:Int),C[i]?=some n->∃w:Nat,n=(w:Int)/\mem L w≠[]/\((∃j,j<O.length/\(gW O j).1=n)\/∀j,j<O.length->((mem L w).length:Int)<=(gW O j).2)):=by
 obtain ⟨o,h,v,y⟩:=ale L R k
 have g:∀x∈ck L R,∃w:Nat,x=((w:Int),((mem L w).length:Int))/\mem L w≠[]:=λ x hx=>by
  obtain ⟨w,rfl,b⟩:=aoa hx;exact ⟨w,by rw [avx r u b],axx u b⟩
 have m:((ck L R).map (·.1)).Nodup:=by
  have:(ck L R).map (·.1)=o8 L R:=by rw [ck,List.map_map]; simp [Function.comp_def]
  rw [this];exact adq L R
 have a:=(h.map (·.1)).nodup_iff.1 m;rw [F] at o h v y a;rw [s] at o;refine ⟨o,λ i c=>?_,λ i c=>?_,λ i n B=>?_⟩
 ·obtain ⟨w,e,f⟩:=g (gW O i) (h.symm.subset (List.mem_append_left _ (by rw [gz c]; exact zan c)));refine ⟨w,e,f,?_⟩;unfold saT sp;rw [e,zac,if_neg f]
 ·have b:=(List.pairwise_iff_getElem.1 v) i (i+1) (by omega) c (by omega);have t:=gz (l:=O) (i:=i) (by omega);have z:=gz (l:=O) (i:=i+1) c;rw [<- t,<- z,zl] at b;rcases b with b | ⟨e,b⟩
  ·exact .inl b
  refine .inr ⟨e,?_⟩;rw [List.map_append,List.nodup_append] at a;have E:=(List.pairwise_iff_getElem.1 a.1) i (i+1) (by simp; omega) (by simpa using c) (by omega);rw [List.getElem_map,List.getElem_map,<- t,<- z] at E;omega
 have f:(n,((cnt L R n.toNat:Nat):Int))∈ck L R:=List.mem_map.2 ⟨n,by rw [s]; exact List.mem_of_getElem? B,rfl⟩;obtain ⟨w,e,A⟩:=g _ f;rw [Prod.mk.injEq] at e;refine ⟨w,e.1,A,?_⟩;rcases List.mem_append.1 (h.subset f) with q | q
 ·obtain ⟨j,d,D⟩:=List.getElem_of_mem q;exact .inl ⟨j,d,by rw [gz d,D]⟩
 refine .inr λ j d=>?_;have:=y (gW O j) (by rw [gz d]; exact zan d) _ q;rw [zl] at this;simp only [e.2] at this;omega
def pd (O:List Wt) (i:Nat):Int:=if i=0 then 1099511627776 else (gW O (i-1)).2
theorem ltop_t (xs:List Int) (hx:∀x∈xs,-9223372036854775808<=x/\x<=9223372036854775807) (r k:Int) :
 b5 P0 5 [.r (wd xs),int .i64 r,int .i64 k] [] (bl true) []:=by
 refine ek.t func5 ?_;obtain ⟨R,hR,eR⟩:=r13 r;have hgp:GP (ej xs []):=ame xs [] (by simp [GP]);have hle:=amd xs [] (by decide);have hPt:=arr xs hx;by_cases h100:xs.length>100
 ·have e1:decide ((xs.length:Int)>100)=true:=by simp; omega
  push_cast [ek,wd,zab,e1,zae]
  refine a7 amp rfl trivial ?_
  push_cast
 have e1:decide ((xs.length:Int)>100)=false:=by simp; omega
 push_cast [ek,wd,zab,e1,zae]
 refine b9 (as':=[.r (wd xs)]) rfl ?_;refine a7 hPt rfl trivial ?_;generalize hG:ej xs []=l at *;have hlen0:l.length<=40:=hle
 have hok:∀p∈l,p.ok:=λ p hp=>by
  obtain ⟨j,hj⟩:=List.getElem?_of_mem hp;exact (hgp j p hj).2
 have wk:IntKind.i64.wrap ((BitVec.ofInt IntKind.i64.bits k &&& BitVec.ofInt IntKind.i64.bits 31).toNat)=k%32:=za k 31 5 (by decide) (by decide);obtain ⟨K,hK,hKb⟩:∃K,k%32=K/\0<=K/\K<=31:=⟨_,rfl,by omega,by omega⟩
 rw [hK] at wk
 push_cast [eR,wk]
 repeat refine sI ?_
 have hO:=azt l (by omega) hok (a0c hgp);refine an0 ?_
 push_cast
 refine aqp hO rfl trivial (by simp [y7]) (by simp [ll]) ?_
 push_cast [eR,wk]
 have hto:=aol l (by omega) R hR K;have hca:=av3 l (by omega) R hR;obtain ⟨O,hOe⟩:∃O,km l R K.toNat=O:=⟨_,rfl⟩
 obtain ⟨C,hCe⟩:∃C,o8 l R=C:=⟨_,rfl⟩
 obtain ⟨fl,fin,ford,fall⟩:=aok hok hR K.toNat hOe hCe;have hCl:C.length<=40:=by rw [<- hCe]; exact Nat.le_trans (ab4 l R) hle
 rw [hOe] at hto;rw [hCe] at hca;refine b9 (as':=[.ptr 1000000 0 0,int .i64 R,int .i64 K]) rfl ?_;refine a7 hto rfl ⟨rfl,trivial⟩ ?_
 push_cast [ag,eR,wk]
 refine b9 (as':=[.ptr 1000000 0 0,int .i64 R]) rfl ?_;refine a7 hca rfl ⟨rfl,trivial⟩ ?_;have e2:((O.length:Int) != min K C.length)=false:=by simp; omega
 push_cast [ag,t5,eR,wk,e2]
 have wkm:∀i:Nat,i<=40->IntKind.i64.wrap ((i:Int)+1)=i+1:=λ i hi=>a6 (by omega)
 refine c9 [(11,false),(8,false),(7,false),(10,false),(9,false),(1,false)] (λ vs pos los=>∃i:Nat,i<=O.length/\vs=[int .i64 i,.own 2000000 0 0 O.length,.ptr 2000001 0 0,int .i64 (pd O i),.own 2000002 0 0 C.length,int .i64 R]/\pos=[]/\los=[ag l O,.abs (sT l),t5 C])
  (λ vs _ _=>match vs with | .r (.v (.int _ i))::_=>(O.length-i).toNat | _=>0) rfl ?_ ?_
 ·push_cast [ag,t5]
  exact ⟨0,by omega,by simp [pd]⟩
 rintro vs pos los ⟨i,hi,rfl,rfl,rfl⟩
 push_cast [ag,t5,zab]
 refine c7 (λ h=>?_) (λ h=>?_)
 ·have hi':i<O.length:=by simpa using h
  obtain ⟨w,hw,hm,hsa⟩:=fin i hi';have hg:=λ z=>ahi (L:=l) hi' z;rw [hsa] at hg;have c1:=afl l w hm;have wi:=wkm i (by omega);generalize hC1:((mem l w).length:Int)=n1 at *;generalize acv (mem l w)=n2 at *;generalize loV (mem l w)=n3 at *;generalize hiV (mem l w)=n4 at *
  push_cast [ag,t5,hg,zab,zaf,zag,zah,zai,zaj,zaa,zac,zad,zaa]
  repeat refine sI ?_
  refine a7 c1 rfl ⟨rfl,trivial⟩ ?_;have hnx:pd O (i+1)=n1:=by rw [pd,if_neg (by omega),Nat.add_sub_cancel,hw]
  have hn1:n1<=40:=by
   rw [<- hC1];have:(mem l w).length<=l.length:=List.length_filter_le _ _;omega
  by_cases h0:i=0
  ·subst h0;have g1:decide (n1>pd O 0)=false:=decide_eq_false (by rw [show pd O 0=1099511627776 from rfl]; omega);have wm:IntKind.i64.wrap (0-1)=-1:=rfl;have wm':IntKind.i64.wrap (-1)=-1:=rfl;have w1:IntKind.i64.wrap 1=1:=rfl
   push_cast [ag,t5,hg,g1,wm,wm',w1,zab,zaf,zag,zah,zai,zaj,zaa,zac,zad,zaa]
   repeat refine sI ?_
   rw [zaa] at hnx;exact ⟨⟨1,by omega,by rw [hnx]; rfl⟩,by have:=hi'; simp; omega⟩
  obtain ⟨j,rfl⟩:∃j,i=j+1:=⟨i-1,by omega⟩
  obtain ⟨w',hw',hm',hsa'⟩:=fin j (by omega);have hg':=λ z=>ahi (L:=l) (show j<O.length by omega) z;rw [hsa'] at hg';have hls:pd O (j+1)=(mem l w').length:=by rw [pd,if_neg (by omega),Nat.add_sub_cancel,hw']
  have hor:=ford j hi';rw [hw,hw'] at hor;simp only at hor;generalize hC2:((mem l w').length:Int)=n5 at *;have g0:decide (((j+1:Nat):Int)>0)=true:=decide_eq_true (by omega);have g1:decide (n1>pd O (j+1))=false:=decide_eq_false (by omega);have wm:IntKind.i64.wrap (((j+1:Nat):Int)-1)=j:=by rw [a6 (by omega)]; omega
  have ge:(n1 == pd O (j+1))=false\/((n1 == pd O (j+1))=true/\decide ((w':Int)>=w)=false):=by
   rcases hor with q | ⟨q,q2⟩
   ·exact .inl (beq_eq_false_iff_ne.2 (by omega))
   exact .inr ⟨beq_iff_eq.2 (by omega),decide_eq_false (by omega)⟩
  obtain ⟨I,hI⟩:∃I:Int,((j+1:Nat):Int)=I:=⟨_,rfl⟩
  rw [hI] at g0 wm wi;have hIn:I.toNat=j+1:=by omega
  rcases ge with ge | ⟨ge,gw⟩
  ·push_cast [ag,t5,hg,hg',hI,hIn,g0,g1,ge,wm,wi,zab,zaf,zag,zah,zai,zaj,zaa,zac,zad,zaa]
   repeat refine sI ?_
   exact ⟨⟨j+1+1,by omega,by rw [hnx,<- hI]; rfl⟩,by omega⟩
  push_cast [ag,t5,hg,hg',hI,hIn,g0,g1,ge,gw,wm,wi,zab,zaf,zag,zah,zai,zaj,zaa,zac,zad,zaa]
  repeat refine sI ?_
  exact ⟨⟨j+1+1,by omega,by rw [hnx,<- hI]; rfl⟩,by omega⟩
 have hiE:i=O.length:=by
  have:¬i<O.length:=by simpa using h
  omega
 subst hiE
 push_cast [ag,t5]
 refine c9 [(14,false),(8,false),(7,false),(10,false),(9,false),(1,false)] (λ vs pos los=>∃i:Nat,i<=C.length/\vs=[int .i64 i,.own 2000000 0 0 O.length,.ptr 2000001 0 0,int .i64 (pd O O.length),.own 2000002 0 0 C.length,int .i64 R]/\pos=[]/\los=[ag l O,.abs (sT l),t5 C])
  (λ vs _ _=>match vs with | .r (.v (.int _ i))::_=>(C.length-i).toNat | _=>0) rfl ?_ ?_
 ·push_cast [ag,t5]
  exact ⟨0,by omega,by simp⟩
 rintro vs pos los ⟨i,hi,rfl,rfl,rfl⟩
 push_cast [ag,t5,ud,zab]
 refine c7 (λ h=>?_) (λ h=>?_)
 ·have hi':i<C.length:=by simpa using h
  obtain ⟨n,hn⟩:∃n,C[i]?=some n:=⟨C[i],by simp [hi']⟩
  obtain ⟨w,rfl,hm,hal⟩:=fall i n hn;have c1:=afl l w hm;have wi:=wkm i (by omega);have hgc:∀z,(lx C).getD i z=.v (.int .u64 w):=λ z=>by rw [zaq,lx,zao,hn]; rfl
  generalize hC1:((mem l w).length:Int)=n1 at *;generalize acv (mem l w)=n2 at *;generalize loV (mem l w)=n3 at *;generalize hiV (mem l w)=n4 at *
  push_cast [ag,t5,hgc,ud,zaa,zac,zad,zaa]
  repeat refine sI ?_
  refine a7 c1 rfl ⟨rfl,trivial⟩ ?_
  push_cast [ag,t5,hgc,ud,zaa,zac,zad,zaa]
  refine c9 [(18,false),(17,false),(15,false),(14,false),(8,false),(7,false),(10,false),(9,false),(1,false)] (λ vs pos los=>∃j:Nat,j<=O.length/\vs=[int .i64 j,bl ((O.take j).any λ x=>x.1 == (w:Int)),.ptr 2000000 0 0,int .i64 i,.own 2000001 0 0 O.length,.ptr 2000002 0 0,int .i64 (pd O O.length),.own 2000003 0 0 C.length,int .i64 R]/\pos=[]/\los=[.box [int .u64 w,int .i64 n1,int .i64 n2,int .i64 n3,int .i64 n4],ag l O,.abs (sT l),t5 C])
   (λ vs _ _=>match vs with | .r (.v (.int _ i))::_=>(O.length-i).toNat | _=>0) rfl ?_ ?_
  ·push_cast [ag,t5]
   exact ⟨0,by omega,by simp⟩
  rintro vs pos los ⟨j,hj,rfl,rfl,rfl⟩
  push_cast [ag,t5,ud,zab]
  refine c7 (λ h=>?_) (λ h=>?_)
  ·have hj':j<O.length:=by simpa using h
   obtain ⟨w',hw',hm',hsa'⟩:=fin j hj';have hg':=λ z=>ahi (L:=l) hj' z;rw [hsa'] at hg';have wj:=wkm j (by omega)
   have hany:(O.take (j+1)).any (λ x=>x.1 == (w:Int))=((O.take j).any (λ x=>x.1 == (w:Int))||((w':Int) == w)):=by
    rw [zal,zak hj',List.any_append,<- gz hj',hw'];simp
   obtain ⟨q,hq⟩:∃q,((w':Int) == w)=q:=⟨_,rfl⟩
   rw [hq] at hany;cases hB:(O.take j).any (λ x=>x.1 == (w:Int)) with
   | true=>
     rw [hB,Bool.true_or] at hany
     push_cast [ag,t5,hg',hgc,hq,wj,ud,zab,zaf,zag,zah,zai,zaj,zaa,zac,zad,zaa]
     repeat refine sI ?_
     exact ⟨⟨j+1,by omega,by rw [hany]; simp⟩,by omega⟩
   | false=>
     rw [hB,Bool.false_or] at hany
     push_cast [ag,t5,hg',hgc,hq,wj,ud,zab,zaf,zag,zah,zai,zaj,zaa,zac,zad,zaa]
     repeat refine sI ?_
     exact ⟨⟨j+1,by omega,by rw [hany]; simp⟩,by omega⟩
  have hjE:j=O.length:=by
   have:¬j<O.length:=by simpa using h
   omega
  subst hjE;rw [List.take_length];cases hB:O.any (λ x=>x.1 == (w:Int)) with
  | true=>
    push_cast [ag,t5,wi]
    exact ⟨⟨i+1,by omega,by simp⟩,by omega⟩
  | false=>
    by_cases hO0:O.length=0
    ·have g0:decide ((O.length:Int)>0)=false:=decide_eq_false (by omega)
     push_cast [ag,t5,wi,g0,zab]
     exact ⟨⟨i+1,by omega,by simp⟩,by omega⟩
    have g0:decide ((O.length:Int)>0)=true:=decide_eq_true (by omega)
    have hle2:n1<=pd O O.length:=by
     rw [pd,if_neg hO0];rcases hal with ⟨j,hj,e⟩ | hal
     ·exfalso;have:O.any (λ x=>x.1 == (w:Int))=true:=List.any_eq_true.2 ⟨gW O j,by rw [gz hj]; exact zan hj,by simp [e]⟩;rw [hB] at this;cases this
     exact hal _ (by omega)
    have g1:decide (n1>pd O O.length)=false:=decide_eq_false (by omega)
    push_cast [ag,t5,wi,g0,g1,zab]
    exact ⟨⟨i+1,by omega,by simp⟩,by omega⟩
 push_cast [ag,t5]
 have ht0:=aol l (by omega) R hR (-1);have e0:km l R ((-1:Int)).toNat=[]:=rfl;rw [e0] at ht0;refine b9 (as':=[.ptr 1000000 0 0,int .i64 R,int .i64 (-1)]) rfl ?_;refine a7 ht0 rfl ⟨rfl,trivial⟩ ?_
 push_cast [ag,t5,zae,List.map_nil]
 refine b9 (as':=[.ptr 1000000 0 0,int .i64 13,int .i64 5]) rfl ?_;refine a7 (awu l 13 (by omega) 5) rfl ⟨rfl,trivial⟩ ?_
 push_cast [ag,t5,zS,Sa.rv]
 refine a7 amp rfl trivial ?_
 push_cast

end
end Go.Ev

import Derived.Test.YtocfnfcflljooaaGreatM9
open Nat renaming reduceBEq → zB, reduceEqDiff → zE, reduceAdd → zA, reduceSub → zS, reduceLT → zL, reduceLeDiff → zD, reduceMul → zM
open Go.Proofs.Tryz renaming prog → P0
open Go.Proofs.Tryz
open List renaming length_map → zaa, length_nil → zab, length_cons → zad, getElem?_eq_some_iff → zag, take_of_length_le → zah, take → zai, length_take → zaj, mem_filter → zak, getElem?_map → zal, take_length → zam, getElem?_of_mem → zan, mem_of_getElem? → zao, take_add_one → zap, getD_eq_getElem?_getD → zaq, length_eq_zero_iff → zar, append_nil → zas, pairwise_iff_getElem → zat, length_append → zau, map_nil → zav, filter_cons → zax, nil_append → zay, filter_sublist → zaz, take_append_drop → zba, map → zbb, mem_map → zbc, getElem?_eq_getElem → zbe, cons_append → zbf, drop_eq_getElem_cons → zbg, getElem?_take → zbh, length_drop → zbi, getElem?_eq_none → zbj, drop → zbk, map_take → zbl, map_drop → zbm, getD_cons_zero → zbo, drop_eq_nil_of_le → zbq, mergeSort_perm → zbr, mem_cons → zbs, getElem_map → zbt, pairwise_mergeSort → zbu, getElem?_drop → zbv, take_sublist → zbw, filter_append → zby, filter_eq_nil_iff → zbz, pairwise_cons → zcb, mem_append → zcc, pairwise_append → zcd, getElem?_append_left → zce, pairwise_map → zcf, length_filter_le → zch, perm_ext_iff_of_nodup → zci, getElem?_append_right → zcj
open Int renaming toNat_natCast → zac, toNat_natCast_add_one → zaf, toNat → zbd, toNat_zero → zbn
open Nat renaming zero_add → zae
open BitVec renaming ofInt → zaw
open Bool renaming not_true → zbp, not_false → zbx, not_eq_true' → zca, false_eq_true → zcg
namespace Go.Ev
set_option maxHeartbeats 8000000
set_option maxRecDepth 100000
noncomputable section
open Go
set_option linter.unusedSectionVars false
set_option linter.unnecessarySimpa false
set_option linter.unusedSimpArgs false
set_option linter.unusedVariables false
def nw:Mk P0 f19:={ x:=_ }
theorem rl:ng 19 3 nw:=fg func19
section
variable {L:List Pt} {es:List MapEntry} {c:Nat} {ns:List (List Ky)} {ce:Nat->List MapEntry} {cc:Nat->Nat}
def au (L:List Pt) (r:Nat):List Wt:=(l6 L r).map λ n=>(n,((cnt L r n.toNat:Nat):Int))
def dr (W:List Wt) (i:Nat):List Wt:=(W.take i).foldl puW []
theorem ajp {W:List Wt} {i:Nat} {x:Wt} (h:W[i]?=some x):dr W (i+1)=puW (dr W i) x:=by
 unfold dr;rw [zap,h];simp
theorem a5l {W l:List Wt} {i:Nat} {x:Wt} (c:(W.map (·.1)).Nodup) (h:W[i]?=some x) (a:l.Perm (W.take i)):x.1∉l.map (·.1)/\(l++[x]).Perm (W.take (i+1)):=by
 have d:=(zag.1 h).1;have e:W.take (i+1)=W.take i++[x]:=by rw [zap,h]; rfl
 refine ⟨λ q=>?_,by rw [e]; exact a.append_right _⟩;have b:((W.take (i+1)).map (·.1)).Nodup:=c.sublist ((zbw _ _).map _);rw [e,List.map_append,List.nodup_append] at b;have:=b.2.2 x.1 ((a.map (·.1)).subset q) x.1 (by simp);exact this rfl
theorem ae4:∀(j:Nat) (l:List Wt),ek j l≠[]->z8 (j+1) l=z8 j l++[gW (ek j l) 0]/\ek (j+1) l=ki (ek j l)
 | 0,l,h=>by
   have d:l≠[]:=h;simp [z8,ek,d]
 | j+1,l,h=>by
   by_cases a:l=[]
   ·rw [a] at h;simp [ek] at h
   rw [ek,if_neg a] at h |-;obtain ⟨c,b⟩:=ae4 j (ki l) h;rw [z8,if_neg a,c,z8,if_neg a];refine ⟨rfl,?_⟩;rw [ek,if_neg a,b]
theorem ae5:∀(j:Nat) (l:List Wt),ek j l=[]->∀k,j<=k->z8 k l=z8 j l
 | 0,l,h,k,_=>by
   have b:l=[]:=h;cases k<;>simp [z8,b]
 | j+1,l,h,k,hk=>by
   obtain ⟨k,rfl⟩:∃m,k=m+1:=⟨k-1,by omega⟩
   by_cases a:l=[]
   ·simp [z8,a]
   rw [ek,if_neg a] at h;rw [z8,z8,if_neg a,if_neg a,ae5 j (ki l) h k (by omega)]
theorem azr (x:Wt):puW [] x=[x]/\puS [] [] 0 x=puE [] 0 x.1 0:=by
 constructor
 ·unfold puW;rw [upW,dif_pos (.inl rfl)]
  rfl
 unfold puS;rw [upE,dif_pos (.inl rfl)]
 rfl
def svS (ns:List (List Ky)) (w:Int):Sa:=if (ahz ns w).n=0 then ⟨0,0,0,0,0⟩ else ahz ns w
theorem aw6 (ns:List (List Ky)) (w:Int):∃b,aef (ahz ns w)=.tup [.r (svS ns w).rv,bl b]:=by
 unfold aef svS;split<;>exact ⟨_,rfl⟩
def zS:RV:=Sa.rv ⟨0,0,0,0,0⟩
def adp (ns:List (List Ky)) (o:List Wt):Ob:=.row 5 zS true true (o.map λ x=>(svS ns x.1).rv)
theorem ask (h:StL L es c ns ce cc) (hl:L.length<128) (r:Nat) (hr:r<13) (K:Int) {res:AV} {ro:List Ob}
 (g:(z8 K.toNat (dr (au L r) (l6 L r).length)=[]/\res=.nils 5 zS/\ro=d9 es c ns ce cc)\/(z8 K.toNat (dr (au L r) (l6 L r).length)≠[]/\res=.own 1000016 0 0 (z8 K.toNat (dr (au L r) (l6 L r).length)).length/\ro=d9 es c ns ce cc++[adp ns (z8 K.toNat (dr (au L r) (l6 L r).length))])) :
 a9 P0 19 [.ptr 1000000 0 0,int .i64 r,int .i64 K] (d9 es c ns ce cc) res ro:=by
 refine rl rfl (by simp [d9]) ?_;have h9:=an9 h hl r hr;obtain ⟨C,O⟩:∃C,l6 L r=C:=⟨_,rfl⟩
 rw [O] at h9 g
 push_cast [nw,d9,zad,zab]
 refine a7 atk rfl trivial ?_
 push_cast [qN,zW]
 refine b7 (as':=[.ptr 1000000 0 0,int .i64 r]) rfl ?_;refine a7 h9 rfl (by simp [d9,k7]) ?_;have hb:=vh L r;rw [O] at hb;have G:=af9 L r;rw [O] at G;obtain ⟨W,hW⟩:∃W,au L r=W:=⟨_,rfl⟩
 rw [hW] at g;have hs:W.length=C.length:=by rw [<- hW,au,zaa,O]
 have h7:W.map (·.1)=C:=by rw [<- hW,au,List.map_map,O]; simp [Function.comp_def]
 have he:=h.cm r hr
 have h5:∀i,i<C.length->∃x:Wt,W[i]?=some x/\(s7 C).getD i (.v (.int .u64 0))=.v (.int .u64 x.1)/\okK (ce r) (.int .u64 x.1)=true/\lkR (ce r) (.int .u64 x.1) (.v (.int .i64 0))=.v (.int .i64 x.2):=λ i hi=>by
  obtain ⟨w,hw⟩:∃w:Nat,C[i]=(w:Int):=by
   have hm:C[i]∈l6 L r:=by rw [O]; exact List.getElem_mem hi
   obtain ⟨p,_,e⟩:=aap.1 hm;exact ⟨_,e.symm⟩
  obtain ⟨g1,g2⟩:=ajy he w;refine ⟨((w:Int),((cnt L r w:Nat):Int)),?_,?_,g1,g2⟩
  ·rw [<- hW,au,zal,O,zbe hi,hw];simp
  rw [zaq,s7,zal,zbe hi,hw]
  rfl
 push_cast [d9,o5]
 obtain ⟨R,hR⟩:∃R:Int,(r:Int)=R:=⟨_,rfl⟩
 rcases (show r=0\/r=1\/r=2\/r=3\/r=4\/r=5\/r=6\/r=7\/r=8\/r=9\/r=10\/r=11\/r=12 by omega) with rfl | rfl | rfl | rfl | rfl | rfl | rfl | rfl | rfl | rfl | rfl | rfl | rfl<;>(
  refine c7 [(20,false),(19,false),(18,false),(7,false),(0,false),(1,false),(2,false)] (λ vs pos k=>∃(i:Nat) (l:List Wt) (t:List MapEntry) (o:Nat),i<=C.length/\QI l t o/\l=dr W i/\l.length=i/\l.Perm (W.take i)/\pos=d9 es c ns ce cc /\
   vs=[int .i64 i,int .i64 C.length,.own 2000000 0 0 C.length,.ptr 2000001 0 0,.ptr 1000000 0 0,int .i64 R,int .i64 K] /\
   (i=0/\t=[]/\o=0/\k=[o5 C,.box [.ptr 2000002 0 0],.box [.nils 2 zW,.mp 2000003 0],.map [] 0]\/i≠0/\k=[o5 C,.box [.ptr 2000002 0 0],.box [.own 2000003 0 0 i,.mp 2000004 0],g8 l,.map t o]))
   (λ vs _ _=>match vs with | .r (.v (.int _ a))::_=>(C.length-a).toNat | _=>0) rfl ?_ ?_
  ·push_cast [d9,o5,zW,<- hR]
   exact ⟨0,[],[],0,by omega,QI.nil,rfl,rfl,by simp,by simp⟩
  rintro vs pos k ⟨i,l,t,o,hi,P,z,s,h4,rfl,rfl,b⟩;by_cases h8:i<C.length
  ·have I:decide ((i:Int)<C.length)=true:=decide_eq_true (by omega);obtain ⟨x,hx,x1,x2,x3⟩:=h5 i h8;have wi:IntKind.i64.wrap ((i:Int)+1)=i+1:=a6 (by omega);obtain ⟨f1,f2⟩:=a5l (by rw [h7]; exact G) hx h4;obtain ⟨q1,q2,q3,q4⟩:=P.put f1;have E:=ajp hx;rcases b with ⟨Q,rfl,rfl,rfl⟩ | ⟨Q,rfl⟩
   ·subst Q;obtain rfl:l=[]:=zar.1 s;obtain ⟨n1,n2⟩:=azr x;rw [n1,n2] at q1;rw [n1] at q2;rw [<- z,n1] at E;have f:decide ((0:Int)<C.length)=true:=decide_eq_true (by omega)
    push_cast [d9,o5,zW,I,f,<- hR,x1,x2,x3,zac,zaf,zae]
    refine And.intro (by first | omega | exact ⟨by omega,by omega⟩) ?_;refine b7 (as':=[.ptr 1000000 0 0,.r (wR x)]) rfl ?_;refine a7 (avv [] 0 x P.nm.1 q4) rfl (by simp [qN,k7]) ?_;have w1:IntKind.i64.wrap 1=1:=rfl
    push_cast [g8,zW,wi,w1,<- hR]
    exact ⟨⟨1,[x],puE [] 0 x.1 0,1,by omega,q1,E.symm,rfl,q2.symm.trans f2,rfl,.inr ⟨by omega,rfl⟩⟩,by have:=h8; simp; omega⟩
   push_cast [d9,o5,g8,zW,I,<- hR,x1,x2,x3,zac,zaf,zae]
   refine And.intro (by first | omega | exact ⟨by omega,by omega⟩) ?_;have Z:l≠[]:=λ q=>Q (by rw [<- s,q]; rfl);have X:=azp l (by omega) Z t o x P.nm q4;rw [s] at X;refine b7 (as':=[.ptr 1000000 0 0,.r (wR x)]) rfl ?_;refine a7 X rfl (by simp [qS,g8,k7]) ?_
   push_cast [qS,g8,zW,wi,<- hR]
   exact ⟨⟨i+1,puW l x,puS l t o x,o+1,by omega,q1,by rw [E,z],by omega,q2.trans f2,by simp,.inr ⟨by omega,by simp [puW,puS,s]⟩⟩,by omega⟩
  have ha:i=C.length:=by omega
  subst ha;have I:decide ((C.length:Int)<C.length)=false:=decide_eq_false (by omega);obtain ⟨H,hH⟩:∃H,dr W C.length=H:=⟨_,rfl⟩
  rw [hH] at z g;subst z;obtain ⟨T,hT⟩:∃T,z8 K.toNat l=T:=⟨_,rfl⟩
  rw [hT] at g;rcases b with ⟨Q,rfl,rfl,rfl⟩ | ⟨Q,rfl⟩
  ·obtain rfl:l=[]:=zar.1 (by omega);obtain rfl:T=[]:=by rw [<- hT]; cases K.toNat<;>simp [z8]
   obtain ⟨rfl,rfl⟩:res=.nils 5 zS/\ro=d9 es c ns ce cc:=by
    rcases g with ⟨_,V,S⟩ | ⟨q,_⟩
    ·exact ⟨V,S⟩
    exact absurd rfl q
   push_cast [d9,o5,zW,I,zS,Sa.rv]
   refine c7 [(10,false),(2,false),(7,false),(0,false)] (λ vs pos k=>vs=[.nils 5 zS,int .i64 K,.ptr 2000000 0 0,.ptr 1000000 0 0]/\pos=d9 es c ns ce cc/\k=[.box [.ptr 2000001 0 0],.box [.nils 2 zW,.mp 2000002 0],.map [] 0])
    (λ _ _ _=>0) rfl ?_ ?_
   ·push_cast [d9,zW,zS,Sa.rv]
   rintro vs pos k ⟨rfl,rfl,rfl⟩
   push_cast [d9,zW,zS,Sa.rv]
   refine b9 (λ I=>?_) (λ I=>?_)
   ·push_cast [d9,zW,zS,Sa.rv]
    refine a7 (apg [] 0) rfl (by simp [qN,k7]) ?_
    push_cast [qN,zW,zS,Sa.rv]
   push_cast [d9,zW,zS,Sa.rv]
  have Z:l≠[]:=λ q=>Q (by rw [<- s,q]; rfl);have hk:(l.map (·.1)).Nodup:=(h4.map (·.1)).nodup_iff.2 (((by rw [h7]; exact G:(W.map (·.1)).Nodup)).sublist ((zbw _ _).map _));have hh:QP l C.length t o:=⟨by rw [<- s]; exact P.hp,by rw [<- s]; exact P.nm,by rw [<- s,zam]; exact hk⟩
  push_cast [d9,o5,g8,zW,I]
  refine c7 [(10,false),(2,false),(7,false),(0,false)] (λ vs pos k=>∃(j n:Nat) (xs:List Wt) (t:List MapEntry) (o:Nat),QP xs n t o/\xs.length=l.length/\xs.take n=ek j l/\((j:Int)<=K\/j=0)/\(z8 j l).length=j/\pos=d9 es c ns ce cc /\
   (j=0/\vs=[.nils 5 zS,int .i64 K,.ptr 2000000 0 0,.ptr 1000000 0 0]/\k=[.box [.ptr 2000001 0 0],.box [.own 2000002 0 0 n,.mp 2000003 0],g8 xs,.map t o] \/
    j≠0/\vs=[.own 2000000 0 0 j,int .i64 K,.ptr 2000001 0 0,.ptr 1000000 0 0]/\k=[adp ns (z8 j l),.box [.ptr 2000002 0 0],.box [.own 2000003 0 0 n,.mp 2000004 0],g8 xs,.map t o]))
   (λ vs _ _=>match vs with | .own _ _ _ m::_=>(K-m).toNat | _=>K.toNat) rfl ?_ ?_
  ·push_cast [d9,g8,zW,zS,Sa.rv]
   exact ⟨0,C.length,l,t,o,hh,rfl,by rw [<- s,zam]; rfl,by omega,rfl,by simp⟩
  rintro vs pos k ⟨j,n,xs,t,o,hP,h3,y,hq,J,rfl,b⟩;have hn:=hP.nm.2.1;have ho:j<=C.length:=by have:=(aka j l P.hp).1; omega
  have B:T=z8 j l->j=0->res=.nils 5 zS/\ro=d9 es c ns ce cc:=λ q q0=>by
   have hg:T=[]:=zar.1 (by rw [q,J,q0]);rcases g with ⟨_,V,S⟩ | ⟨q',_⟩
   ·exact ⟨V,S⟩
   exact absurd hg q'
  have D:T=z8 j l->j≠0->res=.own 1000016 0 0 j/\ro=d9 es c ns ce cc++[adp ns (z8 j l)]:=λ q q0=>by
   have N:T.length=j:=by rw [q,J]
   rcases g with ⟨q',_⟩ | ⟨_,V,S⟩
   ·rw [q'] at N; exact absurd N.symm q0
   rw [N] at V;rw [q] at S;exact ⟨V,S⟩
  by_cases Y:(j:Int)<K
  ·have A:decide ((j:Int)<K)=true:=decide_eq_true Y;have f:j=0->decide (0<K)=true:=λ q=>decide_eq_true (by omega);by_cases hf:n=0
   ·subst hf;have M:=ae5 j l (by rw [<- y]; rfl) K.toNat (by omega);rw [hT] at M;rcases b with ⟨d,rfl,rfl⟩ | ⟨d,rfl,rfl⟩
    ·have f:=f d
     push_cast [d9,g8,zW,zS,Sa.rv,f]
     refine a7 (apf xs t o) rfl (by simp [qS,g8,k7]) ?_;obtain ⟨rfl,rfl⟩:=B M d
     push_cast [qS,g8,zW,zS,Sa.rv,d9]
    push_cast [d9,g8,adp,zW,zS,Sa.rv,A]
    refine a7 (apf xs t o) rfl (by simp [qS,g8,k7]) ?_;obtain ⟨rfl,rfl⟩:=D M d
    push_cast [qS,g8,adp,zW,zS,Sa.rv,d9,zbf,zay]
   obtain ⟨m,rfl⟩:∃m,n=m+1:=⟨n-1,by omega⟩
   obtain ⟨p1,p2,p3,p4⟩:=hP.pop;obtain ⟨U,s2⟩:=ae4 j l (by rw [<- y]; exact λ q=>by have:=congrArg List.length q; rw [zaj,zab] at this; omega);rw [<- y,<- p3] at U;have F:=a2h xs m (by omega) t o hP.nm;obtain ⟨x,hx⟩:∃x,gW xs 0=x:=⟨_,rfl⟩
   rw [hx] at U F;obtain ⟨bb,hj⟩:=aw6 ns x.1;have u:=aql h x.1;rw [hj] at u;rcases b with ⟨d,rfl,rfl⟩ | ⟨d,rfl,rfl⟩
   ·have f:=f d
    push_cast [d9,g8,zW,zS,Sa.rv,f]
    refine a7 F rfl (by simp [qS,g8,k7]) ?_
    push_cast [qS,g8,zW,wR]
    refine b7 (as':=[.ptr 1000000 0 0,int .u64 x.1]) rfl ?_;refine a7 u rfl (by simp [d9,k7]) ?_
    push_cast [d9,qS,g8,zW,wR,Sa.rv]
    repeat refine And.intro (by first | (simp; done) | omega | (have:=o9; omega) | exact ⟨by omega,by have:=o9; omega⟩) ?_
    subst d;exact ⟨⟨1,m,poL xs m,poE xs t o m,o,p1,by rw [p4]; exact h3,by rw [p2,y]; exact s2.symm,by omega,by rw [U]; rfl,.inr ⟨by omega,rfl,by rw [U]; rfl⟩⟩,by omega⟩
   push_cast [d9,g8,adp,zW,zS,Sa.rv,A]
   refine a7 F rfl (by simp [qS,g8,k7]) ?_
   push_cast [qS,g8,zW,wR]
   refine b7 (as':=[.ptr 1000000 0 0,int .u64 x.1]) rfl ?_;refine a7 u rfl (by simp [d9,k7]) ?_;have tk:=zah (l:=(z8 j l).map λ x=>(svS ns x.1).rv) (i:=j) (by rw [zaa]; omega);simp only [Sa.rv] at tk
   push_cast [d9,qS,g8,zW,wR,Sa.rv,tk]
   repeat refine And.intro (by first | (simp; done) | omega | (have:=o9; omega) | exact ⟨by omega,by have:=o9; omega⟩) ?_
   exact ⟨⟨j+1,m,poL xs m,poE xs t o m,o,p1,by rw [p4]; exact h3,by rw [p2,y]; exact s2.symm,by omega,by rw [U]; simp [J],.inr ⟨by omega,rfl,by rw [U]; simp⟩⟩,by omega⟩
  have A:decide ((j:Int)<K)=false:=decide_eq_false Y;have f:j=0->decide (0<K)=false:=λ q=>decide_eq_false (by omega);have h6:T=z8 j l:=by rw [<- hT,show K.toNat=j by omega]
  rcases b with ⟨d,rfl,rfl⟩ | ⟨d,rfl,rfl⟩
  ·have f:=f d;obtain ⟨rfl,rfl⟩:=B h6 d
   push_cast [d9,g8,zW,zS,Sa.rv,f]
  obtain ⟨rfl,rfl⟩:=D h6 d
  push_cast [d9,g8,adp,zW,zS,Sa.rv,A,zbf,zay])
end

theorem ark {L:List Pt} {r w:Nat} (b:r<13) (h:∃p∈L,p.w r=w):mem L w≠[]:=λ e=>by
 obtain ⟨p,a,c⟩:=h;have:p∈mem L w:=zak.2 ⟨a,qi.2 ⟨r,b,c⟩⟩;rw [e] at this;simp at this
theorem aqi {L:List Pt} (a:∀p∈L,p.ok) {r:Nat} (b:r<13) {w:Nat} (c:∃p∈L,p.w r=w):cnt L r w=(mem L w).length:=by
 rw [az6 a b c,cnt,List.countP_eq_length_filter];congr 1;apply List.filter_congr;intro p _;rw [Bool.eq_iff_iff];simp;omega
theorem anr (W:List Wt):∀i,i<=W.length->Hp (dr W i) (dr W i).length/\(dr W i).Perm (W.take i)
 | 0,_=>⟨λ j f c=>by simp [dr] at c,by simp [dr]⟩
 | i+1,h=>by
   obtain ⟨b,e⟩:=anr W i (by omega);have hx:W[i]?=some W[i]:=zbe (by omega);obtain ⟨a,p2⟩:=amu b W[i];rw [ajp hx];have d:(puW (dr W i) W[i]).length=(dr W i).length+1:=by unfold puW; rw [ao1]; simp
   refine ⟨by rw [d]; exact a,p2.trans ?_⟩;rw [zap,hx];exact e.append_right _
def bq (L:List Pt) (r k:Nat):List Wt:=z8 k (dr (au L r) (l6 L r).length)
def aq1 (L:List Pt) (r k:Nat):List Wt:=ek k (dr (au L r) (l6 L r).length)
theorem aa0 (L:List Pt) (r:Nat):(au L r).length=(l6 L r).length:=by simp [au]
theorem acp (L:List Pt) (r k:Nat):(bq L r k).length=min k (l6 L r).length/\(au L r).Perm (bq L r k++aq1 L r k)/\(bq L r k).Pairwise (λ x y=>lsW y x=false)/\∀x∈bq L r k,∀y∈aq1 L r k,lsW y x=false:=by
 obtain ⟨d,a⟩:=anr (au L r) (l6 L r).length (by rw [aa0]; omega);obtain ⟨b,f,c,e⟩:=aka k _ d
 have g:(dr (au L r) (l6 L r).length).length=(l6 L r).length:=by
  rw [a.length_eq,zaj,aa0]; omega
 rw [g] at b;refine ⟨b,?_,c,e⟩;have:(au L r).take (l6 L r).length=au L r:=zah (by rw [aa0]; omega);rw [this] at a;exact a.symm.trans f
theorem asb {L:List Pt} {r:Nat} {x:Wt} (h:x∈au L r):∃w:Nat,x=((w:Int),((cnt L r w:Nat):Int))/\∃p∈L,p.w r=w:=by
 obtain ⟨n,a,rfl⟩:=zbc.1 h;obtain ⟨p,b,rfl⟩:=aap.1 a;exact ⟨p.w r,by simp,p,b,rfl⟩
theorem ayj {L:List Pt} {r k:Nat} {x:Wt} (h:x∈bq L r k):x∈au L r:=(acp L r k).2.1.symm.subset (List.mem_append_left _ h)
def bv (L:List Pt) (o:List Wt):Ob:=.row 5 zS true true (o.map λ x=>(fm L x.1.toNat).rv)
theorem a2e {L:List Pt} {es:List MapEntry} {c:Nat} {ns:List (List Ky)} {ce:Nat->List MapEntry} {cc:Nat->Nat} (h:StL L es c ns ce cc) {r:Nat} (d:r<13) (k:Nat):adp ns (bq L r k)=bv L (bq L r k):=by
 unfold adp bv;congr 1;apply List.map_congr_left;intro x hx;obtain ⟨w,rfl,b⟩:=asb (ayj hx);have a:=ark d b;unfold svS;rw [ao9 h w,zac,if_neg];unfold fm;rw [if_neg a];have:(mem L w).length≠0:=λ e=>a (zar.1 e);simp only;omega
variable {res:AV} {ro:List Ob}
theorem axr (L:List Pt) (g:L.length<128) (r:Nat) (b:r<13) (K:Int)
 (a:(bq L r K.toNat=[]/\res=.nils 5 zS/\ro=[.abs (sT L)])\/(bq L r K.toNat≠[]/\res=.own 1000001 0 0 (bq L r K.toNat).length/\ro=[.abs (sT L),bv L (bq L r K.toNat)])) :
 a9 P0 19 [.ptr 1000000 0 0,int .i64 r,int .i64 K] [.abs (sT L)] res ro:=by
 rcases a with ⟨d,rfl,rfl⟩ | ⟨d,rfl,rfl⟩
 ·have:=acb (P:=P0) (f:=19) (F:=SF L) (F':=SF L) rfl («as»:=[int .i64 r,int .i64 K]) (res:=.nils 5 zS) (ex:=[]) (λ os h=>by
   obtain ⟨es,c,ns,ce,cc,h,rfl⟩:=h;refine ⟨_,⟨_,_,_,_,_,h,rfl⟩,?_⟩;rw [zas]
   exact ask h g r b K (.inl ⟨d,rfl,rfl⟩)) rfl (by simp) (by simp [u7,y8,er,zS,Sa.rv])
  exact this
 exact acb (F:=SF L) (F':=SF L) rfl (ex:=[bv L (bq L r K.toNat)]) (λ os h=>by
  obtain ⟨es,c,ns,ce,cc,h,rfl⟩:=h;refine ⟨_,⟨_,_,_,_,_,h,rfl⟩,?_⟩;rw [<- a2e h b];exact ask h g r b K (.inr ⟨d,rfl,rfl⟩)) rfl (by
  intro o e;simp at e;subst e;intro x hx;obtain ⟨n,_,rfl⟩:=zbc.1 hx
  simp [y8,er,Sa.rv]) (by simp [u7])

section
variable {L:List Pt} {es:List MapEntry} {c:Nat} {ns:List (List Ky)} {ce:Nat->List MapEntry} {cc:Nat->Nat}
theorem alt (r:Int) (a:r<0\/13<=r):a9 P0 13 [.ptr 1000000 0 0,int .i64 r] (d9 es c ns ce cc) (.nils 1 (.v (.int .u64 0))) (d9 es c ns ce cc):=by
 refine nz rfl (by simp [d9]) ?_;rcases a with a | a
 ·have b:decide (r<0)=true:=decide_eq_true a
  push_cast [y9,d9,b,zad,zab]
 have b:decide (r<0)=false:=decide_eq_false (by omega);have d:decide (r>=13)=true:=decide_eq_true a
 push_cast [y9,d9,b,d,zad,zab]
theorem ayi (r:Int) (d:r<0\/13<=r) (K:Int):a9 P0 19 [.ptr 1000000 0 0,int .i64 r,int .i64 K] (d9 es c ns ce cc) (.nils 5 zS) (d9 es c ns ce cc):=by
 refine rl rfl (by simp [d9]) ?_;have b:=alt r d (es:=es) (c:=c) (ns:=ns) (ce:=ce) (cc:=cc)
 push_cast [nw,d9,zad,zab]
 refine a7 atk rfl trivial ?_
 push_cast [qN,zW]
 refine b7 (as':=[.ptr 1000000 0 0,int .i64 r]) rfl ?_;refine a7 b rfl (by simp [d9,k7]) ?_
 push_cast [d9,zW]
 refine c7 [(20,false),(19,false),(7,false),(0,false),(2,false)] (λ vs pos a=>vs=[int .i64 0,int .i64 0,.ptr 2000000 0 0,.ptr 1000000 0 0,int .i64 K]/\pos=d9 es c ns ce cc/\a=[.box [.ptr 2000001 0 0],.box [.nils 2 zW,.mp 2000002 0],.map [] 0])
  (λ _ _ _=>0) rfl ?_ ?_
 ·push_cast [d9,zW]
 rintro vs pos a ⟨rfl,rfl,rfl⟩
 push_cast [d9,zW]
 refine c7 [(10,false),(2,false),(7,false),(0,false)] (λ vs pos a=>vs=[.nils 5 zS,int .i64 K,.ptr 2000000 0 0,.ptr 1000000 0 0]/\pos=d9 es c ns ce cc/\a=[.box [.ptr 2000001 0 0],.box [.nils 2 zW,.mp 2000002 0],.map [] 0])
  (λ _ _ _=>0) rfl ?_ ?_
 ·push_cast [d9,zW,zS,Sa.rv]
 rintro vs pos a ⟨rfl,rfl,rfl⟩
 push_cast [d9,zW,zS,Sa.rv]
 refine b9 (λ e=>?_) (λ e=>?_)
 ·push_cast [d9,zW,zS,Sa.rv]
  refine a7 (apg [] 0) rfl (by simp [qN,k7]) ?_
  push_cast [qN,zW,zS,Sa.rv]
 push_cast [d9,zW,zS,Sa.rv]
end
theorem a1w (L:List Pt) (r:Int) (a:r<0\/13<=r) (K:Int):a9 P0 19 [.ptr 1000000 0 0,int .i64 r,int .i64 K] [.abs (sT L)] (.nils 5 zS) [.abs (sT L)]:=by
 have:=acb (P:=P0) (f:=19) (F:=SF L) (F':=SF L) rfl («as»:=[int .i64 r,int .i64 K]) (res:=.nils 5 zS) (ex:=[]) (λ os h=>by
  obtain ⟨es,c,ns,ce,cc,h,rfl⟩:=h;refine ⟨_,⟨_,_,_,_,_,h,rfl⟩,?_⟩;rw [zas]
  exact ayi r a K) rfl (by simp) (by simp [u7,y8,er,zS,Sa.rv])
 exact this
theorem aw4 (L:List Pt) (r:Int) (a:r<0\/13<=r):a9 P0 13 [.ptr 1000000 0 0,int .i64 r] [.abs (sT L)] (.nils 1 (.v (.int .u64 0))) [.abs (sT L)]:=by
 have:=acb (P:=P0) (f:=13) (F:=SF L) (F':=SF L) rfl («as»:=[int .i64 r]) (res:=.nils 1 (.v (.int .u64 0))) (ex:=[]) (λ os h=>by
  obtain ⟨es,c,ns,ce,cc,h,rfl⟩:=h;refine ⟨_,⟨_,_,_,_,_,h,rfl⟩,?_⟩;rw [zas]
  exact alt r a) rfl (by simp) (by simp [u7,y8])
 exact this
theorem a1x (L:List Pt) (c:L.length<128) (r:Nat) (b:r<13) (K:Int) :
 a9 P0 19 [.ptr 1000000 0 0,int .i64 r,int .i64 K] [.abs (sT L)] (.own 1000001 0 0 (bq L r K.toNat).length) [.abs (sT L),bv L (bq L r K.toNat)]:=by
 by_cases a:bq L r K.toNat=[]
 ·rw [a];exact agt (os:=[.abs (sT L)]) (by simp) (by simp [imO]) (axr L c r b K (.inl ⟨a,rfl,rfl⟩))
 exact axr L c r b K (.inr ⟨a,rfl,rfl⟩)
def saT (L:List Pt) (o:List Wt) (i:Nat):Sa:=fm L (gW o i).1.toNat
variable {i:Nat}
theorem azh {L:List Pt} {o:List Wt} (h:i<o.length) (z:RV):(o.map λ x=>(fm L x.1.toNat).rv).getD i z=.agg [.v (.int .u64 (saT L o i).w),.v (.int .i64 (saT L o i).n),.v (.int .i64 (saT L o i).s),.v (.int .i64 (saT L o i).lo),.v (.int .i64 (saT L o i).hi)]:=by
 rw [zaq,zal,zbe h,saT,nr h]
 rfl

def yz:Mk P0 f14:={ x:=_ }
variable {M N:List Pt}
theorem awm (h:M.Perm N):loV M=loV N:=by
 by_cases b:M=[]
 ·subst b;rw [List.nil_perm.1 h]
 have f:N≠[]:=λ e=>b (by rw [e] at h; exact List.perm_nil.1 h);obtain ⟨⟨q,i,e⟩,d⟩:=ajk b;obtain ⟨⟨g,a,e'⟩,c⟩:=ajk f;have:=d g (h.mem_iff.2 a);have:=c q (h.mem_iff.1 i);omega
theorem awr (h:M.Perm N):hiV M=hiV N:=by
 by_cases b:M=[]
 ·subst b;rw [List.nil_perm.1 h]
 have f:N≠[]:=λ e=>b (by rw [e] at h; exact List.perm_nil.1 h);obtain ⟨⟨q,i,e⟩,d⟩:=ajm b;obtain ⟨⟨g,a,e'⟩,c⟩:=ajm f;have:=d g (h.mem_iff.2 a);have:=c q (h.mem_iff.1 i);omega
theorem aso (h:M.Perm N):ef M=ef N:=by
 induction h with
 | nil=>rfl
 | cons x _ ih=>simp only [ef,List.map_cons,List.sum_cons] at ih |-; omega
 | swap x y l=>simp only [ef,List.map_cons,List.sum_cons]; omega
 | trans _ _ h1 h2=>exact h1.trans h2
variable {L':List Pt}
theorem aic {L:List Pt} (h:L.Perm L') (w:Nat):(mem L w).Perm (mem L' w):=h.filter _
theorem aol {L:List Pt} (h:L.Perm L') (r:Nat):(ua L r).Perm (ua L' r):=
 (zci (tb _) (tb _)).2 λ w=>by
  show w∈ua L r↔w∈ua L' r;rw [tz,tz];exact ⟨λ ⟨p,a,e⟩=>⟨p,h.mem_iff.1 a,e⟩,λ ⟨p,a,e⟩=>⟨p,h.mem_iff.2 a,e⟩⟩
theorem acj {L:List Pt} (h:L.Perm L') (r:Nat):l6 L r=l6 L' r:=ae8 ((aol h r).map _)
variable {ws:List Int} {n:Int}
theorem avm (h:ws[i]?=some n) (z:RV):(s7 ws).getD ((i:Int)).toNat z=.v (.int .u64 n):=by
 simp [List.getD,s7,h]
theorem a19 (ws:List Int) (k:ws.length<=100000):a9 P0 14 [.r (.sl 1 (s7 ws)),.r (.sl 1 (s7 ws))] [] (bl true) []:=by
 refine yz.t func14 ?_;have d:((ws.length:Int) != ws.length)=false:=by simp
 push_cast [yz,p9,d,zab]
 refine c7 [(5,false),(0,false),(1,false)] (λ vs pos a=>∃i:Nat,i<=ws.length/\vs=[int .i64 i,.r (.sl 1 (s7 ws)),.r (.sl 1 (s7 ws))]/\pos=[]/\a=[])
  (λ vs _ _=>match vs with | .r (.v (.int _ j))::_=>(ws.length-j).toNat | _=>0) rfl ?_ ?_
 ·push_cast
  exact ⟨0,by omega,rfl⟩
 rintro vs pos a ⟨i,g,rfl,rfl,rfl⟩
 push_cast [p9]
 refine b9 (λ h=>?_) (λ h=>?_)
 ·have f:i<ws.length:=by simpa using h
  obtain ⟨n,c⟩:∃n,ws[i]?=some n:=⟨ws[i],by simp [f]⟩
  have b:IntKind.i64.wrap ((i:Int)+1)=(i:Int)+1:=a6 ⟨by omega,by omega⟩;have e:(n != n)=false:=by simp
  push_cast [p9,avm c,b,e]
  repeat refine sI ?_
  exact ⟨⟨i+1,by omega,rfl⟩,by omega⟩
 push_cast [p9]

def cu:Mk P0 f34:={ x:=_ }
def tf:Mk P0 f17:={ x:=_ }
theorem aac:ng 17 2 tf:=fg func17
def z64:RV:=.v (.int .i64 0)
def ids (l:List Int):List RV:=l.map λ n=>.v (.int .i64 n)
theorem mv (l:List Int):(ids l).length=l.length:=by simp [ids]
theorem azv (k:Ky):a9 P0 34 [k.av,.ptr 1000000 0 0] [.box [.nils 1 z64]] (.tup []) [.box [.own 1000001 0 0 1],.row 1 z64 true true (ids [k.d])]:=by
 refine cu.t func34 ?_
 push_cast [cu,Ky.av,Ky.rv,z64,zad,zab]
 repeat refine sI ?_
 simp [ids]
theorem av1 (k:Ky) (l:List Int) (b:l.length<=100000):a9 P0 34 [k.av,.ptr 1000000 0 0] [.box [.own 1000001 0 0 l.length],.row 1 z64 true true (ids l)] (.tup []) [.box [.own 1000001 0 0 (l++[k.d]).length],.row 1 z64 true true (ids (l++[k.d]))]:=by
 refine cu.t func34 ?_;have a:=o9
 push_cast [cu,Ky.av,Ky.rv,z64,zad,zab]
 repeat refine sI ?_
 rw [zah (by rw [mv]; omega)];simp [ids]
def fQ:AV:=.fn (.func 34) [.ptr 1000002 0 0] 0
def poP (w:Int) (id:Nat):List Int->List Ob
 | []=>[.box [int .u64 w],.box [fQ],.box [.nils 1 z64]]
 | x::xs=>[.box [int .u64 w],.box [fQ],.box [.own id 0 0 (x::xs).length]]
def roP (w:Int) (id:Nat):List Int->List Ob
 | []=>[.box [int .u64 w],.box [fQ],.box [.nils 1 z64]]
 | x::xs=>[.box [int .u64 w],.box [fQ],.box [.own id 0 0 (x::xs).length],.row 1 z64 true true (ids (x::xs))]
def loP (a:Ky):List Int->List Ob
 | []=>[.box a.cs]
 | x::xs=>[.row 1 z64 true true (ids (x::xs)),.box a.cs]
def lpP:List Int->Nat
 | []=>2000000
 | _=>2000001
theorem ako:lpP []=2000000:=rfl
variable {acc:List Int}
theorem afm (h:acc≠[]):lpP acc=2000001:=by cases acc; exact absurd rfl h; rfl
theorem acx (w:Int) (id:Nat):poP w id []=[.box [int .u64 w],.box [.fn (.func 34) [.ptr 1000002 0 0] 0],.box [.nils 1 (.v (.int .i64 0))]]:=rfl
theorem aff (w:Int) (id:Nat) (h:acc≠[]):poP w id acc=[.box [int .u64 w],.box [.fn (.func 34) [.ptr 1000002 0 0] 0],.box [.own id 0 0 acc.length]]:=by cases acc; exact absurd rfl h; rfl
theorem akp (a:Ky):loP a []=[.box [int .u64 a.c,int .i64 a.v,int .i64 a.d]]:=rfl
theorem afn (a:Ky) (h:acc≠[]):loP a acc=[.row 1 (.v (.int .i64 0)) true true (ids acc),.box [int .u64 a.c,int .i64 a.v,int .i64 a.d]]:=by cases acc; exact absurd rfl h; rfl
theorem ai2 (w:Int) (id:Nat) (h:acc≠[]):roP w id acc=[.box [int .u64 w],.box [.fn (.func 34) [.ptr 1000002 0 0] 0],.box [.own id 0 0 acc.length],.row 1 (.v (.int .i64 0)) true true (ids acc)]:=by cases acc; exact absurd rfl h; rfl
theorem akf (w:Int) (id:Nat):roP w id []=[.box [int .u64 w],.box [.fn (.func 34) [.ptr 1000002 0 0] 0],.box [.nils 1 (.v (.int .i64 0))]]:=rfl
def roN (w:Int) (l:List Int):List Ob:=[.box [int .u64 w],.box [fQ],.box [.own 1000003 0 0 l.length],.row 1 z64 true true (ids l)]
def roZ (w:Int):List Ob:=[.box [int .u64 w],.box [fQ],.box [.nils 1 z64]]
section
variable (k:Ky) (w:Int)
theorem amc (h:(k.c != w)=true):a9 P0 54 [k.av,.ptr 1000000 0 0,.ptr 1000001 0 0] (roZ w) (bl false) (roZ w):=by
 refine al rfl (by simp [roZ]) ?_
 push_cast [ar,roZ,roN,fQ,z64,h,Ky.av,Ky.rv,zad,zab]
theorem ak5 (l:List Int) (h:(k.c != w)=true):a9 P0 54 [k.av,.ptr 1000000 0 0,.ptr 1000001 0 0] (roN w l) (bl false) (roN w l):=by
 refine al rfl (by simp [roN]) ?_
 push_cast [ar,roN,fQ,z64,h,Ky.av,Ky.rv,zad,zab]
theorem ak4 (h:(k.c != w)=false):a9 P0 54 [k.av,.ptr 1000000 0 0,.ptr 1000001 0 0] (roZ w) (bl true) (roN w [k.d]):=by
 refine al rfl (by simp [roZ]) ?_
 push_cast [ar,roZ,roN,fQ,z64,h,Ky.av,Ky.rv,zad,zab]
 refine ⟨by kernel_rfl,?_⟩;refine b7 (as':=[k.av,.ptr 1000000 0 0]) rfl ?_;refine a7 (azv k) rfl ⟨rfl,trivial⟩ ?_
 push_cast [z64]
theorem aiv (l:List Int) (a:l.length<=100000) (h:(k.c != w)=false):a9 P0 54 [k.av,.ptr 1000000 0 0,.ptr 1000001 0 0] (roN w l) (bl true) (roN w (l++[k.d])):=by
 refine al rfl (by simp [roN]) ?_
 push_cast [ar,roN,fQ,z64,h,Ky.av,Ky.rv,zad,zab]
 refine ⟨by kernel_rfl,?_⟩;refine b7 (as':=[k.av,.ptr 1000000 0 0]) rfl ?_;refine a7 (av1 k l a) rfl (by simp [k7]) ?_
 push_cast [z64]
end
def tcd (a:Ky) (w:Int) (r:List Ky):List Int:=(tc a w r).map (·.d)
section
variable {lo k:Ky} {w:Int} {r:List Ky}
theorem adn (h:kl k lo=true):tcd lo w (k::r)=tcd lo w r:=by simp [tcd,ao5 h]
theorem adl (h:kl k lo=false) (b:(k.c != w)=false):tcd lo w (k::r)=k.d::tcd lo w r:=by
 have a:(k.c == w)=true:=by simpa using b
 simp [tcd,ao3 h a]
theorem adm (h:kl k lo=false) (b:(k.c != w)=true):tcd lo w (k::r)=[]:=by
 have a:(k.c == w)=false:=by simpa using b
 simp [tcd,ao4 h a]
end
theorem a0k (ns:List (List Ky)) (n:Int) (i:Ky) (w:Int) (r:Nat) (h:Nod ns i r) (Q:ns≠[]) (U:ns.flatten.length<=100000) (R:List Int) (O:tcd i w (ns.drop (r-1)).flatten=R) :
 a9 P0 53 [.rp (l4 ns n),i.av,ccF] (poP w 1000003 []) (.tup []) (roP w 1000003 R):=by
 refine ei rfl (by simp [poP]) ?_;have P:=acx w 1000003;have L:((ns.length:Int) == 0)=false:=by simp [Q]
 have K:R.length<=100000:=by
  rw [<- O]
  have G:(tcd i w (ns.drop (r-1)).flatten).length<=(ns.drop (r-1)).flatten.length:=by
   unfold tcd tc;rw [zaa];exact Nat.le_trans (List.takeWhile_sublist _).length_le (zaz).length_le
  have t:(ns.drop (r-1)).flatten.length<=ns.flatten.length:=by
   conv=>rhs; rw [<- zba (r-1) ns]
   rw [List.flatten_append,zau];omega
  omega
 have E:zl P0 54=true:=rfl
 push_cast [ep,ccF,P,l4,Ky.av,Ky.rv,Ky.cs,kz,zab,zaa,L]
 refine a7 (am7 ns n i r h) rfl trivial ?_
 push_cast [zaa]
 refine c7 [(0,false),(2,false),(4,false),(6,false)] (λ vs pos o=>∃(a:Nat) (acc:List Int),a<=ns.length/\R=acc++tcd i w (ns.drop a).flatten /\
  vs=[.rp (l4 ns n),ccF,.ptr (lpP acc) 0 0,int .i64 a]/\pos=poP w 2000000 acc/\o=loP i acc)
  (λ vs _ _=>match vs with | [_,_,_,.r (.v (.int _ a))]=>(ns.length-a).toNat | _=>0) rfl ?_ ?_
 ·push_cast [l4,ccF,roN,roZ,fQ,z64,Ky.cs,kz]
  have:=h.le;exact ⟨r-1,[],by omega,by simp [O],by simp [poP,loP,lpP,ccF,Ky.cs,kz,fQ,z64,ids]⟩
 rintro vs pos o ⟨a,acc,T,F,rfl,rfl,rfl⟩;rcases acc with _ | ⟨x,xs⟩
 ·have s:=acx w 2000000;have p:=akp i;have q:=ako
  push_cast [l4,ccF,roN,roZ,fQ,z64,s,p,q,zaa]
  refine b9 (λ G=>?_) (λ G=>?_)
  ·have u:a<ns.length:=by simpa using G
   obtain ⟨l,I⟩:∃l,ns[a]?=some l:=⟨ns[a],by simp [u]⟩
   have B:=(h.ne a l I).2
   have N:ns.drop a=l::ns.drop (a+1):=by
    rw [zbg u,(zag.1 I).2]
   rw [N,List.flatten_cons] at F;have M:(ns.map n7).getD ((a:Int)).toNat (.sl 3 [])=.sl 3 (l.map Ky.rv):=by simp [List.getD,I,n7]
   have C:IntKind.i64.wrap ((a:Int)+1)=(a:Int)+1:=a6 ⟨by omega,by have:=h.len; simp only [maxLen] at this; omega⟩
   push_cast [l4,ccF,roN,roZ,fQ,z64,zaa,M]
   refine And.intro ⟨by omega,by omega⟩ ?_
   refine c7 [(0,false),(2,false),(4,false),(6,false),(33,false),(34,false),(35,false)] (λ vs pos o=>∃(j:Nat) (acc:List Int),j<=l.length/\R=acc++tcd i w (l.drop j++(ns.drop (a+1)).flatten) /\
    vs=[.rp (l4 ns n),ccF,.ptr (lpP acc) 0 0,int .i64 a,.r (n7 l),int .i64 l.length,int .i64 j]/\pos=poP w 2000000 acc/\o=loP i acc)
    (λ vs _ _=>match vs with | [_,_,_,_,_,_,.r (.v (.int _ a))]=>(l.length-a).toNat | _=>0) rfl ?_ ?_
   ·push_cast [l4,ccF,roN,roZ,fQ,z64,n7]
    exact ⟨0,[],by omega,F,by simp [s,p,q,ccF,fQ,z64]⟩
   rintro vs pos o ⟨j,e,S,b,rfl,rfl,rfl⟩;rcases e with _ | ⟨y,ys⟩
   ·have s:=acx w 2000000;have p:=akp i;have q:=ako
    push_cast [l4,ccF,roN,roZ,fQ,z64,n7,s,p,q,zaa]
    refine b9 (λ t=>?_) (λ t=>?_)
    ·have f:j<l.length:=by simpa using t
     have m:IntKind.i64.wrap ((j:Int)+1)=(j:Int)+1:=a6 ⟨by omega,by simp only [maxLen] at B; omega⟩;obtain ⟨k,A⟩:∃k,l[j]?=some k:=⟨l[j],by simp [f]⟩
     have z:l.drop j=k::l.drop (j+1):=by
      rw [zbg f,(zag.1 A).2]
     rw [z,zbf] at b
     push_cast [l4,ccF,roN,roZ,fQ,z64,n7,zaa,ju A]
     refine And.intro ⟨by omega,by omega⟩ (a7 (aba k i) rfl trivial ?_);rcases hkl:kl k i with _ | _
     ·push_cast [l4,ccF,roN,roZ,fQ,z64,Ky.cs,n7,zaa,ju A,E,zbx]
      rcases hkh:(k.c != w) with _ | _
      ·refine a7 (ak4 k w hkh) rfl ⟨rfl,rfl,rfl,trivial⟩ ?_;rw [adl hkl hkh] at b
       push_cast [l4,ccF,roN,roZ,fQ,z64,Ky.cs,n7,kz,zaa,m]
       exact ⟨⟨j+1,[k.d],by omega,by simpa using b,by simp [poP,loP,lpP,ccF,Ky.cs,kz,fQ,z64,ids]⟩,by omega⟩
      refine a7 (amc k w hkh) rfl ⟨rfl,rfl,rfl,trivial⟩ ?_;rw [adm hkl hkh] at b
      push_cast [l4,ccF,roN,roZ,fQ,z64,Ky.cs,n7,kz,zaa]
      rw [b];exact (akf w 1000003).symm
     rw [adn hkl] at b
     push_cast [l4,ccF,roN,roZ,fQ,z64,Ky.cs,n7,zaa,zbp,m]
     exact ⟨⟨j+1,[],by omega,b,by simp [poP,loP,lpP,ccF,Ky.cs,kz,fQ,z64,ids]⟩,by omega⟩
    have f:¬j<l.length:=by simpa using t
    rw [zbq (by omega),zay] at b
    push_cast [l4,ccF,roN,roZ,fQ,z64,n7,zaa,C]
    exact ⟨⟨a+1,[],by omega,b,by simp [poP,loP,lpP,ccF,Ky.cs,kz,fQ,z64,ids]⟩,by omega⟩
   have g:y::ys≠[]:=by simp
   generalize y::ys=e at *;have J:e.length<=100000:=by rw [b,zau] at K; omega
   have s:=aff w 2000000 g;have p:=afn i g;have q:=afm g
   push_cast [l4,ccF,roN,roZ,fQ,z64,n7,s,p,q,zaa]
   refine b9 (λ t=>?_) (λ t=>?_)
   ·have f:j<l.length:=by simpa using t
    have m:IntKind.i64.wrap ((j:Int)+1)=(j:Int)+1:=a6 ⟨by omega,by simp only [maxLen] at B; omega⟩;obtain ⟨k,A⟩:∃k,l[j]?=some k:=⟨l[j],by simp [f]⟩
    have z:l.drop j=k::l.drop (j+1):=by
     rw [zbg f,(zag.1 A).2]
    rw [z,zbf] at b
    push_cast [l4,ccF,roN,roZ,fQ,z64,n7,zaa,ju A]
    refine And.intro ⟨by omega,by omega⟩ (a7 (aba k i) rfl trivial ?_);rcases hkl:kl k i with _ | _
    ·push_cast [l4,ccF,roN,roZ,fQ,z64,Ky.cs,n7,zaa,ju A,E,zbx]
     rcases hkh:(k.c != w) with _ | _
     ·refine a7 (aiv k w e J hkh) rfl ⟨rfl,rfl,rfl,trivial⟩ ?_;rw [adl hkl hkh] at b
      push_cast [l4,ccF,roN,roZ,fQ,z64,Ky.cs,n7,kz,zaa,m]
      refine ⟨⟨j+1,e++[k.d],by omega,by simpa using b,by simp [aff,afn,afm,ccF,fQ,z64,ids]⟩,by omega⟩
     refine a7 (ak5 k w e hkh) rfl ⟨rfl,rfl,rfl,trivial⟩ ?_;rw [adm hkl hkh,zas] at b
     push_cast [l4,ccF,roN,roZ,fQ,z64,Ky.cs,n7,kz,zaa]
     rw [b];exact (ai2 w 1000003 g).symm
    rw [adn hkl] at b
    push_cast [l4,ccF,roN,roZ,fQ,z64,Ky.cs,n7,zaa,zbp,m]
    refine ⟨⟨j+1,e,by omega,b,by simp [s,p,q,ccF,fQ,z64]⟩,by omega⟩
   have f:¬j<l.length:=by simpa using t
   rw [zbq (by omega),zay] at b
   push_cast [l4,ccF,roN,roZ,fQ,z64,n7,zaa,C]
   refine ⟨⟨a+1,e,by omega,b,by simp [s,p,q,ccF,fQ,z64]⟩,by omega⟩
  have u:¬a<ns.length:=by simpa using G
  rw [zbq (by omega)] at F
  push_cast [l4,ccF,roN,roZ,fQ,z64,zaa]
  have H:R=[]:=by simpa [tcd,tc] using F
  rw [H];exact (akf w 1000003).symm
 have D:x::xs≠[]:=by simp
 generalize x::xs=acc at *;have s:=aff w 2000000 D;have p:=afn i D;have q:=afm D
 push_cast [l4,ccF,roN,roZ,fQ,z64,s,p,q,zaa]
 refine b9 (λ G=>?_) (λ G=>?_)
 ·have u:a<ns.length:=by simpa using G
  obtain ⟨l,I⟩:∃l,ns[a]?=some l:=⟨ns[a],by simp [u]⟩
  have B:=(h.ne a l I).2
  have N:ns.drop a=l::ns.drop (a+1):=by
   rw [zbg u,(zag.1 I).2]
  rw [N,List.flatten_cons] at F;have M:(ns.map n7).getD ((a:Int)).toNat (.sl 3 [])=.sl 3 (l.map Ky.rv):=by simp [List.getD,I,n7]
  have C:IntKind.i64.wrap ((a:Int)+1)=(a:Int)+1:=a6 ⟨by omega,by have:=h.len; simp only [maxLen] at this; omega⟩
  push_cast [l4,ccF,roN,roZ,fQ,z64,zaa,M]
  refine And.intro ⟨by omega,by omega⟩ ?_
  refine c7 [(0,false),(2,false),(4,false),(6,false),(33,false),(34,false),(35,false)] (λ vs pos o=>∃(j:Nat) (acc:List Int),j<=l.length/\R=acc++tcd i w (l.drop j++(ns.drop (a+1)).flatten) /\
   vs=[.rp (l4 ns n),ccF,.ptr (lpP acc) 0 0,int .i64 a,.r (n7 l),int .i64 l.length,int .i64 j]/\pos=poP w 2000000 acc/\o=loP i acc)
   (λ vs _ _=>match vs with | [_,_,_,_,_,_,.r (.v (.int _ a))]=>(l.length-a).toNat | _=>0) rfl ?_ ?_
  ·push_cast [l4,ccF,roN,roZ,fQ,z64,n7]
   exact ⟨0,acc,by omega,F,by simp [s,p,q,ccF,fQ,z64]⟩
  rintro vs pos o ⟨j,e,S,b,rfl,rfl,rfl⟩;rcases e with _ | ⟨y,ys⟩
  ·have s:=acx w 2000000;have p:=akp i;have q:=ako
   push_cast [l4,ccF,roN,roZ,fQ,z64,n7,s,p,q,zaa]
   refine b9 (λ t=>?_) (λ t=>?_)
   ·have f:j<l.length:=by simpa using t
    have m:IntKind.i64.wrap ((j:Int)+1)=(j:Int)+1:=a6 ⟨by omega,by simp only [maxLen] at B; omega⟩;obtain ⟨k,A⟩:∃k,l[j]?=some k:=⟨l[j],by simp [f]⟩
    have z:l.drop j=k::l.drop (j+1):=by
     rw [zbg f,(zag.1 A).2]
    rw [z,zbf] at b
    push_cast [l4,ccF,roN,roZ,fQ,z64,n7,zaa,ju A]
    refine And.intro ⟨by omega,by omega⟩ (a7 (aba k i) rfl trivial ?_);rcases hkl:kl k i with _ | _
    ·push_cast [l4,ccF,roN,roZ,fQ,z64,Ky.cs,n7,zaa,ju A,E,zbx]
     rcases hkh:(k.c != w) with _ | _
     ·refine a7 (ak4 k w hkh) rfl ⟨rfl,rfl,rfl,trivial⟩ ?_;rw [adl hkl hkh] at b
      push_cast [l4,ccF,roN,roZ,fQ,z64,Ky.cs,n7,kz,zaa,m]
      exact ⟨⟨j+1,[k.d],by omega,by simpa using b,by simp [poP,loP,lpP,ccF,Ky.cs,kz,fQ,z64,ids]⟩,by omega⟩
     refine a7 (amc k w hkh) rfl ⟨rfl,rfl,rfl,trivial⟩ ?_;rw [adm hkl hkh] at b
     push_cast [l4,ccF,roN,roZ,fQ,z64,Ky.cs,n7,kz,zaa]
     rw [b];exact (akf w 1000003).symm
    rw [adn hkl] at b
    push_cast [l4,ccF,roN,roZ,fQ,z64,Ky.cs,n7,zaa,zbp,m]
    exact ⟨⟨j+1,[],by omega,b,by simp [poP,loP,lpP,ccF,Ky.cs,kz,fQ,z64,ids]⟩,by omega⟩
   have f:¬j<l.length:=by simpa using t
   rw [zbq (by omega),zay] at b
   push_cast [l4,ccF,roN,roZ,fQ,z64,n7,zaa,C]
   exact ⟨⟨a+1,[],by omega,b,by simp [poP,loP,lpP,ccF,Ky.cs,kz,fQ,z64,ids]⟩,by omega⟩
  have g:y::ys≠[]:=by simp
  generalize y::ys=e at *;have J:e.length<=100000:=by rw [b,zau] at K; omega
  have s:=aff w 2000000 g;have p:=afn i g;have q:=afm g
  push_cast [l4,ccF,roN,roZ,fQ,z64,n7,s,p,q,zaa]
  refine b9 (λ t=>?_) (λ t=>?_)
  ·have f:j<l.length:=by simpa using t
   have m:IntKind.i64.wrap ((j:Int)+1)=(j:Int)+1:=a6 ⟨by omega,by simp only [maxLen] at B; omega⟩;obtain ⟨k,A⟩:∃k,l[j]?=some k:=⟨l[j],by simp [f]⟩
   have z:l.drop j=k::l.drop (j+1):=by
    rw [zbg f,(zag.1 A).2]
   rw [z,zbf] at b
   push_cast [l4,ccF,roN,roZ,fQ,z64,n7,zaa,ju A]
   refine And.intro ⟨by omega,by omega⟩ (a7 (aba k i) rfl trivial ?_);rcases hkl:kl k i with _ | _
   ·push_cast [l4,ccF,roN,roZ,fQ,z64,Ky.cs,n7,zaa,ju A,E,zbx]
    rcases hkh:(k.c != w) with _ | _
    ·refine a7 (aiv k w e J hkh) rfl ⟨rfl,rfl,rfl,trivial⟩ ?_;rw [adl hkl hkh] at b
     push_cast [l4,ccF,roN,roZ,fQ,z64,Ky.cs,n7,kz,zaa,m]
     refine ⟨⟨j+1,e++[k.d],by omega,by simpa using b,by simp [aff,afn,afm,ccF,fQ,z64,ids]⟩,by omega⟩
    refine a7 (ak5 k w e hkh) rfl ⟨rfl,rfl,rfl,trivial⟩ ?_;rw [adm hkl hkh,zas] at b
    push_cast [l4,ccF,roN,roZ,fQ,z64,Ky.cs,n7,kz,zaa]
    rw [b];exact (ai2 w 1000003 g).symm
   rw [adn hkl] at b
   push_cast [l4,ccF,roN,roZ,fQ,z64,Ky.cs,n7,zaa,zbp,m]
   refine ⟨⟨j+1,e,by omega,b,by simp [s,p,q,ccF,fQ,z64]⟩,by omega⟩
  have f:¬j<l.length:=by simpa using t
  rw [zbq (by omega),zay] at b
  push_cast [l4,ccF,roN,roZ,fQ,z64,n7,zaa,C]
  refine ⟨⟨a+1,e,by omega,b,by simp [s,p,q,ccF,fQ,z64]⟩,by omega⟩
 have u:¬a<ns.length:=by simpa using G
 rw [zbq (by omega)] at F
 push_cast [l4,ccF,roN,roZ,fQ,z64,zaa]
 have H:R=acc:=by simpa [tcd,tc] using F
 rw [H];exact (ai2 w 1000003 D).symm
theorem auf {ns:List (List Ky)} (h:Good ns) (d:ns.flatten.length<=100000) (n:Int) (b:Ky) (w:Int) :
 a9 P0 53 [.rp (l4 ns n),b.av,ccF] (poP w 1000003 []) (.tup []) (roP w 1000003 (tcd b w ns.flatten)):=by
 by_cases c:ns=[]
 ·subst c;refine ei rfl (by simp [poP]) ?_;have e:=acx w 1000003
  push_cast [ep,ccF,e,l4,Ky.av,Ky.rv,Ky.cs,kz,zab,zad,zav]
  rfl
 obtain ⟨i,q,l,a⟩:=spt h (by omega) b c;refine a0k ns n b w _ (afk h (by omega) _) c d _ ?_;rw [a.nx]
 have f:ns.drop i=l::ns.drop (i+1):=by
  rw [zbg a.lt,(zag.1 a.at_).2]
 rw [a.all,f,List.flatten_cons];unfold tcd tc
 conv=>rhs; rw [zby]
 have:List.filter (λ k=>!kl k b) (zai i ns).flatten=[]:=by
  rw [zbz];intro x hx;simp [a.ahead x hx]
 rw [this,zay]
def fQ1:AV:=.fn (.func 34) [.ptr 1000003 0 0] 0
theorem anu (l:List Int):∀x∈ids l,y8 x:=λ x hx=>by
 obtain ⟨n,_,rfl⟩:=zbc.1 hx;simp [y8]
theorem aro {ns:List (List Ky)} (h:Good ns) (b:ns.flatten.length<=100000) (a:Ky) (w:Int) (c:tcd a w ns.flatten=acc) (d:acc≠[]) :
 a9 P0 53 [.ptr 1000000 0 0,a.av,arw] [.abs (tr ns),.box [int .u64 w],.box [fQ1],.box [.nils 1 z64]] (.tup []) [.abs (tr ns),.box [int .u64 w],.box [fQ1],.box [.own 1000004 0 0 acc.length],.row 1 z64 true true (ids acc)]:=by
 have:=auf h b ns.flatten.length a w;rw [c,ai2 w 1000003 d] at this
 exact axj (T:=tr ns) (po:=poP w 1000003 []) (po':=[.box [int .u64 w],.box [fQ1],.box [.nils 1 z64]]) (ro':=[.box [int .u64 w],.box [fQ1],.box [.own 1000004 0 0 acc.length],.row 1 z64 true true (ids acc)]) this rfl rfl rfl rfl
  (by simp [fQ1,gu,ec,u7,y8]) (by simpa [fQ,gu,ec,u7,y8] using anu acc) (by simp [u7,ec])
theorem aqu {ns:List (List Ky)} (h:Good ns) (a:ns.flatten.length<=100000) (w:Int) (b:tcd ⟨w,-9223372036854775808,-9223372036854775808⟩ w ns.flatten=acc) (c:acc≠[]) :
 a9 P0 30 [.ptr 1000000 0 0,int .u64 w,.fn (.func 34) [.ptr 1000001 0 0] 0] [.abs (tr ns),.box [.nils 1 z64]] (.tup []) [.abs (tr ns),.box [.own 1000002 0 0 acc.length],.row 1 z64 true true (ids acc)]:=by
 refine jy.t func30 ?_
 push_cast [jy,z64,zad,zab]
 refine ⟨by kernel_rfl,?_⟩;refine b7 (as':=[.ptr 1000000 0 0,Ky.av ⟨w,-9223372036854775808,-9223372036854775808⟩,arw]) rfl ?_;refine a7 (aro h a _ w b c) rfl ⟨rfl,rfl,rfl,rfl,trivial⟩ ?_
 push_cast [fQ1,z64]
section
variable {L:List Pt} {es:List MapEntry} {c:Nat} {ns:List (List Ky)} {ce:Nat->List MapEntry} {cc:Nat->Nat}
def av0 (ns:List (List Ky)) (w:Int):List Int:=tcd ⟨w,-9223372036854775808,-9223372036854775808⟩ w ns.flatten
theorem avz (h:StL L es c ns ce cc) (w:Int) (a:av0 ns w=acc) (b:acc≠[]):a9 P0 17 [.ptr 1000000 0 0,int .u64 w] (d9 es c ns ce cc) (.own 1000016 0 0 acc.length) (d9 es c ns ce cc++[.row 1 z64 true true (ids acc)]):=by
 have d:=aqu h.tk.g (by rw [h.tk.l]; have:=h.le; omega) w a b;refine aac rfl (by simp [d9]) ?_
 push_cast [tf,d9,z64,zad,zab]
 repeat refine sI ?_
 refine a7 d rfl ⟨rfl,rfl,trivial⟩ ?_
 push_cast [z64,zbf,zay]
end

def leK (a b:Ky):Bool:=!kl b a
theorem abz (a b c:Ky) (d:leK a b=true) (e:leK b c=true):leK a c=true:=by
 unfold leK at *;rw [zca,ad3] at *;omega
theorem ab0 (a b:Ky):(leK a b||leK b a)=true:=by
 unfold leK;cases h:kl b a with
 | false=>rfl
 | true=>
   have:=yn.1 h;have:kl a b=false:=by rw [ad3]; omega
   simp [this]
theorem ank {a b:Ky} (c:leK a b=true) (d:leK b a=true):a=b:=by
 unfold leK at *;rw [zca,ad3] at c d;obtain ⟨e,i,h⟩:=a;obtain ⟨g,j,f⟩:=b;simp only at c d;rw [Ky.mk.injEq];omega
def oi (L:List Pt) (w:Nat):List Ky:=(mem L w).map λ p=>(⟨w,p.v,p.k⟩:Ky)
def uj (L:List Pt) (w:Nat):List Int:=((oi L w).mergeSort leK).map (·.d)
theorem amv (L:List Pt) (w:Nat):(uj L w).length=(mem L w).length:=by
 unfold uj oi;rw [zaa,List.length_mergeSort,zaa]
section
variable {L:List Pt} {es:List MapEntry} {c:Nat} {ns:List (List Ky)} {ce:Nat->List MapEntry} {cc:Nat->Nat}
theorem azu (h:StL L es c ns ce cc) (w:Nat):av0 ns w=uj L w:=by
 have y:∀k∈ns.flatten,∃p∈L,∃r,r<13/\k=p.ky r:=λ k q=>(h.tk.m k).1 q
 have B:∀k∈ns.flatten,-2147483648<=k.v/\k.v<=2147483647/\1<=k.d:=λ k q=>by
  obtain ⟨p,i,r,s,rfl⟩:=y k q;have:=h.ok p i;exact ⟨this.2.2.1,this.2.2.2,this.1.1⟩
 unfold av0 tcd uj;rw [axs h.tk.g.so w λ k q=>by have:=B k q; omega];generalize u:(ns.flatten.filter λ k=>k.c == (w:Int))=F;have j:Srt F:=by rw [<- u]; exact h.tk.g.so.sublist zaz
 have t:∀k,k∈F↔k∈oi L w:=λ k=>by
  unfold oi;rw [<- u,zak,h.tk.m,zbc];constructor
  ·rintro ⟨⟨p,i,r,s,rfl⟩,hc⟩;have n:p.w r=w:=Int.ofNat.inj (by simpa [Pt.ky] using hc);exact ⟨p,zak.2 ⟨i,qi.2 ⟨r,s,n⟩⟩,by simp [Pt.ky,n]⟩
  rintro ⟨p,i,rfl⟩;obtain ⟨i,x⟩:=zak.1 i;obtain ⟨r,s,e⟩:=qi.1 x;exact ⟨⟨p,i,r,s,by simp [Pt.ky,e]⟩,by simp⟩
 have l:((mem L w).map (·.k)).Nodup:=by
  have:((mem L w).map (·.k)).Sublist (L.map (·.k)):=zaz.map _;exact this.nodup h.pm.nd
 have o:F.Nodup:=j.imp λ {a b} f e=>by subst e; rw [yk] at f; cases f
 have C:F.Perm (oi L w):=(zci o (ahf l)).2 t
 have e:F=(oi L w).mergeSort leK:=by
  refine List.Perm.eq_of_pairwise (le:=λ a b=>leK a b=true) (λ a b _ _ z A=>ank z A) (j.imp λ {a b} f=>?_) (zbu abz ab0 _) (C.trans (zbr _ _).symm);unfold leK;rw [zca,ad3];have:=yn.1 f;omega
 rw [e]
end
theorem a4y (L:List Pt) (w:Nat) (b:mem L w≠[]):a9 P0 17 [.ptr 1000000 0 0,int .u64 w] [.abs (sT L)] (.own 1000001 0 0 (uj L w).length) [.abs (sT L),.row 1 z64 true true (ids (uj L w))]:=
 acb (F:=SF L) (F':=SF L) rfl (ex:=[.row 1 z64 true true (ids (uj L w))]) (res:=.own 1000016 0 0 (uj L w).length) (λ os h=>by
  obtain ⟨es,c,ns,ce,cc,h,rfl⟩:=h;refine ⟨_,⟨_,_,_,_,_,h,rfl⟩,avz h w (azu h w) λ e=>b ?_⟩;have:=amv L w;rw [e] at this;exact zar.1 this.symm) rfl (by
  intro o a;simp at a;subst a
  exact anu _) (by simp [u7])

theorem ck (h:ws[i]?=some n) (z:RV):(s7 ws).getD ((i:Int)).toNat z=.v (.int .u64 n):=by
 simp [List.getD,s7,h]
theorem dq (h:ws[i]?=some n) (z:RV):(s7 ws).getD (0+((i:Int)).toNat) z=.v (.int .u64 n):=by rw [zae]; exact ck h z
def zw:Mk P0 f67:={ x:=_ }
def gk (x:Int) (S:List Int):Nat:=(S.takeWhile λ y=>decide (y<x)).length
def gy (x:Int) (S:List Int):List Int:=if S[gk x S]?=some x then S else S.take (gk x S)++x::S.drop (gk x S)
def dk (ws:List Int):List Int:=ws.foldl (λ S x=>gy x S) []
def Up (S:List Int):Prop:=S.Pairwise (· < ·)
theorem a0u (x:Int) (S:List Int):gk x S<=S.length:=(List.takeWhile_sublist _).length_le
theorem akz {x:Int}:∀{S:List Int} {j:Nat} {y:Int},j<gk x S->S[j]?=some y->y<x
 | [],j,y,h,hy=>by simp at hy
 | a::S,j,y,h,hy=>by
   unfold gk at h;rw [List.takeWhile_cons] at h;by_cases b:a<x
   ·simp only [b,decide_true,if_true,zad] at h;cases j with
    | zero=>simp at hy; omega
    | succ j=>exact akz (S:=S) (j:=j) (by unfold gk; omega) (by simpa using hy)
   simp [b] at h
theorem ag5 {x:Int}:∀{S:List Int},Up S->∀{j:Nat} {y:Int},gk x S<=j->S[j]?=some y->x<=y
 | [],_,j,y,h,hy=>by simp at hy
 | a::S,hS,j,y,h,hy=>by
   have c:=zcb.1 hS;unfold gk at h;rw [List.takeWhile_cons] at h;by_cases d:a<x
   ·simp only [d,decide_true,if_true,zad] at h;obtain ⟨b,rfl⟩:∃b,j=b+1:=⟨j-1,by omega⟩
    exact ag5 (S:=S) c.2 (j:=b) (by unfold gk; omega) (by simpa using hy)
   cases j with
   | zero=>simp at hy; omega
   | succ j=>
     have:=c.1 y (zao (by simpa using hy));omega
variable {x:Int} {S:List Int}
theorem a0v (d:Up S) {k:Nat} (f:k<=S.length) (c:∀j y,j<k->S[j]?=some y->y<x) (e:∀j y,k<=j->S[j]?=some y->x<=y):gk x S=k:=by
 have hc:=a0u x S;rcases Nat.lt_trichotomy (gk x S) k with h | h | h
 ·obtain ⟨y,hy⟩:∃y,S[gk x S]?=some y:=⟨S[gk x S]'(by omega),by simp [show gk x S<S.length by omega]⟩
  have a:=c _ y h hy;have b:=ag5 d (Nat.le_refl _) hy;omega
 ·exact h
 obtain ⟨y,hy⟩:∃y,S[k]?=some y:=⟨S[k]'(by omega),by simp [show k<S.length by omega]⟩
 have a:=akz h hy;have b:=e k y (Nat.le_refl _) hy;omega
theorem awn {y:Int}:y∈gy x S↔y=x\/y∈S:=by
 unfold gy;split
 ·rename_i h;constructor
  ·exact .inr
  rintro (rfl | h2)
  ·exact zao h
  exact h2
 rw [zcc,zbs]
 conv=>rhs; rw [<- zba (gk x S) S,zcc]
 constructor
 ·rintro (h | h | h)
  ·exact .inr (.inl h)
  ·exact .inl h
  exact .inr (.inr h)
 rintro (h | h | h)
 ·exact .inr (.inl h)
 ·exact .inl h
 exact .inr (.inr h)
theorem a0e (d:Up S):Up (gy x S):=by
 unfold gy;split
 ·exact d
 rename_i i
 have f:∀y∈S.take (gk x S),y<x:=λ y hy=>by
  obtain ⟨j,c⟩:=zan hy;rw [zbh] at c;split at c
  ·exact akz (by assumption) c
  cases c
 have h:∀y∈S.drop (gk x S),x<y:=λ y hy=>by
  obtain ⟨j,c⟩:=zan hy;rw [zbv] at c;have p:=ag5 (x:=x) d (by omega) c
  have q:x≠y:=λ e=>by
   subst e;have g:gk x S<S.length:=by have:=(zag.1 c).1; omega
   obtain ⟨z,n⟩:∃z,S[gk x S]?=some z:=⟨S[gk x S],by simp [g]⟩
   have r:=ag5 (x:=x) d (Nat.le_refl _) n;by_cases k:j=0
   ·subst k; exact i c
   have o:=(zat.1 d) (gk x S) (gk x S+j) g (by have:=(zag.1 c).1; omega) (by omega);rw [(zag.1 n).2,(zag.1 c).2] at o;omega
  omega
 unfold Up at *;rw [zcd,zcb];refine ⟨d.sublist (zbw ..),⟨h,d.sublist (List.drop_sublist ..)⟩,λ a m b l=>?_⟩;rcases zbs.1 l with rfl | l
 ·exact f a m
 have:=f a m;have:=h b l;omega
theorem afa:∀(ws S:List Int),Up S->Up (ws.foldl (λ S x=>gy x S) S)/\∀y,y∈ws.foldl (λ S x=>gy x S) S↔y∈S\/y∈ws
 | [],S,h=>⟨h,by simp⟩
 | x::ws,S,h=>by
   obtain ⟨a,b⟩:=afa ws (gy x S) (a0e h);refine ⟨a,λ y=>?_⟩;rw [List.foldl_cons,b,awn,zbs];constructor
   ·rintro ((h | h) | h)
    ·exact .inr (.inl h)
    ·exact .inl h
    exact .inr (.inr h)
   rintro (h | h | h)
   ·exact .inl (.inr h)
   ·exact .inl (.inl h)
   exact .inr h
theorem ayt {W:List Int} (d:Up W) (h:∀y,y∈ws↔y∈W):dk ws=W:=by
 obtain ⟨c,f⟩:=afa ws [] List.Pairwise.nil;have j:(dk ws).Nodup:=c.imp λ {a b} h e=>by omega
 have g:W.Nodup:=d.imp λ {a b} h e=>by omega
 have i:(dk ws).Perm W:=(zci j g).2 λ y=>by rw [<- h]; unfold dk; rw [f]; simp
 exact List.Perm.eq_of_pairwise (le:=λ a b=>a<b) (λ a b _ _ c f=>by omega) c d i
theorem awo (x:Int) (S:List Int):(gy x S).length<=S.length+1:=by
 unfold gy;split
 ·omega
 rw [zau,zad,zaj,zbi];omega
theorem azg {M:List RV} {z x:RV} {r:Nat} (h:r<=M.length) :
 (c8 (M++[z]) (r+1) ((((M++[z]).drop r).take (M.length+1-r)).take (M.length+1-(r+1)))).set r x=M.take r++x::M.drop r:=by
 have f:(((M++[z]).drop r).take (M.length+1-r)).take (M.length+1-(r+1))=M.drop r:=by
  rw [List.take_take,Nat.min_eq_left (by omega),List.drop_append_of_le_length h,List.take_append_of_le_length (by rw [zbi]; omega),zah (by rw [zbi]; omega)]
 rw [f];apply List.ext_getElem?;intro j;have b:(M++[z]).length=M.length+1:=by simp
 have a:(M.drop r).length=M.length-r:=by simp
 rw [List.getElem?_set,l7 (by rw [b,a]; omega),b,y6 (by rw [b,a]; omega),a,List.getElem?_append (l₁:=M.take r)];have e:(M.take r).length=r:=by simp; omega
 rw [e];by_cases d:r=j
 ·subst d;rw [if_pos rfl,if_pos (by omega),if_neg (by omega)];simp
 rw [if_neg d];by_cases c:j<r
 ·rw [if_neg (by omega),if_pos c,zce (by omega),zbh,if_pos c]
 rw [if_neg c];obtain ⟨m,rfl⟩:∃m,j=r+1+m:=⟨j-(r+1),by omega⟩
 rw [show r+1+m-r=m+1 by omega,List.getElem?_cons_succ];by_cases g:r+1+m<r+1+(M.length-r)
 ·rw [if_pos ⟨by omega,g⟩,show r+1+m-(r+1)=m by omega]
 rw [if_neg (by omega),zbj (by rw [b]; omega),zbj (by rw [a]; omega)]
theorem ah1 {M:List RV} (z:RV) {r n:Nat} (d:M.length=n) (h:r<=n) :
 ∃W,spl (M++[z]) (0+((r:Int)+1).toNat) (zai ((n:Int)+1-((r:Int)+1)).toNat (zai ((n:Int)+1-(r:Int)).toNat (zbk (0+((r:Int)).toNat) (M++[z]))))=W /\
  W.length=n+1/\(∀x,W.set r x=M.take r++x::M.drop r)/\W[r]?=(M++[z])[r]?:=by
 refine ⟨_,rfl,?_⟩;subst d;have f:0+((r:Int)+1).toNat=r+1:=by omega
 have e:((M.length:Int)+1-((r:Int)+1)).toNat=M.length+1-(r+1):=by omega
 have g:((M.length:Int)+1-(r:Int)).toNat=M.length+1-r:=by omega
 have c:0+((r:Int)).toNat=r:=by omega
 rw [f,e,g,c];unfold spl;have b:(M++[z]).length=M.length+1:=by simp
 have a:r+1+(zai (M.length+1-(r+1)) (zai (M.length+1-r) (zbk r (M++[z])))).length<=(M++[z]).length:=by
  rw [zaj,zaj,zbi,b];omega
 refine ⟨by rw [l7 a,b],λ x=>azg h,?_⟩;rw [y6 a,if_neg (by omega)]
theorem amf (C:List Int):zai C.length (s7 C)=s7 C:=zah (by rw [p9]; omega)
theorem apa (ws:List Int) (k:Nat):∃x:Int,(s7 ws).getD k (.v (.int .u64 0))=.v (.int .u64 x):=by
 rw [zaq];unfold s7;rw [zal];cases ws[k]? with
 | none=>exact ⟨0,rfl⟩
 | some x=>exact ⟨x,rfl⟩
theorem a0c (S:List Int) {r:Nat} (h:r<=S.length) :
 ∃(W:List RV) (g:Int),spl (s7 S++[.v (.int .u64 0)]) (0+((r:Int)+1).toNat) (zai ((S.length:Int)+1-((r:Int)+1)).toNat (zai ((S.length:Int)+1-(r:Int)).toNat (zbk (0+((r:Int)).toNat) (s7 S++[.v (.int .u64 0)]))))=W /\
  W.getD (0+((r:Int)).toNat) (.v (.int .u64 0))=.v (.int .u64 g)/\∀x:Int,W.set (0+((r:Int)).toNat) (.v (.int .u64 x))=s7 (S.take r++x::S.drop r):=by
 obtain ⟨W,d,f,c,b⟩:=ah1 (M:=s7 S) (.v (.int .u64 0)) (r:=r) (n:=S.length) (p9 S) h
 obtain ⟨g,e⟩:∃g:Int,W[r]?=some (.v (.int .u64 g)):=by
  rw [b];by_cases a:r<S.length
  ·exact ⟨S[r],by rw [zce (by rw [p9]; exact a)]; simp [s7,a]⟩
  exact ⟨0,by rw [zcj (by rw [p9]; omega),p9]; simp [show r-S.length=0 by omega]⟩
 refine ⟨W,g,d,by simp [List.getD,e],λ x=>?_⟩;rw [show 0+((r:Int)).toNat=r by omega,c];simp [s7,zbl,zbm]
theorem aln {r:Nat} (h:gy x S=S.take r++x::S.drop r) (a:r<=S.length):gy x S≠[]/\(gy x S).length=S.length+1:=by
 rw [h];refine ⟨by simp,?_⟩;rw [zau,zad,zaj,zbi];omega
theorem ak8 (h:ws[i]?=some x):dk (ws.take (i+1))=gy x (dk (ws.take i)):=by
 unfold dk;rw [zap,h,List.foldl_append]
 rfl
theorem avi (ws:List Int):(dk ws).length<=ws.length:=by
 have a:∀(l S:List Int),(l.foldl (λ S x=>gy x S) S).length<=S.length+l.length:=λ l=>by
  induction l with
  | nil=>intro S; simp
  | cons x l ih=>
    intro S;have:=ih (gy x S);have:=awo x S;simp only [List.foldl_cons,zad];omega
 have:=a ws [];unfold dk;simpa using this
theorem ays (ws:List Int):Up (dk ws):=(afa ws [] List.Pairwise.nil).1
theorem axt (ws:List Int) (hl:ws.length<=1000)
 (s:(dk ws=[]/\res=.nils 1 (.v (.int .u64 0))/\ro=[])\/(dk ws≠[]/\res=.own 1000000 0 0 (dk ws).length/\ro=[o5 (dk ws)])) :
 a9 P0 67 [.r (.sl 1 (s7 ws))] [] res ro:=by
 refine zw.t func67 ?_;have h4:=o9;simp only [zw,push_cast,↓reduceIte,reduceCtorEq,zB,zE,zA,zS,zL,zD,zM]
 refine c7 [(4,false),(0,false),(3,false)] (λ vs pos g=>∃i:Nat,i<=ws.length/\pos=[] /\
  (dk (ws.take i)=[]/\vs=[int .i64 i,.r (.sl 1 (s7 ws)),.nils 1 (.v (.int .u64 0))]/\g=[] \/
   dk (ws.take i)≠[]/\vs=[int .i64 i,.r (.sl 1 (s7 ws)),.own 2000000 0 0 (dk (ws.take i)).length]/\g=[o5 (dk (ws.take i))]))
  (λ vs _ _=>match vs with | .r (.v (.int _ j))::_=>(ws.length-j).toNat | _=>0) rfl ?_ ?_
 ·simp only [push_cast,↓reduceIte,reduceCtorEq,zB,zE,zA,zS,zL,zD,zM];exact ⟨0,by omega,.inl ⟨rfl,rfl⟩⟩
 rintro vs pos g ⟨i,E,rfl,⟨B,rfl,rfl⟩ | ⟨B,rfl,rfl⟩⟩
 ·simp only [p9,push_cast,↓reduceIte,reduceCtorEq,zB,zE,zA,zS,zL,zD,zM];refine b9 (λ h=>?_) (λ h=>?_)
  ·have A:i<ws.length:=by simpa using h
   obtain ⟨x,hx⟩:∃x,ws[i]?=some x:=⟨ws[i],by simp [A]⟩
   have J:IntKind.i64.wrap ((i:Int)+1)=(i:Int)+1:=a6 (by omega);have n:=ak8 hx;rw [B] at n;have K:dk (ws.take (i+1))=[x]:=by rw [n]; rfl
   have d0:decide ((0:Int)<0)=false:=by decide
   simp only [ck hx,dq hx,p9,push_cast,↓reduceIte,reduceCtorEq,zB,zE,zA,zS,zL,zD,zM];refine c7 [(5,false),(6,false),(4,false),(0,false),(3,false)] (λ vs pos g=>vs=[int .i64 0,int .i64 0,int .i64 i,.r (.sl 1 (s7 ws)),.nils 1 (.v (.int .u64 0))]/\pos=[]/\g=[]) (λ _ _ _=>0) rfl ?_ ?_
   ·simp only [push_cast,↓reduceIte,reduceCtorEq,zB,zE,zA,zS,zL,zD,zM]
   rintro vs pos g ⟨rfl,rfl,rfl⟩;simp only [d0,ck hx,dq hx,p9,J,push_cast,↓reduceIte,reduceCtorEq,zB,zE,zA,zS,zL,zD,zM]
   repeat refine sI ?_
   have h1:IntKind.i64.wrap (0+1)=1:=rfl;have Y:spl [RV.v (Value.int IntKind.u64 0)] (0+zbd 1) (zai (1-1:Int).toNat (zai (1-0:Int).toNat (zbk (0+zbd 0) [RV.v (Value.int IntKind.u64 0)])))=[RV.v (Value.int IntKind.u64 0)]:=rfl;simp only [h1,Y];refine ⟨⟨i+1,by omega,.inr ⟨by rw [K]; simp,?_⟩⟩,by omega⟩;rw [K];exact ⟨rfl,rfl⟩
  have d:i=ws.length:=by
   have:¬i<ws.length:=by simpa using h
   omega
  rw [d,zam] at B;rcases s with ⟨C,rfl,rfl⟩ | ⟨C,rfl,rfl⟩
  ·simp only [push_cast,↓reduceIte,reduceCtorEq,zB,zE,zA,zS,zL,zD,zM]
  exact absurd B C
 have h5:=avi (ws.take i);have h3:(ws.take i).length<=1000:=by simp; omega
 have w:=ays (ws.take i);simp only [p9,o5,push_cast,↓reduceIte,reduceCtorEq,zB,zE,zA,zS,zL,zD,zM];refine b9 (λ h=>?_) (λ h=>?_)
 ·have A:i<ws.length:=by simpa using h
  obtain ⟨x,hx⟩:∃x,ws[i]?=some x:=⟨ws[i],by simp [A]⟩
  have J:IntKind.i64.wrap ((i:Int)+1)=(i:Int)+1:=a6 (by omega);have n:=ak8 hx;have h6:=n;generalize dk (ws.take i)=S at *;simp only [ck hx,dq hx,p9,o5,push_cast,↓reduceIte,reduceCtorEq,zB,zE,zA,zS,zL,zD,zM]
  refine c7 [(5,false),(6,false),(4,false),(0,false),(3,false)] (λ vs pos g=>∃f E:Nat,f<=E/\E<=S.length/\(∀j y,j<f->S[j]?=some y->y<x)/\(∀j y,E<=j->S[j]?=some y->x<=y) /\
   vs=[int .i64 f,int .i64 E,int .i64 i,.r (.sl 1 (s7 ws)),.own 2000000 0 0 S.length]/\pos=[]/\g=[o5 S])
   (λ vs _ _=>match vs with | .r (.v (.int _ a)) :: .r (.v (.int _ b))::_=>(b-a).toNat | _=>0) rfl ?_ ?_
  ·simp only [o5,push_cast,↓reduceIte,reduceCtorEq,zB,zE,zA,zS,zL,zD,zM];refine ⟨0,S.length,by omega,by omega,λ j y Z=>by omega,λ j y Z hy=>?_,rfl⟩;rw [zbj (by omega)] at hy;cases hy
  rintro vs pos g ⟨f,d,g1,L,g3,g4,rfl,rfl,rfl⟩;simp only [o5,p9,push_cast,↓reduceIte,reduceCtorEq,zB,zE,zA,zS,zL,zD,zM];refine b9 (λ hc=>?_) (λ hc=>?_)
  ·have G:f<d:=by simpa using hc
   obtain ⟨m,hm⟩:∃m,(f+d)/2=m:=⟨_,rfl⟩
   have Q:IntKind.i64.wrap ((f:Int)+d)=(f:Int)+d:=a6 (by omega);have w2:((f:Int)+d).tdiv 2=(m:Int):=by rw [Int.tdiv_eq_ediv_of_nonneg (by omega)]; omega
   have U:IntKind.i64.wrap (m:Int)=(m:Int):=a6 (by omega);have X:IntKind.i64.wrap ((m:Int)+1)=(m:Int)+1:=a6 (by omega);obtain ⟨ym,k⟩:∃y,S[m]?=some y:=⟨S[m]'(by omega),by simp [show m<S.length by omega]⟩
   simp only [Q,w2,U,X,ck hx,dq hx,ck k,dq k,o5,p9,push_cast,↓reduceIte,reduceCtorEq,zB,zE,zA,zS,zL,zD,zM]
   repeat refine sI ?_
   refine b9 (λ T=>?_) (λ T=>?_)
   ·have O:ym<x:=by simpa using T
    simp only [Q,w2,U,X,o5,p9,push_cast,↓reduceIte,reduceCtorEq,zB,zE,zA,zS,zL,zD,zM];refine ⟨⟨m+1,d,by omega,by omega,λ j y Z hy=>?_,g4,by simp⟩,by omega⟩;by_cases z:j=m
    ·subst z; rw [k] at hy; cases hy; exact O
    have:=(zat.1 w) j m (zag.1 hy).1 (zag.1 k).1 (by omega);rw [(zag.1 hy).2,(zag.1 k).2] at this;omega
   have V:x<=ym:=by simpa using T
   simp only [Q,w2,U,X,o5,p9,push_cast,↓reduceIte,reduceCtorEq,zB,zE,zA,zS,zL,zD,zM];refine ⟨⟨f,m,by omega,by omega,g3,λ j y Z hy=>?_,by simp⟩,by omega⟩;by_cases z:j=m
   ·subst z; rw [k] at hy; cases hy; exact V
   have:=(zat.1 w) m j (zag.1 k).1 (zag.1 hy).1 (by omega);rw [(zag.1 hy).2,(zag.1 k).2] at this;omega
  have G:f=d:=by
   have:¬f<d:=by simpa using hc
   omega
  subst G;have o:=a0v w L g3 g4;have wl:IntKind.i64.wrap ((f:Int)+1)=(f:Int)+1:=a6 (by omega);obtain ⟨W,gw,F,H,I⟩:=a0c S L;by_cases D:f<S.length
  ·obtain ⟨R,l⟩:∃y,S[f]?=some y:=⟨S[f],by simp [D]⟩
   have M:decide ((f:Int)<S.length)=true:=by simp; omega
   by_cases q:R=x
   ·have N:(R == x)=true:=by simp [q]
    have c:gy x S=S:=by unfold gy; rw [o,l,q,if_pos rfl]
    simp only [M,N,J,wl,ck hx,dq hx,ck l,dq l,o5,p9,push_cast,↓reduceIte,reduceCtorEq,zB,zE,zA,zS,zL,zD,zM]
    repeat refine sI ?_
    exact ⟨⟨i+1,by omega,.inr ⟨by rw [n,c]; exact B,by rw [n,c]; rfl,by rw [n,c]⟩⟩,by omega⟩
   have N:(R == x)=false:=by simp [q]
   have c:gy x S=S.take f++x::S.drop f:=by unfold gy; rw [o,l,if_neg (λ e=>q (Option.some.inj e))]
   obtain ⟨u,p⟩:=aln c L;simp only [M,N,J,wl,ck hx,dq hx,ck l,dq l,o5,p9,amf,F,H,push_cast,↓reduceIte,reduceCtorEq,zB,zE,zA,zS,zL,zD,zM]
   repeat refine sI ?_
   rw [I];exact ⟨⟨i+1,by omega,.inr ⟨by rw [n]; exact u,by rw [n,p]; simp,by rw [n,c]⟩⟩,by omega⟩
  have M:decide ((f:Int)<S.length)=false:=by simp; omega
  have c:gy x S=S.take f++x::S.drop f:=by unfold gy; rw [o,zbj (by omega),if_neg (by simp)]
  obtain ⟨u,p⟩:=aln c L;obtain ⟨x0,h2⟩:=apa S (0+((f:Int)).toNat);obtain ⟨x1,P⟩:=apa S ((f:Int)).toNat;simp only [M,J,wl,h2,P,ck hx,dq hx,o5,p9,amf,F,H,push_cast,↓reduceIte,reduceCtorEq,zB,zE,zA,zS,zL,zD,zM]
  repeat refine sI ?_
  rw [I];exact ⟨⟨i+1,by omega,.inr ⟨by rw [n]; exact u,by rw [n,p]; simp,by rw [n,c]⟩⟩,by omega⟩
 have d:i=ws.length:=by
  have:¬i<ws.length:=by simpa using h
  omega
 rw [d,zam] at B |-;rcases s with ⟨C,rfl,rfl⟩ | ⟨C,rfl,rfl⟩
 ·exact absurd C B
 simp only [o5,push_cast,↓reduceIte,reduceCtorEq,zB,zE,zA,zS,zL,zD,zM]
theorem aut (L:List Pt) (r:Nat):Up (l6 L r):=by
 have tr:∀x y z:Int,decide (x<=y)=true->decide (y<=z)=true->decide (x<=z)=true:=by simp; omega
 have c:∀x y:Int,(decide (x<=y)||decide (y<=x))=true:=by simp; omega
 have i:(l6 L r).Pairwise λ x y=>decide (x<=y)=true:=zbu tr c _;have f:(l6 L r).Pairwise λ x y=>x≠y:=(zbr _ _).nodup_iff.2 (zcf.2 ((tb _).imp λ {a b} d e=>d (by omega)))
 exact (i.and f).imp λ {a b} h=>by
  obtain ⟨g,j⟩:=h;simp at g;omega
def gr:Mk P0 f41:={ x:=_ }
theorem ass (ws:List Int) (a:ws.length<=1000):a9 P0 67 [.r (.sl 1 (s7 ws))] [] (.own 1000000 0 0 (dk ws).length) [o5 (dk ws)]:=by
 by_cases h:dk ws=[]
 ·have:=apq (axt ws a (.inl ⟨h,rfl,rfl⟩));rw [h];exact this
 exact axt ws a (.inr ⟨h,rfl,rfl⟩)
def i9 (L:List Pt):AV:=.r (.sl 4 (L.map Pt.rv))
variable {p:Pt}
theorem rq {L:List Pt} (h:L[i]?=some p) (z:RV):(L.map Pt.rv).getD i z=.agg [.v (.int .i64 p.k),.v (.int .i64 p.x),.v (.int .i64 p.y),.v (.int .i64 p.v)]:=by
 rw [zaq,zal,h]; rfl
def ws9 (L:List Pt) (r:Nat):List Int:=L.map λ p=>((p.w r:Nat):Int)
def aga (L:List Pt) (r:Nat):List Int:=dk (ws9 L r)
theorem aoa (L:List Pt) (G:L.length<=1000) (s:∀p∈L,p.ok) (r:Int) (D:0<=r/\r<=12) :
 a9 P0 41 [i9 L,int .i64 r] [] (.own 1000000 0 0 (aga L r.toNat).length) [o5 (aga L r.toNat)]:=by
 refine gr.t func41 ?_;have C:=o9;have j:decide (r>=0)=true:=decide_eq_true (by omega);have k:decide (r<=12)=true:=decide_eq_true (by omega);have c:=ass (ws9 L r.toNat) (by simp [ws9]; omega);have m:∀i,(ws9 (L.take i) r.toNat).length<=i:=λ i=>by unfold ws9; simp; omega
 push_cast [gr,i9,zab]
 refine c7 [(6,false),(0,false),(1,false),(5,false)] (λ vs pos d=>∃i:Nat,i<=L.length/\pos=[] /\
  (i=0/\vs=[int .i64 i,i9 L,int .i64 r,.nils 1 (.v (.int .u64 0))]/\d=[] \/
   i≠0/\vs=[int .i64 i,i9 L,int .i64 r,.own 2000000 0 0 (ws9 (L.take i) r.toNat).length]/\d=[o5 (ws9 (L.take i) r.toNat)]))
  (λ vs _ _=>match vs with | .r (.v (.int _ a))::_=>(L.length-a).toNat | _=>0) rfl ?_ ?_
 ·push_cast [i9]
  exact ⟨0,by omega,.inl ⟨rfl,by simp⟩⟩
 rintro vs pos d ⟨i,F,rfl,b⟩;have u:=m i;have A:IntKind.i64.wrap ((i:Int)+1)=(i:Int)+1:=a6 (by omega);by_cases E:i<L.length
 ·have g:decide ((i:Int)<(L.length:Int))=true:=decide_eq_true (by omega);obtain ⟨p,o⟩:∃p,L[i]?=some p:=⟨L[i],by simp [E]⟩
  have n:=s p (zao o);have f:=λ z=>rq o z;have B:=yh p.x p.y r n.2.1 D
  have h:ws9 (L.take (i+1)) r.toNat=ws9 (L.take i) r.toNat++[((p.w r.toNat:Nat):Int)]:=by
   unfold ws9;rw [zap,o,List.map_append]
   rfl
  rcases b with ⟨l,rfl,rfl⟩ | ⟨l,rfl,rfl⟩
  ·push_cast [i9,zaa,g,j,k,f,zac,zaf,zae]
   refine And.intro (by omega) (And.intro (by omega) ?_);refine n9 (as':=[int .i64 p.x,int .i64 p.y,int .i64 r]) rfl ?_;refine g9 B rfl trivial ?_
   push_cast [i9,uw,A,p9,zac,zaf,zae]
   refine And.intro (by simp) (And.intro (by omega) (And.intro (by kernel_rfl) ?_));subst l;exact ⟨⟨1,by omega,.inr ⟨by omega,by rw [h]; simp [ws9],by rw [h]; simp [ws9,o5,s7,Pt.w]⟩⟩,by omega⟩
  push_cast [i9,o5,zaa,g,j,k,f,zac,zaf,zae]
  refine And.intro (by omega) (And.intro (by omega) ?_);refine n9 (as':=[int .i64 p.x,int .i64 p.y,int .i64 r]) rfl ?_;refine g9 B rfl trivial ?_
  push_cast [i9,uw,A,p9,zac,zaf,zae]
  refine And.intro (by simp) (And.intro ⟨by omega,by omega⟩ (And.intro (by kernel_rfl) ?_));exact ⟨⟨i+1,by omega,.inr ⟨by omega,by rw [h]; simp,by rw [h]; simp [s7,Pt.w,zah]⟩⟩,by omega⟩
 have g:decide ((i:Int)<(L.length:Int))=false:=decide_eq_false (by omega);have q:i=L.length:=by omega
 rcases b with ⟨l,rfl,rfl⟩ | ⟨l,rfl,rfl⟩
 ·push_cast [i9,zaa,g,j,k]
  have e:ws9 L r.toNat=[]:=by
   have:L=[]:=List.eq_nil_of_length_eq_zero (by omega);rw [this]; rfl
  rw [e] at c;refine b7 (as':=[.r (.sl 1 (s7 []))]) rfl ?_;refine a7 c rfl trivial ?_;unfold aga
  push_cast [e,o5]
 push_cast [i9,o5,zaa,g,j,k]
 rw [q,zam];refine ar0 ?_;rw [zah (by rw [p9]; exact Nat.le_refl _)];refine a7 c rfl trivial ?_;unfold aga
 push_cast [o5]

def abc:Mk P0 f127:={ x:=_ }
def aeo:Mk P0 f96:={ x:=_ }
def afq:Mk P0 f64:={ x:=_ }
theorem a5m (w i:Nat) (c:w<18446744073709551616) (g:1<=i/\i<=12):a9 P0 127 [uw w,int .i64 i] [] (uw (dgt w i)) []:=by
 refine abc.t func127 ?_;have b:IntKind.i64.wrap ((i:Int)-1)=(i:Int)-1:=a6 (by omega);have a:IntKind.i64.wrap (3*((i:Int)-1))=3*((i:Int)-1):=a6 (by omega);have d:IntKind.i64.wrap (33-3*((i:Int)-1))=36-3*(i:Int):=by rw [a6 (by omega)]; omega
 have e:IntKind.u64.wrap (36-3*(i:Int))=36-3*(i:Int):=by simp [IntKind.wrap,IntKind.bits,IntKind.signed]; omega
 have f:IntKind.u64.wrap (zaw IntKind.u64.bits ((w:Int).fdiv (2^min (36-3*(i:Int)).toNat IntKind.u64.bits)) &&& zaw IntKind.u64.bits 7).toNat=(dgt w i:Int):=by
  rw [th (k:=36-3*i) (n:=3) (by omega) (by omega) (by decide) (by decide) c];rw [show 2^(36-3*i)=8^(12-i) by rw [show (8:Nat)=2^3 from rfl,<- Nat.pow_mul]; congr 1; omega]
  rfl
 push_cast [abc,uw,b,a,d,e,f,zab]
 omega
theorem aud (w:Nat) (F:w<18446744073709551616):a9 P0 96 [uw w] [] (.tup (if jv w then [cel (o6 w) (x9 w (o6 w)),int .i64 0] else [cel 0 ⟨0,0⟩,int .i64 5])) []:=by
 refine aeo.t func96 ?_;have s:(w:Int).fdiv (2^min (zbd 60) IntKind.u64.bits)=((w/1152921504606846976:Nat):Int):=avg (k:=60) rfl (by decide)
 have p:IntKind.i64.wrap (IntKind.u64.wrap (zaw IntKind.u64.bits ((w:Int).fdiv (2^min (zbd 56) IntKind.u64.bits)) &&& zaw IntKind.u64.bits 15).toNat)=(o6 w:Int):=by
  rw [th (k:=56) (n:=4) rfl (by decide) (by decide) (by decide) F];exact a6 (by omega)
 have u:IntKind.i64.wrap (IntKind.i64.wrap (IntKind.u64.wrap (zaw IntKind.u64.bits ((w:Int).fdiv (2^min (zbd 46) IntKind.u64.bits)) &&& zaw IntKind.u64.bits 1023).toNat)-512)=(x9 w 0).a:=by
  rw [th (k:=46) (n:=10) rfl (by decide) (by decide) (by decide) F,show ∀x:Nat,x<1024->IntKind.i64.wrap (IntKind.i64.wrap (x:Int)-512)=x-512 from λ x hx=>by rw [a6 (x:=(x:Int)) (by omega),a6 (by omega)]]
  ·rfl
  omega
 have O:IntKind.i64.wrap (IntKind.i64.wrap (IntKind.u64.wrap (zaw IntKind.u64.bits ((w:Int).fdiv (2^min (zbd 36) IntKind.u64.bits)) &&& zaw IntKind.u64.bits 1023).toNat)-512)=(x9 w 0).b:=by
  rw [th (k:=36) (n:=10) rfl (by decide) (by decide) (by decide) F,show ∀x:Nat,x<1024->IntKind.i64.wrap (IntKind.i64.wrap (x:Int)-512)=x-512 from λ x hx=>by rw [a6 (x:=(x:Int)) (by omega),a6 (by omega)]]
  ·rfl
  omega
 obtain ⟨T,hT⟩:∃T:Int,((w/1152921504606846976:Nat):Int)=T:=⟨_,rfl⟩
 obtain ⟨R,V⟩:∃R:Int,(o6 w:Int)=R:=⟨_,rfl⟩
 have Z:o6 w<16:=by unfold o6; omega
 rw [hT] at s;rw [V] at p;simp only [aeo,uw,s,p,u,O,push_cast,↓reduceIte,reduceCtorEq,zB,zE,zA,zS,zL,zD,zM];refine ⟨by decide,by decide,λ h=>by simp [h],?_⟩;refine b9 (λ h=>?_) (λ h=>?_)
 ·have y:jv w=false:=ac2 λ I=>by
   obtain ⟨w1,w2,_⟩:=I;have:¬R>12:=by omega
   have m:T=1:=by omega
   rw [m] at h;simp [this] at h
  rw [y];simp only [cel,push_cast,↓reduceIte,reduceCtorEq,zB,zE,zA,zS,zL,zD,zM]
 have m:T=1:=by
  by_cases hc:T=1
  ·exact hc
  have:(T != 1)=true:=by simp [hc]
  rw [this] at h;cases h
 rw [m] at h;have W:R<=12:=by simpa using h
 simp only [u,O,push_cast,↓reduceIte,reduceCtorEq,zB,zE,zA,zS,zL,zD,zM];refine ⟨by decide,by decide,?_⟩;subst V;clear s p u O h
 refine c7 [(6,false),(0,false),(4,false),(5,false),(2,false)] (λ vs pos D=>∃i:Nat,(1<=i/\i<=13)/\(∀j,1<=j->j<i->(dgt w j=7↔o6 w<j))/\vs=[int .i64 i,int .u64 w,int .i64 (o6 w),.ptr 2000000 0 0,.ptr 2000001 0 0]/\pos=[]/\D=[.box [int .i64 (min (i-1) (o6 w):Nat),int .i64 (x9 w (min (i-1) (o6 w))).a,int .i64 (x9 w (min (i-1) (o6 w))).b],.box [int .i64 0,int .i64 0,int .i64 0]])
  (λ vs _ _=>match vs with | .r (.v (.int _ j))::_=>(13-j).toNat | _=>0) rfl ?_ ?_
 ·simp only [push_cast,↓reduceIte,reduceCtorEq,zB,zE,zA,zS,zL,zD,zM];refine ⟨1,by omega,λ j g l=>by omega,rfl,?_⟩;rw [show min (1-1) (o6 w)=0 by omega]
  rfl
 rintro vs pos D ⟨i,U,Y,rfl,rfl,rfl⟩;obtain ⟨A,H⟩:∃A,min (i-1) (o6 w)=A:=⟨_,rfl⟩
 rw [H];simp only [push_cast,↓reduceIte,reduceCtorEq,zB,zE,zA,zS,zL,zD,zM];refine b9 (λ f=>?_) (λ f=>?_)
 ·have f:i<=12:=by simp at f; omega
  have h0:dgt w i<8:=Nat.mod_lt _ (by decide);have E:IntKind.i64.wrap ((i:Int)+1)=(i:Int)+1:=a6 (by omega);simp only [push_cast,↓reduceIte,reduceCtorEq,zB,zE,zA,zS,zL,zD,zM];refine b7 (as':=[uw w,int .i64 i]) rfl ?_;refine a7 (a5m w i F ⟨U.1,f⟩) rfl trivial ?_;by_cases c:¬(dgt w i=7↔o6 w<i)
  ·have y:jv w=false:=ac2 λ I=>c (I.2.2 i U.1 f);rw [y];by_cases g:dgt w i=7
   ·have l:¬o6 w<i:=λ l=>c ⟨λ _=>l,λ _=>g⟩;have s:(((dgt w i:Nat):Int) == 7)=true:=by rw [g]; rfl
    have p:decide ((i:Int)>(o6 w:Int))=false:=by simp; omega
    have u:(!(true == false))=true:=rfl;simp only [uw,s,p,u,cel,push_cast,↓reduceIte,reduceCtorEq,zB,zE,zA,zS,zL,zD,zM]
   have l:o6 w<i:=Decidable.byContradiction λ l=>c ⟨λ h=>absurd h g,λ h=>absurd h l⟩;have s:(((dgt w i:Nat):Int) == 7)=false:=by simp; omega
   have p:decide ((i:Int)>(o6 w:Int))=true:=by simp; omega
   have u:(!(false == true))=true:=rfl;simp only [uw,s,p,u,cel,push_cast,↓reduceIte,reduceCtorEq,zB,zE,zA,zS,zL,zD,zM]
  have c:=Decidable.not_not.1 c
  have q:∀j,1<=j->j<i+1->(dgt w j=7↔o6 w<j):=λ j g l=>by
   by_cases N:j=i
   ·subst N; exact c
   exact Y j g (by omega)
  by_cases hc:o6 w<i
  ·have z:=c.2 hc;have K:(((7:Nat):Int) == 7)=true:=rfl;have P:((7:Int) == 7)=true:=rfl;have Q:decide ((i:Int)>(o6 w:Int))=true:=by simp; omega
   have M:(true != true)=false:=rfl;rw [z];simp only [uw,K,P,Q,M,E,push_cast,↓reduceIte,reduceCtorEq,zB,zE,zA,zS,zL,zD,zM];refine ⟨⟨i+1,by omega,q,rfl,?_⟩,by omega⟩;rw [show min (i+1-1) (o6 w)=A by omega]
  have z:dgt w i≠7:=λ e=>hc (c.1 e);obtain rfl:A=i-1:=by omega
  have K:((dgt w i:Int) == 7)=false:=by simp; omega
  have Q:decide ((i:Int)>(o6 w:Int))=false:=by simp; omega
  have M:(false != false)=false:=rfl;have X:=ag4 w (i-1) (by omega);have J:=ag4 w i f;have C:((x9 w (i-1)).mul y7).In 10000000000000:=(aa7 X (show y7.In 2 by unfold Ei.In; decide)).mono (by decide)
  have d:x9 w i=sg (x9 w (i-1)) (dgt w i):=by
   conv=>lhs; rw [show i=i-1+1 by omega]
   rw [x9,show i-1+1=i by omega]
  simp only [uw,K,Q,M,E,push_cast,↓reduceIte,reduceCtorEq,zB,zE,zA,zS,zL,zD,zM];refine b7 (as':=[(x9 w (i-1)).v,y7.v]) rfl ?_;refine a7 (af2 _ _ (X.mono (by decide)) (show y7.In _ by unfold Ei.In; decide) (C.mono (by decide))) rfl trivial ?_;simp only [Ei.v,Ei.rv,push_cast,↓reduceIte,reduceCtorEq,zB,zE,zA,zS,zL,zD,zM];refine b9 (λ L=>?_) (λ L=>?_)
  ·have G:0<dgt w i:=by simp at L; omega
   have wd:IntKind.i64.wrap (dgt w i:Int)=(dgt w i:Int):=a6 (by omega);have S:IntKind.i64.wrap ((dgt w i:Int)-1)=(dgt w i:Int)-1:=a6 (by omega)
   have o:sg (x9 w (i-1)) (dgt w i)=((x9 w (i-1)).mul y7).add (uni (dgt w i-1)):=by
    unfold sg;rw [if_neg (by omega)]
   rw [o] at d;simp only [wd,S,push_cast,↓reduceIte,reduceCtorEq,zB,zE,zA,zS,zL,zD,zM];refine g9 (aqa ((dgt w i:Int)-1) (by omega)) rfl trivial ?_;rw [show ((dgt w i:Int)-1).toNat=dgt w i-1 by omega];have hu:(uni (dgt w i-1)).In 1:=by unfold uni; split<;>unfold Ei.In<;>decide
   simp only [Ei.v,Ei.rv,push_cast,↓reduceIte,reduceCtorEq,zB,zE,zA,zS,zL,zD,zM];refine n9 (as':=[((x9 w (i-1)).mul y7).v,(uni (dgt w i-1)).v]) rfl ?_;refine g9 (a3q _ _ (C.mono (by decide)) (hu.mono (by decide)) (by rw [<- d]; exact J.mono (by decide))) rfl trivial ?_;rw [<- d];simp only [E,Ei.v,Ei.rv,push_cast,↓reduceIte,reduceCtorEq,zB,zE,zA,zS,zL,zD,zM]
   repeat refine sI ?_
   refine ⟨⟨i+1,by omega,q,rfl,?_⟩,by omega⟩;rw [show min (i+1-1) (o6 w)=i by omega]
  have G:dgt w i=0:=by simp at L; omega
  have o:sg (x9 w (i-1)) (dgt w i)=(x9 w (i-1)).mul y7:=by
   unfold sg;rw [if_pos (by omega)]
  rw [o] at d;simp only [E,push_cast,↓reduceIte,reduceCtorEq,zB,zE,zA,zS,zL,zD,zM];refine ⟨⟨i+1,by omega,q,rfl,?_⟩,by omega⟩;rw [show min (i+1-1) (o6 w)=i by omega,d]
 have f:i=13:=by simp at f; omega
 subst f;obtain rfl:A=o6 w:=by omega
 have B:jv w=true:=(xn w).2 ⟨by omega,by omega,λ j g l=>Y j g (by omega)⟩;rw [B];simp only [cel,push_cast,↓reduceIte,reduceCtorEq,zB,zE,zA,zS,zL,zD,zM]
theorem a4w (w:Nat) (b:w<18446744073709551616):a9 P0 64 [uw w] [] (int .i64 (if jv w then (o6 w:Int) else -1)) []:=by
 refine afq.t func64 ?_
 push_cast [afq,uw,zab]
 refine b7 (as':=[uw w]) rfl ?_;refine a7 (aud w b) rfl trivial ?_;cases jv w with
 | true=>
   have a:((0:Int) != 0)=false:=rfl
   push_cast [cel,a,if_true]
 | false=>
   have a:((5:Int) != 0)=true:=rfl
   push_cast [cel,a,if_false,zcg]

def vm:Mk P0 f39:={ x:=_ }
theorem anj (p:Pt):loV (M++[p])=if M=[] then p.v else min (loV M) p.v:=by
 cases M with
 | nil=>rfl
 | cons q l=>simp [loV,List.foldl_append]
theorem anq (p:Pt):hiV (M++[p])=if M=[] then p.v else max (hiV M) p.v:=by
 cases M with
 | nil=>rfl
 | cons q l=>simp [hiV,List.foldl_append]
theorem ak7 (p:Pt):ef (M++[p])=ef M+p.v:=by simp [ef,List.sum_append]
theorem aib {L:List Pt} {w:Nat} (h:L[i]?=some p):mem (L.take (i+1)) w=mem (L.take i) w++(if inC w p then [p] else []):=by
 unfold mem;rw [zap,h,zby];simp only [Option.toList_some,zax,List.filter_nil]
theorem aid {L:List Pt} (a:∀p∈L,p.ok) {w:Nat} (h:jv w=false):mem L w=[]:=by
 unfold mem;rw [zbz];intro p b e;obtain ⟨r,c,d⟩:=qi.1 e;have:=(Pt.w_res (a p b) c).1;rw [d,h] at this;cases this
theorem agr {L:List Pt} (a:∀p∈L,p.ok) (i:Nat):∀p∈L.take i,p.ok:=λ p b=>a p (List.mem_of_mem_take b)
theorem at3 {L:List Pt} (b:∀p∈L,p.ok) (w:Nat):(mem L w).length<=L.length/\(-2147483648*((mem L w).length:Int)<=ef (mem L w)/\ef (mem L w)<=2147483648*((mem L w).length:Int))/\(-2147483648<=loV (mem L w)/\loV (mem L w)<=2147483647)/\(-2147483648<=hiV (mem L w)/\hiV (mem L w)<=2147483647):=by
 have a:∀p∈mem L w,p.ok:=λ p d=>b p (zak.1 d).1;refine ⟨zch _ _,ak6 _ a,?_,?_⟩
 ·by_cases h:mem L w=[]
  ·rw [h]; decide
  obtain ⟨q,c,e⟩:=(ajk h).1;have:=(a q c).2.2;omega
 by_cases h:mem L w=[]
 ·rw [h]; decide
 obtain ⟨q,c,e⟩:=(ajm h).1;have:=(a q c).2.2;omega
def bxM (M:List Pt) (w:Nat):List AV:=[int .u64 (if M=[] then 0 else (w:Int)),int .i64 M.length,int .i64 (ef M),int .i64 (loV M),int .i64 (hiV M)]
theorem ams (L:List Pt) (U:L.length<=1000) (j:∀p∈L,p.ok) (w:Nat) (R:w<18446744073709551616) :
 a9 P0 39 [i9 L,int .u64 w] [] (dw L w) []:=by
 refine vm.t func39 ?_;simp only [vm,i9,push_cast,↓reduceIte,reduceCtorEq,zB,zE,zA,zS,zL,zD,zM];refine b7 (as':=[uw w]) rfl ?_;refine a7 (azl w R) rfl trivial ?_;cases hB:jv w with
 | false=>
   have A:((5:Int) != 0)=true:=rfl;have N:dw L w=.tup [.r (Sa.rv ⟨0,0,0,0,0⟩),bl false]:=by unfold dw; rw [if_pos (aid j hB)]
   rw [N];simp only [cel,A,Sa.rv,push_cast,↓reduceIte,reduceCtorEq,zB,zE,zA,zS,zL,zD,zM]
 | true=>
   have A:((0:Int) != 0)=false:=rfl;have O:o6 w<=12:=((xn w).1 hB).2.1;obtain ⟨r,l⟩:∃r,o6 w=r:=⟨_,rfl⟩
   rw [l] at O |-;simp only [cel,A,push_cast,↓reduceIte,reduceCtorEq,zB,zE,zA,zS,zL,zD,zM]
   refine c7 [(9,false),(0,false),(1,false),(7,false),(6,false),(4,false)] (λ vs pos k=>∃i:Nat,i<=L.length/\pos=[] /\
    vs=[int .i64 i,i9 L,int .u64 w,.ptr 2000000 0 0,.ptr 2000001 0 0,.ptr 2000002 0 0] /\
    k=[.box [int .i64 r,int .i64 (x9 w r).a,int .i64 (x9 w r).b],.box (bxM (mem (L.take i) w) w),.box [int .u64 0,int .i64 0,int .i64 0,int .i64 0,int .i64 0]])
    (λ vs _ _=>match vs with | .r (.v (.int _ a))::_=>(L.length-a).toNat | _=>0) rfl ?_ ?_
   ·simp only [i9,push_cast,↓reduceIte,reduceCtorEq,zB,zE,zA,zS,zL,zD,zM];exact ⟨0,by omega,rfl,rfl⟩
   rintro vs pos k ⟨i,T,rfl,rfl,rfl⟩;have s:IntKind.i64.wrap ((i:Int)+1)=(i:Int)+1:=a6 (by omega);obtain ⟨q,K,G,E⟩:=at3 (agr j i) w;have q:(mem (L.take i) w).length<=1000:=by rw [zaj] at q; omega
   by_cases S:i<L.length
   ·have D:decide ((i:Int)<(L.length:Int))=true:=decide_eq_true (by omega);obtain ⟨p,B⟩:∃p,L[i]?=some p:=⟨L[i],by simp [S]⟩
    have f:=j p (zao B);have g:=λ z=>rq B z;have o:=yh p.x p.y r f.2.1 ⟨by omega,by omega⟩;rw [zac] at o;have d:=aib (w:=w) B;have n:=ad5 f (show r<13 by omega) l;obtain ⟨M,P⟩:∃M,mem (L.take i) w=M:=⟨_,rfl⟩
    rw [P] at d q K G E |-;simp only [i9,bxM,D,g,zac,zaf,zae,push_cast,↓reduceIte,reduceCtorEq,zB,zE,zA,zS,zL,zD,zM];refine And.intro (by omega) (And.intro (by omega) ?_);refine n9 (as':=[int .i64 p.x,int .i64 p.y,int .i64 r]) rfl ?_;refine g9 o rfl trivial ?_;simp only [i9,uw,s,zac,zaf,zae,push_cast,↓reduceIte,reduceCtorEq,zB,zE,zA,zS,zL,zD,zM];refine And.intro (by kernel_rfl) ?_;refine b9 (λ hc=>?_) (λ hc=>?_)
    ·have h:¬p.w r=w:=λ e=>by
      rw [show uc p.x p.y r=p.w r from rfl,e] at hc;simp at hc
     rw [n,decide_eq_false h] at d;simp only [zcg,if_false,zas] at d;simp only [s,push_cast,↓reduceIte,reduceCtorEq,zB,zE,zA,zS,zL,zD,zM];exact ⟨⟨i+1,by omega,by simp [i9],by rw [d]⟩,by omega⟩
    have h:p.w r=w:=by
     have:(uc p.x p.y r:Int)=w:=by simpa using hc
     exact (by omega:uc p.x p.y r=w)
    rw [n,decide_eq_true h] at d;simp only [if_true] at d;have F:IntKind.i64.wrap ((M.length:Int)+1)=(M.length:Int)+1:=a6 (by omega);have Q:=f.2.2;have J:IntKind.i64.wrap (ef M+p.v)=ef M+p.v:=a6 (by omega);have H:IntKind.i64.wrap (0+1)=1:=rfl;have I:IntKind.i64.wrap (0+p.v)=p.v:=by rw [a6 (by omega)]; omega
    by_cases c:M=[]
    ·subst c;have m:((0:Int) == 0)=true:=rfl;simp only [i9,g,m,s,F,J,H,I,zac,zaf,zae,push_cast,↓reduceIte,reduceCtorEq,zB,zE,zA,zS,zL,zD,zM];refine ⟨by omega,⟨i+1,by omega,by simp [i9],?_⟩,by omega⟩;rw [d];simp [bxM,ef,loV,hiV]
    have u:M.length≠0:=λ e=>c (zar.1 e);have m:((M.length:Int) == 0)=false:=beq_eq_false_iff_ne.2 (by omega);simp only [i9,g,m,s,F,J,H,I,zac,zaf,zae,push_cast,↓reduceIte,reduceCtorEq,zB,zE,zA,zS,zL,zD,zM];refine ⟨by omega,⟨i+1,by omega,by simp [i9],?_⟩,by omega⟩;rw [d];simp [bxM,c,ak7,anj,anq]
   have D:decide ((i:Int)<(L.length:Int))=false:=decide_eq_false (by omega);have C:i=L.length:=by omega
   subst C;rw [zam] at q K G E |-;simp only [i9,bxM,D,push_cast,↓reduceIte,reduceCtorEq,zB,zE,zA,zS,zL,zD,zM];refine ⟨by kernel_rfl,?_⟩;unfold dw fm;by_cases c:mem L w=[]
   ·rw [if_pos c,c]
    rfl
   have u:(mem L w).length≠0:=λ e=>c (zar.1 e);have m:decide (((mem L w).length:Int)>0)=true:=decide_eq_true (by omega);rw [if_neg c,if_neg c,if_neg c,m]
   rfl

def ahc:Mk P0 f65:={ x:=_ }
def ael:Mk P0 f98:={ x:=_ }
def agf:PC:=
 (.seq (.reg [p_s 6 (.mov (.c (.nils 4 (.agg [(.v (.int .i64 0)),(.v (.int .i64 0)),(.v (.int .i64 0)),(.v (.int .i64 0))]))))])
 (.seq (.reg [p_m 10 0,p_m 11 1,p_s 12 (.sll 4 (.t 10) (some (.t 11)) none none)])
 (.seq (.reg [p_m 13 2,p_s 14 (.len false (.t 13)),p_m 7 14])
 (.seq (.seq (.reg [p_m 15 7,p_s 16 (.bin .eql (.t 15) (o_i 0))])
 (.cond (.t 16)
 (.seq (.reg [p_m 17 0,p_m 6 17])
 .ret)
 .skip))
 (.seq (.reg [p_m 18 0,p_s 19 (.len false (.t 18)),p_m 8 19])
 (.seq (.seq (.reg [p_m 20 1,p_m 21 8,p_s 22 (.bin .eql (.t 20) (.t 21))])
 (.cond (.t 22)
 (.seq (.reg [p_m 23 0,p_m 24 2,p_a 25 (.app 4 (.agg [(.v (.int .i64 0)),(.v (.int .i64 0)),(.v (.int .i64 0)),(.v (.int .i64 0))]) 32 (.t 23) (.t 24)),p_m 6 25])
 .ret)
 .skip))
 (.seq (.seq (.reg [p_m 26 8,p_m 27 7,p_s 28 (.bin .add (.t 26) (.t 27)),p_m 29 0,p_s 30 (.no),p_s 31 (.bin .gtr (.t 28) (.t 30))])
 (.cond (.t 31)
 (.seq (.reg [p_m 32 0,p_m 33 1,p_s 34 (.sll 4 (.t 32) none (some (.t 33)) none),p_m 35 8,p_m 36 7,p_s 37 (.bin .add (.t 35) (.t 36)),p_m 38 1,p_s 39 (.bin .sub (.t 37) (.t 38)),
 p_s 40 (.no),p_m 9 40])
 (.seq (.reg [p_m 41 9,p_m 42 1,p_s 43 (.sll 4 (.t 41) (some (.t 42)) none none),p_m 44 2,p_a 45 (.cpy 4 (.t 43) (.t 44))])
 (.seq (.drw [p_m 46 9,p_m 47 1,p_m 48 7,p_s 49 (.bin .add (.t 47) (.t 48)),p_s 50 (.sll 4 (.t 46) (some (.t 49)) none none),p_m 51 0,p_m 52 1,p_s 53 (.sll 4 (.t 51) (some (.t 52)) none none),
 p_a 54 (.cpy 4 (.t 50) (.t 53))]
 [[],[],[],[1,2],[0,1,2,3],[],[],[5,6],[0,1,2,3,4,5,6,7]])
 (.seq (.reg [p_m 55 9,p_m 6 55])
 .ret))))
 .skip))
 (.seq (.reg [p_m 56 0,p_m 57 8,p_m 58 7,p_s 59 (.bin .add (.t 57) (.t 58)),p_s 60 (.sll 4 (.t 56) none (some (.t 59)) none),p_m 0 60])
 (.seq (.seq (.reg [p_m 61 2,p_m 62 0,p_m 63 1,p_m 64 7,p_s 65 (.bin .add (.t 63) (.t 64)),p_s 66 (.sll 4 (.t 62) (some (.t 65)) none none),p_s 67 (.no),p_s 68 (.un .not (.t 67))])
 (.cond (.t 68)
 (.seq (.drw [p_m 69 0,p_m 70 1,p_m 71 7,p_s 72 (.bin .add (.t 70) (.t 71)),p_s 73 (.sll 4 (.t 69) (some (.t 72)) none none),p_m 74 0,p_m 75 1,p_s 76 (.sll 4 (.t 74) (some (.t 75)) none none),
 p_a 77 (.cpy 4 (.t 73) (.t 76))]
 [[],[],[],[1,2],[0,1,2,3],[],[],[5,6],[0,1,2,3,4,5,6,7]])
 (.seq (.reg [p_m 78 0,p_m 79 1,p_s 80 (.sll 4 (.t 78) (some (.t 79)) none none),p_m 81 2,p_a 82 (.cpy 4 (.t 80) (.t 81))])
 (.seq (.reg [p_m 83 0,p_m 6 83])
 .ret)))
 .skip))
 (.seq (.reg [p_m 84 0,p_m 85 8,p_s 86 (.sll 4 (.t 84) (some (.t 85)) none none),p_m 87 2,p_a 88 (.cpy 4 (.t 86) (.t 87))])
 (.seq (.reg [p_m 89 0,p_m 90 1,p_s 91 (.sll 4 (.t 89) (some (.t 90)) none none),p_m 92 7,p_c 93 1 100 [.t 91,.t 92]])
 (.seq (.reg [p_m 94 0,p_m 6 94])
 .ret))))))))))))
theorem aip:Fun P0 66 3 [(6,false,none)] agf:=rr func66 rfl (by decide) (by kernel_rfl) (by decide) rfl (by kernel_rfl) (by kernel_rfl) (by decide)
def zd:Mk P0 f97:={ x:=_ }
theorem avr (p:Pt) (k:Int):a9 P0 98 [p.av,int .i64 k] [] (int .i64 (if p.k<k then -1 else if p.k>k then 1 else 0)) []:=by
 refine ael.t func98 ?_
 push_cast [ael,Pt.av,Pt.rv,zab]
 refine b9 (λ h=>?_) (λ h=>?_)
 ·have h:=of_decide_eq_true h
  push_cast [if_pos h]
 have h:=of_decide_eq_false h
 push_cast
 refine b9 (λ a=>?_) (λ a=>?_)
 ·have a:=of_decide_eq_true a
  push_cast [if_neg h,if_pos a]
 have a:=of_decide_eq_false a
 push_cast [if_neg h,if_neg a]
def i7 (L:List Pt):Ob:=.row 4 (Pt.rv ⟨0,0,0,0⟩) true true (L.map Pt.rv)
theorem a5q (L:List Pt) (y:L.length<=2000) (k:Int) (h:∀p∈L,p.k<k) :
 a9 P0 97 [i9 L,int .i64 k,.fn (.func 98) [] 0] [] (.tup [int .i64 L.length,bl false]) []:=by
 refine zd.t func97 ?_;simp only [zd,i9,push_cast,↓reduceIte,reduceCtorEq,zB,zE,zA,zS,zL,zD,zM]
 refine c7 [(9,false),(10,false),(0,false),(1,false),(2,false),(8,false)] (λ vs pos b=>∃i:Nat,i<=L.length/\vs=[int .i64 i,int .i64 L.length,i9 L,int .i64 k,.fn (.func 98) [] 0,int .i64 L.length]/\pos=[]/\b=[])
  (λ vs _ _=>match vs with | .r (.v (.int _ a))::_=>(L.length-a).toNat | _=>0) rfl ?_ ?_
 ·simp only [i9,push_cast,↓reduceIte,reduceCtorEq,zB,zE,zA,zS,zL,zD,zM];exact ⟨0,by omega,rfl⟩
 rintro vs pos b ⟨i,x,rfl,rfl,rfl⟩;simp only [i9,push_cast,↓reduceIte,reduceCtorEq,zB,zE,zA,zS,zL,zD,zM];refine b9 (λ e=>?_) (λ e=>?_)
 ·have c:i<L.length:=by simpa using e
  obtain ⟨m,w⟩:∃m,(i+L.length)/2=m:=⟨_,rfl⟩
  have n:IntKind.i64.wrap ((i:Int)+L.length)=(i:Int)+L.length:=a6 (by omega);have l:IntKind.u64.wrap ((i:Int)+L.length)=(i:Int)+L.length:=by rw [IntKind.wrap_u64]; omega
  have o:((i:Int)+L.length).fdiv (2^min (zbd 1) IntKind.u64.bits)=m:=by rw [show (2:Int)^min (zbd 1) IntKind.u64.bits=2 from rfl,Int.fdiv_eq_ediv_of_nonneg _ (by decide)]; omega
  have q:IntKind.i64.wrap (m:Int)=m:=a6 (by omega);have j:IntKind.i64.wrap ((m:Int)+1)=m+1:=a6 (by omega);obtain ⟨p,g⟩:∃p,L[m]?=some p:=⟨L[m]'(by omega),by simp [show m<L.length by omega]⟩
  have d:=λ z=>rq g z;have f:=h p (zao g);simp only [i9,n,l,o,q,j,d,zac,zaf,zae,push_cast,↓reduceIte,reduceCtorEq,zB,zE,zA,zS,zL,zD,zM]
  repeat refine sI ?_
  refine b7 (as':=[p.av,int .i64 k]) rfl ?_;refine a7 (avr p k) rfl trivial ?_;have u:decide ((-1:Int)<0)=true:=rfl;simp only [if_pos f,u,j,i9,push_cast,↓reduceIte,reduceCtorEq,zB,zE,zA,zS,zL,zD,zM];exact ⟨⟨m+1,by omega,by simp [i9]⟩,by omega⟩
 have c:i=L.length:=by
  have:¬i<L.length:=by simpa using e
  omega
 subst c;have s:decide ((L.length:Int)<L.length)=false:=decide_eq_false (by omega);simp only [i9,s,push_cast,↓reduceIte,reduceCtorEq,zB,zE,zA,zS,zL,zD,zM]
theorem azj (L:List Pt) (a:L.length<=2000) (k:Int) (h:∀p∈L,p.k<k) :
 a9 P0 65 [i9 L,int .i64 k] [] (.tup [int .i64 L.length,bl false]) []:=by
 refine ahc.t func65 ?_
 push_cast [ahc,i9,zab]
 refine b7 (as':=[i9 L,int .i64 k,.fn (.func 98) [] 0]) rfl ?_;refine a7 (a5q L a k h) rfl trivial ?_
 push_cast
theorem a3f (L:List Pt) (f:L.length<=2000) (p:Pt) :
 a9 P0 66 [.own 1000000 0 0 L.length,int .i64 L.length,.own 1000001 0 0 1] [i7 L,i7 [p]] (.own 1000000 0 0 (L++[p]).length) [i7 (L++[p]),i7 [p]]:=by
 refine aip rfl (by simp) ?_;have a:=o9;have e:L.length<=(L.map Pt.rv).length:=by simp
 have c:((1:Int) == 0)=false:=rfl;have b:((L.length:Int) == L.length)=true:=by simp
 have d:zai L.length (L.map Pt.rv)=L.map Pt.rv:=zah (by simp)
 push_cast [agf,i7,c,b,d,zab,zad,zaa]
 repeat refine sI ?_
 simp
def abr:Mk P0 f40:={ x:=_ }
def bxP (M:List Pt) (w:Nat):List AV:=[int .u64 w,int .i64 M.length,int .i64 (ef M),int .i64 (loV M),int .i64 (hiV M)]
theorem a2s (L:List Pt) (hL:L.length<=1000) (f:∀p∈L,p.ok) (T:(L.map (·.k)).Pairwise (· < ·)) (w:Nat) (hw:w<18446744073709551616) :
 a9 P0 40 [i9 L,int .u64 w] [] (dw L w) []:=by
 refine abr.t func40 ?_;have h3:=o9;simp only [abr,i9,push_cast,↓reduceIte,reduceCtorEq,zB,zE,zA,zS,zL,zD,zM];refine b7 (as':=[uw w]) rfl ?_;refine a7 (a4w w hw) rfl trivial ?_;obtain ⟨r,P⟩:∃r:Int,(if jv w then (o6 w:Int) else -1)=r:=⟨_,rfl⟩
 rw [P];simp only [i9,push_cast,↓reduceIte,reduceCtorEq,zB,zE,zA,zS,zL,zD,zM]
 refine c7 [(21,false),(20,false),(19,false),(8,true),(6,false),(1,false),(7,false),(4,false)] (λ vs pos c=>∃i:Nat,i<=L.length/\pos=[] /\
  vs=[int .i64 i,int .i64 L.length,i9 L,.own 2000000 0 0 i,int .i64 r,int .u64 w,.ptr 2000001 0 0,.ptr 2000002 0 0] /\
  c=[i7 (L.take i),.box [int .u64 w,int .i64 0,int .i64 0,int .i64 0,int .i64 0],.box [int .u64 0,int .i64 0,int .i64 0,int .i64 0,int .i64 0]])
  (λ vs _ _=>match vs with | .r (.v (.int _ a))::_=>(L.length-a).toNat | _=>0) rfl ?_ ?_
 ·simp only [i9,i7,push_cast,↓reduceIte,reduceCtorEq,zB,zE,zA,zS,zL,zD,zM];exact ⟨0,by omega,rfl,rfl⟩
 rintro vs pos c ⟨i,hi,rfl,rfl,rfl⟩;have x:IntKind.i64.wrap ((i:Int)+1)=(i:Int)+1:=a6 (by omega);by_cases J:i<L.length
 ·have h:decide ((i:Int)<(L.length:Int))=true:=decide_eq_true (by omega);obtain ⟨p,m⟩:∃p,L[i]?=some p:=⟨L[i],by simp [J]⟩
  have d:=f p (zao m);have b:=λ z=>rq m z;have y:(L.take i).length=i:=by simp; omega
  have O:∀q∈L.take i,q.k<p.k:=λ q hq=>by
   obtain ⟨j,E⟩:=zan hq;rw [zbh] at E;split at E
   ·have h1:=(zag.1 E).1;have h2:=(zat.1 T) j i (by simpa using h1) (by simpa using J) (by assumption);rw [zbt,zbt,(zag.1 E).2,(zag.1 m).2] at h2;exact h2
   cases E
  have H:=azj (L.take i) (by omega) p.k O;have F:=a3f (L.take i) (by omega) p;have S:L.take (i+1)=L.take i++[p]:=by rw [zap,m]; rfl
  rw [y] at H F;have B:(zbb Pt.rv (L.take i)).length=i:=by rw [zaa,y]
  have Z:zai i (zbb Pt.rv (L.take i))=zbb Pt.rv (L.take i):=zah (by omega);simp only [i9,i7,h,b,B,Z,zac,zaf,zae,push_cast,↓reduceIte,reduceCtorEq,zB,zE,zA,zS,zL,zD,zM]
  repeat refine sI ?_
  refine bh ?_;simp only [push_cast,↓reduceIte,reduceCtorEq,zB,zE,zA,zS,zL,zD,zM];refine cp H rfl trivial (by simp [u7,ec,y8]) (by simp) ?_;simp only [i7,push_cast,↓reduceIte,reduceCtorEq,zB,zE,zA,zS,zL,zD,zM];refine b7 (as':=[p.av]) rfl ?_;refine a7 (ago p) rfl trivial ?_;have A:decide ((i:Int)>=2000)=false:=decide_eq_false (by omega);rw [decide_eq_true d];simp only [i7,A,B,Z,push_cast,↓reduceIte,reduceCtorEq,zB,zE,zA,zS,zL,zD,zM]
  repeat refine sI ?_
  refine auy ?_;simp only [i7,push_cast,↓reduceIte,reduceCtorEq,zB,zE,zA,zS,zL,zD,zM];refine b7 (as':=[.own 1000000 0 0 i,int .i64 i,.own 1000001 0 0 1]) rfl ?_;refine a7 F rfl (by simp [i7,k7]) ?_;have Q:(zai i L++[p]).length=i+1:=by simp; omega
  push_cast [i7,Q,x];exact ⟨⟨i+1,by omega,by simp [i9,S]⟩,by omega⟩
 have h:decide ((i:Int)<(L.length:Int))=false:=decide_eq_false (by omega);have o:i=L.length:=by omega
 subst o;rw [zam];simp only [i9,i7,h,push_cast,↓reduceIte,reduceCtorEq,zB,zE,zA,zS,zL,zD,zM]
 refine c7 [(59,false),(58,false),(57,false),(6,false),(1,false),(7,false),(4,false)] (λ vs pos c=>∃i:Nat,i<=L.length/\pos=[] /\
  vs=[int .i64 i,int .i64 L.length,.own 2000000 0 0 L.length,int .i64 r,int .u64 w,.ptr 2000001 0 0,.ptr 2000002 0 0] /\
  c=[i7 L,.box (bxP (mem (L.take i) w) w),.box [int .u64 0,int .i64 0,int .i64 0,int .i64 0,int .i64 0]])
  (λ vs _ _=>match vs with | .r (.v (.int _ a))::_=>(L.length-a).toNat | _=>0) rfl ?_ ?_
 ·simp only [i9,i7,push_cast,↓reduceIte,reduceCtorEq,zB,zE,zA,zS,zL,zD,zM];exact ⟨0,by omega,rfl,rfl⟩
 rintro vs pos c ⟨i,hi,rfl,rfl,rfl⟩;have x:IntKind.i64.wrap ((i:Int)+1)=(i:Int)+1:=a6 (by omega);obtain ⟨I,b2,W,U⟩:=at3 (agr f i) w;have I:(mem (L.take i) w).length<=1000:=by rw [zaj] at I; omega
 by_cases J:i<L.length
 ·have h:decide ((i:Int)<(L.length:Int))=true:=decide_eq_true (by omega);obtain ⟨p,m⟩:∃p,L[i]?=some p:=⟨L[i],by simp [J]⟩
  have d:=f p (zao m);have b:=λ z=>rq m z;have l:=aib (w:=w) m;cases hB:jv w with
  | false=>
    obtain rfl:r=-1:=by rw [<- P,hB]; rfl
    rw [aid (agr f i) hB];have N:=aid (agr f (i+1)) hB;have A:decide ((-1:Int)<0)=true:=rfl;simp only [i9,i7,h,A,b,x,bxP,zac,zaf,zae,push_cast,↓reduceIte,reduceCtorEq,zB,zE,zA,zS,zL,zD,zM]
    repeat refine sI ?_
    exact ⟨⟨i+1,by omega,by simp,by rw [N]; rfl⟩,by omega⟩
  | true=>
    have G:o6 w<=12:=((xn w).1 hB).2.1;obtain ⟨R,n⟩:∃R,o6 w=R:=⟨_,rfl⟩
    obtain rfl:r=(R:Int):=by rw [<- P,hB,n]; rfl
    rw [n] at G;have C:=agj p R d (by omega);rw [zac] at C;have D:=ad5 d (show R<13 by omega) n;obtain ⟨M,hM⟩:∃M,mem (L.take i) w=M:=⟨_,rfl⟩
    rw [hM] at l I b2 W U |-;have A:decide ((R:Int)<0)=false:=decide_eq_false (by omega);simp only [i9,i7,h,A,b,bxP,zac,zaf,zae,push_cast,↓reduceIte,reduceCtorEq,zB,zE,zA,zS,zL,zD,zM]
    repeat refine sI ?_
    refine b7 (as':=[p.av,int .i64 R]) rfl ?_;refine a7 C rfl trivial ?_;simp only [i9,i7,uw,bxP,zac,zaf,zae,push_cast,↓reduceIte,reduceCtorEq,zB,zE,zA,zS,zL,zD,zM];refine b9 (λ hc=>?_) (λ hc=>?_)
    ·have u:¬p.w R=w:=λ e=>by
      rw [e] at hc;simp at hc
     rw [D,decide_eq_false u] at l;simp only [zcg,if_false,zas] at l;simp only [x,i7,bxP,push_cast,↓reduceIte,reduceCtorEq,zB,zE,zA,zS,zL,zD,zM];exact ⟨⟨i+1,by omega,by simp,by rw [l]⟩,by omega⟩
    have u:p.w R=w:=by
     have:(p.w R:Int)=w:=by simpa using hc
     exact (by omega:p.w R=w)
    rw [D,decide_eq_true u] at l;simp only [if_true] at l;have V:IntKind.i64.wrap ((M.length:Int)+1)=(M.length:Int)+1:=a6 (by omega);have h4:=d.2.2;have w2:IntKind.i64.wrap (ef M+p.v)=ef M+p.v:=a6 (by omega);have X:IntKind.i64.wrap (0+1)=1:=rfl;have Y:IntKind.i64.wrap (0+p.v)=p.v:=by rw [a6 (by omega)]; omega
    by_cases g:M=[]
    ·subst g;have s:((0:Int) == 0)=true:=rfl;simp only [i7,bxP,b,s,x,V,w2,X,Y,zac,zaf,zae,push_cast,↓reduceIte,reduceCtorEq,zB,zE,zA,zS,zL,zD,zM]
     repeat refine sI ?_
     refine ⟨⟨i+1,by omega,by simp,?_⟩,by omega⟩;rw [l];simp [ef,loV,hiV]
    have K:M.length≠0:=λ e=>g (zar.1 e);have s:((M.length:Int) == 0)=false:=beq_eq_false_iff_ne.2 (by omega);simp only [i7,bxP,b,s,x,V,w2,X,Y,zac,zaf,zae,push_cast,↓reduceIte,reduceCtorEq,zB,zE,zA,zS,zL,zD,zM]
    repeat refine sI ?_
    refine ⟨⟨i+1,by omega,by simp,?_⟩,by omega⟩;rw [l];simp [g,ak7,anj,anq]
 have h:decide ((i:Int)<(L.length:Int))=false:=decide_eq_false (by omega);have o:i=L.length:=by omega
 subst o;rw [zam] at I b2 W U |-;unfold dw fm;by_cases g:mem L w=[]
 ·have s:((0:Int) == 0)=true:=rfl;rw [if_pos g,g];simp only [i9,i7,h,bxP,s,Sa.rv,push_cast,↓reduceIte,reduceCtorEq,zB,zE,zA,zS,zL,zD,zM]
  done
 have K:(mem L w).length≠0:=λ e=>g (zar.1 e);have s:(((mem L w).length:Int) == 0)=false:=beq_eq_false_iff_ne.2 (by omega);rw [if_neg g,if_neg g];simp only [i9,i7,h,bxP,s,Sa.rv,push_cast,↓reduceIte,reduceCtorEq,zB,zE,zA,zS,zL,zD,zM]
 done

def vo:Mk P0 f20:={ x:=_ }
def UpP (L:List Pt):Prop:=L.Pairwise λ p q=>p.k<q.k
variable {j:Nat}
theorem agl {L:List Pt} (m:UpP L) {a b:Pt} (c:i<j) (h:L[i]?=some a) (l:L[j]?=some b):a.k<b.k:=by
 obtain ⟨f,g⟩:=zag.1 h;obtain ⟨e,d⟩:=zag.1 l;have:=(zat.1 m) i j f e c;rw [g,d] at this;exact this
def loK (k:Int) (L:List Pt):List Pt:=L.filter λ q=>decide (q.k<k)
def hiK (k:Int) (L:List Pt):List Pt:=L.filter λ q=>decide (k<q.k)
def jz (p:Pt) (L:List Pt):List Pt:=loK p.k L++p::hiK p.k L
def fk (k:Int) (L:List Pt):List Pt:=loK k L++hiK k L
theorem a30 {L:List Pt} {k:Int} {c:Nat} (f:∀j q,j<c->L[j]?=some q->q.k<k) (d:∀j q,c<=j->L[j]?=some q->k<=q.k):loK k L=L.take c:=by
 have e:L=L.take c++L.drop c:=(zba c L).symm;unfold loK
 conv=>lhs; rw [e]
 rw [zby,List.filter_eq_self.2,zbz.2,zas]
 ·intro q b;obtain ⟨j,a⟩:=zan b;rw [zbv] at a;have:=d _ q (by omega) a;simp; omega
 intro q b;obtain ⟨j,a⟩:=zan b;rw [zbh] at a;split at a
 ·simpa using f _ q (by assumption) a
 cases a
theorem a31 {L:List Pt} (i:UpP L) {k:Int} {c:Nat} (g:∀j q,j<c->L[j]?=some q->q.k<k) (l:∀j q,c<=j->L[j]?=some q->k<=q.k) :
 hiK k L=L.drop (if (∃q,L[c]?=some q/\q.k=k) then c+1 else c):=by
 have f:∀d,(∀j q,j<d->L[j]?=some q->q.k<=k)->(∀j q,d<=j->L[j]?=some q->k<q.k)->hiK k L=L.drop d:=λ d m n=>by
  have e:L=L.take d++L.drop d:=(zba d L).symm;unfold hiK
  conv=>lhs; rw [e]
  rw [zby,zbz.2,List.filter_eq_self.2,zay]
  ·intro q b;obtain ⟨j,a⟩:=zan b;rw [zbv] at a;simpa using n _ q (by omega) a
  intro q b;obtain ⟨j,a⟩:=zan b;rw [zbh] at a;split at a
  ·have:=m _ q (by assumption) a;simp; omega
  cases a
 split
 ·rename_i h;obtain ⟨q,b,p⟩:=h;refine f _ (λ j x a hx=>?_) λ j x a hx=>?_
  ·by_cases e:j=c
   ·subst e; rw [b] at hx; cases hx; omega
   have:=g j x (by omega) hx; omega
  have:=agl i (show c<j by omega) b hx;omega
 rename_i h;refine f _ (λ j x a hx=>?_) λ j x a hx=>?_
 ·have:=g j x a hx; omega
 have o:=l j x a hx;by_cases e:j=c
 ·subst e;have:x.k≠k:=λ e=>h ⟨x,hx,e⟩;omega
 obtain ⟨y,hy⟩:∃y,L[c]?=some y:=⟨L[c]'(by have:=(zag.1 hx).1; omega),by have:=(zag.1 hx).1; simp [show c<L.length by omega]⟩
 have:=l c y (Nat.le_refl _) hy;have:=agl i (show c<j by omega) hy hx;omega
def j9 (a:Int) (p:Pt):RV:=.agg [.v (.int .i64 a),.v (.int .i64 p.k),.v (.int .i64 p.x),.v (.int .i64 p.y),.v (.int .i64 p.v)]
theorem adf (L:List Pt) (hL:L.length<=1000) (hU:UpP L) (i:Int) (p:Pt) (o:L'=if i=1 then jz p L else fk p.k L) :
 a9 P0 20 [i9 L,.r (.sl 5 [j9 i p])] [] (.own 1000000 0 0 L'.length) [i7 L']:=by
 refine vo.t func20 ?_;have h2:=o9;have G:(0+L.length:Nat)=L.length:=zae _;have n:IntKind.i64.wrap (0+1)=1:=rfl
 push_cast [vo,i9,i7,j9,G,zab,zaa]
 repeat refine sI ?_
 refine c7 [(6,false),(1,false),(5,false)] (λ vs pos s=>pos=[]/\(vs=[int .i64 0,.r (.sl 5 [j9 i p]),.own 2000000 0 0 L.length]/\s=[i7 L]\/vs=[int .i64 1,.r (.sl 5 [j9 i p]),.own 2000000 0 0 L'.length]/\s=[i7 L']))
  (λ vs _ _=>match vs with | .r (.v (.int _ a))::_=>(1-a).toNat | _=>0) rfl ?_ ?_
 ·push_cast [i7,j9]
  simp [Pt.rv]
 rintro vs pos s ⟨rfl,⟨rfl,rfl⟩ | ⟨rfl,rfl⟩⟩
 ·have d0:decide ((0:Int)<1)=true:=rfl;have E:decide ((0:Int)<0+1)=true:=rfl
  push_cast [i7,j9,Pt.rv,d0,E,zad,zab,zaa,zbn,zbo,zac,zaf,zae]
  repeat refine sI ?_
  refine c7 [(8,false),(9,false),(7,false),(6,false),(1,false),(5,false)] (λ vs pos s=>∃c T:Nat,c<=T/\T<=L.length/\(∀j q,j<c->L[j]?=some q->q.k<p.k)/\(∀j q,T<=j->L[j]?=some q->p.k<=q.k) /\
   vs=[int .i64 c,int .i64 T,.ptr 2000000 0 0,int .i64 0,.r (.sl 5 [j9 i p]),.own 2000001 0 0 L.length]/\pos=[]/\s=[.box [int .i64 p.k,int .i64 p.x,int .i64 p.y,int .i64 p.v],i7 L])
   (λ vs _ _=>match vs with | .r (.v (.int _ a)) :: .r (.v (.int _ b))::_=>(b-a).toNat | _=>0) rfl ?_ ?_
  ·push_cast [i7,j9,Pt.rv]
   refine ⟨0,L.length,by omega,by omega,λ j y hj=>by omega,λ j y hj hy=>?_,by simp⟩;rw [zbj (by omega)] at hy;cases hy
  rintro vs pos s ⟨c,h,g1,g2,g3,Y,rfl,rfl,rfl⟩
  push_cast [i7,j9,Pt.rv,zaa]
  refine b9 (λ hc=>?_) (λ hc=>?_)
  ·have O:c<h:=by simpa using hc
   obtain ⟨m,J⟩:∃m,(c+h)/2=m:=⟨_,rfl⟩
   have w1:IntKind.i64.wrap ((c:Int)+h)=(c:Int)+h:=a6 (by omega);have w2:((c:Int)+h).tdiv 2=(m:Int):=by rw [Int.tdiv_eq_ediv_of_nonneg (by omega)]; omega
   have w3:IntKind.i64.wrap (m:Int)=(m:Int):=a6 (by omega);have w4:IntKind.i64.wrap ((m:Int)+1)=(m:Int)+1:=a6 (by omega);obtain ⟨q,f⟩:∃y,L[m]?=some y:=⟨L[m]'(by omega),by simp [show m<L.length by omega]⟩
   have h1:=λ z=>rq f z
   push_cast [w1,w2,w3,w4,h1,i7,j9,Pt.rv,zaa,zac,zaf,zae]
   repeat refine sI ?_
   refine b9 (λ V=>?_) (λ V=>?_)
   ·have U:q.k<p.k:=by simpa using V
    push_cast [w4,i7,j9,Pt.rv,zaa]
    refine ⟨⟨m+1,h,by omega,by omega,λ j y hj hy=>?_,Y,by simp⟩,by omega⟩;by_cases D:j=m
    ·subst D; rw [f] at hy; cases hy; exact U
    have:=agl hU (show j<m by omega) hy f;omega
   have h0:p.k<=q.k:=by simpa using V
   push_cast [w4,i7,j9,Pt.rv,zaa]
   refine ⟨⟨c,m,by omega,by omega,g3,λ j y hj hy=>?_,by simp⟩,by omega⟩;by_cases D:j=m
   ·subst D; rw [f] at hy; cases hy; exact h0
   have:=agl hU (show m<j by omega) f hy;omega
  have O:c=h:=by
   have:¬c<h:=by simpa using hc
   omega
  subst O;have l:=a30 g3 Y;have g:=a31 hU g3 Y;have K:IntKind.i64.wrap ((c:Int)+1)=(c:Int)+1:=a6 (by omega);have S:zai L.length (L.map Pt.rv)=L.map Pt.rv:=zah (by simp);have A:(L.map Pt.rv).length=L.length:=zaa _;obtain ⟨W,F,h3,Q,X⟩:=ah1 (M:=L.map Pt.rv) (.agg [.v (.int .i64 0),.v (.int .i64 0),.v (.int .i64 0),.v (.int .i64 0)]) A g2;simp only [zac,zaf,zae] at F;have hA:((c:Int)-0).toNat=c:=by omega
  have hB:zai ((L.length:Int)-((c:Int)+1)).toNat (zbk (c+1) (L.map Pt.rv))=zbk (c+1) (L.map Pt.rv):=zah (by rw [zbi,A]; omega);have Z:(zbk (c+1) (L.map Pt.rv)).length=L.length-(c+1):=by rw [zbi,A]
  obtain ⟨ga,gb,gc,gd,R⟩:∃ga gb gc gd:RV,W.getD c (.agg [.v (.int .i64 0),.v (.int .i64 0),.v (.int .i64 0),.v (.int .i64 0)])=.agg [ga,gb,gc,gd]:=by
   rw [zaq,X];by_cases u:c<L.length
   ·rw [zce (by omega),zal,zbe u];exact ⟨_,_,_,_,rfl⟩
   rw [zcj (by omega),A,show c-L.length=0 by omega];exact ⟨_,_,_,_,rfl⟩
  by_cases u:c<L.length
  ·have I:decide ((c:Int)<(L.length:Int))=true:=decide_eq_true (by omega);obtain ⟨y,hy⟩:∃y,L[c]?=some y:=⟨L[c],by simp [u]⟩
   have B:=λ z=>rq hy z;by_cases C:y.k=p.k
   ·have P:(y.k == p.k)=true:=by simp [C]
    rw [if_pos ⟨y,hy,C⟩] at g;by_cases d:i=1
    ·have w:(i == 1)=true:=by simp [d]
     push_cast [I,P,w,B,hA,hB,Z,n,K,i7,j9,Pt.rv,zad,zab,zaa,zbn,zbo,zac,zaf,zae]
     repeat refine sI ?_
     refine ⟨.inr ?_,by decide⟩;have f:L'=L.take c++p::L.drop (c+1):=by rw [o,if_pos d,jz,l,g]
     have J:(L.map Pt.rv).set c p.rv=L'.map Pt.rv:=by rw [f,List.set_eq_take_append_cons_drop,if_pos (by omega)]; simp [zbl,zbm]
     have H:L'.length=L.length:=by rw [f]; simp; omega
     rw [H,<- J];exact ⟨rfl,rfl⟩
    have w:(i == 1)=false:=by simp [d]
    push_cast [I,P,w,B,hA,hB,Z,n,K,i7,j9,Pt.rv,zad,zab,zaa,zbn,zbo,zac,zaf,zae]
    repeat refine sI ?_
    refine ⟨.inr ?_,by decide⟩;have f:L'=L.take c++L.drop (c+1):=by rw [o,if_neg d,fk,l,g]
    have H:L'.length=c+(L.length-(c+1)):=by rw [f]; simp; omega
    rw [H,f,List.map_append,zbl,zbm];exact ⟨rfl,rfl⟩
   have P:(y.k == p.k)=false:=by simp [C]
   rw [if_neg (by rintro ⟨z,G,e⟩; rw [hy] at G; cases G; exact C e)] at g;by_cases d:i=1
   ·have w:(i == 1)=true:=by simp [d]
    push_cast [I,P,w,B,R,n,K,S,F,i7,j9,Pt.rv,zad,zab,zaa,zbn,zbo,zac,zaf,zae]
    repeat refine sI ?_
    refine ⟨.inr ?_,by decide⟩;have f:L'=L.take c++p::L.drop c:=by rw [o,if_pos d,jz,l,g]
    have J:W.set c p.rv=L'.map Pt.rv:=by rw [f,Q]; simp [zbl,zbm]
    have H:L'.length=L.length+1:=by rw [f]; simp; omega
    rw [H,<- J];exact ⟨rfl,rfl⟩
   have w:(i == 1)=false:=by simp [d]
   push_cast [I,P,w,B,hA,hB,Z,n,K,i7,j9,Pt.rv,zad,zab,zaa,zbn,zbo,zac,zaf,zae]
   repeat refine sI ?_
   refine ⟨.inr ?_,by decide⟩;have f:L'=L:=by rw [o,if_neg d,fk,l,g,zba]
   rw [f];exact ⟨rfl,rfl⟩
  have I:decide ((c:Int)<(L.length:Int))=false:=decide_eq_false (by omega);rw [if_neg (by rintro ⟨z,G,e⟩; rw [zbj (by omega)] at G; cases G)] at g;have N:∀z,(L.map Pt.rv).getD c z=z:=λ z=>by rw [zaq,zbj (by omega)]; rfl
  by_cases d:i=1
  ·have w:(i == 1)=true:=by simp [d]
   push_cast [I,w,N,R,n,K,S,F,i7,j9,Pt.rv,zad,zab,zaa,zbn,zbo,zac,zaf,zae]
   repeat refine sI ?_
   refine ⟨.inr ?_,by decide⟩;have f:L'=L.take c++p::L.drop c:=by rw [o,if_pos d,jz,l,g]
   have J:W.set c p.rv=L'.map Pt.rv:=by rw [f,Q]; simp [zbl,zbm]
   have H:L'.length=L.length+1:=by rw [f]; simp; omega
   rw [H,<- J];exact ⟨rfl,rfl⟩
  have w:(i == 1)=false:=by simp [d]
  push_cast [I,w,N,n,K,i7,j9,Pt.rv,zad,zab,zaa,zbn,zbo,zac,zaf,zae]
  repeat refine sI ?_
  refine ⟨.inr ?_,by decide⟩;have f:L'=L:=by rw [o,if_neg d,fk,l,g,zba]
  rw [f];exact ⟨rfl,rfl⟩
 have d0:decide ((1:Int)<1)=false:=rfl;have E:decide ((1:Int)<0+1)=false:=rfl
 push_cast [i7,j9,d0,E,zad,zab,zaa,zac,zaf,zae]

def sd:Mk P0 f101:={ x:=_ }
def tw:Mk P0 f68:={ x:=_ }
def jm:Mk P0 f42:={ x:=_ }
theorem a3k (a b:Wt):a9 P0 101 [.r (wR a),.r (wR b)] [] (bl (lsW a b)) []:=by
 refine sd.t func101 ?_
 push_cast [sd,wR,zab]
 refine ⟨λ c d=>by rw [c,d]; rfl,λ h=>by rw [h]; rfl,?_⟩;congr 3;unfold lsW;by_cases c:a.2>b.2
 ·simp [c,show a.2≠b.2 by omega]
 by_cases d:a.2=b.2
 ·simp [d]
 simp [c,d]
def acl (S:List Wt):Prop:=S.Pairwise λ a b=>lsW b a=false
theorem ap3 {S:List Wt} (h:acl S) {x:Wt} {k:Nat} (q:k<=S.length) (p:∀j,k<=j->j<S.length->lsW x (gW S j)=true) (f:k=0\/lsW x (gW S (k-1))=false):acl (S.take k++x::S.drop k):=by
 unfold acl at *
 have n:∀y∈S.take k,lsW x y=false:=λ y hy=>by
  obtain ⟨j,d⟩:=zan hy;rw [zbh] at d;split at d
  ·rename_i o;rcases f with f | f
   ·omega
   have c:=(zag.1 d).1;by_cases e:j=k-1
   ·subst e;rw [nr c,(zag.1 d).2] at f;exact f
   have g:=(zat.1 h) j (k-1) c (by omega) (by omega);rw [(zag.1 d).2,<- nr (by omega)] at g;exact ad0 g f
  cases d
 have l:∀y∈S.drop k,lsW y x=false:=λ y hy=>by
  obtain ⟨j,d⟩:=zan hy;rw [zbv] at d;have c:=(zag.1 d).1;have g:=p (k+j) (by omega) c;rw [nr c,(zag.1 d).2] at g;exact agw g
 rw [zcd,zcb];refine ⟨h.sublist (zbw ..),⟨l,h.sublist (List.drop_sublist ..)⟩,λ a m b i=>?_⟩;rcases zbs.1 i with rfl | i
 ·exact n a m
 exact ad0 (n a m) (l b i)
theorem ave {S T:List Wt} (g:S.Perm T) (o:acl S) (n:acl T) (m:(S.map (·.1)).Nodup):S=T:=by
 have c:∀a b:Wt,a∈S->b∈S->a.1=b.1->a=b:=λ a b d f e=>by
  obtain ⟨i,k,rfl⟩:=List.getElem_of_mem d;obtain ⟨j,l,rfl⟩:=List.getElem_of_mem f;rcases Nat.lt_trichotomy i j with h | h | h
  ·have:=(zat.1 m) i j (by simpa using k) (by simpa using l) h;rw [zbt,zbt] at this;exact absurd e this
  ·subst h; rfl
  have:=(zat.1 m) j i (by simpa using l) (by simpa using k) h;rw [zbt,zbt] at this;exact absurd e.symm this
 refine List.Perm.eq_of_pairwise (le:=λ a b=>lsW b a=false) (λ a b d f p q=>?_) o n g;rw [ad1] at p q;exact c a b d (g.symm.subset f) (by omega)
def wz (W:List Wt):AV:=.r (.sl 2 (W.map wR))
theorem amh (W:List Wt) (hW:W.length<=1000) {O:List Wt} (Z:acl O) (T:O.Perm W) (hn:(W.map (·.1)).Nodup) :
 a9 P0 68 [wz W] [] (.own 1000000 0 0 O.length) [g8 O]:=by
 refine tw.t func68 ?_;have P:=o9
 push_cast [tw,wz,zab]
 refine c7 [(4,false),(0,false),(3,true)] (λ vs pos c=>∃(i:Nat) (S:List Wt),i<=W.length/\acl S/\S.Perm (W.take i)/\vs=[int .i64 i,wz W,.own 2000000 0 0 S.length]/\pos=[]/\c=[g8 S])
  (λ vs _ _=>match vs with | .r (.v (.int _ a))::_=>(W.length-a).toNat | _=>0) rfl ?_ ?_
 ·push_cast [g8,zW,wz]
  exact ⟨0,[],by omega,by simp [acl],by simp,by simp⟩
 rintro vs pos c ⟨i,S,hi,A,b,rfl,rfl,rfl⟩;have Q:S.length=i:=by rw [b.length_eq,zaj]; omega
 have I:IntKind.i64.wrap ((i:Int)+1)=(i:Int)+1:=a6 (by omega);by_cases hd:i<W.length
 ·have F:decide ((i:Int)<(W.length:Int))=true:=decide_eq_true (by omega);obtain ⟨x,hx⟩:∃x,W[i]?=some x:=⟨W[i],by simp [hd]⟩
  have g:∀z,(W.map wR).getD i z=.agg [.v (.int .u64 x.1),.v (.int .i64 x.2)]:=λ z=>by rw [zaq,zal,hx]; rfl
  have o:W.take (i+1)=W.take i++[x]:=by rw [zap,hx]; rfl
  push_cast [wz,g8,zW,F,zaa,zac,zaf,zae]
  refine c7 [(5,false),(4,false),(0,false),(3,false)] (λ vs pos c=>∃k:Nat,k<=S.length/\(∀j,k<=j->j<S.length->lsW x (gW S j)=true) /\
   vs=[int .i64 k,int .i64 i,wz W,.own 2000000 0 0 S.length]/\pos=[]/\c=[g8 S])
   (λ vs _ _=>match vs with | .r (.v (.int _ a))::_=>a.toNat | _=>0) rfl ?_ ?_
  ·push_cast [g8,zW,wz]
   exact ⟨S.length,by omega,λ j X J=>by omega,by simp⟩
  rintro vs pos c ⟨k,D,w,rfl,rfl,rfl⟩;have n:(S.map wR).length=S.length:=zaa _;have s:zai S.length (S.map wR)=S.map wR:=zah (by simp);obtain ⟨R,d,U,p,y⟩:=ah1 (M:=S.map wR) (.agg [.v (.int .u64 0),.v (.int .i64 0)]) n D
  obtain ⟨L,N,h⟩:∃L N:RV,R.getD k (.agg [.v (.int .u64 0),.v (.int .i64 0)])=.agg [L,N]:=by
   rw [zaq,y];by_cases m:k<S.length
   ·rw [zce (by omega),zal,zbe m];exact ⟨_,_,rfl⟩
   rw [zcj (by omega),n,show k-S.length=0 by omega];exact ⟨_,_,rfl⟩
  obtain ⟨K,V⟩:∃K:Int,(k:Int)=K:=⟨_,rfl⟩
  have f:K.toNat=k:=by omega
  have H:IntKind.i64.wrap (K+1)=K+1:=a6 (by omega);rw [V] at d |-;rw [<- f] at h;simp only [zae] at d;by_cases E:k=0
  ·have u:decide (K>0)=false:=decide_eq_false (by omega)
   push_cast [g8,zW,wz,u,d,h,H,I,g,s,zaa,zac,zaf,zae]
   repeat refine sI ?_
   refine ⟨⟨i+1,S.take k++x::S.drop k,by omega,ap3 A D w (.inl E),?_,?_,?_⟩,by omega⟩
   ·rw [o];refine List.Perm.trans ?_ (b.append_right [x]);refine List.perm_middle.trans ?_;rw [zba];exact (List.perm_append_singleton x S).symm
   ·rw [show (S.take k++x::S.drop k).length=S.length+1 by simp; omega];simp
   rw [f,p];simp [zbl,zbm,wR]
  have u:decide (K>0)=true:=decide_eq_true (by omega);obtain ⟨j,Y⟩:∃j,k=j+1:=⟨k-1,by omega⟩
  have G:IntKind.i64.wrap (K-1)=j:=by rw [a6 (by omega)]; omega
  have B:=λ z=>ud (l:=S) (show j<S.length by omega) z
  push_cast [g8,zW,wz,u,G,g,B,zaa,zac,zaf,zae]
  repeat refine sI ?_
  refine n9 (as':=[.r (wR x),.r (wR (gW S j))]) rfl ?_;refine g9 (a3k x (gW S j)) rfl trivial ?_
  push_cast [g8,zW,wz,zaa,zac,zaf,zae]
  refine And.intro (by kernel_rfl) ?_;refine b9 (λ hc=>?_) (λ hc=>?_)
  ·push_cast [g8,zW,wz,G,zaa,zac,zaf,zae]
   refine ⟨⟨j,by omega,λ q X J=>?_,by simp⟩,by omega⟩;by_cases e:q=j
   ·subst e; exact hc
   exact w q (by omega) J
  push_cast [g8,zW,wz,d,h,H,I,g,s,zaa,zac,zaf,zae]
  repeat refine sI ?_
  refine ⟨⟨i+1,S.take k++x::S.drop k,by omega,ap3 A D w (.inr (by rw [Y,Nat.add_sub_cancel]; exact hc)),?_,?_,?_⟩,by omega⟩
  ·rw [o];refine List.Perm.trans ?_ (b.append_right [x]);refine List.perm_middle.trans ?_;rw [zba];exact (List.perm_append_singleton x S).symm
  ·rw [show (S.take k++x::S.drop k).length=S.length+1 by simp; omega];simp
  rw [f,p];simp [zbl,zbm,wR]
 have F:decide ((i:Int)<(W.length:Int))=false:=decide_eq_false (by omega);have C:i=W.length:=by omega
 subst C;rw [zam] at b;obtain rfl:S=O:=ave (b.trans T.symm) A Z ((b.map (·.1)).nodup_iff.2 hn)
 push_cast [wz,g8,zW,F,zaa]

theorem alu (L:List Pt) (r:Nat):aga L r=l6 L r:=by
 refine ayt (aut L r) λ y=>?_;rw [aap];unfold ws9;rw [zbc]
theorem ahv (l:List Wt):∀(j d:Nat),∃t,z8 (j+d) l=z8 j l++t
 | j,0=>⟨[],by simp⟩
 | j,d+1=>by
   obtain ⟨t,a⟩:=ahv l j d;by_cases h:ek (j+d) l=[]
   ·exact ⟨t,by rw [<- a]; exact ae5 (j+d) l h (j+d+1) (by omega)⟩
   exact ⟨t++[gW (ek (j+d) l) 0],by rw [<- List.append_assoc,<- a]; exact (ae4 (j+d) l h).1⟩
def agh (L:List Pt) (r:Nat):List Wt:=bq L r (l6 L r).length
theorem aqo (L:List Pt) (r:Nat):acl (agh L r)/\(agh L r).Perm (au L r)/\(agh L r).length=(l6 L r).length:=by
 obtain ⟨a,b,d,_⟩:=acp L r (l6 L r).length;rw [Nat.min_self] at a;have c:=b.length_eq;rw [zau,aa0,a] at c;rw [zar.1 (by omega:(aq1 L r (l6 L r).length).length=0),zas] at b;exact ⟨d,b.symm,a⟩
theorem asl (L:List Pt) (r k:Nat):bq L r k=(agh L r).take k:=by
 have b:=(acp L r k).1;by_cases h:k<=(l6 L r).length
 ·obtain ⟨t,a⟩:=ahv (dr (au L r) (l6 L r).length) k ((l6 L r).length-k);rw [show k+((l6 L r).length-k)=(l6 L r).length by omega] at a;unfold agh;rw [bq,bq,a];rw [bq,Nat.min_eq_left h] at b;rw [List.take_append_of_le_length (by omega),zah (by omega)]
 rw [zah (by rw [(aqo L r).2.2]; omega)];unfold agh;rw [bq,bq];obtain ⟨t,a⟩:=ahv (dr (au L r) (l6 L r).length) (l6 L r).length (k-(l6 L r).length);rw [show (l6 L r).length+(k-(l6 L r).length)=k by omega] at a;have c:=(acp L r (l6 L r).length).1;have d:=congrArg List.length a;rw [bq] at b c;rw [zau,b,c] at d;rw [a,zar.1 (by omega:t.length=0),zas]
theorem alv (L:List Pt) (h:L.length<=1000) (r:Int) (g:r<0\/13<=r) :
 a9 P0 41 [i9 L,int .i64 r] [] (.own 1000000 0 0 0) [o5 []]:=by
 refine gr.t func41 ?_;have a:=ass [] (by simp)
 push_cast [gr,i9,zab]
 refine c7 [(6,false),(0,false),(1,false),(5,false)] (λ vs pos b=>pos=[]/\vs=[int .i64 0,i9 L,int .i64 r,.nils 1 (.v (.int .u64 0))]/\b=[])
  (λ _ _ _=>0) rfl ?_ ?_
 ·push_cast [i9]
 rintro vs pos b ⟨rfl,rfl,rfl⟩;by_cases i:L.length=0
 ·have c:decide ((0:Int)<(L.length:Int))=false:=decide_eq_false (by omega)
  push_cast [i9,zaa,c]
  refine b7 (as':=[.r (.sl 1 (s7 []))]) rfl ?_;refine a7 a rfl trivial ?_
  push_cast [show dk []=[] from rfl,o5,s7,zab,zav]
 have c:decide ((0:Int)<(L.length:Int))=true:=decide_eq_true (by omega);by_cases f:r<0
 ·have d:decide (r>=0)=false:=decide_eq_false (by omega)
  push_cast [i9,zaa,c,d]
  refine b7 (as':=[.r (.sl 1 (s7 []))]) rfl ?_;refine a7 a rfl trivial ?_
  push_cast [show dk []=[] from rfl,o5,s7,zab,zav]
 have d:decide (r>=0)=true:=decide_eq_true (by omega);have e:decide (r<=12)=false:=decide_eq_false (by omega)
 push_cast [i9,zaa,c,d,e]
 refine b7 (as':=[.r (.sl 1 (s7 []))]) rfl ?_;refine a7 a rfl trivial ?_
 push_cast [show dk []=[] from rfl,o5,s7,zab,zav]
theorem a1p {L:List Pt} (a:∀p∈L,p.ok) {r:Nat} (c:r<13) (h:(l6 L r)[i]?=some n):∃w:Nat,n=(w:Int)/\w<18446744073709551616/\mem L w≠[]/\(au L r)[i]?=some ((w:Int),((mem L w).length:Int)):=by
 obtain ⟨p,b,rfl⟩:=aap.1 (zao h);refine ⟨p.w r,rfl,(Pt.w_res (a p b) c).2.2,ark c ⟨p,b,rfl⟩,?_⟩;rw [au,zal,h,Option.map_some,zac,aqi a c ⟨p,b,rfl⟩]
theorem a1o (L:List Pt) (r:Nat):((au L r).map (·.1)).Nodup:=by
 have:(au L r).map (·.1)=l6 L r:=by rw [au,List.map_map]; simp [Function.comp_def]
 rw [this];exact af9 L r
theorem ayk (L:List Pt) (T:L.length<=1000) (c:∀p∈L,p.ok) (R:Nat) (H:R<13) (k:Int) :
 a9 P0 42 [i9 L,int .i64 R,int .i64 k] [] (.own 1000000 0 0 (bq L R k.toNat).length) [bv L (bq L R k.toNat)]:=by
 refine jm.t func42 ?_;have h1:=o9;have A:=aoa L T c R (by omega);rw [zac,alu] at A;obtain ⟨C,hC⟩:∃C,l6 L R=C:=⟨_,rfl⟩
 obtain ⟨W,hW⟩:∃W,au L R=W:=⟨_,rfl⟩
 obtain ⟨O,hO⟩:∃O,agh L R=O:=⟨_,rfl⟩
 obtain ⟨Y,K,X⟩:=aqo L R;have D:=a1o L R;have F:=aa0 L R;have P:=vh L R;have m:∀(i:Nat) (n:Int),(l6 L R)[i]?=some n->∃w:Nat,n=(w:Int)/\w<18446744073709551616/\mem L w≠[]/\(au L R)[i]?=some ((w:Int),((mem L w).length:Int)):=λ i n h=>a1p c H h
 have E:∀x∈agh L R,∃w:Nat,x=((w:Int),((mem L w).length:Int))/\w<18446744073709551616/\mem L w≠[]:=λ x hx=>by
  obtain ⟨w,e,p,Q,u⟩:=asb (K.subset hx);exact ⟨w,by rw [e,aqi c H ⟨p,Q,u⟩],by rw [<- u]; exact (Pt.w_res (c p Q) H).2.2,ark H ⟨p,Q,u⟩⟩
 rw [asl];rw [hC] at A F P X m;rw [hW] at K D F m;rw [hO] at Y K X E |-
 push_cast [jm,i9,zab]
 refine b7 (as':=[i9 L,int .i64 R]) rfl ?_;refine a7 A rfl trivial ?_
 push_cast [i9,o5]
 refine c7 [(9,false),(7,false),(0,false),(8,true),(2,false)] (λ vs pos d=>∃i:Nat,i<=C.length/\pos=[] /\
  vs=[int .i64 i,.own 2000000 0 0 C.length,i9 L,.own 2000001 0 0 i,int .i64 k]/\d=[o5 C,g8 (W.take i)])
  (λ vs _ _=>match vs with | .r (.v (.int _ a))::_=>(C.length-a).toNat | _=>0) rfl ?_ ?_
 ·push_cast [i9,o5,g8,zW]
  exact ⟨0,by omega,by simp⟩
 rintro vs pos d ⟨i,hi,rfl,rfl,rfl⟩;have S:IntKind.i64.wrap ((i:Int)+1)=(i:Int)+1:=a6 (by omega);have j:(zbb wR (W.take i)).length=i:=by rw [zaa,zaj]; omega
 have M:zai i (zbb wR (W.take i))=zbb wR (W.take i):=zah (by omega);by_cases B:i<C.length
 ·have f:decide ((i:Int)<(C.length:Int))=true:=decide_eq_true (by omega);obtain ⟨n,Z⟩:∃n,C[i]?=some n:=⟨C[i],by simp [B]⟩
  obtain ⟨w,rfl,u,J,N⟩:=m i n Z;have g:=λ z=>ck Z z;have b:=ams L T c w u;unfold dw fm at b;rw [if_neg J,if_neg J] at b;have q:W.take (i+1)=W.take i++[((w:Int),((mem L w).length:Int))]:=by rw [zap,N]; rfl
  rw [zac] at g
  push_cast [i9,o5,g8,zW,p9,j,f,g,zac,zaf,zae]
  repeat refine sI ?_
  refine b7 (as':=[i9 L,int .u64 w]) rfl ?_;refine a7 b rfl trivial ?_
  push_cast [i9,o5,g8,zW,Sa.rv,p9,j,M,S,g,zac,zaf,zae]
  repeat refine sI ?_
  exact ⟨⟨i+1,by omega,by simp [i9],by rw [q]; simp [wR]⟩,by omega⟩
 have f:decide ((i:Int)<(C.length:Int))=false:=decide_eq_false (by omega);have s:i=C.length:=by omega
 subst s;rw [zah (by omega:W.length<=C.length)];have U:zai C.length (W.map wR)=W.map wR:=zah (by rw [zaa]; omega)
 push_cast [i9,o5,g8,zW,f,zaa,U]
 refine bh ?_
 push_cast
 refine cp (amh W (by omega) Y K D) rfl trivial (by simp [u7]) (by
  intro o V;simp only [List.mem_singleton] at V;subst V;intro y hy;obtain ⟨x,_,rfl⟩:=zbc.1 hy
  simp [wR,y8,er]) ?_
 push_cast [o5,g8,zW]
 refine c7 [(13,false),(0,false),(8,false),(12,true),(2,false)] (λ vs pos d=>∃i:Nat,i<=O.length/\(i:Int)<=max k 0/\pos=[] /\
  vs=[int .i64 i,i9 L,.own 2000000 0 0 O.length,.own 2000001 0 0 i,int .i64 k]/\d=[g8 O,bv L (O.take i)])
  (λ vs _ _=>match vs with | .r (.v (.int _ a))::_=>(O.length-a).toNat | _=>0) rfl ?_ ?_
 ·push_cast [i9,bv,g8,zW,zS,Sa.rv]
  exact ⟨0,by omega,by omega,by simp⟩
 rintro vs pos d ⟨i,hi,h0,rfl,rfl,rfl⟩;have S:IntKind.i64.wrap ((i:Int)+1)=(i:Int)+1:=a6 (by omega);have j:(zbb (λ x:Wt=>(fm L x.1.toNat).rv) (O.take i)).length=i:=by rw [zaa,zaj]; omega
 have M:zai i (zbb (λ x:Wt=>(fm L x.1.toNat).rv) (O.take i))=zbb (λ x:Wt=>(fm L x.1.toNat).rv) (O.take i):=zah (by omega);simp only [Sa.rv] at M;by_cases B:i<O.length
 ·have f:decide ((i:Int)<(O.length:Int))=true:=decide_eq_true (by omega);by_cases hk:(i:Int)<k
  ·have I:decide ((i:Int)<k)=true:=decide_eq_true hk;obtain ⟨w,G,u,J⟩:=E (gW O i) (by rw [nr B]; exact List.getElem_mem B);have l:=λ z=>ud B z;rw [G] at l;have b:=ams L T c w u;unfold dw at b;rw [if_neg J] at b;have q:O.take (i+1)=O.take i++[((w:Int),((mem L w).length:Int))]:=by rw [zap,zbe B,<- nr B,G]; rfl
   push_cast [i9,bv,g8,zW,zS,Sa.rv,f,I,l,zaa,zac,zaf,zae]
   repeat refine sI ?_
   refine b7 (as':=[i9 L,int .u64 w]) rfl ?_;refine a7 b rfl trivial ?_
   push_cast [i9,bv,g8,zW,zS,Sa.rv,f,I,l,S,M,zaa,zac,zaf,zae]
   repeat refine sI ?_
   exact ⟨⟨i+1,by omega,by omega,by simp,by rw [q]; simp⟩,by omega⟩
  have I:decide ((i:Int)<k)=false:=decide_eq_false hk;have e:i=k.toNat:=by omega
  subst e;have e3:min k.toNat O.length=k.toNat:=by omega
  push_cast [i9,bv,g8,zW,zS,Sa.rv,f,I,e3,zaa,zaj,zac,zaf,zae]
 have f:decide ((i:Int)<(O.length:Int))=false:=decide_eq_false (by omega);have s:i=O.length:=by omega
 subst s;have e:O.take k.toNat=O.take O.length:=by rw [zam,zah (by omega)]
 rw [e]
 push_cast [i9,bv,g8,zW,zS,Sa.rv,f,zaa,zam,zac,zaf,zae]

theorem aj1 {L:List Pt} (h:L.Perm M) (w:Nat):fm L w=fm M w:=by
 have a:=aic h w;unfold fm;rw [aso a,awm a,awr a,a.length_eq];by_cases b:mem L w=[]
 ·rw [if_pos b,if_pos (by rw [b] at a; exact a.nil_eq.symm)]
 rw [if_neg b,if_neg λ e=>b (by rw [e] at a; exact a.eq_nil)]
theorem aru {L:List Pt} (h:L.Perm M) (w:Nat):dw L w=dw M w:=by rw [<- aim,<- aim,aj1 h]
theorem asm {L:List Pt} (h:L.Perm M) (r k:Nat):bq L r k=bq M r k:=by
 have hc:∀n,cnt L r n=cnt M r n:=λ n=>h.countP_eq _
 have a:au L r=au M r:=by
  unfold au;rw [acj h];simp only [hc]
 unfold bq;rw [a,acj h]
theorem as4 {L:List Pt} (h:L.Perm M) (O:List Wt):bv L O=bv M O:=by
 unfold bv;simp only [aj1 h]
theorem atl {L:List Pt} (h:L.Perm M) (w:Nat):uj L w=uj M w:=by
 unfold uj oi;congr 1;have d:=(aic h w).map λ p=>(⟨w,p.v,p.k⟩:Ky)
 refine List.Perm.eq_of_pairwise (le:=λ a b=>leK a b=true) (λ a b _ _ c e=>ank c e) (zbu abz ab0 _) (zbu abz ab0 _) ?_;exact (zbr _ _).trans (d.trans (zbr _ _).symm)
theorem avc (L:List Pt) (e:L.length<=1000) (r:Int) (d:r<0\/13<=r) (k:Int) :
 a9 P0 42 [i9 L,int .i64 r,int .i64 k] [] (.own 1000000 0 0 0) [bv L []]:=by
 refine jm.t func42 ?_;have c:decide ((0:Int)<0)=false:=rfl
 push_cast [jm,i9,zab]
 refine b7 (as':=[i9 L,int .i64 r]) rfl ?_;refine a7 (alv L e r d) rfl trivial ?_
 push_cast [i9,o5,s7,zav]
 refine c7 [(9,false),(7,false),(0,false),(8,true),(2,false)] (λ vs pos a=>pos=[] /\
  vs=[int .i64 0,.own 2000000 0 0 0,i9 L,.own 2000001 0 0 0,int .i64 k]/\a=[o5 [],g8 []])
  (λ vs _ _=>0) rfl ?_ ?_
 ·push_cast [i9,o5,s7,g8,zW,zav]
 rintro vs pos a ⟨rfl,rfl,rfl⟩
 push_cast [i9,o5,g8,zW,s7,c,zav,zab,zaa,List.take_nil]
 refine bh ?_
 push_cast [List.take_nil]
 refine cp (amh [] (by simp) (O:=[]) (by simp [acl]) (by simp) (by simp)) rfl trivial (by simp [u7]) (by
  intro o b;simp only [List.mem_singleton] at b;subst b;intro y hy
  simp at hy) ?_
 push_cast [o5,g8,zW,s7,zav,zab]
 refine c7 [(13,false),(0,false),(8,false),(12,true),(2,false)] (λ vs pos a=>pos=[] /\
  vs=[int .i64 0,i9 L,.own 2000000 0 0 0,.own 2000001 0 0 0,int .i64 k]/\a=[g8 [],bv L []])
  (λ vs _ _=>0) rfl ?_ ?_
 ·push_cast [i9,bv,g8,zW,zS,Sa.rv,zav]
 rintro vs pos a ⟨rfl,rfl,rfl⟩
 push_cast [i9,bv,g8,zW,zS,Sa.rv,c,zav,zab]
def vp:Mk P0 f22:={ x:=_ }
theorem ap4 (P L:List Pt) (e:P.Perm L) (N:L.length<128) (c:∀p∈L,p.ok) (q:(L.map (·.k)).Pairwise (· < ·)) (w:Nat) (x:w<18446744073709551616) (r k:Int) :
 a9 P0 22 [.ptr 1000000 0 0,i9 L,int .u64 w,int .i64 r,int .i64 k] [.abs (sT P)] (bl true) [.abs (sT P)]:=by
 refine vp.t func22 ?_
 obtain ⟨O,C,Q,S,I,K,F,J⟩:∃(O:List Wt) (C:List Int),C.length<=1000/\O.length<=1000 /\
  a9 P0 13 [.ptr 1000000 0 0,int .i64 r] [.abs (sT P)] (.own 1000001 0 0 C.length) [.abs (sT P),o5 C] /\
  a9 P0 41 [i9 L,int .i64 r] [] (.own 1000000 0 0 C.length) [o5 C] /\
  a9 P0 19 [.ptr 1000000 0 0,int .i64 r,int .i64 k] [.abs (sT P)] (.own 1000001 0 0 O.length) [.abs (sT P),bv L O] /\
  a9 P0 42 [i9 L,int .i64 r,int .i64 k] [] (.own 1000000 0 0 O.length) [bv L O]:=by
  have G:=e.length_eq;by_cases l:r<0\/13<=r
  ·exact ⟨[],[],by simp,by simp,agt (os:=[.abs (sT P)]) (by simp) (by simp [imO]) (aw4 P r l),alv L (by omega) r l,agt (os:=[.abs (sT P)]) (by simp) (by simp [imO]) (a1w P r l k),avc L (by omega) r l k⟩
  obtain ⟨R,n,rfl⟩:∃R:Nat,R<13/\r=R:=⟨r.toNat,by omega,by omega⟩
  refine ⟨bq L R k.toNat,l6 L R,by have:=vh L R; omega,by have:=vh L R; have:=(acp L R k.toNat).1; omega,?_,?_,?_,ayk L (by omega) c R n k⟩
  ·have:=a02 P (by omega) R n;rw [acj e] at this;exact this
  ·have:=aoa L (by omega) c R (by omega);rw [zac,alu] at this;exact this
  have:=a1x P (by omega) R n k;rw [asm e,as4 e] at this;exact this
 have d:=auu P w;rw [aru e] at d;have j:=ams L (by omega) c w x;have h:=a2s L (by omega) c q w x;have g:=ax1 P;rw [e.length_eq] at g
 obtain ⟨u,B,s,y,D,b,hc⟩:∃u B s y D b,dw L w=.tup [.r (.agg [.v (.int .u64 u),.v (.int .i64 B),.v (.int .i64 s),.v (.int .i64 y),.v (.int .i64 D)]),bl b]:=by
  unfold dw;split<;>exact ⟨_,_,_,_,_,_,rfl⟩
 rw [hc] at d j h
 push_cast [vp,i9,zad,zab]
 refine b7 (as':=[.ptr 1000000 0 0,int .u64 w]) rfl ?_;refine a7 d rfl ⟨rfl,trivial⟩ ?_
 push_cast [i9]
 refine b7 (as':=[i9 L,int .u64 w]) rfl ?_;refine a7 j rfl trivial ?_
 push_cast [i9]
 refine b7 (as':=[i9 L,int .u64 w]) rfl ?_;refine a7 h rfl trivial ?_
 push_cast [i9,bne_self_eq_false]
 refine a7 g rfl ⟨rfl,trivial⟩ ?_
 push_cast [i9,bne_self_eq_false,zaa]
 refine b7 (as':=[.ptr 1000000 0 0,int .i64 r]) rfl ?_;refine a7 I rfl ⟨rfl,trivial⟩ ?_
 push_cast [i9,o5,bne_self_eq_false,zaa]
 refine b7 (as':=[i9 L,int .i64 r]) rfl ?_;refine a7 K rfl trivial ?_;have o:zai C.length (s7 C)=s7 C:=zah (by rw [p9]; omega)
 push_cast [i9,o5,o,p9,bne_self_eq_false,zaa]
 refine bh ?_
 push_cast
 refine cp (a19 C (by omega)) rfl trivial (by simp [u7,y8]) (by simp) ?_
 push_cast [i9,o5]
 refine b7 (as':=[.ptr 1000000 0 0,int .i64 r,int .i64 k]) rfl ?_;refine a7 F rfl ⟨rfl,trivial⟩ ?_
 push_cast [i9,o5,bv]
 refine b7 (as':=[i9 L,int .i64 r,int .i64 k]) rfl ?_;refine a7 J rfl trivial ?_
 push_cast [i9,o5,bv,bne_self_eq_false]
 refine c7 [(19,false),(17,false),(18,false)] (λ vs pos f=>∃i:Nat,i<=O.length/\pos=[.abs (sT P)] /\
  vs=[int .i64 i,.own 2000000 0 0 O.length,.own 2000001 0 0 O.length]/\f=[bv L O,bv L O])
  (λ vs _ _=>match vs with | .r (.v (.int _ a))::_=>(O.length-a).toNat | _=>0) rfl ?_ ?_
 ·push_cast [bv]
  exact ⟨0,by omega,rfl⟩
 rintro vs pos f ⟨i,M,rfl,rfl,rfl⟩;have H:IntKind.i64.wrap ((i:Int)+1)=(i:Int)+1:=a6 (by omega)
 push_cast [bv,zaa]
 refine b9 (λ E=>?_) (λ E=>?_)
 ·have m:i<O.length:=by simpa using E
  have A:=λ z=>azh (L:=L) m z;simp only [Sa.rv] at A
  push_cast [bv,A,H,zS,Sa.rv,bne_self_eq_false,zaa,zac,zaf,zae]
  repeat refine sI ?_
  exact ⟨⟨i+1,by omega,by simp⟩,by omega⟩
 push_cast [bv]

def tu:Mk P0 f21:={ x:=_ }
theorem ai1 (p:Pt):a9 P0 21 [p.av] [] (bl (decide p.ok)) []:=by
 refine tu.t func21 ?_;have d:=amj p.x p.y
 have e:decide p.ok=(bif (bif (bif decide (p.k>=1) then decide (p.k<=2147483648) else false) then decide (inW p.x p.y) else false) then (bif decide (p.v>=-2147483648) then decide (p.v<=2147483647) else false) else false):=by
  unfold Pt.ok;by_cases g:1<=p.k<;>by_cases l:p.k<=2147483648<;>by_cases j:inW p.x p.y<;>by_cases h:-2147483648<=p.v<;>by_cases i:p.v<=2147483647<;>simp [g,l,j,h,i]
 rw [e];obtain ⟨A,b⟩:∃A,decide (p.k>=1)=A:=⟨_,rfl⟩
 obtain ⟨B,a⟩:∃B,decide (p.k<=2147483648)=B:=⟨_,rfl⟩
 obtain ⟨C,f⟩:∃C,decide (inW p.x p.y)=C:=⟨_,rfl⟩
 obtain ⟨D,c⟩:∃D,decide (p.v>=-2147483648)=D:=⟨_,rfl⟩
 rw [f] at d |-;rw [b,a,c];cases A<;>cases B<;>push_cast [tu,Pt.av,Pt.rv,b,a,c,zab];refine a7 d rfl trivial ?_;cases C<;>push_cast [b,a,c];cases D<;>simp<;>omega
theorem ayh {L:List Pt}:UpP L↔(L.map (·.k)).Pairwise (· < ·):=by
 unfold UpP;rw [zcf]
theorem ze {L:List Pt} (b:UpP L) (k:Int):(n8 k L).Perm (loK k L++hiK k L):=by
 unfold n8 loK hiK;clear b
 induction L with
 | nil=>simp
 | cons q L ih=>
   rcases Int.lt_trichotomy q.k k with h | h | h
   ·rw [zax,zax,zax];have:q.k≠k:=by omega
    have:¬k<q.k:=by omega
    simp [*]
   ·rw [zax,zax,zax];simp [h];exact ih
   rw [zax,zax,zax];have a:q.k≠k:=by omega
   have c:¬q.k<k:=by omega
   simp only [h,a,c,bne_iff_ne,ne_eq,not_false_eq_true,decide_true,decide_false,if_true,zcg,if_false];exact List.Perm.trans (List.Perm.cons q ih) List.perm_middle.symm
variable {P:List Pt}
theorem ah2 {L:List Pt} (h:P.Perm L) (b:UpP L) (p:Pt):(aag P p).Perm (jz p L):=by
 unfold aag jz;have a:(n8 p.k P).Perm (n8 p.k L):=h.filter _;refine ((a.trans (ze b p.k)).append_right [p]).trans ?_;rw [List.append_assoc];exact (List.Perm.append_left _ (List.perm_append_comm (l₁:=hiK p.k L) (l₂:=[p])))
theorem an4 {L:List Pt} (h:P.Perm L) (a:UpP L) (k:Int):(n8 k P).Perm (fk k L):=(h.filter _).trans (ze a k)
theorem amt {L:List Pt} (e:UpP L) (p:Pt):UpP (jz p L):=by
 unfold UpP jz loK hiK at *;rw [zcd,zcb];refine ⟨e.sublist zaz,⟨λ q f=>?_,e.sublist zaz⟩,λ a d b c=>?_⟩
 ·have:=(zak.1 f).2;simpa using this
 have d:=(zak.1 d).2;simp at d;rcases zbs.1 c with rfl | c
 ·exact d
 have c:=(zak.1 c).2;simp at c;omega
theorem auo {L:List Pt} (e:UpP L) (k:Int):UpP (fk k L):=by
 unfold UpP fk loK hiK at *;rw [zcd];refine ⟨e.sublist zaz,e.sublist zaz,λ a c b d=>?_⟩;have c:=(zak.1 c).2;have d:=(zak.1 d).2;simp at c d;omega
theorem aki {L:List Pt} (b:∀p∈L,p.ok) (c:p.ok):∀q∈jz p L,q.ok:=λ q a=>by
 unfold jz loK hiK at a;rcases zcc.1 a with a | a
 ·exact b q (zak.1 a).1
 rcases zbs.1 a with rfl | a
 ·exact c
 exact b q (zak.1 a).1
theorem aqe {L:List Pt} (b:∀p∈L,p.ok) (k:Int):∀q∈fk k L,q.ok:=λ q a=>by
 unfold fk loK hiK at a;rcases zcc.1 a with a | a
 ·exact b q (zak.1 a).1
 exact b q (zak.1 a).1
theorem ani {L:List Pt} (a:UpP L) (k:Int):(loK k L).length+(hiK k L).length=(n8 k L).length:=by
 rw [(ze a k).length_eq,zau]
theorem akj {L:List Pt} (a:UpP L) (p:Pt):(jz p L).length<=L.length+1:=by
 have:=ani a p.k;have:(n8 p.k L).length<=L.length:=zch _ _;unfold jz;rw [zau,zad];omega
theorem aqf {L:List Pt} (h:P.Perm L) (d:UpP L) (k:Int):(fk k L).length<=L.length/\has P k=decide ((fk k L).length<L.length):=by
 have b:=ani d k;have f:(n8 k L).length<=L.length:=zch _ _;have c:(fk k L).length=(n8 k L).length:=by rw [<- b]; unfold fk; rw [zau]
 refine ⟨by omega,?_⟩;rw [Bool.eq_iff_iff,decide_eq_true_iff,agz,c];unfold n8;rw [List.length_filter_lt_length_iff_exists];constructor
 ·rintro ⟨p,a,e⟩;exact ⟨p,h.subset a,by simp [e]⟩
 rintro ⟨p,a,e⟩;exact ⟨p,h.symm.subset a,by simpa using e⟩
theorem azn {K:List Ky} (o:(K.map (·.d)).Nodup) {x:Ky} (hx:(K.mergeSort leK)[i]?=some x):K.countP (λ k=>kl k x)=i:=by
 have m:=zbr K leK;have n:(K.mergeSort leK).Pairwise λ a b=>leK a b=true:=zbu abz ab0 _;have r:(K.mergeSort leK).Pairwise λ a b=>a.d≠b.d:=zcf.1 ((m.map Ky.d).nodup_iff.2 o);rw [<- m.countP_eq];generalize K.mergeSort leK=S at *;have h:=(zag.1 hx).1;have e:S=S.take i++S.drop i:=(zba i S).symm;rw [e,List.countP_append,List.countP_eq_length.2,List.countP_eq_zero.2,zaj]
 ·omega
 ·intro y hy;obtain ⟨j,c⟩:=zan hy;rw [zbv] at c;have f:=(zag.1 c).1;by_cases p:j=0
  ·subst p;rw [Nat.add_zero,hx] at c;cases c;rw [yk];simp
  have:=(zat.1 n) i (i+j) h f (by omega);rw [(zag.1 c).2,(zag.1 hx).2] at this;unfold leK at this;simpa using this
 intro y hy;obtain ⟨j,c⟩:=zan hy;rw [zbh] at c;split at c
 ·rename_i g;have f:=(zag.1 c).1;have l:=(zat.1 n) j i f h g;have q:=(zat.1 r) j i f h g;rw [(zag.1 c).2,(zag.1 hx).2] at l q;unfold leK at l;simp only [zca,ad3] at l;rw [yn];omega
 cases c
def klp (p q:Pt):Bool:=decide (p.v<q.v)||(p.v == q.v&&decide (p.k<q.k))
theorem a3e (v:Nat) (p q:Pt):kl ⟨v,p.v,p.k⟩ ⟨v,q.v,q.k⟩=klp p q:=by
 rw [Bool.eq_iff_iff,yn];unfold klp;simp
variable {v:Nat}
theorem a3m {L:List Pt} (o:UpP L) (h:(uj L v)[i]?=some x):∃(j:Nat) (p:Pt),(mem L v)[j]?=some p/\p.k=x/\(mem L v).countP (λ q=>klp q p)=i:=by
 unfold uj at h;rw [zal] at h;obtain ⟨y,hy,rfl⟩:=Option.map_eq_some_iff.1 h
 have g:((oi L v).map (·.d)).Nodup:=by
  unfold oi;rw [List.map_map];have m:UpP (mem L v):=o.sublist zaz;exact zcf.2 (m.imp λ {a b} n e=>by simp at e; omega)
 have c:=azn g hy;have f:y∈oi L v:=(zbr _ _).subset (zao hy);unfold oi at f c;obtain ⟨p,l,rfl⟩:=zbc.1 f;obtain ⟨j,r⟩:=zan l;refine ⟨j,p,r,rfl,?_⟩;rw [List.countP_map] at c;rw [<- c];congr 1;funext q;exact (a3e v q p).symm
theorem az7 {L:List Pt} (e:UpP L) {a:Nat} {q:Pt} (b:(mem L v)[j]?=some p) (d:(mem L v)[a]?=some q) (h:p.k=q.k):j=a:=by
 have c:UpP (mem L v):=e.sublist zaz;rcases Nat.lt_trichotomy j a with g | g | g
 ·have:=agl c g b d; omega
 ·exact g
 have:=agl c g d b; omega
theorem an5 (f:Pt->Bool) (h:M[j]?=some p):(M.take (j+1)).countP f=(M.take j).countP f+(if f p then 1 else 0):=by
 rw [zap,h,List.countP_append];simp [List.countP_cons]

def nu:Mk P0 f6:={ x:=_ }
abbrev Op1:=Int×Pt
def m6 (a:List Op1):RV:=.sl 5 (a.map λ o=>j9 o.1 o.2)
theorem apo {a:List Op1} {o:Op1} (h:a[i]?=some o) (z:RV):(a.map λ o=>j9 o.1 o.2).getD i z=.agg [.v (.int .i64 o.1),.v (.int .i64 o.2.k),.v (.int .i64 o.2.x),.v (.int .i64 o.2.y),.v (.int .i64 o.2.v)]:=by
 rw [zaq,zal,h]; rfl
def kR (p:Pt):RV:=.agg [.v (.int .u64 0),.v (.int .i64 p.v),.v (.int .i64 p.k)]
def bd (M:List Pt):Ob:=.row 3 (.agg [.v (.int .u64 0),.v (.int .i64 0),.v (.int .i64 0)]) true true (M.map kR)
theorem arm (h:M[j]?=some p) (z:RV):(M.map kR).getD j z=.agg [.v (.int .u64 0),.v (.int .i64 p.v),.v (.int .i64 p.k)]:=by
 rw [zaq,zal,h]; rfl
theorem a3i {G:List Int} (h:G[i]?=some x) (z:RV):(ids G).getD i z=.v (.int .i64 x):=by
 rw [zaq,ids,zal,h]; rfl
theorem tt (L:List Pt):∀o∈[i7 L],gu o:=λ o a=>by
 simp only [List.mem_singleton] at a;subst a;intro y hy;obtain ⟨x,_,rfl⟩:=zbc.1 hy;simp [Pt.rv,y8,er]
theorem azw (c:List Op1) (xs:List Int) (hx:∀x∈xs,-9223372036854775808<=x/\x<=9223372036854775807) (w:Nat) (hw:w<18446744073709551616) (Q r k:Int) :
 a9 P0 6 [.r (m6 c),.r (zm xs),int .u64 w,int .i64 Q,int .i64 r,int .i64 k] [] (bl true) []:=by
 refine nu.t func6 ?_;have ey:=o9;obtain ⟨R,hR,eR⟩:=r13 r;have f:GP (gz xs []):=ap7 xs [] (by simp [GP]);have ea:=ap6 xs [] (by decide);have gg:=av6 xs hx
 push_cast [nu,m6,zm,zaa,zab]
 refine a7 ax0 rfl trivial ?_;by_cases k4:c.length>60
 ·have e1:decide ((c.length:Int)>60)=true:=by simp; omega
  push_cast [e1]
 have e1:decide ((c.length:Int)>60)=false:=by simp; omega
 by_cases ev:xs.length>100
 ·have e2:decide ((xs.length:Int)>100)=true:=by simp; omega
  push_cast [e1,e2]
 have e2:decide ((xs.length:Int)>100)=false:=by simp; omega
 push_cast [e1,e2]
 refine a7 a08 rfl trivial ?_
 push_cast
 refine b7 (as':=[.r (zm xs)]) rfl ?_;refine a7 gg rfl trivial ?_;generalize hG:gz xs []=l at *;have e0:l.length<=40:=ea
 have e7:∀p∈l,p.ok:=λ p K=>by
  obtain ⟨j,hj⟩:=zan K;exact (f j p hj).2
 push_cast
 refine c7 [(16,false),(0,false),(14,false),(13,false),(15,true),(2,false),(3,false),(4,false),(5,false)] (λ vs pos A=>∃(i:Nat) (P L:List Pt),P.Perm L/\UpP L/\(∀p∈L,p.ok)/\L.length<=min i l.length+min i c.length/\i<=60 /\
  pos=[]/\vs=[int .i64 i,.r (m6 c),.own 2000000 0 0 l.length,.ptr 2000001 0 0,.own 2000002 0 0 L.length,int .u64 w,int .i64 Q,int .i64 r,int .i64 k]/\A=[i7 l,.abs (sT P),i7 L])
  (λ vs _ _=>match vs with | .r (.v (.int _ a))::_=>(60-a).toNat | _=>0) rfl ?_ ?_
 ·push_cast [i7,m6,Pt.rv]
  exact ⟨0,[],[],.refl _,List.Pairwise.nil,by simp,by simp,by omega,by simp⟩
 rintro vs pos A ⟨i,P,L,E,g,u,k0,ex,rfl,rfl,rfl⟩;have W:IntKind.i64.wrap ((i:Int)+1)=(i:Int)+1:=a6 (by omega);by_cases hn:i<l.length
 ·have d2:decide ((i:Int)<(l.length:Int))=true:=decide_eq_true (by omega);obtain ⟨p,K⟩:∃p,l[i]?=some p:=⟨l[i],by simp [hn]⟩
  have g1:=e7 p (zao K);have f:=λ z=>rq K z
  have en:dj P p=true:=by
   unfold dj;rw [decide_eq_true g1,decide_eq_true (show P.length<2000 by rw [E.length_eq]; omega)];simp
  have hf:=akh P p en;have h6:=adf L (by omega) g 1 p rfl;rw [if_pos rfl] at h6;have F:=ah2 E g p;have m:=amt g p;have S:=aki u g1;have ew:=akj g p;have g5:zai L.length (L.map Pt.rv)=L.map Pt.rv:=zah (by simp);have D:zai (jz p L).length ((jz p L).map Pt.rv)=(jz p L).map Pt.rv:=zah (by simp);generalize k2:jz p L=U at *;generalize k3:aag P p=P1 at *;by_cases hm:i<c.length
  ·have d1:decide ((i:Int)<(c.length:Int))=true:=decide_eq_true (by omega);have d3:decide ((i:Int)>=(c.length:Int))=false:=decide_eq_false (by omega)
   push_cast [d1,d2,f,i7,m6,j9,Pt.rv,zaa,zad,zab,zac,zaf,zae]
   repeat refine sI ?_
   refine b7 (as':=[.ptr 1000000 0 0,p.av]) rfl ?_;refine a7 hf rfl ⟨rfl,trivial⟩ ?_
   push_cast [d2,f,i7,m6,j9,Pt.rv,zaa,zad,zab,zac,zaf,zae]
   repeat refine sI ?_
   refine bh ?_
   push_cast [g5,i7,m6,j9,Pt.rv,zaa,zad,zab]
   refine b7 (as':=[i9 L,.r (.sl 5 [j9 1 p])]) rfl ?_;refine cp h6 rfl trivial (by simp [u7]) (tt _) ?_
   push_cast [i7,m6,j9,Pt.rv,zaa,zad,zab]
   obtain ⟨o,ho⟩:∃o,c[i]?=some o:=⟨c[i],by simp [hm]⟩
   have H:=λ z=>apo ho z;simp only [j9] at H;have e8:(P1).length=(U).length:=F.length_eq;by_cases Z:o.1=2
   ·have e4:(o.1 == 2)=true:=by simp [Z]
    have d:=adf (U) (by omega) m 2 ⟨o.2.k,0,0,0⟩ rfl;rw [if_neg (by decide)] at d;obtain ⟨eq,hz⟩:=aqf F m o.2.k;have O:=ax6 (P1) o.2.k;rw [hz] at O
    push_cast [d3,e4,H,i7,m6,j9,Pt.rv,zaa,zad,zab,zac,zaf,zae]
    repeat refine sI ?_
    refine bh ?_
    push_cast [D,i7,m6,j9,Pt.rv,zaa,zad,zab]
    refine b7 (as':=[i9 (U),.r (.sl 5 [j9 2 ⟨o.2.k,0,0,0⟩])]) rfl ?_;refine cp d rfl trivial (by simp [u7]) (tt _) ?_
    push_cast [i7,m6,j9,Pt.rv,zaa,zad,zab]
    refine b7 (as':=[.ptr 1000000 0 0,int .i64 o.2.k]) rfl ?_;refine a7 O rfl ⟨rfl,trivial⟩ ?_;obtain ⟨X,hX⟩:∃X:Int,(((fk o.2.k (U)).length:Nat):Int)=X:=⟨_,rfl⟩
    have e5:(decide ((fk o.2.k (U)).length<(U).length) == decide (X<((U).length:Int)))=true:=by
     rw [<- hX];simp
    have hu:(decide ((fk o.2.k (U)).length<(U).length) != decide (X<((U).length:Int)))=false:=by
     rw [<- hX];simp
    push_cast [hX,i7,m6,j9,Pt.rv,zaa,zad,zab,zac,zaf,zae]
    push_cast [e5,hu,W,i7,m6,j9,Pt.rv,zaa,zad,zab,zbp,zac,zaf,zae]
    exact ⟨⟨i+1,_,_,an4 F m o.2.k,auo m o.2.k,aqe S o.2.k,by omega,by omega,by simp⟩,by omega⟩
   have e4:(o.1 == 2)=false:=by simp [Z]
   have b:=aq4 (P1) o.2
   have h5:dj (P1) o.2=decide o.2.ok:=by
    unfold dj;rw [decide_eq_true (show (P1).length<2000 by omega)];simp
   rw [h5] at b;by_cases C:o.2.ok
   ·rw [decide_eq_true C,if_pos rfl] at b;have d:=adf (U) (by omega) m 1 o.2 rfl;rw [if_pos rfl] at d;have s:=ai1 o.2;rw [decide_eq_true C] at s;have hr:=akj m o.2
    push_cast [d3,e4,H,i7,m6,j9,Pt.rv,zaa,zad,zab,zac,zaf,zae]
    repeat refine sI ?_
    refine n9 (as':=[.ptr 1000000 0 0,o.2.av]) rfl ?_;refine g9 b rfl ⟨rfl,trivial⟩ ?_
    push_cast [i7,m6,j9,Pt.rv,zaa,zad,zab,zac,zaf,zae]
    refine n9 (as':=[o.2.av]) rfl ?_;refine g9 s rfl trivial ?_
    push_cast [i7,m6,j9,Pt.rv,zaa,zad,zab,bne_self_eq_false,zac,zaf,zae]
    refine And.intro (by kernel_rfl) ?_;refine b7 (as':=[o.2.av]) rfl ?_;refine a7 s rfl trivial ?_
    push_cast [i7,m6,j9,Pt.rv,zaa,zad,zab,zac,zaf,zae]
    repeat refine sI ?_
    refine bh ?_
    push_cast [D,i7,m6,j9,Pt.rv,zaa,zad,zab]
    refine b7 (as':=[i9 (U),.r (.sl 5 [j9 1 o.2])]) rfl ?_;refine cp d rfl trivial (by simp [u7]) (tt _) ?_
    push_cast [W,i7,m6,j9,Pt.rv,zaa,zad,zab,zac,zaf,zae]
    exact ⟨⟨i+1,_,_,ah2 F m o.2,amt m o.2,aki S C,by omega,by omega,by simp⟩,by omega⟩
   rw [decide_eq_false C,if_neg (by simp)] at b;have s:=ai1 o.2;rw [decide_eq_false C] at s
   push_cast [d3,e4,H,i7,m6,j9,Pt.rv,zaa,zad,zab,zac,zaf,zae]
   repeat refine sI ?_
   refine n9 (as':=[.ptr 1000000 0 0,o.2.av]) rfl ?_;refine g9 b rfl ⟨rfl,trivial⟩ ?_
   push_cast [i7,m6,j9,Pt.rv,zaa,zad,zab,zac,zaf,zae]
   refine n9 (as':=[o.2.av]) rfl ?_;refine g9 s rfl trivial ?_
   push_cast [i7,m6,j9,Pt.rv,zaa,zad,zab,bne_self_eq_false,zac,zaf,zae]
   refine And.intro (by kernel_rfl) ?_;refine b7 (as':=[o.2.av]) rfl ?_;refine a7 s rfl trivial ?_
   push_cast [W,i7,m6,j9,Pt.rv,zaa,zad,zab,zac,zaf,zae]
   exact ⟨⟨i+1,_,_,F,m,S,by omega,by omega,by simp⟩,by omega⟩
  have d1:decide ((i:Int)<(c.length:Int))=false:=decide_eq_false (by omega);have d3:decide ((i:Int)>=(c.length:Int))=true:=decide_eq_true (by omega)
  push_cast [d1,d2,d3,f,i7,m6,j9,Pt.rv,zaa,zad,zab,zac,zaf,zae]
  repeat refine sI ?_
  refine b7 (as':=[.ptr 1000000 0 0,p.av]) rfl ?_;refine a7 hf rfl ⟨rfl,trivial⟩ ?_
  push_cast [d2,f,i7,m6,j9,Pt.rv,zaa,zad,zab,zac,zaf,zae]
  repeat refine sI ?_
  refine bh ?_
  push_cast [g5,i7,m6,j9,Pt.rv,zaa,zad,zab]
  refine b7 (as':=[i9 L,.r (.sl 5 [j9 1 p])]) rfl ?_;refine cp h6 rfl trivial (by simp [u7]) (tt _) ?_
  push_cast [d3,W,i7,m6,j9,Pt.rv,zaa,zad,zab]
  exact ⟨⟨i+1,P1,U,F,m,S,by omega,by omega,by simp⟩,by omega⟩
 have d2:decide ((i:Int)<(l.length:Int))=false:=decide_eq_false (by omega);have D:zai L.length (L.map Pt.rv)=L.map Pt.rv:=zah (by simp);by_cases hm:i<c.length
 ·have d1:decide ((i:Int)<(c.length:Int))=true:=decide_eq_true (by omega);have d3:decide ((i:Int)>=(c.length:Int))=false:=decide_eq_false (by omega)
  push_cast [d1,d2,i7,m6,j9,Pt.rv,zaa,zad,zab,zac,zaf,zae]
  repeat refine sI ?_
  obtain ⟨o,ho⟩:∃o,c[i]?=some o:=⟨c[i],by simp [hm]⟩
  have H:=λ z=>apo ho z;simp only [j9] at H;have e8:(P).length=(L).length:=E.length_eq;by_cases Z:o.1=2
  ·have e4:(o.1 == 2)=true:=by simp [Z]
   have d:=adf (L) (by omega) g 2 ⟨o.2.k,0,0,0⟩ rfl;rw [if_neg (by decide)] at d;obtain ⟨eq,hz⟩:=aqf E g o.2.k;have O:=ax6 (P) o.2.k;rw [hz] at O
   push_cast [d3,e4,H,i7,m6,j9,Pt.rv,zaa,zad,zab,zac,zaf,zae]
   repeat refine sI ?_
   refine bh ?_
   push_cast [D,i7,m6,j9,Pt.rv,zaa,zad,zab]
   refine b7 (as':=[i9 (L),.r (.sl 5 [j9 2 ⟨o.2.k,0,0,0⟩])]) rfl ?_;refine cp d rfl trivial (by simp [u7]) (tt _) ?_
   push_cast [i7,m6,j9,Pt.rv,zaa,zad,zab]
   refine b7 (as':=[.ptr 1000000 0 0,int .i64 o.2.k]) rfl ?_;refine a7 O rfl ⟨rfl,trivial⟩ ?_;obtain ⟨X,hX⟩:∃X:Int,(((fk o.2.k (L)).length:Nat):Int)=X:=⟨_,rfl⟩
   have e5:(decide ((fk o.2.k (L)).length<(L).length) == decide (X<((L).length:Int)))=true:=by
    rw [<- hX];simp
   have hu:(decide ((fk o.2.k (L)).length<(L).length) != decide (X<((L).length:Int)))=false:=by
    rw [<- hX];simp
   push_cast [hX,i7,m6,j9,Pt.rv,zaa,zad,zab,zac,zaf,zae]
   push_cast [e5,hu,W,i7,m6,j9,Pt.rv,zaa,zad,zab,zbp,zac,zaf,zae]
   exact ⟨⟨i+1,_,_,an4 E g o.2.k,auo g o.2.k,aqe u o.2.k,by omega,by omega,by simp⟩,by omega⟩
  have e4:(o.1 == 2)=false:=by simp [Z]
  have b:=aq4 (P) o.2
  have h5:dj (P) o.2=decide o.2.ok:=by
   unfold dj;rw [decide_eq_true (show (P).length<2000 by omega)];simp
  rw [h5] at b;by_cases C:o.2.ok
  ·rw [decide_eq_true C,if_pos rfl] at b;have d:=adf (L) (by omega) g 1 o.2 rfl;rw [if_pos rfl] at d;have s:=ai1 o.2;rw [decide_eq_true C] at s;have hr:=akj g o.2
   push_cast [d3,e4,H,i7,m6,j9,Pt.rv,zaa,zad,zab,zac,zaf,zae]
   repeat refine sI ?_
   refine n9 (as':=[.ptr 1000000 0 0,o.2.av]) rfl ?_;refine g9 b rfl ⟨rfl,trivial⟩ ?_
   push_cast [i7,m6,j9,Pt.rv,zaa,zad,zab,zac,zaf,zae]
   refine n9 (as':=[o.2.av]) rfl ?_;refine g9 s rfl trivial ?_
   push_cast [i7,m6,j9,Pt.rv,zaa,zad,zab,bne_self_eq_false,zac,zaf,zae]
   refine And.intro (by kernel_rfl) ?_;refine b7 (as':=[o.2.av]) rfl ?_;refine a7 s rfl trivial ?_
   push_cast [i7,m6,j9,Pt.rv,zaa,zad,zab,zac,zaf,zae]
   repeat refine sI ?_
   refine bh ?_
   push_cast [D,i7,m6,j9,Pt.rv,zaa,zad,zab]
   refine b7 (as':=[i9 (L),.r (.sl 5 [j9 1 o.2])]) rfl ?_;refine cp d rfl trivial (by simp [u7]) (tt _) ?_
   push_cast [W,i7,m6,j9,Pt.rv,zaa,zad,zab,zac,zaf,zae]
   exact ⟨⟨i+1,_,_,ah2 E g o.2,amt g o.2,aki u C,by omega,by omega,by simp⟩,by omega⟩
  rw [decide_eq_false C,if_neg (by simp)] at b;have s:=ai1 o.2;rw [decide_eq_false C] at s
  push_cast [d3,e4,H,i7,m6,j9,Pt.rv,zaa,zad,zab,zac,zaf,zae]
  repeat refine sI ?_
  refine n9 (as':=[.ptr 1000000 0 0,o.2.av]) rfl ?_;refine g9 b rfl ⟨rfl,trivial⟩ ?_
  push_cast [i7,m6,j9,Pt.rv,zaa,zad,zab,zac,zaf,zae]
  refine n9 (as':=[o.2.av]) rfl ?_;refine g9 s rfl trivial ?_
  push_cast [i7,m6,j9,Pt.rv,zaa,zad,zab,bne_self_eq_false,zac,zaf,zae]
  refine And.intro (by kernel_rfl) ?_;refine b7 (as':=[o.2.av]) rfl ?_;refine a7 s rfl trivial ?_
  push_cast [W,i7,m6,j9,Pt.rv,zaa,zad,zab,zac,zaf,zae]
  exact ⟨⟨i+1,_,_,E,g,u,by omega,by omega,by simp⟩,by omega⟩
 have d1:decide ((i:Int)<(c.length:Int))=false:=decide_eq_false (by omega);have eo:L.length<=100:=by omega
 have hb:=ayh.1 g
 push_cast [d1,d2,i7,m6,j9,Pt.rv,zaa,zad,zab,zac,zaf,zae]
 refine bh ?_
 push_cast [D,i7,m6,j9,Pt.rv,zaa,zad,zab]
 refine b7 (as':=[.ptr 1000000 0 0,i9 L,int .u64 w,int .i64 r,int .i64 k]) rfl ?_;refine cp (ap4 P L E (by omega) u hb w hw r k) rfl ⟨rfl,trivial⟩ (by simp [u7,y8]) (by simp [gu]) ?_
 push_cast [i7,m6,j9,Pt.rv,zaa,zad,zab]
 refine b9 (λ h0=>?_) (λ h0=>?_)
 ·push_cast
 have k1:L.length≠0:=by simpa using h0
 obtain ⟨J,hJ,eJ⟩:∃J:Nat,J<L.length/\(Q%256).tmod (L.length:Int)=J:=by
  have h2:=Int.emod_nonneg Q (show (256:Int)≠0 by decide);rw [Int.tmod_eq_emod_of_nonneg h2];have h3:=Int.emod_nonneg (Q%256) (show (L.length:Int)≠0 by omega);have h4:=Int.emod_lt_of_pos (Q%256) (show (0:Int)<L.length by omega);exact ⟨((Q%256)%(L.length:Int)).toNat,by omega,by omega⟩
 obtain ⟨q,hq⟩:∃q,L[J]?=some q:=⟨L[J],by simp [hJ]⟩
 have es:=λ z=>rq hq z;have ga:q∈L:=zao hq;have g6:=u q ga;have h9:=yh q.x q.y R g6.2.1 (by omega);rw [zac] at h9;have hh:=Pt.w_res g6 hR;have m3:IntKind.i64.wrap ((zaw IntKind.i64.bits k &&& zaw IntKind.i64.bits 7).toNat)=k%8:=abl k 7 3 (by decide) (by decide);have g4:mem L (q.w R)≠[]:=ark hR ⟨q,ga,rfl⟩;have T:=a4y P (q.w R) (λ e=>g4 (by have:=aic E (q.w R); rw [e] at this; exact this.nil_eq.symm));rw [atl E] at T;have Y:=ap4 P L E (by omega) u hb (q.w R) hh.2.2 R (k%8);have he:∀p∈L,inC (q.w R) p=decide (p.w R=q.w R):=λ p K=>ad5 (u p K) hR hh.2.1;have eb:uc q.x q.y R=q.w R:=rfl;rw [eb] at h9;obtain ⟨v,hv⟩:∃v,q.w R=v:=⟨_,rfl⟩
 rw [hv] at h9 hh g4 T Y he
 push_cast [m8,eJ,i7,m6,j9,Pt.rv,zaa,zad,zab,zac,zaf,zae]
 repeat refine sI ?_
 push_cast [es,eR,m3,i7,m6,j9,Pt.rv,zaa,zad,zab,zac,zaf,zae]
 repeat refine sI ?_
 refine b7 (as':=[int .i64 q.x,int .i64 q.y,int .i64 R]) rfl ?_;refine a7 h9 rfl trivial ?_
 push_cast [uw,m3,i7,m6,j9,Pt.rv,zaa,zad,zab,zac,zaf,zae]
 refine bh ?_
 push_cast [D,i7,m6,j9,Pt.rv,zaa,zad,zab]
 refine b7 (as':=[.ptr 1000000 0 0,i9 L,int .u64 v,int .i64 R,int .i64 (k%8)]) rfl ?_;refine cp Y rfl ⟨rfl,trivial⟩ (by simp [u7,y8]) (by simp [gu]) ?_
 push_cast [i7,m6,j9,Pt.rv,zaa,zad,zab]
 refine c7 [(22,false),(15,false),(4,false),(20,false),(21,true),(13,false)] (λ vs pos A=>∃i:Nat,i<=L.length/\pos=[] /\
  vs=[int .i64 i,.own 2000000 0 0 L.length,int .i64 R,int .u64 v,.own 2000001 0 0 (mem (L.take i) v).length,.ptr 2000002 0 0]/\A=[i7 L,bd (mem (L.take i) v),.abs (sT P)])
  (λ vs _ _=>match vs with | .r (.v (.int _ a))::_=>(L.length-a).toNat | _=>0) rfl ?_ ?_
 ·push_cast [bd,i7,m6,j9,Pt.rv,zaa,zad,zab]
  exact ⟨0,by omega,by simp [mem]⟩
 rintro vs pos A ⟨i,hi,rfl,rfl,rfl⟩;have W:IntKind.i64.wrap ((i:Int)+1)=(i:Int)+1:=a6 (by omega)
 have ht:(mem (L.take i) v).length<=100:=by
  have:(mem (L.take i) v).length<=(L.take i).length:=zch _ _;rw [zaj] at this;omega
 by_cases hd:i<L.length
 ·have d5:decide ((i:Int)<(L.length:Int))=true:=decide_eq_true (by omega);obtain ⟨p,K⟩:∃p,L[i]?=some p:=⟨L[i],by simp [hd]⟩
  have g3:p∈L:=zao K;have f:=λ z=>rq K z;have g0:=yh p.x p.y R (u p g3).2.1 (by omega);rw [zac] at g0;have hN:=aib (w:=v) K;rw [he p g3] at hN;obtain ⟨M,hM⟩:∃M,mem (L.take i) v=M:=⟨_,rfl⟩
  rw [hM] at hN ht |-;have gd:zai M.length (M.map kR)=M.map kR:=zah (by simp);have g2:uc p.x p.y R=p.w R:=rfl;rw [g2] at g0
  push_cast [bd,d5,f,i7,m6,j9,Pt.rv,zaa,zad,zab,zac,zaf,zae]
  repeat refine sI ?_
  refine n9 (as':=[int .i64 p.x,int .i64 p.y,int .i64 R]) rfl ?_;refine g9 g0 rfl trivial ?_
  push_cast [uw,bd,i7,m6,j9,Pt.rv,zaa,zad,zab,zac,zaf,zae]
  refine And.intro (by kernel_rfl) ?_;refine b9 (λ hc=>?_) (λ hc=>?_)
  ·have B:p.w R=v:=by
    have:((p.w R:Nat):Int)=v:=by simpa using hc
    omega
   rw [decide_eq_true B,if_pos rfl] at hN
   push_cast [bd,f,gd,W,i7,m6,j9,Pt.rv,zaa,zad,zab,zac,zaf,zae]
   repeat refine sI ?_
   exact ⟨⟨i+1,by omega,by simp [hN],by rw [hN]; simp [kR]⟩,by omega⟩
  have B:¬p.w R=v:=λ e=>by
   rw [e] at hc;simp at hc
  rw [decide_eq_false B,if_neg (by simp),zas] at hN
  push_cast [bd,W,i7,m6,j9,Pt.rv,zaa,zad,zab,zac,zaf,zae]
  exact ⟨⟨i+1,by omega,by simp [hN],by rw [hN]⟩,by omega⟩
 have d5:decide ((i:Int)<(L.length:Int))=false:=decide_eq_false (by omega);have ed:i=L.length:=by omega
 subst ed;rw [zam] at ht |-;obtain ⟨M,hM⟩:∃M,mem L v=M:=⟨_,rfl⟩
 have hs:=amv L v;obtain ⟨G,hG⟩:∃G,uj L v=G:=⟨_,rfl⟩
 rw [hG] at T hs;rw [hM] at hs ht |-
 push_cast [bd,d5,i7,m6,j9,Pt.rv,zaa,zad,zab,zac,zaf,zae]
 refine b7 (as':=[.ptr 1000000 0 0,int .u64 v]) rfl ?_;refine a7 T rfl ⟨rfl,trivial⟩ ?_;have e6:((G.length:Int) != M.length)=false:=by simp [hs]
 have ee:∀(i:Nat) (x:Int),G[i]?=some x->∃(j:Nat) (p:Pt),M[j]?=some p/\p.k=x/\M.countP (λ q=>klp q p)=i:=λ i x h=>by
  rw [<- hG] at h;rw [<- hM];exact a3m g h
 have g7:∀(j j':Nat) (p q:Pt),M[j]?=some p->M[j']?=some q->p.k=q.k->j=j':=λ j j' p q h1 h2 h=>by
  rw [<- hM] at h1 h2;exact az7 g h1 h2 h
 push_cast [bd,e6,z64,i7,m6,j9,Pt.rv,zaa,zad,zab,zac,zaf,zae]
 refine c7 [(24,false),(23,false),(21,false)] (λ vs pos A=>∃i:Nat,i<=G.length/\pos=[] /\
  vs=[int .i64 i,.own 2000000 0 0 G.length,.own 2000001 0 0 M.length]/\A=[.row 1 z64 true true (ids G),bd M])
  (λ vs _ _=>match vs with | .r (.v (.int _ a))::_=>(G.length-a).toNat | _=>0) rfl ?_ ?_
 ·push_cast [bd,z64,i7,m6,j9,Pt.rv,zaa,zad,zab]
  exact ⟨0,by omega,by simp⟩
 rintro vs pos A ⟨i,hi,rfl,rfl,rfl⟩;have W:IntKind.i64.wrap ((i:Int)+1)=(i:Int)+1:=a6 (by omega);by_cases hd:i<G.length
 ·have d5:decide ((i:Int)<(G.length:Int))=true:=decide_eq_true (by omega);obtain ⟨x,hx⟩:∃x,G[i]?=some x:=⟨G[i],by simp [hd]⟩
  obtain ⟨V,I,h7,gq,e3⟩:=ee i x hx;have gb:=(zag.1 h7).1;have gw:=λ z=>a3i hx z;have ha:=λ z=>arm h7 z
  push_cast [bd,d5,z64,mv,i7,m6,j9,Pt.rv,zaa,zad,zab,zac,zaf,zae]
  refine c7 [(27,false),(25,false),(26,false),(24,false),(23,false),(21,false)] (λ vs pos A=>∃j:Nat,j<=M.length/\pos=[] /\
   vs=[int .i64 j,int .i64 0,int .i64 (if V<j then (V:Int) else -1),int .i64 i,.own 2000000 0 0 G.length,.own 2000001 0 0 M.length]/\A=[.row 1 z64 true true (ids G),bd M])
   (λ vs _ _=>match vs with | .r (.v (.int _ a))::_=>(M.length-a).toNat | _=>0) rfl ?_ ?_
  ·push_cast [bd,z64,i7,m6,j9,Pt.rv,zaa,zad,zab]
   exact ⟨0,by omega,by simp⟩
  rintro vs pos A ⟨j,hj,rfl,rfl,rfl⟩;have wj:IntKind.i64.wrap ((j:Int)+1)=(j:Int)+1:=a6 (by omega);by_cases hg:j<M.length
  ·have d6:decide ((j:Int)<(M.length:Int))=true:=decide_eq_true (by omega);obtain ⟨p,K⟩:∃p,M[j]?=some p:=⟨M[j],by simp [hg]⟩
   have f:=λ z=>arm K z
   push_cast [bd,d6,f,gw,z64,mv,i7,m6,j9,Pt.rv,zaa,zad,zab,zac,zaf,zae]
   repeat refine sI ?_
   refine b9 (λ hc=>?_) (λ hc=>?_)
   ·have B:p.k=x:=by simpa using hc
    have gc:=g7 j V p I K h7 (by omega)
    push_cast [bd,wj,z64,i7,m6,j9,Pt.rv,zaa,zad,zab,zac,zaf,zae]
    exact ⟨⟨j+1,by omega,by rw [if_pos (by omega)]; simp; omega⟩,by omega⟩
   have B:p.k≠x:=by simpa using hc
   have gc:V≠j:=λ e=>by
    subst e;rw [K] at h7;cases h7;exact B gq
   push_cast [bd,wj,z64,i7,m6,j9,Pt.rv,zaa,zad,zab,zac,zaf,zae]
   refine ⟨⟨j+1,by omega,?_⟩,by omega⟩
   have e:(if V<j+1 then (V:Int) else -1)=if V<j then (V:Int) else -1:=by
    by_cases h:V<j
    ·rw [if_pos h,if_pos (by omega)]
    rw [if_neg h,if_neg (by omega)]
   rw [e];simp
  have d6:decide ((j:Int)<(M.length:Int))=false:=decide_eq_false (by omega);have hl:j=M.length:=by omega
  subst hl
  have gl:∀n,(M.take n).countP (λ q=>klp q I)<=100:=λ n=>by
   have h1:(M.take n).countP (λ q=>klp q I)<=(M.take n).length:=List.countP_le_length;rw [zaj] at h1;omega
  rw [if_pos gb]
  push_cast [bd,d6,z64,mv,i7,m6,j9,Pt.rv,zaa,zad,zab,zac,zaf,zae]
  refine c7 [(28,false),(25,false),(26,false),(24,false),(23,false),(21,false)] (λ vs pos A=>∃j:Nat,j<=M.length/\pos=[] /\
   vs=[int .i64 j,int .i64 ((M.take j).countP (λ q=>klp q I):Nat),int .i64 V,int .i64 i,.own 2000000 0 0 G.length,.own 2000001 0 0 M.length]/\A=[.row 1 z64 true true (ids G),bd M])
   (λ vs _ _=>match vs with | .r (.v (.int _ a))::_=>(M.length-a).toNat | _=>0) rfl ?_ ?_
  ·push_cast [bd,z64,i7,m6,j9,Pt.rv,zaa,zad,zab]
   exact ⟨0,by omega,by simp⟩
  rintro vs pos A ⟨j,hj,rfl,rfl,rfl⟩;have wj:IntKind.i64.wrap ((j:Int)+1)=(j:Int)+1:=a6 (by omega);have gs:=gl j;by_cases hg:j<M.length
  ·have d6:decide ((j:Int)<(M.length:Int))=true:=decide_eq_true (by omega);have d7:decide ((V:Int)>=0)=true:=decide_eq_true (by omega);obtain ⟨p,K⟩:∃p,M[j]?=some p:=⟨M[j],by simp [hg]⟩
   have f:=λ z=>arm K z;have h8:=an5 (λ q=>klp q I) K;obtain ⟨N,hN⟩:∃N,(M.take j).countP (λ q=>klp q I)=N:=⟨_,rfl⟩
   rw [hN] at h8 gs |-;have wN:IntKind.i64.wrap ((N:Int)+1)=(N:Int)+1:=a6 (by omega);cases hA:decide (p.v<I.v) with
   | true=>
     push_cast [bd,d6,d7,f,ha,hA,z64,mv,i7,m6,j9,Pt.rv,zaa,zad,zab,zac,zaf,zae]
     repeat refine sI ?_
     have hk:klp p I=true:=by simp [klp,hA]
     have B:(M.take (j+1)).countP (λ q=>klp q I)=N+1:=by rw [h8]; simp [hk]
     rw [wj,wN];exact ⟨⟨j+1,by omega,by rw [B]; simp⟩,by omega⟩
   | false=>
     cases hB:(p.v == I.v) with
     | true=>
       cases hC:decide (p.k<I.k) with
       | true=>
         push_cast [bd,d6,d7,f,ha,hA,hB,hC,z64,mv,i7,m6,j9,Pt.rv,zaa,zad,zab,zac,zaf,zae]
         repeat refine sI ?_
         have hk:klp p I=true:=by simp [klp,hA,hB,hC]
         have B:(M.take (j+1)).countP (λ q=>klp q I)=N+1:=by rw [h8]; simp [hk]
         rw [wj,wN];exact ⟨⟨j+1,by omega,by rw [B]; simp⟩,by omega⟩
       | false=>
         push_cast [bd,d6,d7,f,ha,hA,hB,hC,z64,mv,i7,m6,j9,Pt.rv,zaa,zad,zab,zac,zaf,zae]
         repeat refine sI ?_
         have hk:klp p I=false:=by simp [klp,hA,hB,hC]
         have B:(M.take (j+1)).countP (λ q=>klp q I)=N+0:=by rw [h8]; simp [hk]
         rw [wj];exact ⟨⟨j+1,by omega,by rw [B]; simp⟩,by omega⟩
     | false=>
       push_cast [bd,d6,d7,f,ha,hA,hB,z64,mv,i7,m6,j9,Pt.rv,zaa,zad,zab,zac,zaf,zae]
       repeat refine sI ?_
       have hk:klp p I=false:=by simp [klp,hA,hB]
       have B:(M.take (j+1)).countP (λ q=>klp q I)=N+0:=by rw [h8]; simp [hk]
       rw [wj];exact ⟨⟨j+1,by omega,by rw [B]; simp⟩,by omega⟩
  have d6:decide ((j:Int)<(M.length:Int))=false:=decide_eq_false (by omega);have hl:j=M.length:=by omega
  subst hl;rw [zam,e3];have d8:decide ((V:Int)<0)=false:=decide_eq_false (by omega);have e9:((i:Int) != i)=false:=by simp
  push_cast [bd,d6,d8,e9,W,z64,mv,i7,m6,j9,Pt.rv,zaa,zad,zab,zac,zaf,zae]
  exact ⟨⟨i+1,by omega,by simp⟩,by omega⟩
 have d5:decide ((i:Int)<(G.length:Int))=false:=decide_eq_false (by omega)
 push_cast [bd,d5,z64,mv,i7,m6,j9,Pt.rv,zaa,zad,zab,zac,zaf,zae]

end
end Go.Ev

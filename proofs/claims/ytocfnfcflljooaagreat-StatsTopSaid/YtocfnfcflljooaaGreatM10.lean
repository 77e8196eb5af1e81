import Derived.Test.YtocfnfcflljooaaGreatM9
open Go.Proofs.Tryz renaming prog → P0
open Go.Proofs.Tryz
open Nat renaming zero_add → zaa, add_zero → zai
open List renaming length_map → zab, getD_cons_zero → zae, getD_cons_succ → zaf, length_nil → zaj, getElem?_eq_getElem → zak
open Int renaming toNat_natCast → zac, toNat_natCast_add_one → zad, toNat_zero → zag, reduceToNat → zah
namespace Go.Ev
set_option maxHeartbeats 8000000
set_option maxRecDepth 100000
noncomputable section
open Go
set_option linter.unusedSectionVars false
set_option linter.unnecessarySimpa false
set_option linter.unusedSimpArgs false
set_option linter.unusedVariables false
variable {r w:Nat}
theorem axt {L:List Pt} (a:r<13) (h:∃p∈L,p.w r=w):mem L w≠[]:=λ e=>by
 obtain ⟨p,c,b⟩:=h;have:p∈mem L w:=List.mem_filter.2 ⟨c,xu.2 ⟨r,a,b⟩⟩;rw [e] at this;simp at this
theorem avt {L:List Pt} (a:∀p∈L,p.ok) (b:r<13) (c:∃p∈L,p.w r=w):cnt L r w=(mem L w).length:=by
 rw [au7 a b c,cnt,List.countP_eq_length_filter];congr 1;apply List.filter_congr;intro p _;rw [Bool.eq_iff_iff];simp;omega
theorem aj1 (W:List Wt):∀i,i<=W.length->Hp (ct W i) (ct W i).length/\(ct W i).Perm (W.take i)
 | 0,_=>⟨λ j f c=>by simp [ct] at c,by simp [ct]⟩
 | i+1,h=>by
   obtain ⟨b,a⟩:=aj1 W i (by omega);have hx:W[i]?=some W[i]:=zak (by omega);obtain ⟨e,p2⟩:=aja b W[i];rw [agm hx];have d:(puW (ct W i) W[i]).length=(ct W i).length+1:=by unfold puW; rw [ak7]; simp
   refine ⟨by rw [d]; exact e,p2.trans ?_⟩;rw [List.take_add_one,hx];exact a.append_right _
def kh (L:List Pt) (r k:Nat):List Wt:=v3 k (ct (cg L r) (o6 L r).length)
def as6 (L:List Pt) (r k:Nat):List Wt:=dw k (ct (cg L r) (o6 L r).length)
theorem aet (L:List Pt) (r:Nat):(cg L r).length=(o6 L r).length:=by simp [cg]
theorem ak9 (L:List Pt) (r k:Nat):(kh L r k).length=min k (o6 L r).length/\(cg L r).Perm (kh L r k++as6 L r k)/\(kh L r k).Pairwise (λ x y=>lsW y x=false)/\∀x∈kh L r k,∀y∈as6 L r k,lsW y x=false:=by
 obtain ⟨c,a⟩:=aj1 (cg L r) (o6 L r).length (by rw [aet]; omega);obtain ⟨b,d,f,e⟩:=ak8 k _ c
 have g:(ct (cg L r) (o6 L r).length).length=(o6 L r).length:=by
  rw [a.length_eq,List.length_take,aet]; omega
 rw [g] at b;refine ⟨b,?_,f,e⟩;have:(cg L r).take (o6 L r).length=cg L r:=List.take_of_length_le (by rw [aet]; omega);rw [this] at a;exact a.symm.trans d
variable {x:Wt}
theorem an7 {L:List Pt} (h:x∈cg L r):∃w:Nat,x=((w:Int),((cnt L r w:Nat):Int))/\∃p∈L,p.w r=w:=by
 obtain ⟨n,a,rfl⟩:=List.mem_map.1 h;obtain ⟨p,b,rfl⟩:=agy.1 a;exact ⟨p.w r,by simp,p,b,rfl⟩
theorem atq {L:List Pt} {k:Nat} (h:x∈kh L r k):x∈cg L r:=(ak9 L r k).2.1.symm.subset (List.mem_append_left _ h)
def ab (L:List Pt) (o:List Wt):Ob:=.row 5 zS true true (o.map λ x=>(sj L x.1.toNat).rv)
theorem aw4 {L:List Pt} {es:List MapEntry} {c:Nat} {ns:List (List Ky)} {ce:Nat->List MapEntry} {cc:Nat->Nat} (h:StL L es c ns ce cc) (b:r<13) (k:Nat):abb ns (kh L r k)=ab L (kh L r k):=by
 unfold abb ab;congr 1;apply List.map_congr_left;intro x hx;obtain ⟨w,rfl,d⟩:=an7 (atq hx);have a:=axt b d;unfold svS;rw [ale h w,zac,if_neg];unfold sj;rw [if_neg a];have:(mem L w).length≠0:=λ e=>a (List.length_eq_zero_iff.1 e);simp only;omega
theorem as4 (L:List Pt) (g:L.length<50) (r:Nat) (e:r<13) (K:Int) (i:-1<=K/\K<=100) {res:AV} {d:List Ob}
 (a:(kh L r K.toNat=[]/\res=.nils 5 zS/\d=[.abs (sT L)])\/(kh L r K.toNat≠[]/\res=.own 1000001 0 0 (kh L r K.toNat).length/\d=[.abs (sT L),ab L (kh L r K.toNat)])) :
 a9 P0 19 [.ptr 1000000 0 0,int .i64 r,int .i64 K] [.abs (sT L)] res d:=by
 rcases a with ⟨b,rfl,rfl⟩ | ⟨b,rfl,rfl⟩
 ·have:=acz (P:=P0) (f:=19) (F:=SF L) (F':=SF L) rfl («as»:=[int .i64 r,int .i64 K]) (res:=.nils 5 zS) (ex:=[]) (λ os h=>by
   obtain ⟨es,c,ns,ce,cc,h,rfl⟩:=h;refine ⟨_,⟨_,_,_,_,_,h,rfl⟩,?_⟩;rw [List.append_nil]
   exact aog h g r e K i (.inl ⟨b,rfl,rfl⟩)) rfl (by simp) (by simp [x8,bt,gi,zS,Sa.rv])
  exact this
 exact acz (F:=SF L) (F':=SF L) rfl (ex:=[ab L (kh L r K.toNat)]) (λ os h=>by
  obtain ⟨es,c,ns,ce,cc,h,rfl⟩:=h;refine ⟨_,⟨_,_,_,_,_,h,rfl⟩,?_⟩;rw [<- aw4 h e];exact aog h g r e K i (.inr ⟨b,rfl,rfl⟩)) rfl (by
  intro o j;simp at j;subst j;intro x hx;obtain ⟨n,_,rfl⟩:=List.mem_map.1 hx
  simp [bt,gi,Sa.rv]) (by simp [x8])

def eh:Mk P0 f5:={ x:=_ }
section
variable {L:List Pt} {es:List MapEntry} {c:Nat} {ns:List (List Ky)} {ce:Nat->List MapEntry} {cc:Nat->Nat}
theorem anr:a9 P0 13 [.ptr 1000000 0 0,int .i64 13] (c8 es c ns ce cc) (.nils 1 (.v (.int .u64 0))) (c8 es c ns ce cc):=by
 refine ll rfl (by simp [c8]) ?_
 push_cast [v8,c8,List.length_cons,zaj]
theorem aq2:a9 P0 19 [.ptr 1000000 0 0,int .i64 13,int .i64 5] (c8 es c ns ce cc) (.nils 5 zS) (c8 es c ns ce cc):=by
 refine pd rfl (by simp [c8]) ?_;have b:=anr (es:=es) (c:=c) (ns:=ns) (ce:=ce) (cc:=cc)
 push_cast [li,c8,List.length_cons,zaj]
 refine a6 ape rfl trivial ?_
 push_cast [qN,zW]
 refine b9 (as':=[.ptr 1000000 0 0,int .i64 13]) rfl ?_;refine a6 b rfl (by simp [c8,d7]) ?_
 push_cast [c8,zW]
 refine d3 [(20,false),(19,false),(7,false),(0,false),(2,false)] (λ vs pos a=>vs=[int .i64 0,int .i64 0,.ptr 2000000 0 0,.ptr 1000000 0 0,int .i64 5]/\pos=c8 es c ns ce cc/\a=[.box [.ptr 2000001 0 0],.box [.nils 2 zW,.mp 2000002 0],.map [] 0])
  (λ _ _ _=>0) rfl ?_ ?_
 ·push_cast [c8,zW]
 rintro vs pos a ⟨rfl,rfl,rfl⟩
 push_cast [c8,zW]
 refine d3 [(10,false),(2,false),(7,false),(0,false)] (λ vs pos a=>vs=[.nils 5 zS,int .i64 5,.ptr 2000000 0 0,.ptr 1000000 0 0]/\pos=c8 es c ns ce cc/\a=[.box [.ptr 2000001 0 0],.box [.nils 2 zW,.mp 2000002 0],.map [] 0])
  (λ _ _ _=>0) rfl ?_ ?_
 ·push_cast [c8,zW,zS,Sa.rv]
 rintro vs pos a ⟨rfl,rfl,rfl⟩
 push_cast [c8,zW,zS,Sa.rv]
 refine a6 (alj [] 0) rfl (by simp [qN,d7]) ?_
 push_cast [qN,zW,zS,Sa.rv]
end
theorem atr (L:List Pt):a9 P0 19 [.ptr 1000000 0 0,int .i64 13,int .i64 5] [.abs (sT L)] (.nils 5 zS) [.abs (sT L)]:=by
 have:=acz (P:=P0) (f:=19) (F:=SF L) (F':=SF L) rfl («as»:=[int .i64 13,int .i64 5]) (res:=.nils 5 zS) (ex:=[]) (λ os h=>by
  obtain ⟨es,c,ns,ce,cc,h,rfl⟩:=h;refine ⟨_,⟨_,_,_,_,_,h,rfl⟩,?_⟩;rw [List.append_nil]
  exact aq2) rfl (by simp) (by simp [x8,bt,gi,zS,Sa.rv])
 exact this
theorem aoi (L:List Pt) (d:L.length<50) (r:Nat) (c:r<13) (K:Int) (b:-1<=K/\K<=100) :
 a9 P0 19 [.ptr 1000000 0 0,int .i64 r,int .i64 K] [.abs (sT L)] (.own 1000001 0 0 (kh L r K.toNat).length) [.abs (sT L),ab L (kh L r K.toNat)]:=by
 by_cases a:kh L r K.toNat=[]
 ·rw [a];exact alv (os:=[.abs (sT L)]) (by simp) (by simp [imO]) (as4 L d r c K b (.inl ⟨a,rfl,rfl⟩))
 exact as4 L d r c K b (.inr ⟨a,rfl,rfl⟩)
def saT (L:List Pt) (o:List Wt) (i:Nat):Sa:=sj L (gW o i).1.toNat
theorem ahc {L:List Pt} {o:List Wt} {i:Nat} (h:i<o.length) (z:RV):(o.map λ x=>(sj L x.1.toNat).rv).getD i z=.agg [.v (.int .u64 (saT L o i).w),.v (.int .i64 (saT L o i).n),.v (.int .i64 (saT L o i).s),.v (.int .i64 (saT L o i).lo),.v (.int .i64 (saT L o i).hi)]:=by
 rw [List.getD_eq_getElem?_getD,List.getElem?_map,zak h,saT,gv h]
 rfl
theorem aoh {L:List Pt} (o:∀p∈L,p.ok) {R:Nat} (v:R<13) (k:Nat) {O:List Wt} (E:kh L R k=O) {C:List Int} (z:o6 L R=C) :
 O.length=min k C.length/\(∀i:Nat,i<O.length->∃w:Nat,gW O i=((w:Int),((mem L w).length:Int))/\mem L w≠[]/\saT L O i=⟨w,(mem L w).length,acq (mem L w),loV (mem L w),hiV (mem L w)⟩) /\
  (∀i:Nat,i+1<O.length->(gW O (i+1)).2<(gW O i).2\/((gW O (i+1)).2=(gW O i).2/\(gW O i).1<(gW O (i+1)).1)) /\
  (∀(i:Nat) (n:Int),C[i]?=some n->∃w:Nat,n=(w:Int)/\mem L w≠[]/\((∃j,j<O.length/\(gW O j).1=n)\/∀j,j<O.length->((mem L w).length:Int)<=(gW O j).2)):=by
 obtain ⟨m,h,u,y⟩:=ak9 L R k
 have g:∀x∈cg L R,∃w:Nat,x=((w:Int),((mem L w).length:Int))/\mem L w≠[]:=λ x hx=>by
  obtain ⟨w,rfl,b⟩:=an7 hx;exact ⟨w,by rw [avt o v b],axt v b⟩
 have r:((cg L R).map (·.1)).Nodup:=by
  have:(cg L R).map (·.1)=o6 L R:=by rw [cg,List.map_map]; simp [Function.comp_def]
  rw [this];exact adm L R
 have a:=(h.map (·.1)).nodup_iff.1 r;rw [E] at m h u y a;rw [z] at m;refine ⟨m,λ i c=>?_,λ i c=>?_,λ i n A=>?_⟩
 ·obtain ⟨w,e,f⟩:=g (gW O i) (h.symm.subset (List.mem_append_left _ (by rw [gv c]; exact List.getElem_mem c)));refine ⟨w,e,f,?_⟩;unfold saT sj;rw [e,zac,if_neg f]
 ·have b:=(List.pairwise_iff_getElem.1 u) i (i+1) (by omega) c (by omega);have t:=gv (l:=O) (i:=i) (by omega);have s:=gv (l:=O) (i:=i+1) c;rw [<- t,<- s,zg] at b;rcases b with b | ⟨e,b⟩
  ·exact .inl b
  refine .inr ⟨e,?_⟩;rw [List.map_append,List.nodup_append] at a;have B:=(List.pairwise_iff_getElem.1 a.1) i (i+1) (by simp; omega) (by simpa using c) (by omega);rw [List.getElem_map,List.getElem_map,<- t,<- s] at B;omega
 have f:(n,((cnt L R n.toNat:Nat):Int))∈cg L R:=List.mem_map.2 ⟨n,by rw [z]; exact List.mem_of_getElem? A,rfl⟩;obtain ⟨w,e,F⟩:=g _ f;rw [Prod.mk.injEq] at e;refine ⟨w,e.1,F,?_⟩;rcases List.mem_append.1 (h.subset f) with q | q
 ·obtain ⟨j,d,D⟩:=List.getElem_of_mem q;exact .inl ⟨j,d,by rw [gv d,D]⟩
 refine .inr λ j d=>?_;have:=y (gW O j) (by rw [gv d]; exact List.getElem_mem d) _ q;rw [zg] at this;simp only [e.2] at this;omega
def oy (O:List Wt) (i:Nat):Int:=if i=0 then 1099511627776 else (gW O (i-1)).2
theorem ltop_t (xs:List Int) (hx:∀x∈xs,-9223372036854775808<=x/\x<=9223372036854775807) (r k:Int) :
 a9 P0 5 [.r (vx xs),int .i64 r,int .i64 k] [] (bl true) []:=by
 refine eh.t func5 ?_;obtain ⟨R,hR,eR⟩:=r13 r;have hgp:GP (eg xs []):=ama xs [] (by simp [GP]);have hle:=al9 xs [] (by decide);have hPt:=aro xs hx;by_cases h100:xs.length>100
 ·have e1:decide ((xs.length:Int)>100)=true:=by simp; omega
  push_cast [eh,vx,zab,e1,zaj]
  refine a6 aml rfl trivial ?_
  push_cast
 have e1:decide ((xs.length:Int)>100)=false:=by simp; omega
 push_cast [eh,vx,zab,e1,zaj]
 refine b9 (as':=[.r (vx xs)]) rfl ?_;refine a6 hPt rfl trivial ?_;generalize hG:eg xs []=l at *;have hlen0:l.length<=40:=hle
 have hok:∀p∈l,p.ok:=λ p hp=>by
  obtain ⟨j,hj⟩:=List.getElem?_of_mem hp;exact (hgp j p hj).2
 have wk:IntKind.i64.wrap ((BitVec.ofInt IntKind.i64.bits k &&& BitVec.ofInt IntKind.i64.bits 31).toNat)=k%32:=yu k 31 5 (by decide) (by decide);obtain ⟨K,hK,hKb⟩:∃K,k%32=K/\0<=K/\K<=31:=⟨_,rfl,by omega,by omega⟩
 rw [hK] at wk
 push_cast [eR,wk]
 repeat refine sI ?_
 have hO:=azq l (by omega) hok (az9 hgp);refine anw ?_
 push_cast
 refine aql hO rfl trivial (by simp [x8]) (by simp [lh]) ?_
 push_cast [eR,wk]
 have hto:=aoi l (by omega) R hR K (by omega);have hca:=avz l (by omega) R hR;obtain ⟨O,hOe⟩:∃O,kh l R K.toNat=O:=⟨_,rfl⟩
 obtain ⟨C,hCe⟩:∃C,o6 l R=C:=⟨_,rfl⟩
 obtain ⟨fl,fin,ford,fall⟩:=aoh hok hR K.toNat hOe hCe;have hCl:C.length<=40:=by rw [<- hCe]; exact Nat.le_trans (ab0 l R) hle
 rw [hOe] at hto;rw [hCe] at hca;refine b9 (as':=[.ptr 1000000 0 0,int .i64 R,int .i64 K]) rfl ?_;refine a6 hto rfl ⟨rfl,trivial⟩ ?_
 push_cast [ab,eR,wk]
 refine b9 (as':=[.ptr 1000000 0 0,int .i64 R]) rfl ?_;refine a6 hca rfl ⟨rfl,trivial⟩ ?_;have e2:((O.length:Int) != min K C.length)=false:=by simp; omega
 push_cast [ab,s8,eR,wk,e2]
 have wkm:∀i:Nat,i<=40->IntKind.i64.wrap ((i:Int)+1)=i+1:=λ i hi=>a7 (by omega)
 refine d3 [(11,false),(8,false),(7,false),(10,false),(9,false),(1,false)] (λ vs pos los=>∃i:Nat,i<=O.length/\vs=[int .i64 i,.own 2000000 0 0 O.length,.ptr 2000001 0 0,int .i64 (oy O i),.own 2000002 0 0 C.length,int .i64 R]/\pos=[]/\los=[ab l O,.abs (sT l),s8 C])
  (λ vs _ _=>match vs with | .r (.v (.int _ i))::_=>(O.length-i).toNat | _=>0) rfl ?_ ?_
 ·push_cast [ab,s8]
  exact ⟨0,by omega,by simp [oy]⟩
 rintro vs pos los ⟨i,hi,rfl,rfl,rfl⟩
 push_cast [ab,s8,zab]
 refine c7 (λ h=>?_) (λ h=>?_)
 ·have hi':i<O.length:=by simpa using h
  obtain ⟨w,hw,hm,hsa⟩:=fin i hi';have hg:=λ z=>ahc (L:=l) hi' z;rw [hsa] at hg;have c1:=afh l w hm;have wi:=wkm i (by omega);generalize hC1:((mem l w).length:Int)=n1 at *;generalize acq (mem l w)=n2 at *;generalize loV (mem l w)=n3 at *;generalize hiV (mem l w)=n4 at *
  push_cast [ab,s8,hg,zab,zae,zaf,zag,zah,zai,zaa,zac,zad,zaa]
  repeat refine sI ?_
  refine a6 c1 rfl ⟨rfl,trivial⟩ ?_;have hnx:oy O (i+1)=n1:=by rw [oy,if_neg (by omega),Nat.add_sub_cancel,hw]
  have hn1:n1<=40:=by
   rw [<- hC1];have:(mem l w).length<=l.length:=List.length_filter_le _ _;omega
  by_cases h0:i=0
  ·subst h0;have g1:decide (n1>oy O 0)=false:=decide_eq_false (by rw [show oy O 0=1099511627776 from rfl]; omega);have wm:IntKind.i64.wrap (0-1)=-1:=rfl;have wm':IntKind.i64.wrap (-1)=-1:=rfl;have w1:IntKind.i64.wrap 1=1:=rfl
   push_cast [ab,s8,hg,g1,wm,wm',w1,zab,zae,zaf,zag,zah,zai,zaa,zac,zad,zaa]
   repeat refine sI ?_
   rw [zaa] at hnx;exact ⟨⟨1,by omega,by rw [hnx]; rfl⟩,by have:=hi'; simp; omega⟩
  obtain ⟨j,rfl⟩:∃j,i=j+1:=⟨i-1,by omega⟩
  obtain ⟨w',hw',hm',hsa'⟩:=fin j (by omega);have hg':=λ z=>ahc (L:=l) (show j<O.length by omega) z;rw [hsa'] at hg';have hls:oy O (j+1)=(mem l w').length:=by rw [oy,if_neg (by omega),Nat.add_sub_cancel,hw']
  have hor:=ford j hi';rw [hw,hw'] at hor;simp only at hor;generalize hC2:((mem l w').length:Int)=n5 at *;have g0:decide (((j+1:Nat):Int)>0)=true:=decide_eq_true (by omega);have g1:decide (n1>oy O (j+1))=false:=decide_eq_false (by omega);have wm:IntKind.i64.wrap (((j+1:Nat):Int)-1)=j:=by rw [a7 (by omega)]; omega
  have ge:(n1 == oy O (j+1))=false\/((n1 == oy O (j+1))=true/\decide ((w':Int)>=w)=false):=by
   rcases hor with q | ⟨q,q2⟩
   ·exact .inl (beq_eq_false_iff_ne.2 (by omega))
   exact .inr ⟨beq_iff_eq.2 (by omega),decide_eq_false (by omega)⟩
  obtain ⟨I,hI⟩:∃I:Int,((j+1:Nat):Int)=I:=⟨_,rfl⟩
  rw [hI] at g0 wm wi;have hIn:I.toNat=j+1:=by omega
  rcases ge with ge | ⟨ge,gw⟩
  ·push_cast [ab,s8,hg,hg',hI,hIn,g0,g1,ge,wm,wi,zab,zae,zaf,zag,zah,zai,zaa,zac,zad,zaa]
   repeat refine sI ?_
   exact ⟨⟨j+1+1,by omega,by rw [hnx,<- hI]; rfl⟩,by omega⟩
  push_cast [ab,s8,hg,hg',hI,hIn,g0,g1,ge,gw,wm,wi,zab,zae,zaf,zag,zah,zai,zaa,zac,zad,zaa]
  repeat refine sI ?_
  exact ⟨⟨j+1+1,by omega,by rw [hnx,<- hI]; rfl⟩,by omega⟩
 have hiE:i=O.length:=by
  have:¬i<O.length:=by simpa using h
  omega
 subst hiE
 push_cast [ab,s8]
 refine d3 [(14,false),(8,false),(7,false),(10,false),(9,false),(1,false)] (λ vs pos los=>∃i:Nat,i<=C.length/\vs=[int .i64 i,.own 2000000 0 0 O.length,.ptr 2000001 0 0,int .i64 (oy O O.length),.own 2000002 0 0 C.length,int .i64 R]/\pos=[]/\los=[ab l O,.abs (sT l),s8 C])
  (λ vs _ _=>match vs with | .r (.v (.int _ i))::_=>(C.length-i).toNat | _=>0) rfl ?_ ?_
 ·push_cast [ab,s8]
  exact ⟨0,by omega,by simp⟩
 rintro vs pos los ⟨i,hi,rfl,rfl,rfl⟩
 push_cast [ab,s8,tz,zab]
 refine c7 (λ h=>?_) (λ h=>?_)
 ·have hi':i<C.length:=by simpa using h
  obtain ⟨n,hn⟩:∃n,C[i]?=some n:=⟨C[i],by simp [hi']⟩
  obtain ⟨w,rfl,hm,hal⟩:=fall i n hn;have c1:=afh l w hm;have wi:=wkm i (by omega);have hgc:∀z,(lq C).getD i z=.v (.int .u64 w):=λ z=>by rw [List.getD_eq_getElem?_getD,lq,List.getElem?_map,hn]; rfl
  generalize hC1:((mem l w).length:Int)=n1 at *;generalize acq (mem l w)=n2 at *;generalize loV (mem l w)=n3 at *;generalize hiV (mem l w)=n4 at *
  push_cast [ab,s8,hgc,tz,zaa,zac,zad,zaa]
  repeat refine sI ?_
  refine a6 c1 rfl ⟨rfl,trivial⟩ ?_
  push_cast [ab,s8,hgc,tz,zaa,zac,zad,zaa]
  refine d3 [(18,false),(17,false),(15,false),(14,false),(8,false),(7,false),(10,false),(9,false),(1,false)] (λ vs pos los=>∃j:Nat,j<=O.length/\vs=[int .i64 j,bl ((O.take j).any λ x=>x.1 == (w:Int)),.ptr 2000000 0 0,int .i64 i,.own 2000001 0 0 O.length,.ptr 2000002 0 0,int .i64 (oy O O.length),.own 2000003 0 0 C.length,int .i64 R]/\pos=[]/\los=[.box [int .u64 w,int .i64 n1,int .i64 n2,int .i64 n3,int .i64 n4],ab l O,.abs (sT l),s8 C])
   (λ vs _ _=>match vs with | .r (.v (.int _ i))::_=>(O.length-i).toNat | _=>0) rfl ?_ ?_
  ·push_cast [ab,s8]
   exact ⟨0,by omega,by simp⟩
  rintro vs pos los ⟨j,hj,rfl,rfl,rfl⟩
  push_cast [ab,s8,tz,zab]
  refine c7 (λ h=>?_) (λ h=>?_)
  ·have hj':j<O.length:=by simpa using h
   obtain ⟨w',hw',hm',hsa'⟩:=fin j hj';have hg':=λ z=>ahc (L:=l) hj' z;rw [hsa'] at hg';have wj:=wkm j (by omega)
   have hany:(O.take (j+1)).any (λ x=>x.1 == (w:Int))=((O.take j).any (λ x=>x.1 == (w:Int))||((w':Int) == w)):=by
    rw [List.take_add_one,zak hj',List.any_append,<- gv hj',hw'];simp
   obtain ⟨q,hq⟩:∃q,((w':Int) == w)=q:=⟨_,rfl⟩
   rw [hq] at hany;cases hB:(O.take j).any (λ x=>x.1 == (w:Int)) with
   | true=>
     rw [hB,Bool.true_or] at hany
     push_cast [ab,s8,hg',hgc,hq,wj,tz,zab,zae,zaf,zag,zah,zai,zaa,zac,zad,zaa]
     repeat refine sI ?_
     exact ⟨⟨j+1,by omega,by rw [hany]; simp⟩,by omega⟩
   | false=>
     rw [hB,Bool.false_or] at hany
     push_cast [ab,s8,hg',hgc,hq,wj,tz,zab,zae,zaf,zag,zah,zai,zaa,zac,zad,zaa]
     repeat refine sI ?_
     exact ⟨⟨j+1,by omega,by rw [hany]; simp⟩,by omega⟩
  have hjE:j=O.length:=by
   have:¬j<O.length:=by simpa using h
   omega
  subst hjE;rw [List.take_length];cases hB:O.any (λ x=>x.1 == (w:Int)) with
  | true=>
    push_cast [ab,s8,wi]
    exact ⟨⟨i+1,by omega,by simp⟩,by omega⟩
  | false=>
    by_cases hO0:O.length=0
    ·have g0:decide ((O.length:Int)>0)=false:=decide_eq_false (by omega)
     push_cast [ab,s8,wi,g0,zab]
     exact ⟨⟨i+1,by omega,by simp⟩,by omega⟩
    have g0:decide ((O.length:Int)>0)=true:=decide_eq_true (by omega)
    have hle2:n1<=oy O O.length:=by
     rw [oy,if_neg hO0];rcases hal with ⟨j,hj,e⟩ | hal
     ·exfalso;have:O.any (λ x=>x.1 == (w:Int))=true:=List.any_eq_true.2 ⟨gW O j,by rw [gv hj]; exact List.getElem_mem hj,by simp [e]⟩;rw [hB] at this;cases this
     exact hal _ (by omega)
    have g1:decide (n1>oy O O.length)=false:=decide_eq_false (by omega)
    push_cast [ab,s8,wi,g0,g1,zab]
    exact ⟨⟨i+1,by omega,by simp⟩,by omega⟩
 push_cast [ab,s8]
 have ht0:=aoi l (by omega) R hR (-1) (by omega);have e0:kh l R ((-1:Int)).toNat=[]:=rfl;rw [e0] at ht0;refine b9 (as':=[.ptr 1000000 0 0,int .i64 R,int .i64 (-1)]) rfl ?_;refine a6 ht0 rfl ⟨rfl,trivial⟩ ?_
 push_cast [ab,s8,zaj,List.map_nil]
 refine b9 (as':=[.ptr 1000000 0 0,int .i64 13,int .i64 5]) rfl ?_;refine a6 (atr l) rfl ⟨rfl,trivial⟩ ?_
 push_cast [ab,s8,zS,Sa.rv]
 refine a6 aml rfl trivial ?_
 push_cast

end
end Go.Ev

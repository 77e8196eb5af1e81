import Derived.Test.YtjpejkfhkbaakaaGreatM7
open Nat renaming reduceBEq → zB, reduceEqDiff → zE, reduceAdd → zA, reduceSub → zS, reduceLT → zL, reduceLeDiff → zD, reduceMul → zM
open Go.Proofs.Tryz renaming prog → P0
open Go.Proofs.Tryz
open List renaming pairwise_cons → zaa, length_map → zab, cons_append → zae, length_nil → zag, map_nil → zah, mem_map → zai, getD_eq_getElem?_getD → zak, mem_cons → zal, getD_cons_zero → zao, getD_cons_succ → zap, pairwise_append → zas, mem_append → zat, mem_of_getElem? → zax, nil_append → zay, map_cons → zbb, length_cons → zbc, append_assoc → zbd, filter_cons_of_neg → zbh, filter_append → zbi, getElem_mem → zbj, map_append → zbk, take_of_length_le → zbl, append_nil → zbm, mem_singleton → zbp, eq_nil_or_concat → zbt, concat_eq_append → zbu, length_append → zbv, pairwise_reverse → zbw, drop_eq_getElem_cons → zbx, filter_cons_of_pos → zbz, pairwise_iff_getElem → zca, reverse_reverse → zcb
open Int renaming mul_nonneg → zac, le_of_lt → zaf, toNat_zero → zaj, reduceToNat → zam, mul_pos → zan, toNat_natCast → zaq, toNat_natCast_add_one → zar, le_of_mul_le_mul_left → zau, add_mul → zav, one_mul → zaw, mul_le_mul_of_nonneg_left → zaz, mul_neg → zba, zero_mul → zbe, mul_eq_zero → zbf, mul_le_mul_of_nonneg_right → zbg, le_ediv_iff_mul_le → zbn, ediv_lt_iff_lt_mul → zbo, emod_nonneg → zbq, emod_lt_of_pos → zbr, mul_ediv_add_emod → zbs, mul_nonpos_of_nonneg_of_nonpos → zby
open Nat renaming zero_add → zad
namespace Go.Ev
set_option maxHeartbeats 8000000
set_option maxRecDepth 100000
noncomputable section
open Go
set_option linter.unusedSectionVars false
set_option linter.unnecessarySimpa false
set_option linter.unusedSimpArgs false
set_option linter.unusedVariables false
def apm (v:Bool) (a:List Bool):Bool:=((a.dropWhile (· == v)).dropWhile (· == !v)).all (· == v)
theorem apl (f:P2->Bool) (l:List P2) (v:Bool) (h:apm v (l.map f)=true):Uni f l:=by
 refine ⟨v,l.takeWhile (fun p=>f p == v),(l.dropWhile (fun p=>f p == v)).takeWhile (fun p=>f p == !v),(l.dropWhile (fun p=>f p == v)).dropWhile (fun p=>f p == !v),?_,?_,?_,?_⟩
 ·rw [List.takeWhile_append_dropWhile,List.takeWhile_append_dropWhile]
 ·intro a b;have:=List.all_takeWhile (p:=fun p=>f p == v) (l:=l);have:=List.all_eq_true.1 this a b;simpa using this
 ·intro a b;have:=List.all_takeWhile (p:=fun p=>f p == !v) (l:=l.dropWhile (fun p=>f p == v));have:=List.all_eq_true.1 this a b;simpa using this
 intro a b;unfold apm at h;rw [List.dropWhile_map,List.dropWhile_map,List.all_map] at h;have:=List.all_eq_true.1 h a b;simpa using this
theorem ajb (a b c X t:Int) (h:b=a+c):apm (decide (X+a<=t)) [decide (X+a<=t),decide (X+b<=t),decide (X+c<=t),decide (X + -a<=t),decide (X + -b<=t),decide (X + -c<=t)]=true:=by
 subst h
 cases h0:decide (X+a<=t)<;>cases h1:decide (X+(a+c)<=t)<;>cases h2:decide (X+c<=t)<;>cases h3:decide (X + -a<=t)<;>cases h4:decide (X + -(a+c)<=t)<;>cases h5:decide (X + -c<=t) <;>
  first
  | rfl
  | (exfalso; simp only [decide_eq_true_iff,decide_eq_false_iff_not] at h0 h1 h2 h3 h4 h5; omega)
def sr (z:Ei) (r:Nat):List P2:=(List.range 6).map fun i=>(hx z r i,hy z r i)
theorem awe (z:Ei) (r:Nat):lz z r 6=(sr z r).map ptR:=by
 unfold lz sr;rw [List.map_map]
 rfl
theorem ahz (z:Ei) (r:Nat):(sr z r).length=6:=by simp [sr]
theorem av5 (r:Nat) (a:r<=12):(kx r 1=kx r 0+kx r 2/\kx r 3=-kx r 0/\kx r 4=-kx r 1/\kx r 5=-kx r 2)/\(ky r 1=ky r 0+ky r 2/\ky r 3=-ky r 0/\ky r 4=-ky r 1/\ky r 5=-ky r 2):=by
 have:∀j:Fin 13,(kx j.val 1=kx j.val 0+kx j.val 2/\kx j.val 3=-kx j.val 0/\kx j.val 4=-kx j.val 1/\kx j.val 5=-kx j.val 2)/\(ky j.val 1=ky j.val 0+ky j.val 2/\ky j.val 3=-ky j.val 0/\ky j.val 4=-ky j.val 1/\ky j.val 5=-ky j.val 2):=by decide +kernel
 exact this ⟨r,by omega⟩
theorem ahy (z:Ei) (r:Nat) (h:r<=12) (d:P2):acx ((sr z r).map (shP d)):=fun a c=>by
 obtain ⟨⟨x1,x3,i,g⟩,y1,y3,j,f⟩:=av5 r h;have e:((sr z r).map (shP d)).map (thr a c)=[thr a c (hx z r 0+d.1,hy z r 0+d.2),thr a c (hx z r 1+d.1,hy z r 1+d.2),thr a c (hx z r 2+d.1,hy z r 2+d.2),thr a c (hx z r 3+d.1,hy z r 3+d.2),thr a c (hx z r 4+d.1,hy z r 4+d.2),thr a c (hx z r 5+d.1,hy z r 5+d.2)]:=rfl;refine apl _ _ (thr a c (hx z r 0+d.1,hy z r 0+d.2)) ?_;rw [e];unfold thr sel;by_cases b:a=0
 ·simp only [if_pos b,r7,x3,i,g];have:=ajb (kx r 0) (kx r 1) (kx r 2) (3*cx z r+d.1) c x1;simp only [show ∀k:Int,3*cx z r+k+d.1=3*cx z r+d.1+k from fun k=>by omega];exact this
 simp only [if_neg b,r6,y3,j,f];have:=ajb (ky r 0) (ky r 1) (ky r 2) (3*cy z r+d.2) c y1;simp only [show ∀k:Int,3*cy z r+k+d.2=3*cy z r+d.2+k from fun k=>by omega];exact this
theorem av7:a9 P0 127 [a8 [],int .i64 0,int .i64 0,agF] [] (.tup []) []:=by
 refine br.t func127 ?_
 push_cast [br,agF,a8,zah,zag]
 refine c9 [(0,false),(1,false),(2,false),(3,false),(8,false)] (fun vs pos a=>vs=[a8 [],int .i64 0,int .i64 0,agF,int .i64 1]/\pos=[]/\a=[]) (fun _ _ _=>0) rfl ?_ ?_
 ·push_cast [agF,pnt,a8,zah]
  rfl
 rintro vs pos a ⟨rfl,rfl,rfl⟩;have b:decide ((1:Int)<0)=false:=rfl
 push_cast [agF,pnt,a8,zah,b]
theorem avo (b:Int):a9 P0 99 [a8 [],int .i64 0,int .i64 0,int .i64 b,agF] [] (.tup []) []:=by
 refine cn.t func99 ?_;simp only [cn,agF,pnt,a8,push_cast,↓reduceIte,reduceCtorEq,zB,zE,zA,zS,zL,zD,zM];refine c9 [(0,false),(1,false),(2,false),(3,false),(4,false),(10,false),(11,false)] (fun vs pos a=>vs=[a8 [],int .i64 0,int .i64 0,int .i64 b,agF,bl true,bl true]/\pos=[]/\a=[]) (fun _ _ _=>0) rfl ?_ ?_
 ·simp only [agF,pnt,a8,push_cast,↓reduceIte,reduceCtorEq,zB,zE,zA,zS,zL,zD,zM]
 rintro vs pos a ⟨rfl,rfl,rfl⟩;have d:IntKind.i64.wrap ((0:Int)-0)=0:=rfl;have c:decide ((0:Int)<=12)=true:=rfl;simp only [agF,pnt,a8,d,c,push_cast,↓reduceIte,reduceCtorEq,zB,zE,zA,zS,zL,zD,zM];refine b5 (as':=[a8 [],int .i64 0,int .i64 0,agF]) rfl ?_;refine a7 av7 rfl trivial ?_;simp only [push_cast,↓reduceIte,reduceCtorEq,zB,zE,zA,zS,zL,zD,zM]
theorem au7:a9 P0 60 [a8 [],agF] [] (.tup []) []:=by
 refine ca.t func60 ?_;have w:IntKind.u64.wrap 0=0:=rfl;have h:=aof 0 (by decide)
 push_cast [ca,agF,pnt,a8,zah,w,zag]
 refine b5 (as':=[int .u64 ((0:Nat):Int)]) rfl ?_;refine a7 h rfl trivial ?_
 push_cast
 refine b5 (as':=[a8 [],int .i64 0,int .i64 0,int .i64 (al3 0),agF]) rfl ?_;refine a7 (avo _) rfl trivial ?_
 push_cast
theorem awn:a9 P0 62 [a8 []] [] (a8 []) []:=by
 refine cz.t func62 ?_;have a:decide ((0:Int)<2)=true:=rfl
 push_cast [cz,pnt,a8,a,zah,zag]
theorem awa:a9 P0 30 [a8 []] [] (.nils 2 (pnt 0 0)) []:=by
 refine tn.t func30 ?_;have b:=ar6 [] (by simp) (fun p d=>by simp at d)
 push_cast [tn,a8,zah,zag]
 refine b5 (as':=[a8 []]) rfl ?_;refine a7 b rfl trivial ?_
 push_cast [zab]
 refine c9 [(12,false),(10,false),(11,false),(3,false)] (fun vs pos a=>vs=[int .i64 0,a8 [],int .i64 0,.nils 2 (pnt 0 0)]/\pos=[]/\a=[]) (fun _ _ _=>0) rfl ?_ ?_
 ·push_cast [a8,pnt,zah]
  try rfl
 rintro vs pos a ⟨rfl,rfl,rfl⟩;have c:decide ((0:Int)<0)=false:=rfl
 push_cast [a8,pnt,c,zah]
 refine b5 (as':=[a8 [],agF]) rfl ?_;refine a7 au7 rfl trivial ?_
 push_cast [pnt]
 refine b5 (as':=[a8 []]) rfl ?_;refine a7 awn rfl trivial ?_;have e:decide ((0:Int)<3)=true:=rfl
 push_cast [pnt,a8,e,zah,zag]

def za:Mk P0 f10:={ x:=_ }
variable {rg:List P2} {p:P2}
theorem vr {l:Lin} (b:l.ok) (h:p∈p6 l rg):m6 l p=true:=by
 cases rg with
 | nil=>simp [p6,q7] at h
 | cons a r=>
   rw [qv l b (a::r) a rfl] at h;exact (List.mem_filter.1 h).2
variable {a b:P2}
theorem ako (lo hi:P2) (h:me a b rg):me lo hi (md lo hi rg):=by
 have e:md lo hi rg=p6 ⟨1,hi.2,false⟩ (p6 ⟨1,lo.2,true⟩ (p6 ⟨0,hi.1,false⟩ (p6 ⟨0,lo.1,true⟩ rg))):=rfl
 have g:me (lo.1,a.2) (b.1,b.2) (p6 ⟨0,lo.1,true⟩ rg):=fun p c=>by
  have k:=vr (l:=⟨0,lo.1,true⟩) (.inl rfl) c;have i:=xo (l:=⟨0,lo.1,true⟩) (.inl rfl) h p c;simp [m6,sel] at k;simp only;omega
 have d:me (lo.1,a.2) (hi.1,b.2) (p6 ⟨0,hi.1,false⟩ (p6 ⟨0,lo.1,true⟩ rg)):=fun p c=>by
  have k:=vr (l:=⟨0,hi.1,false⟩) (.inl rfl) c;have i:=xo (l:=⟨0,hi.1,false⟩) (.inl rfl) g p c;simp [m6,sel] at k;simp only at i |-;omega
 have f:me (lo.1,lo.2) (hi.1,b.2) (p6 ⟨1,lo.2,true⟩ (p6 ⟨0,hi.1,false⟩ (p6 ⟨0,lo.1,true⟩ rg))):=fun p c=>by
  have k:=vr (l:=⟨1,lo.2,true⟩) (.inr rfl) c;have i:=xo (l:=⟨1,lo.2,true⟩) (.inr rfl) d p c;simp [m6,sel] at k;simp only at i |-;omega
 rw [e];intro p c;have k:=vr (l:=⟨1,hi.2,false⟩) (.inr rfl) c;have i:=xo (l:=⟨1,hi.2,false⟩) (.inr rfl) f p c;simp [m6,sel] at k;simp only at i |-;omega
def s8 (t:Til):Int:=2^(18-t.z).toNat
def ya (t:Til):Int:=2^(30-t.z).toNat
def el (t:Til) (z:Ei):List P2:=(sr z t.r.toNat).map (shP (-(3*(t.x*ya t)),-(3*(t.y*ya t))))
def xw (t:Til) (z:Ei):List P2:=md (-192*s8 t,-192*s8 t) (12480*s8 t,12480*s8 t) (el t z)
def q8 (t:Til) (z:Ei):List P2:=if tch z t.r.toNat (2^(30-t.z).toNat) t.x t.y=true then z7 (ao (3*s8 t) (xw t z)) else []
variable {res:AV} {ro:List Ob}
theorem agl (t:Til) (h:tis t=true) (hf:ah t=false) (z:Ei) (Z:okc t.r.toNat z) (hz:z.In 1073741824) (hb:qp z t.r.toNat)
 (c:(q8 t z=[]/\res=.nils 2 (pnt 0 0)/\ro=[])\/(q8 t z≠[]/\res=.own 1000000 0 0 (q8 t z).length/\ro=[j7 (q8 t z)])) :
 a9 P0 10 [t.v,uw (af t.r.toNat z)] [] res ro:=by
 refine za.t func10 ?_;have l:0<=t.z/\t.z<=18/\0<=t.r/\t.r<=12/\0<=t.x/\t.x<2^t.z.toNat/\0<=t.y/\t.y<2^t.z.toNat:=by simpa [tis] using h
 have ho:=amj h;have w:=ak7 t ho;rw [h,hf] at w;obtain ⟨w1,w2,w3,w4⟩:=ame t.r.toNat z Z;have K:=atx (af t.r.toNat z) w4 w1;rw [w2,w3,Int.toNat_of_nonneg l.2.2.1] at K;have e1:(t.r == t.r)=true:=by simp
 have he:=akv t h z t.r l.2.2.1 Z hb
 push_cast [za,Til.v,uw,zag]
 refine b5 (as':=[uw (af t.r.toNat z)]) rfl ?_;refine a7 K rfl trivial ?_
 push_cast [cel]
 refine b5 (as':=[t.v]) rfl ?_;refine a7 w rfl trivial ?_;have n0:((0:Int) != 0)=false:=rfl;have n1:(t.r != t.r)=false:=by simp
 push_cast [n0,n1]
 refine b5 (as':=[t.v,cel t.r z]) rfl ?_;refine a7 he rfl trivial ?_
 push_cast
 cases C:tch z t.r.toNat (2^(30-t.z).toNat) t.x t.y with
 | false=>
   have hN:q8 t z=[]:=by
    unfold q8;rw [C];exact if_neg (by decide)
   rcases c with ⟨_,rfl,rfl⟩ | ⟨h,_⟩
   ·push_cast [pnt]
   exact absurd hN h
 | true=>
   have hN:q8 t z=z7 (ao (3*s8 t) (xw t z)):=by
    unfold q8;rw [C];exact if_pos rfl
   rw [hN] at c
   push_cast
   refine b5 (as':=[z.v,int .i64 t.r]) rfl ?_;refine a7 (ar7 z t.r hz ⟨l.2.2.1,l.2.2.2.1⟩) rfl trivial ?_
   push_cast [pnt]
   refine b5 (as':=[t.v]) rfl ?_;refine a7 (acb t h) rfl trivial ?_;rw [awe]
   push_cast [pnt]
   have J:=aa5 h;have h2:=tz ⟨l.1,l.2.1⟩;obtain ⟨j,s⟩:∃j,t.x*2^(30-t.z).toNat=j:=⟨_,rfl⟩
   obtain ⟨f,o⟩:∃f,t.y*2^(30-t.z).toNat=f:=⟨_,rfl⟩
   obtain ⟨S0,m⟩:∃S0:Int,2^(30-t.z).toNat=S0:=⟨_,rfl⟩
   rw [zav,zaw,zav,zaw] at J;rw [s,o,m] at J;rw [m] at h2;have e:el t z=(sr z t.r.toNat).map (shP (-(3*j),-(3*f))):=by unfold el ya; rw [s,o]
   obtain ⟨R,u⟩:∃R,sr z t.r.toNat=R:=⟨_,rfl⟩
   have h7:R.length=6:=by rw [<- u,ahz]
   have h8:∀p∈R,(-4294967296<=p.1/\p.1<=4294967296)/\(-4294967296<=p.2/\p.2<=4294967296):=fun p g=>by
    rw [<- u] at g;obtain ⟨i,hi,rfl⟩:=zai.1 g;exact hb i (List.mem_range.1 hi)
   rw [s,o,m,u];rw [u] at e;obtain ⟨d,V⟩:∃d:P2,(-(3*j),-(3*f))=d:=⟨_,rfl⟩
   rw [V] at e
   refine c9 [(55,false),(54,false),(7,false),(9,false),(10,false),(2,false)] (fun vs pos B=>∃i:Nat,i<=6/\vs=[int .i64 i,int .i64 6,.own 2000000 0 0 6,int .i64 j,int .i64 f,.ptr 2000001 0 0]/\pos=[]/\B=[j7 ((R.take i).map (shP d)++R.drop i),.box [int .i64 t.z,int .i64 t.x,int .i64 t.y,int .i64 t.r]])
    (fun vs _ _=>match vs with | .r (.v (.int _ a))::_=>(6-a).toNat | _=>0) rfl ?_ ?_
   ·push_cast [j7,pnt]
    exact ⟨0,by omega,rfl,by simp⟩
   rintro vs pos B ⟨i,hi,rfl,rfl,rfl⟩
   push_cast [j7,pnt]
   refine b8 (fun n=>?_) (fun n=>?_)
   ·have I:i<6:=by have:=of_decide_eq_true n; omega
    obtain ⟨p,g⟩:∃p,R[i]'(by omega)=p:=⟨_,rfl⟩
    have hl:=h8 p (g▸zbj _);have wi:IntKind.i64.wrap ((i:Int)+1)=(i:Int)+1:=a5 (by omega);have ha:R.drop i=p::R.drop (i+1):=by rw [zbx (by omega),g]
    have Q:(R.take (i+1)).map (shP d)=(R.take i).map (shP d)++[shP d p]:=by rw [List.take_succ_eq_append_getElem (by omega),g,zbk]; rfl
    obtain ⟨A,hA⟩:∃A,(R.take i).map (shP d)=A:=⟨_,rfl⟩
    have E:A.length=i:=by rw [<- hA]; simp; omega
    obtain ⟨T,C⟩:∃T,R.drop (i+1)=T:=⟨_,rfl⟩
    rw [ha,hA,C]
    have hg:∀q:P2,∀z,((A++q::T).map ptR).getD i z=.agg [.v (.int .i64 q.1),.v (.int .i64 q.2)]:=fun q z=>by
     rw [<- E]; exact qt A T q z
    have hs:∀(q:P2) (a b:Int),((A++q::T).map ptR).set i (.agg [.v (.int .i64 a),.v (.int .i64 b)])=(A++(a,b)::T).map ptR:=fun q a b=>by
     rw [show (RV.agg [.v (.int .i64 a),.v (.int .i64 b)])=ptR (a,b) from rfl,<- List.map_set,<- E];congr 1;simp
    have m1:IntKind.i64.wrap (3*j)=3*j:=a5 (by omega);have X:IntKind.i64.wrap (3*f)=3*f:=a5 (by omega);have N:IntKind.i64.wrap (p.1-3*j)=p.1-3*j:=a5 (by omega);have m4:IntKind.i64.wrap (p.2-3*f)=p.2-3*f:=a5 (by omega)
    push_cast [j7,pnt,hg,hs,m1,X,N,m4,wi,c7,zaj,zam,zad,Nat.zero_mul,Nat.mul_one,zao,zap,List.set_cons_zero,List.set_cons_succ,zaq,zar,zad]
    repeat refine And.intro (by first | exact ⟨by omega,by omega⟩ | kernel_rfl) ?_
    refine ⟨⟨i+1,by omega,by simp,?_⟩,by omega⟩;rw [Q,hA,C,<- V];simp [j7,pnt,shP,Int.sub_eq_add_neg]
   have I:i=6:=by have:=of_decide_eq_false n; omega
   subst I
   have G:(R.take 6).map (shP d)++R.drop 6=el t z:=by
    rw [e,zbl (by omega),List.drop_of_length_le (by omega),zbm]
   rw [G];have O:=ami t l.1 l.2.1
   have h9:1<=s8 t/\s8 t<=262144:=by
    have h1:2^(18-t.z).toNat<=2^18:=Nat.pow_le_pow_right (by decide) (by omega);have h3:((2^(18-t.z).toNat:Nat):Int)=(2:Int)^(18-t.z).toNat:=by simp
    have h4:0<2^(18-t.z).toNat:=Nat.pow_pos (by decide);unfold s8;omega
   push_cast
   refine b5 (as':=[t.v]) rfl ?_;refine a7 O rfl trivial ?_;rw [show (2:Int)^(18-t.z).toNat=s8 t from rfl];obtain ⟨U,hU⟩:∃U,s8 t=U:=⟨_,rfl⟩
   rw [hU] at h9 c |-;have m1:IntKind.i64.wrap (-192*U)=-192*U:=a5 (by omega);have X:IntKind.i64.wrap (12480*U)=12480*U:=a5 (by omega);have N:IntKind.i64.wrap (3*U)=3*U:=a5 (by omega)
   push_cast [j7,pnt,m1,X,N]
   have hm:=ahr t.r.toNat 0 (by omega) (by decide);have S:=hb 0 (by decide);rw [r7,r6] at S
   have L:me (3*cx z t.r.toNat-100000000-3*j,3*cy z t.r.toNat-100000000-3*f) (3*cx z t.r.toNat+100000000-3*j,3*cy z t.r.toNat+100000000-3*f) (el t z):=fun p g=>by
    rw [e,<- u,<- V] at g;obtain ⟨q,hq,rfl⟩:=zai.1 g;obtain ⟨i,hi,rfl⟩:=zai.1 hq;have Z:=ahr t.r.toNat i (by omega) (List.mem_range.1 hi);simp only [shP,r7,r6];omega
   have F:(el t z).length=6:=by rw [e]; simp [h7]
   have h6:acx (el t z):=by rw [e,<- u]; exact ahy z _ (by omega) d
   obtain ⟨P,c2,M⟩:=aw0 (-192*U,-192*U) (12480*U,12480*U) (by simp only; omega) (by simp only; omega) L (by omega) (by simp only; omega) (by simp only; omega);have Y:=ako (-192*U,-192*U) (12480*U,12480*U) L
   have c5:(md (-192*U,-192*U) (12480*U,12480*U) (el t z)).length<=10:=by
    have:=(ae2 (lo:=(-192*U,-192*U)) (hi:=(12480*U,12480*U)) h6 4 (Nat.le_refl _)).2;rw [F] at this;exact this
   have hW:xw t z=md (-192*U,-192*U) (12480*U,12480*U) (el t z):=by unfold xw; rw [hU]
   rw [<- hW] at P c2 M Y c5;obtain ⟨W,h5⟩:∃W,xw t z=W:=⟨_,rfl⟩
   rw [h5] at P c2 M Y c5 c;have D:List.take 6 ((el t z).map ptR)=(el t z).map ptR:=zbl (by simp [F]);refine tt ?_;rw [D]
   push_cast [pnt]
   refine b5 (as':=[a8 (el t z),pv2 (-192*U,-192*U),pv2 (12480*U,12480*U)]) rfl ?_;refine a7 P rfl trivial ?_
   push_cast [j7,pnt,N]
   refine tt ?_
   try rw [n5]
   push_cast [pnt]
   refine b5 (as':=[a8 W,int .i64 (3*U)]) rfl ?_;by_cases k:W=[]
   ·refine a7 (aid (3*U) (by omega) W M (.inl ⟨k,rfl,rfl⟩)) rfl trivial ?_
    push_cast [pnt]
    refine b5 (as':=[a8 []]) rfl ?_;refine a7 awa rfl trivial ?_;have h0:z7 (ao (3*U) W)=[]:=by rw [k]; rfl
    rw [h0] at c;rcases c with ⟨_,rfl,rfl⟩ | ⟨h,_⟩
    ·push_cast [pnt]
    exact absurd rfl h
   refine a7 (aid (3*U) (by omega) W M (.inr ⟨k,rfl,rfl⟩)) rfl trivial ?_
   push_cast [j7,pnt]
   refine tt ?_
   try rw [n5]
   push_cast [pnt]
   refine b5 (as':=[a8 (ao (3*U) W)]) rfl ?_;have hh:(ao (3*U) W).length=W.length:=by simp [ao]
   have hj:1<=W.length:=by
    cases W with
    | nil=>exact absurd rfl k
    | cons a r=>simp
   have H:∀p∈ao (3*U) W,n9 p:=fun p g=>by
    obtain ⟨q,hq,rfl⟩:=zai.1 g;have:=Y q hq;simp only at this;have e1:-64<=q.1/(3*U):=(zbn (by omega)).2 (by omega);have e2:q.1/(3*U)<4161:=(zbo (by omega)).2 (by omega);have e3:-64<=q.2/(3*U):=(zbn (by omega)).2 (by omega);have e4:q.2/(3*U)<4161:=(zbo (by omega)).2 (by omega);unfold n9;simp only;omega
   rcases c with ⟨a,rfl,rfl⟩ | ⟨a,rfl,rfl⟩
   ·refine a7 (aoa (ao (3*U) W) (by omega) H (.inl ⟨a,rfl,rfl⟩)) rfl trivial ?_
    push_cast [j7,pnt]
   refine a7 (aoa (ao (3*U) W) (by omega) H (.inr ⟨a,rfl,rfl⟩)) rfl trivial ?_
   push_cast [j7,pnt]
theorem api (t:Til) (h:tis t=true) (d:ah t=false) (z:Ei) (a:okc t.r.toNat z) (c:qp z t.r.toNat) :
 a9 P0 10 [t.v,uw (af t.r.toNat z)] [] (.own 1000000 0 0 (q8 t z).length) [j7 (q8 t z)]:=by
 by_cases b:q8 t z=[]
 ·have:=ajs (agl t h d z a a.2.1 c (.inl ⟨b,rfl,rfl⟩));rw [b];exact this
 exact agl t h d z a a.2.1 c (.inr ⟨b,rfl,rfl⟩)
variable {q:P2}
theorem aod (h:q∈z7 rg):q∈rg:=by
 have hc:∀l:List P2,q∈o5 l->q∈l:=fun l a=>xy l (by
  unfold o5 at a
  first
  | exact List.mem_of_mem_tail (by simpa using a)
  | exact List.mem_of_mem_dropLast (by simpa using a)
  | (simp at a; exact List.mem_of_mem_tail a))
 unfold z7 at h;split at h
 ·simp at h
 split at h
 ·simp at h
 rcases zat.1 h with h | h
 ·exact vg (aav (hc _ h))
 exact vg (aav (List.mem_reverse.1 (hc _ h)))
theorem aps (t:Til) (h:0<=t.z/\t.z<=18) (z:Ei) (f:∀p∈el t z,(-1099511627776<=p.1/\p.1<=1099511627776)/\(-1099511627776<=p.2/\p.2<=1099511627776)):∀p∈q8 t z,(-64<=p.1/\p.1<=4160)/\(-64<=p.2/\p.2<=4160):=fun p c=>by
 have g:1<=s8 t:=by
  have m:((2^(18-t.z).toNat:Nat):Int)=(2:Int)^(18-t.z).toNat:=by simp
  have n:0<2^(18-t.z).toNat:=Nat.pow_pos (by decide);unfold s8;omega
 unfold q8 at c;split at c
 ·have d:=aod c;obtain ⟨q,i,rfl⟩:=zai.1 d;have e:=ako (a:=(-1099511627776,-1099511627776)) (b:=(1099511627776,1099511627776)) (-192*s8 t,-192*s8 t) (12480*s8 t,12480*s8 t) f q i;simp only at e;generalize s8 t=U at *;have o:-64<=q.1/(3*U):=(zbn (by omega)).2 (by omega);have l:q.1/(3*U)<4161:=(zbo (by omega)).2 (by omega);have j:-64<=q.2/(3*U):=(zbn (by omega)).2 (by omega);have k:q.2/(3*U)<4161:=(zbo (by omega)).2 (by omega);simp only;omega
 simp at c

def ayc (l:List P2):Prop:=∀p∈l,(-64<p.1/\p.1<4160)/\(-64<p.2/\p.2<4160)

def rm:Mk P0 f68:={ x:=_ }
def rn:Mk P0 f33:={ x:=_ }
def mu:Mk P0 f35:={ x:=_ }
def rl:Mk P0 f34:={ x:=_ }
def ow:Mk P0 f32:={ x:=_ }
def rq:Mk P0 f13:={ x:=_ }
def dw (n:Int):Int:=if n<0 then -n else n
theorem abf (n:Int) (h:-9007199254740992<=n/\n<=9007199254740992):a9 P0 68 [int .i64 n] [] (int .i64 (dw n)) []:=by
 refine rm.t func68 ?_;have w:IntKind.i64.wrap (0-n)=-n:=by rw [a5 (by omega)]; omega
 have b:IntKind.i64.wrap (-n)=-n:=a5 (by omega)
 push_cast [rm,zag]
 refine b8 (fun a=>?_) (fun a=>?_)
 ·have a:=of_decide_eq_true a;have e:dw n=-n:=if_pos a;rw [e]
  push_cast [w,b]
 have a:=of_decide_eq_false a;have e:dw n=n:=if_neg a;rw [e]
 push_cast
def abe (a b:P2):Bool:=decide (a.1<b.1)||(a.1 == b.1&&decide (a.2<b.2))
theorem atv (a b:P2):a9 P0 33 [pv2 a,pv2 b] [] (bl (abe a b)) []:=by
 refine rn.t func33 ?_;unfold abe
 cases d1:decide (a.1<b.1)<;>cases d2:(a.1 == b.1)<;>cases d3:decide (a.2<b.2) <;>
  (push_cast [rn,pv2,pnt,d1,d2,d3,zag,zaj,zam,zao,zap]
   first | done | omega | (refine ⟨?_,?_⟩<;>first | omega | rfl) | skip)
def aew (a q p:P2):Bool:=decide (dw (p.1-a.1)+dw (p.2-a.2)>dw (q.1-a.1)+dw (q.2-a.2))
theorem aok (a q p:P2) (h:n9 a) (j:n9 q) (i:n9 p):a9 P0 35 [pv2 a,pv2 q,pv2 p] [] (bl (aew a q p)) []:=by
 refine mu.t func35 ?_;unfold n9 at h j i;have c:IntKind.i64.wrap (p.1-a.1)=p.1-a.1:=a5 (by omega);have f:IntKind.i64.wrap (p.2-a.2)=p.2-a.2:=a5 (by omega);have e:IntKind.i64.wrap (q.1-a.1)=q.1-a.1:=a5 (by omega);have d:IntKind.i64.wrap (q.2-a.2)=q.2-a.2:=a5 (by omega);have b:∀x:Int,-2147483648<=x/\x<=2147483648->0<=dw x/\dw x<=2147483648:=fun x hx=>by unfold dw; split<;>omega
 have l:=b (p.1-a.1) (by omega);have o:=b (p.2-a.2) (by omega);have n:=b (q.1-a.1) (by omega);have m:=b (q.2-a.2) (by omega);have g:IntKind.i64.wrap (dw (p.1-a.1)+dw (p.2-a.2))=dw (p.1-a.1)+dw (p.2-a.2):=a5 (by omega);have k:IntKind.i64.wrap (dw (q.1-a.1)+dw (q.2-a.2))=dw (q.1-a.1)+dw (q.2-a.2):=a5 (by omega)
 push_cast [mu,pv2,pnt,c,f,e,d,zag,zaj,zam,zao,zap]
 repeat refine And.intro (by omega) ?_
 refine c8 (abf (p.1-a.1) (by omega)) rfl trivial ?_
 push_cast [pnt,c,f,e,d,zaj,zam,zao,zap]
 repeat refine And.intro (by omega) ?_
 refine c8 (abf (p.2-a.2) (by omega)) rfl trivial ?_
 push_cast [pnt,c,f,e,d,zaj,zam,zao,zap]
 repeat refine And.intro (by omega) ?_
 refine c8 (abf (q.1-a.1) (by omega)) rfl trivial ?_
 push_cast [pnt,c,f,e,d,zaj,zam,zao,zap]
 repeat refine And.intro (by omega) ?_
 refine c8 (abf (q.2-a.2) (by omega)) rfl trivial ?_
 push_cast [g,k]
 exact ⟨by kernel_rfl,rfl⟩
theorem asj (a b c:P2) (e:n9 a) (d:n9 b) (hc:n9 c):a9 P0 34 [pv2 a,pv2 b,pv2 c] [] (int .i64 (sg (d9 a b c))) []:=by
 refine rl.t func34 ?_;unfold n9 at e d hc;have hx:=ap3 a.1 a.2 b.1 b.2 c.1 c.2 (by unfold r5; omega) (by unfold r5; omega) (by unfold r5; omega) (by unfold r5; omega) (by unfold r5; omega) (by unfold r5; omega)
 push_cast [rl,pv2,pnt,zag,zaj,zam,zao,zap]
 repeat refine And.intro (by omega) ?_
 refine b5 (as':=[pv a.1 a.2,pv b.1 b.2,int .i64 c.1,int .i64 c.2]) rfl ?_;refine a7 hx rfl trivial ?_
 push_cast
 rfl
theorem yd {l:List P2} {i:Nat} (h:l[i]?=some p) (z:RV):(l.map ptR).getD i z=.agg [.v (.int .i64 p.1),.v (.int .i64 p.2)]:=by
 rw [zak,List.getElem?_map,h]; rfl
theorem apq (l:List P2) (q:l.length<=1000) (h:∀p∈l,n9 p):a9 P0 32 [a8 l,int .i64 1000] [] (bl true) []:=by
 refine ow.t func32 ?_;have n:decide ((l.length:Int)>1000)=false:=decide_eq_false (by omega);simp only [ow,a8,n,push_cast,↓reduceIte,reduceCtorEq,zB,zE,zA,zS,zL,zD,zM]
 refine c9 [(5,false),(0,false)] (fun vs pos b=>∃i:Nat,i<=l.length/\vs=[int .i64 i,a8 l]/\pos=[]/\b=[])
  (fun vs _ _=>match vs with | .r (.v (.int _ a))::_=>(l.length-a).toNat | _=>0) rfl ?_ ?_
 ·simp only [a8,push_cast,↓reduceIte,reduceCtorEq,zB,zE,zA,zS,zL,zD,zM];exact ⟨0,by omega,rfl⟩
 rintro vs pos b ⟨i,hi,rfl,rfl,rfl⟩;have g:IntKind.i64.wrap ((i:Int)+1)=i+1:=a5 (by omega);simp only [a8,g,push_cast,↓reduceIte,reduceCtorEq,zB,zE,zA,zS,zL,zD,zM];refine b8 (fun m=>?_) (fun m=>?_)
 ·have d:i<l.length:=by have:=of_decide_eq_true m; omega
  obtain ⟨p,j⟩:∃p,l[i]?=some p:=⟨l[i],by simp [d]⟩
  have o:=h p (zax j);unfold n9 at o;have k:=fun z=>yd j z;simp only [push_cast,↓reduceIte,reduceCtorEq,zB,zE,zA,zS,zL,zD,zM]
  refine c9 [(6,false),(5,false),(0,false)] (fun vs pos b=>∃a:Nat,a<=2/\vs=[int .i64 a,int .i64 i,a8 l]/\pos=[]/\b=[])
   (fun vs _ _=>match vs with | .r (.v (.int _ a))::_=>(2-a).toNat | _=>0) rfl ?_ ?_
  ·simp only [a8,push_cast,↓reduceIte,reduceCtorEq,zB,zE,zA,zS,zL,zD,zM];exact ⟨0,by omega,rfl⟩
  rintro vs pos b ⟨a,s,rfl,rfl,rfl⟩;rcases (show a=0\/a=1\/a=2 by omega) with rfl | rfl | rfl
  ·have c:decide ((0:Int)<2)=true:=rfl;have e:decide (p.1 < -536870912)=false:=decide_eq_false (by omega);have f:decide (p.1>536870912)=false:=decide_eq_false (by omega);simp only [a8,k,c,e,f,Int.natCast_zero,zaj,zad,Nat.zero_mul,zaq,zar,zad,push_cast,↓reduceIte,reduceCtorEq,zB,zE,zA,zS,zL,zD,zM];exact ⟨by omega,by omega,by omega,by omega,⟨1,by omega,rfl⟩,by decide⟩
  ·have c:decide ((1:Int)<2)=true:=rfl;have e:decide (p.2 < -536870912)=false:=decide_eq_false (by omega);have f:decide (p.2>536870912)=false:=decide_eq_false (by omega);simp only [a8,k,c,e,f,Int.natCast_one,Int.toNat_one,zad,Nat.one_mul,Nat.mul_one,zaq,zar,zad,push_cast,↓reduceIte,reduceCtorEq,zB,zE,zA,zS,zL,zD,zM];exact ⟨by omega,by omega,by omega,by omega,⟨2,by omega,rfl⟩,by decide⟩
  have c:decide ((2:Int)<2)=false:=rfl;simp only [a8,c,g,push_cast,↓reduceIte,reduceCtorEq,zB,zE,zA,zS,zL,zD,zM];exact ⟨⟨i+1,by omega,rfl⟩,by omega⟩
 simp only [push_cast,↓reduceIte,reduceCtorEq,zB,zE,zA,zS,zL,zD,zM]
def sq (a nx p:P2):P2:=if p=a then nx else if nx=a then p else if d9 a nx p<0\/(d9 a nx p=0/\aew a nx p=true) then p else nx
def acg (l:List P2) (a:P2):P2:=l.foldl (sq a) a
def up (f p:P2):P2:=if abe p f=true then p else f
def rf (l:List P2):P2:=l.foldl up (l.getD 0 (0,0))
def jg (l:List P2) (first:P2):Nat->P2->List P2
 | 0,_=>[]
 | k+1,now=>now::(if acg l now=first\/acg l now=now then [] else jg l first k (acg l now))
def qo (l:List P2):List P2:=if l=[] then [] else if (jg l (rf l) (l.length+1) (rf l)).length<3 then [] else jg l (rf l) (l.length+1) (rf l)
theorem atr (b a p:P2):sq b a p=a\/sq b a p=p:=by
 unfold sq;split
 ·exact .inl rfl
 split
 ·exact .inr rfl
 split
 ·exact .inr rfl
 exact .inl rfl
theorem att (a p:P2):up a p=a\/up a p=p:=by
 unfold up;split
 ·exact .inr rfl
 exact .inl rfl
theorem ae7 (l:List P2) (first:P2):∀(k:Nat) (a:P2),(jg l first k a).length<=k
 | 0,a=>by simp [jg]
 | k+1,a=>by
   rw [jg,zbc];split
   ·simp
   have:=ae7 l first k (acg l a)
   omega
theorem atj (l:List P2) (hl:l.length<=1000) (X:l≠[]) (h:∀p∈l,n9 p)
 (e:(qo l=[]/\res=.nils 2 (pnt 0 0)/\ro=[])\/(qo l≠[]/\res=.own 1000000 0 0 (qo l).length/\ro=[j7 (qo l)])) :
 a9 P0 13 [a8 l] [] res ro:=by
 refine rq.t func13 ?_;have he:=ep
 obtain ⟨q0,r0,J⟩:∃q r,l=q::r:=by
  cases l with
  | nil=>exact absurd rfl X
  | cons q r=>exact ⟨q,r,rfl⟩
 have h7:∀z,(l.map ptR).getD 0 z=.agg [.v (.int .i64 q0.1),.v (.int .i64 q0.2)]:=fun z=>yd (by rw [J]; rfl) z;have h0:l.getD 0 (0,0)=q0:=by rw [J]; rfl
 have h9:1<=l.length:=by rw [J]; simp
 have n0:((l.length:Int) == 0)=false:=beq_eq_false_iff_ne.2 (by omega);have h4:=apq l hl h
 push_cast [rq,a8,zag]
 refine b5 (as':=[a8 l,int .i64 1000]) rfl ?_;refine a7 h4 rfl trivial ?_
 push_cast [a8,h7,n0,zab,zaj,zad]
 refine And.intro (by omega) ?_
 refine c9 [(4,false),(0,false),(3,false)] (fun vs pos g=>∃(i:Nat) (f:P2),i<=l.length/\f∈l/\rf l=(l.drop i).foldl up f/\vs=[int .i64 i,a8 l,.ptr 2000000 0 0]/\pos=[]/\g=[.box [int .i64 f.1,int .i64 f.2]])
  (fun vs _ _=>match vs with | .r (.v (.int _ a))::_=>(l.length-a).toNat | _=>0) rfl ?_ ?_
 ·push_cast [a8]
  exact ⟨0,q0,by omega,by rw [J]; simp,by unfold rf; rw [h0]; rfl,rfl,rfl⟩
 rintro vs pos g ⟨i,f,hi,P,u,rfl,rfl,rfl⟩;have A:IntKind.i64.wrap ((i:Int)+1)=i+1:=a5 (by omega)
 push_cast [a8,zab]
 refine b8 (fun hd=>?_) (fun hd=>?_)
 ·have m:i<l.length:=by have:=of_decide_eq_true hd; omega
  obtain ⟨p,N⟩:∃p,l[i]?=some p:=⟨l[i],by simp [m]⟩
  have w:=zax N;have hg:=fun z=>yd N z;have Q:l.drop i=p::l.drop (i+1):=by rw [zbx m,(List.getElem?_eq_some_iff.1 N).2]
  rw [Q,List.foldl_cons] at u;have h8:=atv p f
  push_cast [a8,hg,zab,zaq,zar,zad]
  refine And.intro (by omega) ?_;refine j8 (as':=[pv2 p,pv2 f]) rfl ?_;refine c8 h8 rfl trivial ?_
  push_cast
  refine And.intro (by kernel_rfl) ?_;cases hb:abe p f with
  | true=>
    rw [show up f p=p by rw [up,hb]; rfl] at u
    push_cast [a8,hg,A,zab,zaq,zar,zad]
    exact ⟨by omega,⟨i+1,p,by omega,w,u,rfl,rfl⟩,by omega⟩
  | false=>
    rw [show up f p=f by rw [up,hb]; rfl] at u
    push_cast [A]
    exact ⟨⟨i+1,f,by omega,P,u,rfl,rfl⟩,by omega⟩
 have m:i=l.length:=by have:=of_decide_eq_false hd; omega
 subst m;rw [List.drop_length,List.foldl_nil] at u;obtain ⟨W,hW⟩:∃W,jg l f (l.length+1) f=W:=⟨_,rfl⟩
 have h6:qo l=if W.length<3 then [] else W:=by unfold qo; rw [if_neg X,u,hW]
 have h2:=ae7 l f (l.length+1) f;rw [hW] at h2;rw [h6] at e;have ha:=h f P
 push_cast
 refine c9 [(7,false),(0,false),(3,false),(5,false),(6,false)] (fun vs pos g=>∃(n:Nat) (o:List P2) (b:P2),n<=l.length+1/\o.length=n/\b∈l/\W=o++jg l f (l.length+1-n) b/\pos=[] /\
  (o=[]/\vs=[int .i64 n,a8 l,.ptr 2000000 0 0,.nils 2 (pnt 0 0),.ptr 2000001 0 0]/\g=[.box [int .i64 f.1,int .i64 f.2],.box [int .i64 b.1,int .i64 b.2]] \/
   o≠[]/\vs=[int .i64 n,a8 l,.ptr 2000000 0 0,.own 2000001 0 0 n,.ptr 2000002 0 0]/\g=[.box [int .i64 f.1,int .i64 f.2],j7 o,.box [int .i64 b.1,int .i64 b.2]]))
  (fun vs _ _=>match vs with | .r (.v (.int _ a))::_=>(l.length+2-a).toNat | _=>0) rfl ?_ ?_
 ·push_cast [a8,pnt]
  exact ⟨0,[],f,by omega,rfl,P,by rw [zay,<- hW]; rfl,by simp⟩
 rintro vs pos g ⟨n,o,b,hn,s,V,d,rfl,B⟩;have U:=h b V;have wn:IntKind.i64.wrap ((n:Int)+1)=n+1:=a5 (by omega);have K:decide ((-1:Int)<0)=true:=rfl;have D:decide ((0:Int)<0)=false:=rfl;have G:decide ((1:Int)<0)=false:=rfl;have I:((0:Int) == 0)=true:=rfl;have E:((1:Int) == 0)=false:=rfl;have tO:List.take n (o.map ptR)=o.map ptR:=zbl (by simp; omega);have Y:o=[]->n=0:=fun h=>by rw [<- s,h]; rfl
 by_cases hd:n<=l.length
 ·have O:decide ((n:Int)<=(l.length:Int))=true:=decide_eq_true (by omega);obtain ⟨k,hk⟩:∃k,l.length+1-n=k+1:=⟨l.length-n,by omega⟩
  rw [hk,jg] at d
  rcases B with ⟨j,rfl,rfl⟩ | ⟨j,rfl,rfl⟩<;>(
   push_cast [a8,j7,pnt,tO,O,zab]
   refine And.intro (by simp) (And.intro (by first | omega | exact ⟨by omega,by omega⟩) ?_)
   refine c9 [(9,false),(0,false),(3,false),(5,false),(6,false),(8,false),(7,false)] (fun vs pos g=>∃(i:Nat) (nx:P2),i<=l.length/\nx∈l/\acg l b=(l.drop i).foldl (sq b) nx/\pos=[] /\
    vs=[int .i64 i,a8 l,.ptr 2000000 0 0,.own 2000001 0 0 (n+1),.ptr 2000002 0 0,.ptr 2000003 0 0,int .i64 n]/\g=[.box [int .i64 f.1,int .i64 f.2],j7 (o++[b]),.box [int .i64 b.1,int .i64 b.2],.box [int .i64 nx.1,int .i64 nx.2]])
    (fun vs _ _=>match vs with | .r (.v (.int _ a))::_=>(l.length-a).toNat | _=>0) rfl ?_ ?_
   ·push_cast [a8,j7,pnt]
    exact ⟨0,b,by omega,V,rfl,by first | (simp [j,Y j,ptR,pnt]; done) | simp [ptR,pnt]⟩
   rintro vs pos g ⟨i,nx,hi,x,c,rfl,rfl,rfl⟩;have Z:=h nx x;have A:IntKind.i64.wrap ((i:Int)+1)=i+1:=a5 (by omega);have q1:=abh nx b;have q2:=abh nx f
   push_cast [a8,j7,pnt,zab]
   refine b8 (fun M=>?_) (fun M=>?_)
   ·have m:i<l.length:=by have:=of_decide_eq_true M; omega
    obtain ⟨p,N⟩:∃p,l[i]?=some p:=⟨l[i],by simp [m]⟩
    have w:=zax N;have T:=h p w;have hg:=fun z=>yd N z;have Q:l.drop i=p::l.drop (i+1):=by rw [zbx m,(List.getElem?_eq_some_iff.1 N).2]
    rw [Q,List.foldl_cons] at c;have q3:=abh p b
    push_cast [a8,j7,pnt,hg,q1,q3,zab,zaq,zar,zad]
    refine And.intro (by omega) ?_;by_cases C:p=b
    ·have F:decide (p=b)=true:=decide_eq_true C;rw [show sq b nx p=nx from if_pos C] at c
     push_cast [F,A]
     exact ⟨⟨i+1,nx,by omega,x,c,rfl,rfl⟩,by omega⟩
    have F:decide (p=b)=false:=decide_eq_false C;by_cases c2:nx=b
    ·have L:decide (nx=b)=true:=decide_eq_true c2;rw [show sq b nx p=p by rw [sq,if_neg C,if_pos c2]] at c
     push_cast [q1,q3,F,L,A]
     exact ⟨⟨i+1,p,by omega,w,c,rfl,rfl⟩,by omega⟩
    have L:decide (nx=b)=false:=decide_eq_false c2;have hN:sq b nx p=if d9 b nx p<0\/(d9 b nx p=0/\aew b nx p=true) then p else nx:=by rw [sq,if_neg C,if_neg c2]
    have h5:=asj b nx p U Z T;have H:=aok b nx p U Z T
    push_cast [q1,q3,F,L]
    refine b5 (as':=[pv2 b,pv2 nx,pv2 p]) rfl ?_;refine a7 h5 rfl trivial ?_;rcases (show d9 b nx p<0\/d9 b nx p=0\/0<d9 b nx p by omega) with S | S | S
    ·have R:sg (d9 b nx p)=-1:=if_pos S;rw [hN,if_pos (.inl S)] at c
     push_cast [R,K,D,G,I,E,A]
     exact ⟨⟨i+1,p,by omega,w,c,rfl,rfl⟩,by omega⟩
    ·have R:sg (d9 b nx p)=0:=by rw [sg,if_neg (by omega),if_neg (by omega)]
     cases hfb:aew b nx p with
     | true=>
       rw [hfb] at H;rw [hN,if_pos (.inr ⟨S,hfb⟩)] at c
       push_cast [R,K,D,G,I,E,A]
       refine b5 (as':=[pv2 b,pv2 nx,pv2 p]) rfl ?_;refine a7 H rfl trivial ?_
       push_cast [A]
       exact ⟨⟨i+1,p,by omega,w,c,rfl,rfl⟩,by omega⟩
     | false=>
       rw [hfb] at H;rw [hN,if_neg (fun q=>q.elim (fun q=>by omega) (fun q=>by rw [hfb] at q; exact absurd q.2 (by decide)))] at c
       push_cast [R,K,D,G,I,E,A]
       refine b5 (as':=[pv2 b,pv2 nx,pv2 p]) rfl ?_;refine a7 H rfl trivial ?_
       push_cast [A]
       exact ⟨⟨i+1,nx,by omega,x,c,rfl,rfl⟩,by omega⟩
    have R:sg (d9 b nx p)=1:=by rw [sg,if_neg (by omega),if_pos S]
    rw [hN,if_neg (fun q=>q.elim (fun q=>by omega) (fun q=>by omega))] at c
    push_cast [R,K,D,G,I,E,A]
    exact ⟨⟨i+1,nx,by omega,x,c,rfl,rfl⟩,by omega⟩
   have m:i=l.length:=by have:=of_decide_eq_false M; omega
   subst m;rw [List.drop_length,List.foldl_nil] at c;rw [c] at d
   push_cast [a8,j7,pnt,q1,q2]
   by_cases C:nx=f
   ·have F:decide (nx=f)=true:=decide_eq_true C;rw [if_pos (.inl C)] at d
    push_cast [F]
    by_cases h3:n+1<3
    ·have y:decide ((n:Int)+1<3)=true:=decide_eq_true (by omega);rw [if_pos (by rw [d]; first | (simp; omega) | omega)] at e;rcases e with ⟨_,rfl,rfl⟩ | ⟨q,_⟩
     ·push_cast [y,pnt]
     exact absurd rfl q
    have y:decide ((n:Int)+1<3)=false:=decide_eq_false (by omega);rw [if_neg (by rw [d]; first | (simp; omega) | omega)] at e;rcases e with ⟨q,_⟩ | ⟨_,rfl,rfl⟩
    ·first | (rw [q] at d; simp at d; done) | exact absurd (d.symm.trans q) j
    rw [d]
    push_cast [y,j7,pnt]
    first | (simp [s]; done) | exact ⟨by simp [s],rfl⟩ | rfl
   have F:decide (nx=f)=false:=decide_eq_false C;by_cases c2:nx=b
   ·have L:decide (nx=b)=true:=decide_eq_true c2;rw [if_pos (.inr c2)] at d
    push_cast [F,L]
    by_cases h3:n+1<3
    ·have y:decide ((n:Int)+1<3)=true:=decide_eq_true (by omega);rw [if_pos (by rw [d]; first | (simp; omega) | omega)] at e;rcases e with ⟨_,rfl,rfl⟩ | ⟨q,_⟩
     ·push_cast [y,pnt]
     exact absurd rfl q
    have y:decide ((n:Int)+1<3)=false:=decide_eq_false (by omega);rw [if_neg (by rw [d]; first | (simp; omega) | omega)] at e;rcases e with ⟨q,_⟩ | ⟨_,rfl,rfl⟩
    ·first | (rw [q] at d; simp at d; done) | exact absurd (d.symm.trans q) j
    rw [d]
    push_cast [y,j7,pnt]
    first | (simp [s]; done) | exact ⟨by simp [s],rfl⟩ | rfl
   have L:decide (nx=b)=false:=decide_eq_false c2;rw [if_neg (fun q=>q.elim C c2)] at d
   push_cast [F,L,wn]
   exact ⟨⟨n+1,o++[b],nx,by omega,by simp [s],x,by rw [d,show l.length+1-(n+1)=k by omega,zbd]; rfl,.inr ⟨by simp,rfl,rfl⟩⟩,by omega⟩)
 have O:decide ((n:Int)<=(l.length:Int))=false:=decide_eq_false (by omega);rcases B with ⟨j,rfl,rfl⟩ | ⟨j,rfl,rfl⟩
 ·have:=Y j;omega
 have h1:n=l.length+1:=by omega
 rw [h1,Nat.sub_self,jg,zbm] at d
 push_cast [a8,j7,pnt,O]
 by_cases h3:n<3
 ·have y:decide ((n:Int)<3)=true:=decide_eq_true (by omega);rw [if_pos (by rw [d]; first | (simp; omega) | omega)] at e;rcases e with ⟨_,rfl,rfl⟩ | ⟨q,_⟩
  ·push_cast [y,pnt]
  exact absurd rfl q
 have y:decide ((n:Int)<3)=false:=decide_eq_false (by omega);rw [if_neg (by rw [d]; first | (simp; omega) | omega)] at e;rcases e with ⟨q,_⟩ | ⟨_,rfl,rfl⟩
 ·first | (rw [q] at d; simp at d; done) | exact absurd (d.symm.trans q) j
 rw [d]
 push_cast [y,j7,pnt]
 first | (simp [s]; done) | exact ⟨by simp [s],rfl⟩ | rfl

def upc (c p:P2):Bool:=decide (c.2<p.2)
def wcx (c p q:P2):Int:=(q.2-c.2)*(p.1-c.1)-(q.1-c.1)*(p.2-c.2)
def wcr (c p q:P2):Int:=if upc c p=upc c q then 0 else if upc c q=true then (if 0<wcx c p q then 1 else 0) else if wcx c p q<0 then -1 else 0
def pth (c:P2):P2->List P2->Int
 | _,[]=>0
 | p,q::l=>wcr c p q+pth c q l
def wnd (c:P2):List P2->Int
 | []=>0
 | p::l=>pth c p (l++[p])
def hv (c:P2) (a b:Int) (p:P2):Int:=a*(p.1-c.1)+b*(p.2-c.2)
def phi (c:P2) (a:Int) (p:P2):Int:=if 0<a then (if upc c p=true then 1 else 0) else 0
variable {u:Int}
theorem aoi {a b v s t:Int} (d:0<a*u+b*v) (g:0<a*s+b*t) (hv:v<=0) (c:0<t):0<a*(t*u-s*v):=by
 have h:0<t*(a*u+b*v):=zan c d;have f:0<=(-v)*(a*s+b*t):=zac (by omega) (by omega);have e:a*(t*u-s*v)=t*(a*u+b*v)+(-v)*(a*s+b*t):=by grind
 omega
theorem zy {a w:Int} (h:0<a*w):(0<a/\0<w)\/(a<0/\w<0):=by
 rcases Int.lt_trichotomy 0 a with c | c | c
 ·refine .inl ⟨c,?_⟩;rcases Int.lt_or_le 0 w with b | b
  ·exact b
  have:=zby (zaf c) b;omega
 ·rw [<- c,zbe] at h; omega
 refine .inr ⟨c,?_⟩;rcases Int.lt_or_le w 0 with b | b
 ·exact b
 have:=Int.mul_nonpos_of_nonpos_of_nonneg (zaf c) b;omega
variable {c:P2}
theorem ec {a b:Int} (g:0<hv c a b p) (h:0<hv c a b q):wcr c p q=phi c a q-phi c a p:=by
 unfold wcr phi;unfold hv at g h;cases h1:upc c p<;>cases h2:upc c q<;>simp only [upc,decide_eq_true_eq,decide_eq_false_iff_not] at h1 h2
 ·simp
 ·have k:=zy (aoi g h (by omega) (by omega:0<q.2-c.2));have e:wcx c p q=(q.2-c.2)*(p.1-c.1)-(q.1-c.1)*(p.2-c.2):=rfl;rw [<- e] at k;rcases k with ⟨d,f⟩ | ⟨d,f⟩
  ·simp [d,f]
  simp [show ¬0<a by omega,show ¬0<wcx c p q by omega]
 ·have k:=zy (aoi h g (by omega) (by omega:0<p.2-c.2));have e:wcx c p q=-((p.2-c.2)*(q.1-c.1)-(p.1-c.1)*(q.2-c.2)):=by unfold wcx; grind
  rcases k with ⟨d,f⟩ | ⟨d,f⟩
  ·simp [d,show wcx c p q<0 by omega]
  simp [show ¬0<a by omega,show ¬wcx c p q<0 by omega]
 simp
theorem aen (c:P2):∀(X:List P2) (p q:P2) (Y:List P2),pth c p (X++q::Y)=pth c p (X++[q])+pth c q Y
 | [],p,q,Y=>by simp [pth]
 | x::X,p,q,Y=>by
   have:=aen c X x q Y;simp only [zae,pth] at this |-;omega
theorem ai4 (c:P2) (A B:List P2):wnd c (A++B)=wnd c (B++A):=by
 cases A with
 | nil=>simp
 | cons a A=>
   cases B with
   | nil=>simp
   | cons b B=>
     have e:=aen c A a b (B++[a]);have d:=aen c B b a (A++[b]);simp only [zae,wnd,zbd,zae] at e d |-;omega
def RP (R:P2->P2->Prop):P2->List P2->Prop
 | _,[]=>True
 | p,q::l=>R p q/\RP R q l
def RG (R:P2->P2->Prop):List P2->Prop
 | []=>True
 | p::l=>RP R p (l++[p])
theorem aeh (R:P2->P2->Prop):∀(X:List P2) (p q:P2) (Y:List P2),RP R p (X++q::Y)↔RP R p (X++[q])/\RP R q Y
 | [],p,q,Y=>by simp [RP]
 | x::X,p,q,Y=>by
   have:=aeh R X x q Y;simp only [zae,RP] at this |-;rw [this,and_assoc]
theorem ape (R:P2->P2->Prop) (A B:List P2) (h:RG R (A++B)):RG R (B++A):=by
 cases A with
 | nil=>simpa using h
 | cons a A=>
   cases B with
   | nil=>simpa using h
   | cons b B=>
     have d:=aeh R A a b (B++[a]);have c:=aeh R B b a (A++[b]);simp only [zae,RG,zbd,zae] at h d c |-;rw [d] at h;rw [c];exact ⟨h.2,h.1⟩
theorem ag8 {c:P2} {a b:Int}:∀{l:List P2} {p:P2} (z:P2),0<hv c a b p->(∀q∈l,0<hv c a b q)->(p::l).getLast?=some z->pth c p l=phi c a z-phi c a p
 | [],p,z,hp,_,hz=>by simp at hz; subst hz; simp [pth]
 | q::l,p,z,hp,hl,hz=>by
   have e:=ec hp (hl q (by simp));have d:=ag8 (l:=l) (p:=q) z (hl q (by simp)) (fun x hx=>hl x (by simp [hx])) (by simpa using hz);rw [pth,e,d];omega
theorem ab4 {a b:Int} {l:List P2} (h:∀q∈l,0<hv c a b q):wnd c l=0:=by
 cases l with
 | nil=>rfl
 | cons p l=>
   have:=ag8 (c:=c) (a:=a) (b:=b) (l:=l++[p]) (p:=p) p (h p (by simp)) (fun q d=>by
    rcases zat.1 d with d | d
    ·exact h q (by simp [d])
    rw [zbp.1 d]; exact h p (by simp)) (by simp [List.getLast?_cons])
   rw [wnd,this];omega
theorem apg {a b k:Int} (j:a≠0\/b≠0) {l:List P2} (h:∀q∈l,a*q.1+b*q.2=k):wnd c l=0:=by
 have g:∀q∈l,hv c a b q=k-(a*c.1+b*c.2):=fun q d=>by
  have:=h q d;unfold hv
  grind
 rcases Int.lt_trichotomy 0 (k-(a*c.1+b*c.2)) with i | i | i
 ·exact ab4 (a:=a) (b:=b) fun q d=>by rw [g q d]; exact i
 ·have s:∀p∈l,∀q∈l,wcr c p q=0:=fun p f q d=>by
   have o:=g p f;have n:=g q d;rw [<- i] at o n;unfold hv at o n
   have e:wcx c p q=0:=by
    have u:a*wcx c p q=0:=by unfold wcx; grind
    have v:b*wcx c p q=0:=by unfold wcx; grind
    rcases j with t | r
    ·exact (zbf.1 u).resolve_left t
    exact (zbf.1 v).resolve_left r
   unfold wcr;rw [e];simp
  have f:∀(m:List P2) (p:P2),p∈l->(∀q∈m,q∈l)->pth c p m=0:=by
   intro m
   induction m with
   | nil=>intro p _ _; rfl
   | cons q m ih=>
     intro p f d;rw [pth,s p f q (d q (by simp)),ih q (d q (by simp)) (fun x hx=>d x (by simp [hx]))]
     rfl
  cases l with
  | nil=>rfl
  | cons p l=>
    refine f _ p (by simp) fun q d=>?_;rcases zat.1 d with d | d
    ·simp [d]
    rw [zbp.1 d]; simp
 refine ab4 (a:=-a) (b:=-b) fun q d=>?_;have:=g q d;have e:hv c (-a) (-b) q=- hv c a b q:=by unfold hv; grind
 omega

def Edg (c:P2) (r:Int) (p q:P2):Prop:=∃a b A B:Int,(-A<=a/\a<=A)/\(-B<=b/\b<=B)/\0<A+B/\r*(A+B)<=hv c a b p/\r*(A+B)<=hv c a b q
variable {d A D:Int}
theorem nn {a:Int} (b:-A<=a/\a<=A) (f:-D<=d/\d<=D):-(A*D)<=a*d/\a*d<=A*D:=by
 have e:0<=A:=by omega
 have j:0<=D:=by omega
 rcases Int.le_total 0 d with h | h
 ·have c:=zbg b.1 h;have i:=zbg b.2 h;have g:=zaz f.2 e;rw [Int.neg_mul] at c;omega
 have c:=Int.mul_le_mul_of_nonpos_right b.1 h;have i:=Int.mul_le_mul_of_nonpos_right b.2 h;have g:=zaz f.1 e;rw [Int.neg_mul] at c;rw [zba] at g;omega
variable {B δ:Int}
theorem aj8 {a b:Int} {x:P2} (f:-A<=a/\a<=A) (d:-B<=b/\b<=B) (h:-δ<=x.1-p.1/\x.1-p.1<=δ) (g:-δ<=x.2-p.2/\x.2-p.2<=δ):hv c a b p-δ*(A+B)<=hv c a b x:=by
 have j:=nn f h;have i:=nn d g;have e:hv c a b x=hv c a b p+(a*(x.1-p.1)+b*(x.2-p.2)):=by unfold hv; grind
 rw [e,Int.mul_add,Int.mul_comm δ A,Int.mul_comm δ B];omega
theorem ag7 {c:P2} {r:Int} {f:P2->P2} {δ:Int} (h:δ<r) (d:∀p,(-δ<=(f p).1-p.1/\(f p).1-p.1<=δ)/\(-δ<=(f p).2-p.2/\(f p).2-p.2<=δ)) :
 ∀{l:List P2} {p:P2} (z:P2),RP (Edg c r) p l->(p::l).getLast?=some z->pth c (f p) (l.map f)=pth c p l-wcr c p (f p)+wcr c z (f z)
 | [],p,z,_,hz=>by simp at hz; subst hz; simp [pth]; omega
 | q::l,p,z,hR,hz=>by
   have n:=ag7 h d (l:=l) (p:=q) z hR.2 (by simpa using hz);obtain ⟨a,b,A,B,j,i,e,v,w⟩:=hR.1;have g:0<=δ:=by have:=(d p).1; omega
   have s:=Int.mul_lt_mul_of_pos_right h e;have t:=aj8 (c:=c) j i (d p).1 (d p).2;have u:=aj8 (c:=c) j i (d q).1 (d q).2;have x:0<=δ*(A+B):=zac g (zaf e);have o:=ec (c:=c) (a:=a) (b:=b) (p:=p) (q:=q) (by omega) (by omega);have c2:=ec (c:=c) (a:=a) (b:=b) (p:=f p) (q:=f q) (by omega) (by omega);have k:=ec (c:=c) (a:=a) (b:=b) (p:=p) (q:=f p) (by omega) (by omega);have m:=ec (c:=c) (a:=a) (b:=b) (p:=q) (q:=f q) (by omega) (by omega);simp only [zbb,pth];rw [n,o,c2,k,m];omega
theorem apf {r:Int} {f:P2->P2} (a:δ<r) (b:∀p,(-δ<=(f p).1-p.1/\(f p).1-p.1<=δ)/\(-δ<=(f p).2-p.2/\(f p).2-p.2<=δ)) {l:List P2} (h:RG (Edg c r) l):wnd c (l.map f)=wnd c l:=by
 cases l with
 | nil=>rfl
 | cons p l=>
   have:=ag7 a b (l:=l++[p]) (p:=p) p h (by simp [List.getLast?_cons]);simp only [zbb,wnd];rw [zbk] at this;simp only [zbb,zah] at this;rw [this];omega
theorem aq6 {l:Lin} (N:l.ok) (j:am l p q=true) {a b r:Int} (E:-A<=a/\a<=A) (z:-B<=b/\b<=B) (m:r*(A+B)<=hv c a b p) (s:r*(A+B)<=hv c a b q):(r-1)*(A+B)<=hv c a b (m8 l p q):=by
 have k:∀(d w e m s hx B' K:Int),0<d->0<w->w<d->0<=e->e<d->K<=m->K<=s->(∃C,-B'<=C/\C<=B'/\d*hx=(d-w)*m+w*s-C*e)->K-B'<=hx:=by
  intro d w e m s hx B' K F P G T J y x ⟨C,H,Q,I⟩;have U:=zaz y (show 0<=d-w by omega);have S:=zaz x (zaf P);have V:=(nn (D:=d) ⟨H,Q⟩ (⟨by omega,by omega⟩:-d<=e/\e<=d)).2
  have O:d*(K-B')<=d*hx:=by
   rw [I];have:d*(K-B')=(d-w)*K+w*K-B'*d:=by grind
   omega
  exact zau O F
 have L:(r-1)*(A+B)=r*(A+B)-(A+B):=by grind
 have M:0<=A:=by omega
 have R:0<=B:=by omega
 obtain ⟨ax,f,o⟩:=l;have i:∀e d:Int,0<d->∃g,0<=g/\g<d/\d*(e/d)=e-g:=fun e d F=>⟨e%d,zbq _ (by omega),zbr _ F,by have:=zbs e d; omega⟩
 rcases N with h | h<;>simp only at h<;>subst h
 ·simp only [am,sel,if_true,Bool.or_eq_true,Bool.and_eq_true,decide_eq_true_eq] at j;rcases j with ⟨y,x⟩ | ⟨y,x⟩
  ·obtain ⟨g,t,u,v⟩:=i ((q.2-p.2)*(f-p.1)) (q.1-p.1) (by omega)
   have hx:m8 ⟨0,f,o⟩ p q=(f,p.2+(q.2-p.2)*(f-p.1)/(q.1-p.1)):=by
    simp [m8,sel,show ¬q.1-p.1<0 by omega,show 0<q.1-p.1 by omega];intro h; omega
   have:=k (q.1-p.1) (f-p.1) g (hv c a b p) (hv c a b q) (hv c a b (m8 ⟨0,f,o⟩ p q)) B (r*(A+B)) (by omega) (by omega) (by omega) t u m s ⟨b,z.1,z.2,by
    rw [hx]; unfold hv; simp only; generalize (q.2-p.2)*(f-p.1)/(q.1-p.1)=n at v |-; grind⟩
   omega
  obtain ⟨g,t,u,v⟩:=i (-((q.2-p.2)*(f-p.1))) (-(q.1-p.1)) (by omega)
  have hx:m8 ⟨0,f,o⟩ p q=(f,p.2 + -((q.2-p.2)*(f-p.1)) / -(q.1-p.1)):=by
   simp [m8,sel,show q.1-p.1<0 by omega]
  have:=k (-(q.1-p.1)) (-(f-p.1)) g (hv c a b p) (hv c a b q) (hv c a b (m8 ⟨0,f,o⟩ p q)) B (r*(A+B)) (by omega) (by omega) (by omega) t u m s ⟨b,z.1,z.2,by
   rw [hx]; unfold hv; simp only; generalize -((q.2-p.2)*(f-p.1)) / -(q.1-p.1)=n at v |-; grind⟩
  omega
 simp only [am,sel,show ¬((1:Int)=0) by decide,if_false,Bool.or_eq_true,Bool.and_eq_true,decide_eq_true_eq] at j;rcases j with ⟨y,x⟩ | ⟨y,x⟩
 ·obtain ⟨g,t,u,v⟩:=i ((q.1-p.1)*(f-p.2)) (q.2-p.2) (by omega)
  have hx:m8 ⟨1,f,o⟩ p q=(p.1+(q.1-p.1)*(f-p.2)/(q.2-p.2),f):=by
   simp [m8,sel,show ¬q.2-p.2<0 by omega,show 0<q.2-p.2 by omega];intro h; omega
  have:=k (q.2-p.2) (f-p.2) g (hv c a b p) (hv c a b q) (hv c a b (m8 ⟨1,f,o⟩ p q)) A (r*(A+B)) (by omega) (by omega) (by omega) t u m s ⟨a,E.1,E.2,by
   rw [hx]; unfold hv; simp only; generalize (q.1-p.1)*(f-p.2)/(q.2-p.2)=n at v |-; grind⟩
  omega
 obtain ⟨g,t,u,v⟩:=i (-((q.1-p.1)*(f-p.2))) (-(q.2-p.2)) (by omega)
 have hx:m8 ⟨1,f,o⟩ p q=(p.1 + -((q.1-p.1)*(f-p.2)) / -(q.2-p.2),f):=by
  simp [m8,sel,show q.2-p.2<0 by omega]
 have:=k (-(q.2-p.2)) (-(f-p.2)) g (hv c a b p) (hv c a b q) (hv c a b (m8 ⟨1,f,o⟩ p q)) A (r*(A+B)) (by omega) (by omega) (by omega) t u m s ⟨a,E.1,E.2,by
  rw [hx]; unfold hv; simp only; generalize -((q.1-p.1)*(f-p.2)) / -(q.2-p.2)=n at v |-; grind⟩
 omega

def yb (l:Lin):P2->List P2->List P2
 | _,[]=>[]
 | p,q::r=>gw l p q++q::yb l q r
theorem afe (l:Lin):∀(r:List P2) (p n:P2),v7 l (prs n (p::r))++[n]=p::yb l p (r++[n])
 | [],p,n=>by simp [prs,v7,yb]
 | q::r,p,n=>by
   have:=afe l r q n;rw [prs];unfold v7 at this |-;rw [List.flatMap_cons];simp only [zae,zbd,yb];rw [this]
def loW (l:Lin) (v:P2):Prop:=if l.above=true then sel l.axis v<=l.at' else l.at'<=sel l.axis v
def Stp (l:Lin) (u v:P2):Prop:=(m6 l u=false->loW l v)/\(m6 l v=false->loW l u)
theorem am3 {l:Lin} {v:P2} (h:m6 l v=false):loW l v:=by
 unfold m6 at h;unfold loW;split at h<;>rename_i a<;>simp only [decide_eq_false_iff_not] at h<;>simp [a]<;>omega
theorem au4 {l:Lin} (h:am l p q=false):Stp l p q:=by
 unfold am at h;unfold Stp loW m6;simp only [Bool.or_eq_false_iff,Bool.and_eq_false_iff,decide_eq_false_iff_not] at h;split<;>simp only [decide_eq_false_iff_not]<;>omega
theorem ar4 {l:Lin} (a:l.ok) (p q:P2):loW l (m8 l p q):=by
 unfold loW;rw [aq5 a];split<;>omega
theorem ag6 {l:Lin} (e:l.ok) {c:P2} {ρ:Int} (i:2<=ρ):∀{r:List P2} {p:P2},RP (Edg c ρ) p r->pth c p (yb l p r)=pth c p r/\RP (fun u v=>Edg c (ρ-1) u v/\Stp l u v) p (yb l p r)
 | [],p,_=>⟨rfl,trivial⟩
 | q::r,p,h=>by
   obtain ⟨n,k⟩:=ag6 e i h.2;obtain ⟨a,b,A,B,g,f,d,t,w⟩:=h.1;have x:(ρ-1)*(A+B)=ρ*(A+B)-(A+B):=by grind
   have y:0<(ρ-1)*(A+B):=zan (by omega) d;rw [yb];unfold gw;cases hx:am l p q with
   | false=>
     simp only [Bool.false_eq_true,if_false,zay,pth,RP,n];exact ⟨trivial,⟨⟨a,b,A,B,g,f,d,by omega,by omega⟩,au4 hx⟩,k⟩
   | true=>
     have m:=aq6 e hx g f t w;have s:=ec (c:=c) (a:=a) (b:=b) (p:=p) (q:=m8 l p q) (by omega) (by omega);have c2:=ec (c:=c) (a:=a) (b:=b) (p:=m8 l p q) (q:=q) (by omega) (by omega);have o:=ec (c:=c) (a:=a) (b:=b) (p:=p) (q:=q) (by omega) (by omega);have j:=ws l e p q;simp only [if_true,zae,zay,pth,RP,n,s,c2,o];refine ⟨by omega,⟨⟨a,b,A,B,g,f,d,by omega,m⟩,fun _=>ar4 e p q,fun h=>?_⟩,⟨⟨a,b,A,B,g,f,d,m,by omega⟩,fun h=>?_,fun _=>ar4 e p q⟩,k⟩
     ·rw [j] at h; cases h
     rw [j] at h; cases h
theorem ah2 {c:P2} {E:P2->P2->Prop} {k:P2->Bool} {Lo:P2->Prop} {φ:P2->Int} (a:∀u v,Lo u->Lo v->E u v/\wcr c u v=φ v-φ u) (g:∀v,k v=false->Lo v) :
 ∀(l:List P2) (p:P2),RP (fun u v=>E u v/\((k u=false->Lo v)/\(k v=false->Lo u))) p l->(∃z,(p::l).getLast?=some z/\k z=true) ->
  (k p=true->pth c p (l.filter k)=pth c p l/\RP E p (l.filter k))/\(k p=false->∀u,Lo u->pth c u (l.filter k)=pth c p l+(φ p-φ u)/\RP E u (l.filter k))
 | [],p,_,⟨z,hz,hkz⟩=>by
   simp at hz;subst hz;exact ⟨fun _=>⟨rfl,trivial⟩,fun h=>by rw [hkz] at h; cases h⟩
 | q::l,p,h,⟨z,hz,hkz⟩=>by
   obtain ⟨⟨s,n,j⟩,r⟩:=h;obtain ⟨t,o⟩:=ah2 a g l q r ⟨z,by simpa using hz,hkz⟩;cases hq:k q with
   | true=>
     obtain ⟨e,d⟩:=t hq;rw [zbz hq];refine ⟨fun b=>⟨by rw [pth,pth,e],s,d⟩,fun b u i=>?_⟩;have m:=a u q i (n b);have f:=a p q (g p b) (n b);rw [pth,pth,e,m.2,f.2];exact ⟨by omega,m.1,d⟩
   | false=>
     rw [zbh (by simp [hq])];refine ⟨fun b=>?_,fun b u i=>?_⟩
     ·obtain ⟨e,d⟩:=o hq p (j hq);have f:=a p q (j hq) (g q hq);rw [e,pth,f.2];exact ⟨by omega,d⟩
     obtain ⟨e,d⟩:=o hq u i;have f:=a p q (g p b) (g q hq);rw [e,pth,f.2];exact ⟨by omega,d⟩
def Ins (l:Lin) (r:Int) (c:P2):Prop:=if l.above=true then l.at'+r<=sel l.axis c else sel l.axis c+r<=l.at'
theorem av8 {l:Lin} (f:l.ok) {r:Int} (h:Ins l r c):∃a b A B:Int,(-A<=a/\a<=A)/\(-B<=b/\b<=B)/\A+B=1/\∀v,loW l v->r<=hv c a b v:=by
 obtain ⟨ax,g,i⟩:=l;unfold Ins at h;unfold loW hv;rcases f with e | e<;>simp only at e<;>subst e<;>cases i<;>simp [sel] at h
 ·exact ⟨1,0,1,0,by omega,by omega,by omega,fun v d=>by simp [sel] at d; simp; omega⟩
 ·exact ⟨-1,0,1,0,by omega,by omega,by omega,fun v d=>by simp [sel] at d; simp; omega⟩
 ·exact ⟨0,1,0,1,by omega,by omega,by omega,fun v d=>by simp [sel] at d; simp; omega⟩
 exact ⟨0,-1,0,1,by omega,by omega,by omega,fun v d=>by simp [sel] at d; simp; omega⟩
variable {ρ:Int}
theorem abj {l:Lin} (o:l.ok) (j:2<=ρ) (hc:Ins l ρ c) (h:RG (Edg c ρ) rg) (w:wnd c rg≠0):RG (Edg c (ρ-1)) (p6 l rg)/\wnd c (p6 l rg)=wnd c rg:=by
 obtain ⟨a,b,A,B,H,z,g,f⟩:=av8 o hc;cases rg with
 | nil=>exact absurd rfl w
 | cons p r=>
   rw [qv l o (p::r) p rfl];obtain ⟨X,M⟩:∃X,v7 l (prs p (p::r))=X:=⟨_,rfl⟩
   have e:=afe l r p p;rw [M] at e |-;obtain ⟨I,L⟩:=ag6 o j h
   have m:wnd c X=wnd c (p::r)/\RG (fun u v=>Edg c (ρ-1) u v/\Stp l u v) X:=by
    cases X with
    | nil=>
      exfalso;have:yb l p (r++[p])=[]:=by simpa using e.symm
      cases r<;>simp [yb] at this
    | cons x Y=>
      simp only [zae,List.cons.injEq] at e;obtain ⟨rfl,e⟩:=e;exact ⟨by show pth c x (Y++[x]) = _; rw [e]; exact I,by show RP _ x (Y++[x]); rw [e]; exact L⟩
   obtain ⟨i,G⟩:=m
   have:∃k∈X,m6 l k=true:=by
    apply Classical.byContradiction;intro J;refine w ?_;rw [<- i];refine ab4 (a:=a) (b:=b) fun q K=>?_
    have:m6 l q=false:=by
     cases hq':m6 l q with
     | false=>rfl
     | true=>exact absurd ⟨q,K,hq'⟩ J
    have:=f q (am3 this);omega
   obtain ⟨k,D,d⟩:=this;obtain ⟨A',B',rfl⟩:=List.append_of_mem D;rw [ai4] at i;have t:=ape _ _ _ G
   have C:=ah2 (c:=c) (E:=Edg c (ρ-1)) (k:=m6 l) (Lo:=loW l) (φ:=phi c a) (fun u v O n=>by
    have P:=f u O;have Q:=f v n;exact ⟨⟨a,b,A,B,H,z,by omega,by rw [g]; omega,by rw [g]; omega⟩,ec (b:=b) (by omega) (by omega)⟩) (fun v=>am3) (B'++A'++[k]) k (by
    rw [zae] at t
    exact t) ⟨k,by simp [List.getLast?_cons],d⟩
   obtain ⟨s,y⟩:=C.1 d;have N:(A'++k::B').filter (m6 l)=A'.filter (m6 l)++(k::B'.filter (m6 l)):=by rw [zbi,zbz d]
   have F:(B'++A'++[k]).filter (m6 l)=B'.filter (m6 l)++A'.filter (m6 l)++[k]:=by rw [zbi,zbi,zbz d]; rfl
   rw [F] at s y;rw [N];refine ⟨ape _ (k::B'.filter (m6 l)) _ y,?_⟩;rw [ai4,<- i];exact s
theorem aug {lo hi:P2} (k:5<=ρ) (p:lo.1+ρ<=c.1/\c.1+ρ<=hi.1) (o:lo.2+ρ<=c.2/\c.2+ρ<=hi.2) (h:RG (Edg c ρ) rg) (a:wnd c rg≠0):RG (Edg c (ρ-4)) (md lo hi rg)/\wnd c (md lo hi rg)=wnd c rg:=by
 obtain ⟨n,b⟩:=abj (l:=⟨0,lo.1,true⟩) (.inl rfl) (by omega) (by simp [Ins,sel]; omega) h a;obtain ⟨m,d⟩:=abj (l:=⟨0,hi.1,false⟩) (.inl rfl) (by omega) (by simp [Ins,sel]; omega) n (by rw [b]; exact a);obtain ⟨j,f⟩:=abj (l:=⟨1,lo.2,true⟩) (.inr rfl) (by omega) (by simp [Ins,sel]; omega) m (by rw [d,b]; exact a);obtain ⟨i,g⟩:=abj (l:=⟨1,hi.2,false⟩) (.inr rfl) (by omega) (by simp [Ins,sel]; omega) j (by rw [f,d,b]; exact a);have e:md lo hi rg=p6 ⟨1,hi.2,false⟩ (p6 ⟨1,lo.2,true⟩ (p6 ⟨0,hi.1,false⟩ (p6 ⟨0,lo.1,true⟩ rg))):=rfl;rw [e,show ρ-4=ρ-1-1-1-1 by omega];exact ⟨i,by rw [g,f,d,b]⟩
def wv (l:List P2):Prop:=¬∃a b k:Int,(a≠0\/b≠0)/\∀q∈l,a*q.1+b*q.2=k
theorem alt (g:0<u) (d:u<ρ) (h:RG (Edg c ρ) rg) (n:wnd c rg≠0):wv (ao u rg):=by
 rintro ⟨a,b,k,e,j⟩
 have i:=apf (c:=c) (r:=ρ) (f:=fun p=>(u*(p.1/u),u*(p.2/u))) (δ:=u) d (fun p=>by
  have w:=zbs p.1 u;have x:=zbs p.2 u;have v:=zbq p.1 (show u≠0 by omega);have o:=zbq p.2 (show u≠0 by omega);have t:=zbr p.1 g;have s:=zbr p.2 g;simp only
  omega) h
 refine n ?_;rw [<- i];refine apg (a:=a) (b:=b) (k:=u*k) e fun q m=>?_;obtain ⟨p,l,rfl⟩:=zai.1 m;have:=j (p.1/u,p.2/u) (zai.2 ⟨p,l,rfl⟩);simp only at this |-;rw [<- this]
 grind

def hAb (x:Int):Int:=max x (-x)
def hN (r i:Nat):Int:=hAb (eA r i)+hAb (eB r i)
def hH (r i:Nat):Int:=eB r i*kx r i-eA r i*ky r i
def hO (r:Nat):Int:=(List.range 6).foldl (fun m i=>max m (max (hAb (kx r i)) (hAb (ky r i)))) 0
theorem atz:∀r,r<13->∀e,e<19->16*2^e*(2:Int)^e<=169*7^(12-r)->∀i,i<6->8*2^e*hN r i<=hH r i:=by decide +kernel
theorem qg:∀r,r<13->∀i,i<6->0<hN r i/\(hAb (kx r i)<=hO r/\hAb (ky r i)<=hO r)/\(hO r+1)*hN r i<=2*hH r i:=by decide +kernel
theorem aty:∀r,r<13->∃m,m<6/\eB r m<=0/\0<=eB r ((m+5)%6)/\eB r m<eB r ((m+5)%6)/\0<eA r ((m+5)%6)*eB r m-eA r m*eB r ((m+5)%6):=by decide +kernel
theorem at0:∀r,r<13->∃m,m<6/\0<=eB r m/\eB r ((m+5)%6)<=0/\eB r ((m+5)%6)<eB r m/\0<eA r ((m+5)%6)*eB r m-eA r m*eB r ((m+5)%6):=by decide +kernel
theorem agw {z:Ei} {r:Nat} (d:r<13) {ly uy:Int} (hy:ly<=uy):∀(n:Nat) (lx ux:Int),lx<=ux->ux-lx<=n->s9 z r lx ly ux uy=true->∃a c,lx<=a/\a<=c/\c<=ux/\c<=a+1/\s9 z r a ly c uy=true
 | 0,lx,ux,h,hn,b=>⟨lx,ux,by omega,h,by omega,by omega,b⟩
 | n+1,lx,ux,h,hn,b=>by
   by_cases i:ux<=lx+1
   ·exact ⟨lx,ux,by omega,h,by omega,i,b⟩
   rcases asm d (m:=lx+1) (by omega) (by omega) hy b with b | b
   ·exact ⟨lx,lx+1,by omega,by omega,by omega,by omega,b⟩
   obtain ⟨a,c,k,g,f,e,j⟩:=agw d hy n (lx+1) ux (by omega) (by omega) b;exact ⟨a,c,by omega,g,f,e,j⟩
theorem agv {z:Ei} {r:Nat} (d:r<13) {lx ux:Int} (hx:lx<=ux):∀(n:Nat) (ly uy:Int),ly<=uy->uy-ly<=n->s9 z r lx ly ux uy=true->∃a c,ly<=a/\a<=c/\c<=uy/\c<=a+1/\s9 z r lx a ux c=true
 | 0,ly,uy,h,hn,b=>⟨ly,uy,by omega,h,by omega,by omega,b⟩
 | n+1,ly,uy,h,hn,b=>by
   by_cases i:uy<=ly+1
   ·exact ⟨ly,uy,by omega,h,by omega,i,b⟩
   rcases asl d (m:=ly+1) (by omega) (by omega) hx b with b | b
   ·exact ⟨ly,ly+1,by omega,by omega,by omega,by omega,b⟩
   obtain ⟨a,c,k,g,f,e,j⟩:=agv d hx n (ly+1) uy (by omega) (by omega) b;exact ⟨a,c,by omega,g,f,e,j⟩
theorem apc (a:0<=d/\d<=1):-(hAb A)<=A*d/\A*d<=hAb A:=by
 have:d=0\/d=1:=by omega
 unfold hAb;rcases this with rfl | rfl<;>omega
variable {lx ly ux uy:Int}
theorem ats {z:Ei} {r:Nat} (e:r<13) (g:lx<=ux) (f:ly<=uy) (J:s9 z r lx ly ux uy=true) :
 ∃a b:Int,(lx<=a/\a<=ux)/\(ly<=b/\b<=uy)/\(-(hO r+1)<=3*cx z r-a/\3*cx z r-a<=hO r+1)/\(-(hO r+1)<=3*cy z r-b/\3*cy z r-b<=hO r+1)/\∀i,i<6->-(hN r i)<=sd (eA r) (eB r) (eC z r) i a b:=by
 obtain ⟨a,j,W,L,M,S,D⟩:=agw e f (ux-lx).toNat lx ux g (by omega) J;obtain ⟨b,h,N,Y,T,Q,s⟩:=agv e L (uy-ly).toNat ly uy f (by omega) D;obtain ⟨X,V,E⟩:=mg.1 s;obtain ⟨K,n,F⟩:=adq (hx z r) 6 (by decide);obtain ⟨t,o,I⟩:=ado (hx z r) 6 (by decide);obtain ⟨H,q,u⟩:=adq (hy z r) 6 (by decide);obtain ⟨k,w,v⟩:=ado (hy z r) 6 (by decide);rw [r7] at F I;rw [r6] at u v;have B:=(qg r e K n).2.1;have p:=(qg r e t o).2.1;have G:=(qg r e H q).2.1;have l:=(qg r e k w).2.1;unfold hAb at B p G l;refine ⟨a,b,by omega,by omega,by omega,by omega,fun i hi=>?_⟩;have O:=E i hi
 have c:∀x y,(x=a\/x=j)->(y=b\/y=h)->sd (eA r) (eB r) (eC z r) i x y<=sd (eA r) (eB r) (eC z r) i a b+hN r i:=fun x y hx hy=>by
  have C:=apc (A:=eA r i) (d:=y-b) (by omega);have m:=apc (A:=eB r i) (d:=x-a) (by omega);unfold sd hN;rw [Int.mul_sub] at C m;omega
 have U:=c a b (.inl rfl) (.inl rfl);have Z:=c j b (.inr rfl) (.inl rfl);have R:=c j h (.inr rfl) (.inr rfl);have P:=c a h (.inl rfl) (.inr rfl);omega
theorem aoo {T M:Int} (a:0<M) (c:0<=T) (d:-M<=D/\D<=M):∃n b,D*T/M=n/\0<=b/\b<M/\M*n=D*T-b/\-T<=n/\n<=T:=by
 have i:=zbs (D*T) M;have f:=zbq (D*T) (show M≠0 by omega);have e:=zbr (D*T) a;have h:=zbg d.2 c;have g:=zbg d.1 c;refine ⟨_,_,rfl,f,e,by omega,?_,?_⟩
 ·have:M*(-T-1)<M*(D*T/M):=by
   rw [Int.mul_sub,zba,Int.mul_one];rw [Int.neg_mul] at g;omega
  have:=Int.lt_of_mul_lt_mul_left this (zaf a);omega
 have:M*(D*T/M)<=M*T:=by omega
 exact zau this a
theorem amu (z:Ei) (r i:Nat):sd (eA r) (eB r) (eC z r) i (3*cx z r) (3*cy z r)=hH r i:=by
 unfold sd eC hH;rw [r7,r6]
 grind
theorem alq {z:Ei} {r:Nat} (q:r<13) {e:Nat} (W:e<19) (X:16*2^e*(2:Int)^e<=169*7^(12-r)) (o:lx<=ux) (v:ly<=uy) (ht:s9 z r lx ly ux uy=true) :
 ∃x y:Int,(lx-96*2^e<=x/\x<=ux+96*2^e)/\(ly-96*2^e<=y/\y<=uy+96*2^e)/\∀i,i<6->8*2^e*hN r i<=sd (eA r) (eB r) (eC z r) i x y:=by
 obtain ⟨a,b,ha,hb,C,F,P⟩:=ats q o v ht;have c:=atz r q e W X;have f:=qg r q
 have h:(1:Int)<=2^e:=by
  have:=Int.pow_pos (n:=2) (m:=e) (by decide);omega
 obtain ⟨U,Z⟩:∃U:Int,2^e=U:=⟨_,rfl⟩
 rw [Z] at c h |-;by_cases hc:hO r+1<=96*U
 ·refine ⟨3*cx z r,3*cy z r,by omega,by omega,fun i hi=>?_⟩;rw [amu];exact c i hi
 obtain ⟨M,B⟩:∃M,hO r+1=M:=⟨_,rfl⟩
 rw [B] at hc C F;obtain ⟨G,j,e1,p1,p2,p3,p4,p5⟩:=aoo (D:=3*cx z r-a) (T:=96*U) (M:=M) (by omega) (by omega) C;obtain ⟨w,g,e2,q1,q2,q3,q4,q5⟩:=aoo (D:=3*cy z r-b) (T:=96*U) (M:=M) (by omega) (by omega) F;refine ⟨a+G,b+w,by omega,by omega,fun i hi=>?_⟩;obtain ⟨t,_,l⟩:=f i hi;rw [B] at l;have s:=P i hi;have J:=amu z r i;obtain ⟨S,E⟩:∃S,sd (eA r) (eB r) (eC z r) i a b=S:=⟨_,rfl⟩
 obtain ⟨H,p⟩:∃H,hH r i=H:=⟨_,rfl⟩
 obtain ⟨N,k⟩:∃N,hN r i=N:=⟨_,rfl⟩
 obtain ⟨R,I⟩:∃R,sd (eA r) (eB r) (eC z r) i (a+G) (b+w)=R:=⟨_,rfl⟩
 rw [E] at s;rw [p] at l J;rw [k] at t l s |-;rw [I];have b1:=(nn (a:=eA r i) (d:=g) (A:=hAb (eA r i)) (D:=M) (by unfold hAb; omega) (by omega)).2;have b2:=(nn (a:=eB r i) (d:=j) (A:=hAb (eB r i)) (D:=M) (by unfold hAb; omega) (by omega)).1
 have u:M*R=(M-96*U)*S+96*U*H-eA r i*g+eB r i*j:=by
  unfold sd at E I J
  grind
 have Q:hAb (eA r i)*M+hAb (eB r i)*M=N*M:=by rw [<- k]; unfold hN; grind
 have Y:-((M-96*U)*N)<=(M-96*U)*S:=by
  have:=zaz s (show 0<=M-96*U by omega);rw [zba] at this;exact this
 have c2:=zaz l (show 0<=48*U by omega);have L:0<N*M:=zan t (by omega)
 have O:N*M<=U*(N*M):=by
  have:=zbg h (zaf L);omega
 have UN:0<=U*N:=zac (by omega) (zaf t);have K:(M-96*U)*N=N*M-96*(U*N):=by grind
 have f2:48*U*(M*N)=48*(U*(N*M)):=by grind
 have f3:48*U*(2*H)=96*U*H:=by grind
 have V:M*(8*U*N)=8*(U*(N*M)):=by grind
 have:M*(8*U*N)<=M*R:=by
  rw [V,u];rw [f2,f3] at c2;rw [K] at Y;omega
 exact zau this (by omega)

variable {X Y:Int}
theorem aes (f:0<=X) (l:x6 a b) (k:x6 b p) (i:d9 a b p<=0):X*a.2-Y*a.1<=X*b.2-Y*b.1\/X*p.2-Y*p.1<=X*b.2-Y*b.1:=by
 apply Classical.byContradiction;intro g;rw [not_or] at g;obtain ⟨m,s⟩:=g;unfold x6 at l k;unfold d9 at i;have c:0<=b.1-a.1:=by omega
 have d:0<=p.1-b.1:=by omega
 have A:0<X*(a.2-b.2)+Y*(b.1-a.1):=by grind
 have B:0<X*(p.2-b.2)-Y*(p.1-b.1):=by grind
 have o:=zac d (zaf A);have q:=zac c (zaf B);have e:(p.1-b.1)*(X*(a.2-b.2)+Y*(b.1-a.1))+(b.1-a.1)*(X*(p.2-b.2)-Y*(p.1-b.1))=X*((b.1-a.1)*(p.2-a.2)-(b.2-a.2)*(p.1-a.1)):=by grind
 have n:=zby f i
 have r:p.1-b.1=0:=by
  rcases zbf.1 (show (p.1-b.1)*(X*(a.2-b.2)+Y*(b.1-a.1))=0 by omega) with h | h<;>omega
 have j:b.1-a.1=0:=by
  rcases zbf.1 (show (b.1-a.1)*(X*(p.2-b.2)-Y*(p.1-b.1))=0 by omega) with h | h<;>omega
 rw [j,Int.mul_zero] at A;have:=zby f (show a.2-b.2<=0 by omega);omega
theorem ash (c:0<=X) (f:x6 b a) (d:x6 p b) (e:d9 a b p<=0):X*b.2-Y*b.1<=X*a.2-Y*a.1\/X*b.2-Y*b.1<=X*p.2-Y*p.1:=by
 have h:∀q:P2,X*(-q.2)-Y*(-q.1)=-(X*q.2-Y*q.1):=fun q=>by grind
 have:=aes (X:=X) (Y:=Y) (a:=(-a.1,-a.2)) (b:=(-b.1,-b.2)) (p:=(-p.1,-p.2)) c (by unfold x6 at f |-; simp only; omega) (by unfold x6 at d |-; simp only; omega) (by unfold d9 at e |-; simp only; grind);simp only [h] at this;omega
variable {m:List P2}
theorem aja {l:List P2} {x y:P2} (e:l=x::(m++[y])) (h:(j6 l).length<=2):j6 l=[y,x]:=by
 obtain ⟨T,c,g⟩:=aa7 x (m++[y]);have f:=u4 (x::m) y;rw [zae,<- e] at f;rw [<- e] at c;have d:=g (by simp);rw [f] at c h |-;cases hp:s6 y (j6 (x::m)) with
 | nil=>
   rw [hp] at c;cases T with
   | nil=>exact absurd rfl d
   | cons t T=>simp at c
 | cons a r=>
   rw [hp] at c h;cases r with
   | cons b r=>simp at h
   | nil=>
     cases T with
     | nil=>simp at c
     | cons t T=>
       cases T with
       | nil=>simp at c; rw [c.2]
       | cons u T=>simp at c
theorem aob {l:List P2} (h:2<=l.length) (v:l.Pairwise x6) (F:wv l):3<=(o5 l++o5 l.reverse).length:=by
 apply Classical.byContradiction;intro B
 obtain ⟨x,m,y,k⟩:∃x m y,l=x::(m++[y]):=by
  cases l with
  | nil=>simp at h
  | cons x r=>
    rcases zbt r with rfl | ⟨L,y,rfl⟩
    ·simp at h
    exact ⟨x,L,y,by rw [zbu]⟩
 have C:l.reverse=y::(m.reverse++[x]):=by rw [k]; simp
 have M:(o5 l).length=(j6 l).length-1:=by unfold o5; simp
 have c2:(o5 l.reverse).length=(j6 l.reverse).length-1:=by unfold o5; simp
 have e:∀(x:P2) (m:List P2) (y:P2),2<=(j6 (x::(m++[y]))).length:=fun x m y=>by
  obtain ⟨T,I,B⟩:=aa7 x (m++[y]);rw [I,zbv];have:=B (by simp);cases T with
  | nil=>exact absurd rfl this
  | cons t T=>simp
 have G:=e x m y;have H:=e y m.reverse x;rw [<- k] at G;rw [<- C] at H;rw [zbv,M,c2] at B;have N:=aja k (by omega);have O:=aja C (by omega)
 have i:∀q∈l,x6 x q/\x6 q y:=fun q d=>by
  have n:=v;rw [k] at n d;have z:=zaa.1 n;have p2:=zas.1 z.2;have f:∀p:P2,x6 p p:=fun p=>.inr ⟨rfl,Int.le_refl _⟩;rcases zal.1 d with rfl | d
  ·exact ⟨f _,z.1 y (by simp)⟩
  refine ⟨z.1 q d,?_⟩;rcases zat.1 d with d | d
  ·exact p2.2.2 q d y (by simp)
  rw [zbp.1 d]; exact f _
 have A:=(i x (by rw [k]; simp)).2;obtain ⟨X,P⟩:∃X,y.1-x.1=X:=⟨_,rfl⟩
 obtain ⟨Y,J⟩:∃Y,y.2-x.2=Y:=⟨_,rfl⟩
 have s:0<=X:=by unfold x6 at A; omega
 have E:X*y.2-Y*y.1=X*x.2-Y*x.1:=by rw [<- P,<- J]; grind
 refine F ?_;by_cases R:X=0/\Y=0
 ·refine ⟨1,0,x.1,.inl (by decide),fun q d=>?_⟩;have:=i q d;unfold x6 at this;omega
 refine ⟨-Y,X,X*x.2-Y*x.1,by omega,fun q d=>?_⟩;obtain ⟨c,hc,U⟩:=aej (D:=fun c q=>X*c.2-Y*c.1<=X*q.2-Y*q.1) (o:=x6) (fun a=>Int.le_refl _) (fun a b c=>Int.le_trans) (fun a b p u j w=>aes s u j w) l v q d;obtain ⟨c',g,K⟩:=aej (D:=fun c q=>X*q.2-Y*q.1<=X*c.2-Y*c.1) (o:=fun p q=>x6 q p) (fun a=>Int.le_refl _) (fun a b c u j=>Int.le_trans j u) (fun a b p u j w=>ash s u j w) l.reverse (zbw.2 v) q (by simpa using d);rw [N] at hc;rw [O] at g
 have Q:X*c.2-Y*c.1=X*x.2-Y*x.1:=by
  simp at hc;rcases hc with rfl | rfl
  ·exact E
  rfl
 have S:X*c'.2-Y*c'.1=X*x.2-Y*x.1:=by
  simp at g;rcases g with rfl | rfl
  ·rfl
  exact E
 rw [Int.neg_mul];omega
theorem are {l:List P2} (h:l.length<=2):¬wv l:=by
 intro c;refine c ?_
 match l,h with
 | [],_=>exact ⟨1,0,0,.inl (by decide),fun q b=>by simp at b⟩
 | [p],_=>exact ⟨1,0,p.1,.inl (by decide),fun q b=>by simp at b; subst b; omega⟩
 | [p,q],_=>
   by_cases d:p.1=q.1
   ·exact ⟨1,0,p.1,.inl (by decide),fun r a=>by simp at a; rcases a with rfl | rfl<;>omega⟩
   refine ⟨q.2-p.2,p.1-q.1,(q.2-p.2)*p.1+(p.1-q.1)*p.2,.inr (by omega),fun r a=>?_⟩;simp at a;rcases a with rfl | rfl
   ·rfl
   grind
 | _::_::_::_,h=>simp at h
theorem adw (d:wv rg):3<=(z7 rg).length:=by
 have c:wv (t4 (o8 rg)):=fun ⟨a,b,k,i,e⟩=>d ⟨a,b,k,i,fun q f=>e q (ad4 (ac3 f))⟩;have g:¬(t4 (o8 rg)).length<3:=fun h=>are (by omega) c;have:=aob (by omega) ((afb rg).sublist (aau _)) c;unfold z7;rw [if_neg g,if_neg (by omega)];exact this
section
variable {z:Ei} {r:Nat} {x y:Int}
theorem avt (r i:Nat) (z:Ei):hx z r ((i+1)%6)=hx z r i+eA r i:=by rw [r7,r7]; unfold eA; omega
theorem avs (r i:Nat) (z:Ei):hy z r ((i+1)%6)=hy z r i+eB r i:=by rw [r6,r6]; unfold eB; omega
theorem ak1 (z:Ei) (r i:Nat) (x y:Int):sd (eA r) (eB r) (eC z r) i x y=eA r i*(y-hy z r ((i+1)%6))-eB r i*(x-hx z r ((i+1)%6)):=by
 rw [avt,avs];unfold sd eC
 grind
theorem af2 (z:Ei) (r i:Nat) (x y:Int):sd (eA r) (eB r) (eC z r) i x y=eA r i*(y-hy z r i)-eB r i*(x-hx z r i):=by
 unfold sd eC
 grind
theorem aqf (c:r<13) (b:∀i,i<6->0<sd (eA r) (eB r) (eC z r) i x y):¬∀i,i<6->hy z r i<=y:=by
 intro h;obtain ⟨m,a,t,f,o,g⟩:=aty r c;have k:((m+5)%6+1)%6=m:=by omega
 have j:=b m a;have l:=b ((m+5)%6) (by omega);rw [af2] at j;rw [ak1,k] at l;have p:=h m a;have s:=zac f (show 0<=eA r m*(y-hy z r m)-eB r m*(x-hx z r m)-1 by omega);have n:=zac (show 0<=-eB r m by omega) (show 0<=eA r ((m+5)%6)*(y-hy z r m)-eB r ((m+5)%6)*(x-hx z r m)-1 by omega);have q:=zac (show 0<=y-hy z r m by omega) (zaf g);generalize eA r m=A at *;generalize eB r m=B at *;generalize eA r ((m+5)%6)=A' at *;generalize eB r ((m+5)%6)=B' at *;generalize y-hy z r m=e at *;generalize x-hx z r m=d at *;have e:B'*(A*e-B*d-1) + -B*(A'*e-B'*d-1)=-(e*(A'*B-A*B'))-(B'-B):=by grind
 omega
theorem avu (c:r<13) (b:∀i,i<6->0<sd (eA r) (eB r) (eC z r) i x y):¬∀i,i<6->y<hy z r i:=by
 intro h;obtain ⟨m,a,k,p,o,f⟩:=at0 r c;have j:((m+5)%6+1)%6=m:=by omega
 have g:=b m a;have l:=b ((m+5)%6) (by omega);rw [af2] at g;rw [ak1,j] at l;have q:=h m a;have t:=zac (show 0<=-eB r ((m+5)%6) by omega) (show 0<=eA r m*(y-hy z r m)-eB r m*(x-hx z r m)-1 by omega);have n:=zac k (show 0<=eA r ((m+5)%6)*(y-hy z r m)-eB r ((m+5)%6)*(x-hx z r m)-1 by omega);have s:=zac (show 0<=-(y-hy z r m) by omega) (zaf f);generalize eA r m=A at *;generalize eB r m=B at *;generalize eA r ((m+5)%6)=A' at *;generalize eB r ((m+5)%6)=B' at *;generalize y-hy z r m=e at *;generalize x-hx z r m=d at *;have e:-B'*(A*e-B*d-1)+B*(A'*e-B'*d-1)=-(-e*(A'*B-A*B'))-(B-B'):=by grind
 omega
end
theorem ag3 (z:Ei) (r:Nat) (d:P2):(sr z r).map (shP d)=[(hx z r 0+d.1,hy z r 0+d.2),(hx z r 1+d.1,hy z r 1+d.2),(hx z r 2+d.1,hy z r 2+d.2),(hx z r 3+d.1,hy z r 3+d.2),(hx z r 4+d.1,hy z r 4+d.2),(hx z r 5+d.1,hy z r 5+d.2)]:=rfl
theorem ap1 {z:Ei} {r:Nat} (b:r<13) {x y K:Int} (c:∀i,i<6->K*hN r i<=sd (eA r) (eB r) (eC z r) i x y) (d:P2) (i:Nat) (hi:i<6):Edg (x+d.1,y+d.2) K (hx z r i+d.1,hy z r i+d.2) (hx z r ((i+1)%6)+d.1,hy z r ((i+1)%6)+d.2):=by
 have a:=c i hi;have e:=(qg r b i hi).1;have g:hAb (eB r i)+hAb (eA r i)=hN r i:=by unfold hN; omega
 refine ⟨eB r i,-eA r i,hAb (eB r i),hAb (eA r i),by unfold hAb; omega,by unfold hAb; omega,by omega,?_,?_⟩
 ·rw [g];rw [af2] at a;unfold hv;simp only
  grind
 rw [g];rw [ak1] at a;unfold hv;simp only
 grind
theorem ap0 {z:Ei} {r:Nat} {x y:Int} (b:∀i,i<6->0<sd (eA r) (eB r) (eC z r) i x y) (d:P2) (i:Nat) (hi:i<6):wcr (x+d.1,y+d.2) (hx z r i+d.1,hy z r i+d.2) (hx z r ((i+1)%6)+d.1,hy z r ((i+1)%6)+d.2)=if decide (y<hy z r i)=false/\decide (y<hy z r ((i+1)%6))=true then 1 else 0:=by
 have c:=b i hi
 have e:wcx (x+d.1,y+d.2) (hx z r i+d.1,hy z r i+d.2) (hx z r ((i+1)%6)+d.1,hy z r ((i+1)%6)+d.2)=sd (eA r) (eB r) (eC z r) i x y:=by
  rw [af2,avt,avs];unfold wcx;simp only
  grind
 unfold wcr;rw [e];have u:∀q:Int,upc (x+d.1,y+d.2) (q,hy z r i+d.2)=decide (y<hy z r i):=fun q=>by unfold upc; simp
 have a:∀q:Int,upc (x+d.1,y+d.2) (q,hy z r ((i+1)%6)+d.2)=decide (y<hy z r ((i+1)%6)):=fun q=>by unfold upc; simp
 rw [u,a];cases decide (y<hy z r i)<;>cases decide (y<hy z r ((i+1)%6))<;>simp [c];omega
theorem apz {z:Ei} {r:Nat} (l:r<13) {x y:Int} (h:∀i,i<6->0<sd (eA r) (eB r) (eC z r) i x y) (d:P2):wnd (x+d.1,y+d.2) ((sr z r).map (shP d))≠0:=by
 have w:=fun i hi=>ap0 h d i hi;have p:=w 0 (by decide);have j:=w 1 (by decide);have o:=w 2 (by decide);have n:=w 3 (by decide);have k:=w 4 (by decide);have m:=w 5 (by decide);simp only [zad,Nat.reduceAdd,Nat.reduceMod] at p j o n k m;rw [ag3];simp only [wnd,zae,zay,pth];rw [p,j,o,n,k,m];have s:=avu l h;have q:=aqf l h
 have g:∀P:Nat->Prop,P 0->P 1->P 2->P 3->P 4->P 5->∀i,i<6->P i:=fun P a b c d e f i hi=>by
  match i,hi with
  | 0,_=>exact a
  | 1,_=>exact b
  | 2,_=>exact c
  | 3,_=>exact d
  | 4,_=>exact e
  | 5,_=>exact f
 cases h0:decide (y<hy z r 0)<;>cases h1:decide (y<hy z r 1)<;>cases h2:decide (y<hy z r 2)<;>cases h3:decide (y<hy z r 3)<;>cases h4:decide (y<hy z r 4)<;>cases h5:decide (y<hy z r 5)<;>simp
 ·simp only [decide_eq_false_iff_not,Int.not_lt] at h0 h1 h2 h3 h4 h5;exact q (g _ h0 h1 h2 h3 h4 h5)
 simp only [decide_eq_true_eq] at h0 h1 h2 h3 h4 h5;exact s (g _ h0 h1 h2 h3 h4 h5)
variable {t:Til}
theorem ac6 {z:Ei} (C:tis t=true) (A:ah t=false) (f:tch z t.r.toNat (2^(30-t.z).toNat) t.x t.y=true):wv (ao (3*s8 t) (xw t z)):=by
 have L:0<=t.z/\t.z<=18/\0<=t.r/\t.r<=12/\0<=t.x/\t.x<2^t.z.toNat/\0<=t.y/\t.y<2^t.z.toNat:=by simpa [tis] using C
 have k:t.r.toNat<13:=by omega
 have u:16*2^(18-t.z).toNat*(2:Int)^(18-t.z).toNat<=169*7^(12-t.r.toNat):=by
  unfold ah at A;rw [C,Bool.true_and,decide_eq_false_iff_not] at A;rw [show 12-t.r.toNat=(12-t.r).toNat by omega];omega
 have F:(2:Int)^(30-t.z).toNat=4096*2^(18-t.z).toNat:=by
  rw [show (30-t.z).toNat=(18-t.z).toNat+12 by omega,Int.pow_add,Int.mul_comm]
  rfl
 have p:(1:Int)<=2^(18-t.z).toNat:=by
  have:=Int.pow_pos (n:=2) (m:=(18-t.z).toNat) (by decide);omega
 unfold tch at f;have H:(t.x+1)*2^(30-t.z).toNat=t.x*2^(30-t.z).toNat+2^(30-t.z).toNat:=by rw [zav,zaw]
 have I:(t.y+1)*2^(30-t.z).toNat=t.y*2^(30-t.z).toNat+2^(30-t.z).toNat:=by rw [zav,zaw]
 have J:=f;rw [H,I] at f;obtain ⟨x,y,l,a,o⟩:=alq k (e:=(18-t.z).toNat) (by omega) u (by omega) (by omega) f;unfold xw el ya s8;obtain ⟨j,s⟩:∃j,t.x*2^(30-t.z).toNat=j:=⟨_,rfl⟩
 obtain ⟨h,q⟩:∃h,t.y*2^(30-t.z).toNat=h:=⟨_,rfl⟩
 simp only [s,q] at l a |-;simp only [F] at l a |-;obtain ⟨U,G⟩:∃U:Int,2^(18-t.z).toNat=U:=⟨_,rfl⟩
 simp only [G] at l a o p |-
 have v:∀i,i<6->0<sd (eA t.r.toNat) (eB t.r.toNat) (eC z t.r.toNat) i x y:=fun i hi=>by
  have g:=(qg t.r.toNat k i hi).1;have:=o i hi;have:=zan (show 0<8*U by omega) g;omega
 obtain ⟨d,w⟩:∃d:P2,(-(3*j),-(3*h))=d:=⟨_,rfl⟩
 have N:d.1=-(3*j):=by rw [<- w]
 have M:d.2=-(3*h):=by rw [<- w]
 rw [w];have B:=apz k v d;have b:=fun i hi=>ap1 k o d i hi
 have K:RG (Edg (x+d.1,y+d.2) (8*U)) ((sr z t.r.toNat).map (shP d)):=by
  rw [ag3];exact ⟨b 0 (by decide),b 1 (by decide),b 2 (by decide),b 3 (by decide),b 4 (by decide),b 5 (by decide),trivial⟩
 obtain ⟨D,E⟩:=aug (lo:=(-192*U,-192*U)) (hi:=(12480*U,12480*U)) (c:=(x+d.1,y+d.2)) (by omega) (by simp only; omega) (by simp only; omega) K B;exact alt (by omega) (by omega) D (by rw [E]; exact B)
theorem aio {z:Ei} (c:tis t=true) (d:ah t=false) (b:tch z t.r.toNat (2^(30-t.z).toNat) t.x t.y=true):3<=(q8 t z).length:=by
 have a:q8 t z=z7 (ao (3*s8 t) (xw t z)):=by
  unfold q8;exact if_pos b
 rw [a];exact adw (ac6 c d b)

def ltO (p q:P2):Prop:=p.1<q.1\/(p.1=q.1/\p.2<q.2)
theorem ltO.trans (h:ltO a b) (k:ltO b c):ltO a c:=by unfold ltO at *; omega
variable {x1 y1 x2 y2:Int}
theorem ax5 {x3 y3:Int} (f:0<x1\/(x1=0/\0<y1)) (d:0<x2\/(x2=0/\0<y2)) (j:0<x3\/(x3=0/\0<y3)) (a:0<x1*y2-y1*x2) (b:0<x2*y3-y2*x3):0<x1*y3-y1*x3:=by
 have c:0<x1:=by
  rcases f with h | ⟨h,k⟩
  ·exact h
  subst h;have:=zac (zaf k) (show 0<=x2 by omega);rw [zbe] at a;omega
 have p2:0<x2:=by
  rcases d with h | ⟨h,k⟩
  ·exact h
  subst h;have:=zac (zaf k) (show 0<=x3 by omega);rw [zbe] at b;omega
 have e:x2*(x1*y3-y1*x3)=x1*(x2*y3-y2*x3)+x3*(x1*y2-y1*x2):=by grind
 have g:=zan c b;have i:=zac (show 0<=x3 by omega) (zaf a);have:0<x2*(x1*y3-y1*x3):=by omega
 rcases zy this with ⟨_,h⟩ | ⟨h,_⟩
 ·exact h
 omega
theorem au0 {d:P2} (k:ltO a b) (h:ltO b c) (j:ltO c d) (f:0<d9 a b c) (i:0<d9 b c d):0<d9 a b d/\0<d9 a c d:=by
 unfold ltO at k h j;unfold d9 at f i |-;have g:=ax5 (x1:=b.1-a.1) (y1:=b.2-a.2) (x2:=c.1-b.1) (y2:=c.2-b.2) (x3:=d.1-c.1) (y3:=d.2-c.2) (by omega) (by omega) (by omega) (by grind) (by grind);constructor
 ·have e:(b.1-a.1)*(d.2-a.2)-(b.2-a.2)*(d.1-a.1)=((b.1-a.1)*(c.2-a.2)-(b.2-a.2)*(c.1-a.1))+((b.1-a.1)*(d.2-c.2)-(b.2-a.2)*(d.1-c.1)):=by grind
  omega
 have e:(c.1-a.1)*(d.2-a.2)-(c.2-a.2)*(d.1-a.1)=((c.1-b.1)*(d.2-b.2)-(c.2-b.2)*(d.1-b.1))+((b.1-a.1)*(d.2-c.2)-(b.2-a.2)*(d.1-c.1)):=by grind
 omega
def Tri:List P2->Prop
 | []=>True
 | c::r=>r.Pairwise (fun b a=>0<d9 a b c)/\Tri r
theorem Tri.drop:∀(k:Nat) {s:List P2},Tri s->Tri (s.drop k)
 | 0,_,h=>h
 | k+1,[],h=>h
 | k+1,_::r,h=>Tri.drop k h.2
theorem ajo (p:P2):∀s:List P2,(∃x,s6 p s=[x])\/s6 p s=[]\/∃b a r,s6 p s=b::a::r/\0<d9 a b p
 | []=>.inr (.inl rfl)
 | [x]=>.inl ⟨x,rfl⟩
 | b::a::r=>by
   rw [s6];split
   ·exact ajo p (a::r)
   rename_i h;exact .inr (.inr ⟨b,a,r,rfl,by omega⟩)
theorem aa6 (l:List P2):l.Pairwise ltO->Tri (j6 l):=by
 refine bk (P:=fun l=>l.Pairwise ltO->Tri (j6 l)) (fun _=>trivial) (fun l p B=>?_) l;intro v;rw [u4];have q:=zas.1 v;have z:=B q.1;obtain ⟨k,A,_⟩:=uj p (j6 l);have g:Tri (s6 p (j6 l)):=by rw [A]; exact z.drop k
 have c:(p::s6 p (j6 l)).Pairwise (fun b a=>ltO a b):=by
  have f:(p::l.reverse).Pairwise (fun b a=>ltO a b):=by
   refine zaa.2 ⟨fun x hx=>q.2.2 x (by simpa using hx) p (by simp),?_⟩;exact zbw.2 q.1
  exact f.sublist (List.Sublist.cons_cons p ((aha p _).trans (pq l)))
 refine ⟨?_,g⟩;rcases ajo p (j6 l) with ⟨x,e⟩ | e | ⟨b,a,r,e,t⟩
 ·rw [e]; simp
 ·rw [e]; simp
 rw [e] at g c |-;obtain ⟨y,C,D⟩:=g;have n:=zaa.1 c;have s:=zaa.1 n.2;have o:=zaa.1 s.2;have h:=zaa.1 y;have m:∀x∈r,0<d9 x a p/\0<d9 x b p:=fun x hx=>au0 (o.1 x hx) (s.1 a (by simp)) (n.1 b (by simp)) (h.1 x hx) t;refine zaa.2 ⟨fun x hx=>?_,zaa.2 ⟨fun x hx=>(m x hx).1,?_⟩⟩
 ·rcases zal.1 hx with rfl | hx
  ·exact t
  exact (m x hx).2
 refine (zca.2 fun i j hi u d=>?_);have w:=zca.1 C i j hi u d;have p2:=zca.1 o.2 i j hi u d;exact (au0 p2 (o.1 _ (zbj hi)) (n.1 a (by simp)) w (m _ (zbj hi)).1).1

def Seg (a b q:P2):Prop:=Btw q.1 a.1 b.1/\Btw q.2 a.2 b.2
def Lft (l:List P2) (a b:P2):Prop:=a≠b/\∀q∈l,0<d9 a b q\/(d9 a b q=0/\Seg a b q)
theorem agn (a b c:P2):d9 a b c=d9 c a b:=by unfold d9; grind
theorem ajq {vx vy:Int} (f:0<x1\/(x1=0/\0<y1)) (d:0<x2\/(x2=0/\0<y2)) (c:x1*y2-y1*x2=0) (hv:0<x1*vy-y1*vx):0<x2*vy-y2*vx:=by
 rcases f with h | ⟨h,k⟩
 ·have p2:0<x2:=by
   rcases d with g | ⟨g,k⟩
   ·exact g
   subst g;have:=zan h k;rw [Int.mul_zero] at c;omega
  have e:x1*(x2*vy-y2*vx)=x2*(x1*vy-y1*vx):=by grind
  have m:=zan p2 hv;rcases zy (show 0<x1*(x2*vy-y2*vx) by omega) with ⟨_,g⟩ | ⟨g,_⟩
  ·exact g
  omega
 subst h
 have b:x2=0:=by
  rcases zbf.1 (show y1*x2=0 by rw [zbe] at c; omega) with g | g
  ·omega
  exact g
 subst b;have a:0<y2:=by omega
 rw [zbe] at hv |-;have e:y1*(y2*vx)=y2*(y1*vx):=by grind
 have:0<y1*(-vx):=by rw [zba]; omega
 rcases zy this with ⟨_,g⟩ | ⟨g,_⟩
 ·have:=zan a g;rw [zba] at this;omega
 omega
theorem avb (l:ltO a b) (p:ltO a q\/q=a) (n:ltO q b\/q=b) (r:d9 a b q=0):Seg a b q:=by
 unfold ltO at *;unfold d9 at r;unfold Seg Btw;obtain ⟨X,y⟩:∃X,b.1-a.1=X:=⟨_,rfl⟩
 obtain ⟨Y,v⟩:∃Y,b.2-a.2=Y:=⟨_,rfl⟩
 obtain ⟨f,i⟩:∃d,q.1-a.1=d:=⟨_,rfl⟩
 obtain ⟨c,j⟩:∃d,q.2-a.2=d:=⟨_,rfl⟩
 rw [y,v,i,j] at r
 have u:a.1<=q.1/\q.1<=b.1:=by
  constructor
  ·rcases p with h | rfl<;>omega
  rcases n with h | rfl<;>omega
 refine ⟨.inl u,?_⟩;rcases l with hx | ⟨hx,hy⟩
 ·have g:0<X:=by omega
  have m:0<=f:=by omega
  have o:0<=X-f:=by omega
  rcases Int.le_total 0 Y with k | k
  ·have x:=zac k m;have s:=zac k o;have e:X*(Y-c)=Y*(X-f):=by grind
   have w:0<=c:=zau (show X*0<=X*c by omega) g;have t:0<=Y-c:=zau (show X*0<=X*(Y-c) by omega) g;left; omega
  have x:=zac (show 0<=-Y by omega) m;have s:=zac (show 0<=-Y by omega) o;have e:X*(c-Y)=-Y*(X-f):=by grind
  have e':X * -c=-Y*f:=by grind
  have w:0<=-c:=zau (show X*0<=X * -c by omega) g;have t:0<=c-Y:=zau (show X*0<=X*(c-Y) by omega) g;right; omega
 left;have:q.1=a.1:=by omega
 constructor
 ·rcases p with h | rfl<;>omega
 rcases n with h | rfl<;>omega
section
variable {l:List P2}
theorem aqh (h:ltO a b):x6 a b:=by unfold ltO at h; unfold x6; omega
theorem pp (c:l.Pairwise ltO):(j6 l).Pairwise (fun b a=>ltO a b):=
 (zbw.2 c).sublist (pq l)
theorem Tri.app:∀{U r:List P2},Tri (U++r)->Tri r/\∀c∈U,r.Pairwise (fun b a=>0<d9 a b c)
 | [],r,h=>⟨h,fun c hc=>by simp at hc⟩
 | x::U,r,h=>by
   obtain ⟨g,d⟩:=h;obtain ⟨f,e⟩:=Tri.app d;refine ⟨f,fun c hc=>?_⟩;rcases zal.1 hc with rfl | hc
   ·exact (zas.1 g).2.1
   exact e c hc
theorem ach (d:l.Pairwise ltO) {U V:List P2} (e:j6 l=U++b::a::V):∀q∈l,0<=d9 a b q:=fun q m=>by
 have h:=aa6 l d;have hO:=pp d;rw [e] at h hO;obtain ⟨⟨s,u,_⟩,n⟩:=h.app;have g:ltO a b:=(zaa.1 (zas.1 hO).2.1).1 a (by simp);have t:0<=b.1-a.1:=by unfold ltO at g; omega
 obtain ⟨c,hc,w⟩:=aej (D:=fun c q=>(b.1-a.1)*c.2-(b.2-a.2)*c.1<=(b.1-a.1)*q.2-(b.2-a.2)*q.1) (o:=x6) (fun a=>Int.le_refl _) (fun a b c=>Int.le_trans) (fun a b p r k j=>aes t r k j) l (d.imp aqh) q m;have i:∀v:P2,d9 a b v=((b.1-a.1)*v.2-(b.2-a.2)*v.1)-((b.1-a.1)*a.2-(b.2-a.2)*a.1):=fun v=>by unfold d9; grind
 have f:0<=d9 a b c:=by
  rw [e] at hc;rcases zat.1 hc with hc | hc
  ·exact zaf ((zaa.1 (n c hc)).1 a (by simp))
  rcases zal.1 hc with rfl | hc
  ·unfold d9; grind
  rcases zal.1 hc with rfl | hc
  ·unfold d9; grind
  rw [agn];exact zaf ((zaa.1 s).1 c hc)
 rw [i] at f |-;omega
theorem ady (b:l.Pairwise ltO) (a:q∈l):(∀x U,j6 l=x::U->ltO q x\/q=x)/\(∀x U,j6 l=U++[x]->ltO x q\/q=x):=by
 constructor
 ·intro x U e;rcases zbt l with rfl | ⟨d,y,rfl⟩
  ·simp at a
  rw [zbu] at e b a;rw [u4] at e
  injection e with e1 _
  subst e1;rcases zat.1 a with a | a
  ·exact .inl ((zas.1 b).2.2 q a y (by simp))
  exact .inr (zbp.1 a)
 intro x U e;cases l with
 | nil=>simp at a
 | cons y r=>
   obtain ⟨T,c,_⟩:=aa7 y r;rw [c] at e;have:=List.append_inj_right' e rfl;simp at this;subst this;rcases zal.1 a with rfl | a
   ·exact .inr rfl
   exact .inl ((zaa.1 b).1 q a)
theorem ahp (i:l.Pairwise ltO) {U V:List P2} (e:j6 l=U++b::a::V):Lft l a b:=by
 have k:=aa6 l i;have hO:=pp i;rw [e] at k hO;have n:=(zas.1 hO).2.1;have d:ltO a b:=(zaa.1 n).1 a (by simp);refine ⟨fun h=>by rw [h] at d; unfold ltO at d; omega,fun q j=>?_⟩;have s:=ach i e q j;rcases Int.lt_or_eq_of_le s with h | h
 ·exact .inl h
 refine .inr ⟨h.symm,avb d ?_ ?_ h.symm⟩
 ·cases V with
  | nil=>exact (ady i j).2 a (U++[b]) (by rw [e]; simp)
  | cons c V=>
    rcases Classical.em (ltO a q\/q=a) with f | f
    ·exact f
    exfalso;have m:ltO q a:=by unfold ltO at f |-; rw [not_or,Prod.ext_iff] at f; omega
    have g:=ach i (U:=U++[b]) (a:=c) (b:=a) (V:=V) (by rw [e]; simp) q j;obtain ⟨⟨t,_,_⟩,_⟩:=k.app;have o:=(zaa.1 t).1 c (by simp);unfold ltO at d m;unfold d9 at h g o;have:=ajq (x1:=b.1-a.1) (y1:=b.2-a.2) (x2:=a.1-q.1) (y2:=a.2-q.2) (vx:=-(a.1-c.1)) (vy:=-(a.2-c.2)) (by omega) (by omega) (by grind) (by grind)
    grind
 rcases zbt U with rfl | ⟨u,c,rfl⟩
 ·exact (ady i j).1 b (a::V) (by rw [e]; rfl)
 rcases Classical.em (ltO q b\/q=b) with f | f
 ·exact f
 exfalso;have p:ltO b q:=by unfold ltO at f |-; rw [not_or,Prod.ext_iff] at f; omega
 rw [zbu] at e k;have g:=ach i (U:=u) (a:=b) (b:=c) (V:=a::V) (by rw [e]; simp) q j;obtain ⟨_,r⟩:=k.app;have o:=(zaa.1 (r c (by simp))).1 a (by simp);unfold ltO at d p;unfold d9 at h g o;have:=ajq (x1:=b.1-a.1) (y1:=b.2-a.2) (x2:=q.1-b.1) (y2:=q.2-b.2) (vx:=c.1-b.1) (vy:=c.2-b.2) (by omega) (by omega) (by grind) (by grind)
 grind
end

def nP (p:P2):P2:=(-p.1,-p.2)
theorem aei (a b c:P2):d9 (nP a) (nP b) (nP c)=d9 a b c:=by unfold d9 nP; grind
theorem anm (p:P2):∀s:List P2,s6 (nP p) (s.map nP)=(s6 p s).map nP
 | []=>rfl
 | [a]=>rfl
 | b::a::r=>by
   have c:=anm p (a::r);simp only [zbb] at c |-;rw [s6,s6,aei];split
   ·exact c
   rfl
theorem amm (l:List P2):j6 (l.map nP)=(j6 l).map nP:=by
 refine bk (P:=fun l=>j6 (l.map nP)=(j6 l).map nP) rfl (fun l p a=>?_) l;rw [zbk,zbb,zah,u4,u4,a,anm]
 rfl
theorem amn {l:List P2} (c:l.Pairwise ltO):(l.reverse.map nP).Pairwise ltO:=by
 rw [List.pairwise_map];refine (zbw.2 c).imp fun {a b} h=>?_;unfold ltO nP at *;simp only;omega
theorem apk {l:List P2} (f:l.Pairwise ltO) {U V:List P2} (e:j6 l.reverse=U++b::a::V):Lft l a b:=by
 have h:=ahp (amn f) (U:=U.map nP) (V:=V.map nP) (a:=nP a) (b:=nP b) (by rw [amm,e]; simp);refine ⟨fun c=>h.1 (by rw [c]),fun q d=>?_⟩;have:=h.2 (nP q) (zai.2 ⟨q,by simpa using d,rfl⟩);rw [aei] at this;rcases this with g | ⟨g,k⟩
 ·exact .inl g
 refine .inr ⟨g,?_⟩;unfold Seg Btw nP at k;unfold Seg Btw;simp only at k;omega
theorem ary {R:P2->P2->Prop}:∀(t:List P2) (x:P2),(∀X a b Y,x::t=X++a::b::Y->R a b)->RP R x t
 | [],_,_=>trivial
 | y::t,x,h=>⟨h [] x y t rfl,ary t y fun X a b Y e=>h (x::X) a b Y (by rw [e]; rfl)⟩
theorem am2 {R:P2->P2->Prop} {s:List P2} (h:∀U b a V,s=U++b::a::V->R a b) {x:P2} {t:List P2} (e:s.reverse=x::t):RP R x t:=by
 refine ary t x fun X a b Y e'=>?_;rw [<- e] at e';refine h Y.reverse b a X.reverse ?_;have:=congrArg List.reverse e';rw [zcb] at this;rw [this];simp
theorem aex {g:P2->P2->P2} {b:P2} {S:P2->Prop} (c:∀p,S p->g b p=b) (d:∀n,S n->g n b=b) (f:∀n p,S n->S p->S (g n p)):∀(rg:List P2) (a:P2),(∀p∈rg,S p)->S a->(b∈rg\/a=b)->rg.foldl g a=b
 | [],a,_,_,h=>by simpa using h
 | p::r,a,h1,h2,h=>by
   rw [List.foldl_cons];have e:=h1 p (by simp);refine aex c d f r _ (fun q i=>h1 q (by simp [i])) (f _ _ h2 e) ?_;rcases h with h | h
   ·rcases zal.1 h with rfl | h
    ·exact .inr (d _ h2)
    exact .inl h
   subst h;exact .inr (c _ e)
theorem anw {l:List P2} (i:∀p,p∈rg↔p∈l) (q:a∈l) (j:b∈l) (h:Lft l a b):acg rg a=b:=by
 unfold acg;have m:¬b=a:=fun e=>h.1 e.symm;refine aex (S:=(·∈l)) (fun p d=>?_) (fun n r=>?_) (fun n p u t=>?_) rg a (fun p d=>(i p).1 d) q (.inl ((i b).2 j))
 ·unfold sq;split
  ·rfl
  rw [if_neg];rintro (g | ⟨g,k⟩)
  ·rcases h.2 p d with f | ⟨f,_⟩<;>omega
  rcases h.2 p d with f | ⟨f,s⟩
  ·omega
  unfold aew dw at k;rw [decide_eq_true_eq] at k;unfold Seg Btw at s
  revert k
  split<;>split<;>split<;>split<;>omega
 ·unfold sq;rw [if_neg m];split
  ·rfl
  rename_i o;by_cases c:n=b
  ·subst c;split<;>rfl
  rw [if_pos];have e:d9 a n b=- d9 a b n:=by unfold d9; grind
  rcases h.2 n r with f | ⟨f,s⟩
  ·exact .inl (by omega)
  refine .inr ⟨by omega,?_⟩;unfold aew dw;rw [decide_eq_true_eq];unfold Seg Btw at s
  have:n.1≠b.1\/n.2≠b.2:=by
   rw [Prod.ext_iff] at c;omega
  split<;>split<;>split<;>split<;>omega
 rcases atr a n p with e | e<;>rw [e]<;>assumption
theorem ai0 {l rg:List P2} (a:∀p,p∈rg↔p∈l) {f:P2} (b:f∈l):∀(t:List P2) (x:P2) (k:Nat),x∈l->(∀y∈t,y∈l)->RP (Lft l) x (t++[f])->f∉t->t.length+1<=k->jg rg f k x=x::t
 | t,x,0,_,_,_,_,hk=>by omega
 | [],x,k+1,hx,_,hR,_,_=>by
   rw [jg,anw a hx b hR.1,if_pos (.inl rfl)]
 | y::t,x,k+1,hx,ht,hR,hft,hk=>by
   have hy:=ht y (by simp);rw [jg,anw a hx hy hR.1];rw [if_neg]
   ·rw [ai0 a b t y k hy (fun z c=>ht z (by simp [c])) hR.2 (fun h=>hft (by simp [h])) (by simp at hk; omega)]
   rintro (h | h)
   ·exact hft (by simp [h])
   exact hR.1.1 h.symm
variable {f:P2}
theorem aqx {l:List P2} (d:∀p,p∈rg↔p∈l) (j:f∈l) (h:∀p∈l,ltO f p\/p=f) (b:rg≠[]):rf rg=f:=by
 have lb:∀p q,abe p q=true↔ltO p q:=fun p q=>by unfold abe ltO; simp
 unfold rf;refine aex (S:=(·∈l)) (fun p c=>?_) (fun n k=>?_) (fun n p o m=>?_) rg _ (fun p c=>(d p).1 c) ?_ (.inl ((d f).2 j))
 ·unfold up;rw [if_neg];rw [lb];intro i;rcases h p c with g | rfl<;>unfold ltO at * <;> omega
 ·unfold up;split
  ·rfl
  rename_i i;rw [lb] at i;rcases h n k with g | rfl
  ·exact absurd g i
  rfl
 ·rcases att n p with e | e<;>rw [e]<;>assumption
 refine (d _).1 ?_;cases rg with
 | nil=>exact absurd rfl b
 | cons a r=>simp

theorem acq:∀(r:List P2) (u:P2),(u::r).Pairwise x6->(u::bo u r).Pairwise ltO
 | [],u,_=>by simp [bo]
 | q::r,u,h=>by
   have b:=zaa.1 h;have d:=zaa.1 b.2;rw [bo];split
   ·exact acq r u (zaa.2 ⟨fun x hx=>b.1 x (by simp [hx]),d.2⟩)
   rename_i e;have c:=acq r q b.2;have f:=zaa.1 c
   have a:ltO u q:=by
    have:=b.1 q (by simp);rw [Prod.ext_iff] at e;unfold x6 at this;unfold ltO;omega
   refine zaa.2 ⟨fun x hx=>?_,c⟩;rcases zal.1 hx with rfl | hx
   ·exact a
   exact a.trans (f.1 x hx)
theorem aow {l:List P2} (h:l.Pairwise x6):(t4 l).Pairwise ltO:=by
 cases l with
 | nil=>exact List.Pairwise.nil
 | cons u r=>exact acq r u h
theorem agt {l:List P2} {g:P2} (d:l=f::(m++[g])):∃M,j6 l=g::(M++[f]):=by
 obtain ⟨T,a,e⟩:=aa7 f (m++[g]);have c:=u4 (f::m) g;rw [zae,<- d] at c;rw [<- d] at a;have b:=e (by simp);cases T with
 | nil=>exact absurd rfl b
 | cons t T=>
   rw [c] at a
   injection a with e1 e2
   exact ⟨T,by rw [c,e2]; rfl⟩
theorem agm (p q:P2->Bool) (a:∀x,¬(p x=true/\q x=true)):∀r:List P2,(r.filter p).length+(r.filter q).length<=r.length
 | []=>by simp
 | x::r=>by
   have:=agm p q a r;have hx:=a x;rw [List.filter_cons,List.filter_cons];split<;>split<;>simp_all<;>omega
theorem RP.imp {R S:P2->P2->Prop} (h:∀a b,R a b->S a b):∀(t:List P2) (x:P2),RP R x t->RP S x t
 | [],_,_=>trivial
 | y::t,x,k=>⟨h x y k.1,RP.imp h t y k.2⟩
theorem Lft.mono {l:List P2} (h:Lft l a b) (d:∀q∈m,q∈l):Lft m a b:=⟨h.1,fun q c=>h.2 q (d q c)⟩
theorem aaj (L:wv rg):∃f T,z7 rg=f::T/\2<=T.length/\T.length+1<=rg.length/\f∈rg/\(∀p∈rg,ltO f p\/p=f)/\f∉T/\(∀p∈T,p∈rg)/\RP (Lft rg) f (T++[f]):=by
 have d:=adw L
 have P:z7 rg=o5 (t4 (o8 rg))++o5 (t4 (o8 rg)).reverse:=by
  unfold z7 at d |-;split
  ·rename_i h; rw [if_pos h] at d; simp at d
  rename_i h;rw [if_neg h] at d;split
  ·rename_i h'; rw [if_pos h'] at d; simp at d
  rfl
 have i:=aow (afb rg);have A:∀p,p∈rg↔p∈t4 (o8 rg):=fun p=>⟨fun h=>ad4 (ac3 h),fun h=>vg ((aau _).subset h)⟩
 have h0:(t4 (o8 rg)).length<=rg.length:=by
  have h1:=(aau (o8 rg)).length_le;have h2:(o8 rg).length=rg.length:=rb rg;omega
 rw [P] at d |-;generalize t4 (o8 rg)=l at *
 obtain ⟨f,m,g,j⟩:∃f m g,l=f::(m++[g]):=by
  cases l with
  | nil=>simp [o5,j6] at d
  | cons x r=>
    rcases zbt r with rfl | ⟨R,y,rfl⟩
    ·simp [o5,j6,s6] at d
    exact ⟨x,R,y,by rw [zbu]⟩
 obtain ⟨M,t⟩:=agt j;obtain ⟨N,hN⟩:=agt (l:=l.reverse) (f:=g) (g:=f) (m:=m.reverse) (by rw [j]; simp)
 have S:o5 l=f::M.reverse:=by
  unfold o5;rw [t];simp only [List.reverse_cons,List.reverse_append,List.reverse_nil,zay,List.singleton_append];rw [List.dropLast_concat]
 have c2:o5 l.reverse=g::N.reverse:=by
  unfold o5;rw [hN];simp only [List.reverse_cons,List.reverse_append,List.reverse_nil,zay,List.singleton_append];rw [List.dropLast_concat]
 rw [S,c2] at d |-;have fl:f∈l:=by rw [j]; simp
 have gl:g∈l:=by rw [j]; simp
 have u:∀p∈l,ltO f p\/p=f:=fun p n=>by
  rw [j] at i n;rcases zal.1 n with rfl | n
  ·exact .inr rfl
  exact .inl ((zaa.1 i).1 p n)
 have v:ltO f g:=by
  rw [j] at i;exact (zaa.1 i).1 g (by simp)
 have W:(g::(M++[f])).Pairwise (fun b a=>ltO a b):=by rw [<- t]; exact pp i
 have O:(f::(N++[g])).Pairwise ltO:=by
  have:=pq l.reverse;rw [zcb,hN] at this;exact i.sublist this
 have C:∀x∈M,ltO f x:=fun x hx=>(zas.1 (zaa.1 W).2).2.2 x hx f (by simp);have B:∀x∈N,ltO f x:=fun x hx=>(zaa.1 O).1 x (by simp [hx]);have o:¬ltO f f:=by unfold ltO; omega
 have F:f∉M.reverse++g::N.reverse:=fun h=>by
  rcases zat.1 h with h | h
  ·exact o (C f (by simpa using h))
  rcases zal.1 h with h | h
  ·rw [<- h] at v; exact o v
  exact o (B f (by simpa using h))
 have D:∀x∈M,x∈l:=fun x hx=>xy l (by rw [t]; simp [hx]);have E:∀x∈N,x∈l:=fun x hx=>by simpa using xy l.reverse (q:=x) (by rw [hN]; simp [hx])
 have Z:RP (Lft l) f ((M.reverse++g::N.reverse)++[f]):=by
  rw [zbd,zae,aeh];refine ⟨am2 (s:=j6 l) (fun U b a V e=>ahp i e) (by rw [t]; simp),am2 (s:=j6 l.reverse) (fun U b a V e=>apk i e) (by rw [hN]; simp)⟩
 have K:∀c∈M,d9 f g c<0:=fun c hc=>by
  have k:=aa6 l i;rw [t] at k;have:=(zas.1 k.1).2.2 c hc f (by simp);have e:d9 f g c=- d9 f c g:=by unfold d9; grind
  omega
 have Q:∀c∈N,0<d9 f g c:=fun c hc=>by
  have k:=aa6 _ (amn i);rw [amm,hN] at k;simp only [zbb,zbk,zah] at k;have:=(zas.1 k.1).2.2 (nP c) (zai.2 ⟨c,hc,rfl⟩) (nP g) (by simp);rw [aei,agn] at this;exact this
 have w:(M.reverse++g::N.reverse).length+1<=rg.length:=by
  have J:M.filter (fun c=>decide (d9 f g c<0))=M:=List.filter_eq_self.2 fun c hc=>decide_eq_true (K c hc);have f2:N.filter (fun c=>decide (0<d9 f g c))=N:=List.filter_eq_self.2 fun c hc=>decide_eq_true (Q c hc)
  have X:M.Sublist l.reverse:=by
   have:=pq l;rw [t] at this;exact ((List.sublist_append_left M [f]).trans (List.sublist_cons_self g _)).trans this
  have s2:N.Sublist l:=by
   have:=pq l.reverse;rw [zcb,hN] at this;exact ((List.sublist_append_left N [g]).trans (List.sublist_cons_self f _)).trans this
  have H:=(X.filter (fun c=>decide (d9 f g c<0))).length_le;have I:=(s2.filter (fun c=>decide (0<d9 f g c))).length_le;rw [J,List.filter_reverse,List.length_reverse] at H;rw [f2] at I;have z:d9 f g f=0:=by unfold d9; grind
  have G:d9 f g g=0:=by unfold d9; grind
  rw [j,zbh (by simp [z]),zbi,zbh (by simp [G]),List.filter_nil,zbm] at H;rw [j,zbh (by simp [z]),zbi,zbh (by simp [G]),List.filter_nil,zbm] at I;have g3:=agm (fun c=>decide (d9 f g c<0)) (fun c=>decide (0<d9 f g c)) (fun x h=>by simp at h; omega) m;have g4:l.length=m.length+2:=by rw [j]; simp
  simp only [zbv,List.length_reverse,zbc] at *;omega
 have k:∀p∈M.reverse++g::N.reverse,p∈l:=fun y hy=>by
  rcases zat.1 hy with hy | hy
  ·exact D y (by simpa using hy)
  rcases zal.1 hy with rfl | hy
  ·exact gl
  exact E y (by simpa using hy)
 exact ⟨f,M.reverse++g::N.reverse,rfl,by simp only [zbv,zbc] at d |-; omega,w,(A f).2 fl,fun p n=>u p ((A p).1 n),F,fun p n=>(A p).2 (k p n),RP.imp (fun a b h=>h.mono fun q Y=>(A q).1 Y) _ _ Z⟩
theorem an9 {T:List P2} (l:2<=T.length) (k:T.length<=rg.length) (b:f∈rg) (a:∀p∈rg,ltO f p\/p=f) (d:f∉T) (g:∀p∈T,p∈rg) (j:RP (Lft rg) f (T++[f])):qo rg=f::T:=by
 have c:rg≠[]:=fun h=>by rw [h] at b; simp at b
 have i:=aqx (fun p=>Iff.rfl) b a c;have e:=ai0 (fun p=>Iff.rfl) b T f (rg.length+1) b g j d (by omega);unfold qo;rw [if_neg c,i,e,if_neg];simp only [zbc];omega

theorem alp (i:wv rg):qo (z7 rg)=z7 rg:=by
 obtain ⟨f,T,o,l,q,m,g,n,j,k⟩:=aaj i;have d:∀p∈f::T,p∈rg:=fun p c=>(zal.1 c).elim (fun e=>e▸m) (j p);rw [o];exact an9 l (by simp) (by simp) (fun p c=>g p (d p c)) n (fun p c=>by simp [c]) (RP.imp (fun a b h=>h.mono d) _ _ k)
theorem aqs (a:wv rg):(z7 rg).length<=rg.length:=by
 obtain ⟨f,T,c,d,b,_⟩:=aaj a;rw [c];exact b
def crQ (p q:P2):Int:=p.1*q.2-q.1*p.2
def arP:P2->List P2->Int
 | _,[]=>0
 | x,y::t=>crQ x y+arP y t
theorem akk (f x y:P2):crQ x y+crQ f x-crQ f y=d9 x y f:=by unfold crQ d9; grind
theorem awk (f x:P2):crQ x f=- crQ f x:=by unfold crQ; grind
theorem akb {rg:List P2} {f:P2} (a:f∈rg):∀(t:List P2) (x:P2),RP (Lft rg) x (t++[f])->0<=arP x (t++[f])+crQ f x
 | [],x,_=>by
   show 0<=crQ x f+0+crQ f x;have:=awk f x;omega
 | y::t,x,h=>by
   have b:=akb a t y h.2;have d:=h.1.2 f a;have c:=akk f x y;show 0<=crQ x y+arP y (t++[f])+crQ f x;omega
theorem aq2 {y z:P2} (d:f∈rg) (hy:ltO f y) (c:ltO f z) (h:Lft rg y z):0<d9 y z f:=by
 rcases h.2 f d with g | ⟨g,k⟩
 ·exact g
 exfalso;unfold ltO at hy c;unfold Seg Btw at k;unfold d9 at g;rcases (show f.1=y.1/\f.1<z.1\/f.1=z.1/\f.1<y.1\/f.1=y.1/\f.1=z.1 by omega) with ⟨a,b⟩ | ⟨a,b⟩ | ⟨a,b⟩
 ·rw [a,Int.sub_self,Int.mul_zero] at g;have:=zan (show 0<z.1-y.1 by omega) (show 0 < -(f.2-y.2) by omega);rw [zba] at this;omega
 ·have e:(z.1-y.1)*(f.2-y.2)-(z.2-y.2)*(f.1-y.1)=(y.1-z.1)*(z.2-f.2):=by rw [a]; grind
  have:=zan (show 0<y.1-z.1 by omega) (show 0<z.2-f.2 by omega);omega
 omega
theorem aoc (h:wv rg):∃f T,z7 rg=f::T/\0<arP f (T++[f]):=by
 obtain ⟨f,T,k,i,o,g,d,c,a,b⟩:=aaj h;refine ⟨f,T,k,?_⟩
 match T,i,c,a,b with
 | y::z::r,_,c,a,b=>
   have hy:ltO f y:=(d y (a y (by simp))).resolve_right fun e=>c (by simp [e]);have j:ltO f z:=(d z (a z (by simp))).resolve_right fun e=>c (by simp [e]);have n:=aq2 g hy j b.2.1;have l:=akb g r z b.2.2;have m:=akk f y z;show 0<crQ f y+(crQ y z+arP z (r++[f]));omega
def mz (g:Nat->Int):Nat->Int
 | 0=>0
 | n+1=>mz g n+g n
theorem ae9 (g:Nat->Int):∀n,mz g (n+1)=g 0+mz (fun j=>g (j+1)) n
 | 0=>by simp [mz]
 | n+1=>by
   rw [mz,ae9 g n];show _=g 0+(mz (fun j=>g (j+1)) n+g (n+1));omega
theorem ac1 {g h:Nat->Int}:∀n,(∀i,i<n->g i=h i)->mz g n=mz h n
 | 0,_=>rfl
 | n+1,k=>by rw [mz,mz,ac1 n fun i hi=>k i (by omega),k n (by omega)]
theorem ai9:∀(t:List P2) (x:P2),mz (fun j=>crQ ((x::t).getD j (0,0)) ((x::t).getD (j+1) (0,0))) t.length=arP x t
 | [],_=>rfl
 | y::t,x=>by
   rw [zbc,ae9];show crQ x y+_=crQ x y+arP y t;rw [<- ai9 t y]
   rfl
def ar2 (l:List P2) (i:Nat):Int:=mz (fun j=>crQ (l.getD j (0,0)) (l.getD ((j+1)%l.length) (0,0))) i
theorem auk (f:P2) (T:List P2):ar2 (f::T) (f::T).length=arP f (T++[f]):=by
 have h:=ai9 (T++[f]) f;rw [show (T++[f]).length=(f::T).length by simp] at h;rw [<- h];refine ac1 _ fun i hi=>?_
 have c:(f::(T++[f])).getD i (0,0)=(f::T).getD i (0,0):=by
  rw [zak,zak,<- zae,List.getElem?_append_left hi]
 have b:(f::(T++[f])).getD (i+1) (0,0)=(f::T).getD ((i+1)%(f::T).length) (0,0):=by
  rcases Nat.lt_or_ge (i+1) (f::T).length with h | h
  ·rw [Nat.mod_eq_of_lt h,zak,zak,<- zae,List.getElem?_append_left h]
  have a:i+1=(f::T).length:=by omega
  rw [a,Nat.mod_self,zak,<- zae,List.getElem?_append_right (Nat.le_refl _),Nat.sub_self]
  rfl
 rw [c,b]
theorem ao7 {l:List P2} (h:∀p∈l,(-8192<=p.1/\p.1<=8192)/\(-8192<=p.2/\p.2<=8192)):∀i:Nat,-(134217728*i:Int)<=ar2 l i/\ar2 l i<=134217728*i
 | 0=>by simp [ar2,mz]
 | i+1=>by
   have f:=ao7 h i
   have d:∀j,(-8192<=(l.getD j (0,0)).1/\(l.getD j (0,0)).1<=8192)/\(-8192<=(l.getD j (0,0)).2/\(l.getD j (0,0)).2<=8192):=fun j=>by
    rcases Nat.lt_or_ge j l.length with a | a
    ·rw [zak,List.getElem?_eq_getElem a];exact h _ (zbj a)
    rw [zak,List.getElem?_eq_none a]
    decide
   have b:=d i;have c:=d ((i+1)%l.length);have e:ar2 l (i+1)=ar2 l i+crQ (l.getD i (0,0)) (l.getD ((i+1)%l.length) (0,0)):=rfl;have g:=nn b.1 c.2;have k:=nn c.1 b.2;rw [e];unfold crQ;omega

def ir:Mk P0 f4:={ x:=_ }
def ox:Mk P0 f11:={ x:=_ }
def dj:Mk P0 f12:={ x:=_ }
theorem ask (a b:List P2) (C:a.length<=1000000) (B:b.length<=1000000):a9 P0 12 [a8 a,a8 b] [] (bl (decide (a=b))) []:=by
 refine dj.t func12 ?_;by_cases j:a.length=b.length
 ·have p:(((a.length:Nat):Int) != (b.length:Int))=false:=by rw [j]; simp
  push_cast [dj,a8,zab,p,zag]
  refine c9 [(5,false),(0,false),(1,false)] (fun vs pos g=>∃i:Nat,i<=a.length/\a.take i=b.take i/\vs=[int .i64 i,a8 a,a8 b]/\pos=[]/\g=[])
   (fun vs _ _=>match vs with | .r (.v (.int _ n))::_=>(a.length-n).toNat | _=>0) rfl ?_ ?_
  ·push_cast [a8]
   exact ⟨0,by omega,rfl,rfl⟩
  rintro vs pos g ⟨i,hi,f,rfl,rfl,rfl⟩
  push_cast [a8,zab]
  refine b8 (fun u=>?_) (fun u=>?_)
  ·have c:i<a.length:=by simpa using u
   obtain ⟨q,k⟩:∃q,a[i]?=some q:=⟨a[i],by simp [c]⟩
   obtain ⟨o,l⟩:∃o,b[i]?=some o:=⟨b[i]'(by omega),by simp [j▸c]⟩
   have w:IntKind.i64.wrap ((i:Int)+1)=(i:Int)+1:=a5 (by omega)
   have x:∀z,(a.map ptR).getD i z=.agg [.v (.int .i64 q.1),.v (.int .i64 q.2)]:=fun z=>by
    rw [zak,List.getElem?_map,k]; rfl
   have y:∀z,(b.map ptR).getD i z=.agg [.v (.int .i64 o.1),.v (.int .i64 o.2)]:=fun z=>by
    rw [zak,List.getElem?_map,l]; rfl
   have A:=abh q o
   push_cast [a8,x,y,w,zab,zaj,zam,zad,zaq,zar,zad]
   refine And.intro ⟨by omega,by omega⟩ (And.intro ⟨by omega,by omega⟩ (And.intro (by kernel_rfl) ?_));by_cases e:q=o
   ·subst e;have d:(q.1 == q.1&&q.2 == q.2)=true:=by simp
    push_cast [d,w,a8]
    refine ⟨⟨i+1,by omega,?_,by simp⟩,by omega⟩;rw [List.take_add_one,List.take_add_one,f,k,l]
   have d:(q.1 == o.1&&q.2 == o.2)=false:=A.trans (decide_eq_false e);have m:decide (a=b)=false:=decide_eq_false (fun h=>e (by rw [h,l] at k; exact (Option.some.inj k).symm))
   push_cast [d,m]
  have c:i=a.length:=by
   have:¬i<a.length:=by simpa using u
   omega
  have s:decide (a=b)=true:=decide_eq_true (by rw [c,List.take_length,j,List.take_length] at f; exact f)
  push_cast [s]
 have p:(((a.length:Nat):Int) != (b.length:Int))=true:=by simp; omega
 have s:decide (a=b)=false:=decide_eq_false (fun h=>j (by rw [h]))
 push_cast [dj,a8,zab,p,s,zag]
theorem ati {z:Ei} (c:tis t=true) (d:qp z t.r.toNat):∀p∈el t z,(-1099511627776<=p.1/\p.1<=1099511627776)/\(-1099511627776<=p.2/\p.2<=1099511627776):=fun p g=>by
 have a:=aa5 c;have b:0<=t.z/\t.z<=18/\0<=t.r/\t.r<=12/\0<=t.x/\t.x<2^t.z.toNat/\0<=t.y/\t.y<2^t.z.toNat:=by simpa [tis] using c
 have h:=tz ⟨b.1,b.2.1⟩;obtain ⟨q,f,rfl⟩:=zai.1 g;obtain ⟨i,hi,rfl⟩:=zai.1 f;have:=d i (List.mem_range.1 hi);have e:ya t=2^(30-t.z).toNat:=rfl;rw [zav,zaw,zav,zaw] at a;simp only [shP,e];generalize t.x*2^(30-t.z).toNat=A at *;generalize t.y*2^(30-t.z).toNat=B at *;omega
theorem aw2 (l:List P2) (h:∀p∈l,(-8192<=p.1/\p.1<=8192)/\(-8192<=p.2/\p.2<=8192)) (I:l.length<=100):a9 P0 11 [a8 l] [] (int .i64 (ar2 l l.length)) []:=by
 refine ox.t func11 ?_
 push_cast [ox,a8,zab,zag]
 refine c9 [(4,false),(0,false),(3,false)] (fun vs pos d=>∃i:Nat,i<=l.length/\vs=[int .i64 i,a8 l,int .i64 (ar2 l i)]/\pos=[]/\d=[])
  (fun vs _ _=>match vs with | .r (.v (.int _ a))::_=>(l.length-a).toNat | _=>0) rfl ?_ ?_
 ·push_cast [a8]
  exact ⟨0,by omega,by simp [ar2,mz]⟩
 rintro vs pos d ⟨i,hi,rfl,rfl,rfl⟩
 push_cast [a8,zab]
 refine b8 (fun u=>?_) (fun u=>?_)
 ·have b:i<l.length:=by have:=of_decide_eq_true u; omega
  obtain ⟨p,n⟩:∃p,l[i]?=some p:=⟨l[i],by simp [b]⟩
  obtain ⟨J,k⟩:∃J,(i+1)%l.length=J:=⟨_,rfl⟩
  have w:J<l.length:=by rw [<- k]; exact Nat.mod_lt _ (by omega)
  obtain ⟨q,s⟩:∃q,l[J]?=some q:=⟨l[J],by simp [w]⟩
  have j:=fun z=>yd n z;have g:=fun z=>yd s z;have c:=h p (zax n);have e:=h q (zax s);have H:=ao7 h i
  have x:ar2 l (i+1)=ar2 l i+crQ p q:=by
   show ar2 l i+crQ (l.getD i (0,0)) (l.getD ((i+1)%l.length) (0,0)) = _;rw [k,zak,zak,n,s]
   rfl
  have G:((i:Int)+1).tmod (l.length:Int)=(J:Int):=by rw [Int.tmod_eq_emod_of_nonneg (by omega),<- k,Int.natCast_emod,Int.natCast_add]; rfl
  have o:¬((l.length:Int)=0):=by omega
  have B:IntKind.i64.wrap ((i:Int)+1)=(i:Int)+1:=a5 (by omega);obtain ⟨U,m⟩:∃U,p.1*q.2=U:=⟨_,rfl⟩
  obtain ⟨V,f⟩:∃V,q.1*p.2=V:=⟨_,rfl⟩
  have F:=nn c.1 e.2;have C:=nn e.1 c.2;have hc:crQ p q=U-V:=by rw [<- m,<- f]; rfl
  rw [hc] at x;rw [m] at F;rw [f] at C;generalize ar2 l i=N at *;have y:IntKind.i64.wrap U=U:=a5 (by omega);have E:IntKind.i64.wrap V=V:=a5 (by omega);have D:IntKind.i64.wrap (N+U)=N+U:=a5 (by omega);have A:IntKind.i64.wrap (N+U-V)=N+U-V:=a5 (by omega)
  push_cast [a8,j,g,B,G,o,m,f,y,E,D,A,zab,zaj,Int.toNat_one,zam,zad,Nat.zero_mul,Nat.one_mul,Nat.mul_one,zao,zap,zaq,zar,zad]
  repeat refine And.intro (by first | omega | exact ⟨by omega,by omega⟩ | kernel_rfl | (simp; done) | exact fun a=>by rw [a]; rfl) ?_
  exact ⟨⟨i+1,by omega,by rw [x,Int.add_sub_assoc]; rfl⟩,by omega⟩
 have b:i=l.length:=by have:=of_decide_eq_false u; omega
 subst b
 push_cast
theorem vshapes_t (x y z r:Int) (hx:b7 x) (hy:b7 y) (hz:b7 z) (hr:b7 r):a9 P0 4 [int .i64 x,int .i64 y,int .i64 z,int .i64 r] [] (bl true) []:=by
 refine ir.t func4 ?_
 push_cast [ir,zag]
 refine a7 (au2 x y z r hx hy hz hr) rfl trivial ?_;have hti:=agr x y z r;have hfi:=at5 x y z r;have hF:=ax6 x y z r _ rfl;obtain ⟨t,ht⟩:∃t,ag x y z r=t:=⟨_,rfl⟩
 rw [ht] at hti hfi hF |-;have ho:=amj hti;have hb:0<=t.z/\t.z<=18/\0<=t.r/\t.r<=12/\0<=t.x/\t.x<2^t.z.toNat/\0<=t.y/\t.y<2^t.z.toNat:=by simpa [tis] using hti
 have ax:=abl x hx;have ay:=abl y hy;obtain ⟨X,hX⟩:∃X,x%1073741824=X:=⟨_,rfl⟩
 obtain ⟨Y,hY⟩:∃Y,y%1073741824=Y:=⟨_,rfl⟩
 rw [hX,hY] at hF;rw [hX] at ax;rw [hY] at ay;obtain ⟨Z,hZ⟩:∃Z,g9 X Y t.r.toNat=Z:=⟨_,rfl⟩
 rw [hZ] at hF;have hwd:=amv X Y t.r hF.w ⟨hb.2.2.1,hb.2.2.2.1⟩;rw [amf,hZ] at hwd;have hOk:=ak7 t ho;rw [hti,hfi] at hOk
 have hT:tch Z t.r.toNat (2^(30-t.z).toNat) t.x t.y=true:=by
  have hmem:=hF.own;simp only [ade,vj,List.mem_flatMap,wc,zai,List.mem_filter,mn] at hmem;obtain ⟨k,⟨k1,k2⟩,i,⟨⟨i1,i2⟩,h3⟩,h4⟩:=hmem;cases h4;exact h3
 have hbent:=ac6 hti hfi hT;have hsh:q8 t Z=z7 (ao (3*s8 t) (xw t Z)):=by unfold q8; exact if_pos hT
 have h3:=aio hti hfi hT
 have h10:(q8 t Z).length<=10:=by
  rw [hsh];refine Nat.le_trans (aqs hbent) ?_;have:=(ae2 (lo:=(-192*s8 t,-192*s8 t)) (hi:=(12480*s8 t,12480*s8 t)) (ahy Z t.r.toNat (by omega) (-(3*(t.x*ya t)),-(3*(t.y*ya t)))) 4 (Nat.le_refl _)).2;rw [zab,ahz] at this;rw [ao,zab];exact this
 have hin:=aps t ⟨hb.1,hb.2.1⟩ Z (ati hti hF.h);have hag:qo (q8 t Z)=q8 t Z:=by rw [hsh]; exact alp hbent
 have har:0<ar2 (q8 t Z) (q8 t Z).length:=by
  obtain ⟨f,T,e1,e2⟩:=aoc hbent;rw [hsh,e1,auk];exact e2
 have hs1:=api t hti hfi Z hF.k hF.h;obtain ⟨A,hA⟩:∃A,q8 t Z=A:=⟨_,rfl⟩
 rw [hA] at h3 h10 hin hag har hs1;have hA0:A≠[]:=fun h=>by rw [h] at h3; simp at h3
 have hsm:=aw2 A (fun p hp=>by have:=hin p hp; omega) (by omega);have hhu:=atj A (by omega) hA0 (fun p hp=>by have:=hin p hp; unfold n9; omega) (.inr ⟨by rw [hag]; exact hA0,rfl,rfl⟩);rw [hag] at hhu;have hsr:=ask A A (by omega) (by omega);have tA:List.take A.length (A.map ptR)=A.map ptR:=zbl (by simp);have n0:((0:Int) != 0)=false:=rfl;have d1:decide ((A.length:Int)<3)=false:=decide_eq_false (by omega);have d2:decide ((A.length:Int)>10)=false:=decide_eq_false (by omega);have d3:decide (ar2 A A.length<=0)=false:=decide_eq_false (by omega)
 push_cast [Til.v,ax,ay]
 refine b5 (as':=[t.v]) rfl ?_;refine a7 hOk rfl trivial ?_
 push_cast [n0]
 refine c8 hwd rfl trivial ?_
 push_cast [uw]
 refine j8 (as':=[t.v,uw (af t.r.toNat Z)]) rfl ?_;refine c8 hs1 rfl trivial ?_
 push_cast [j7,pnt,d1,d2,tA]
 refine And.intro (by kernel_rfl) ?_;refine db ?_;refine b5 (as':=[a8 A]) rfl ?_;refine dz hsm rfl trivial trivial (by simp) ?_
 push_cast [j7,pnt,d3,tA]
 refine db ?_;refine b5 (as':=[a8 A]) rfl ?_;refine dz hhu rfl trivial trivial (aam _) ?_
 push_cast [j7,pnt,tA]
 refine db ?_;refine b5 (as':=[a8 A,a8 A]) rfl ?_;refine dz hsr rfl trivial trivial (by simp) ?_
 push_cast [j7,pnt,tA]
 refine c9 [(11,false),(10,false)] (fun vs pos los=>∃i:Nat,i<=A.length/\vs=[int .i64 i,.own 2000000 0 0 A.length]/\pos=[]/\los=[j7 A])
  (fun vs _ _=>match vs with | .r (.v (.int _ a))::_=>(A.length-a).toNat | _=>0) rfl ?_ ?_
 ·push_cast [j7,pnt]
  exact ⟨0,by omega,by simp⟩
 rintro vs pos los ⟨i,hi,rfl,rfl,rfl⟩
 push_cast [j7,pnt,zab]
 refine b8 (fun hd=>?_) (fun hd=>?_)
 ·have hi2:i<A.length:=by have:=of_decide_eq_true hd; omega
  obtain ⟨p,hp⟩:∃p,A[i]?=some p:=⟨A[i],by simp [hi2]⟩
  have hgp:=fun z=>yd hp z;have hpb:=hin p (zax hp);have wi:IntKind.i64.wrap ((i:Int)+1)=(i:Int)+1:=a5 (by omega)
  push_cast [j7,pnt]
  refine c9 [(12,false),(11,false),(10,false)] (fun vs pos los=>∃a:Nat,a<=2/\vs=[int .i64 a,int .i64 i,.own 2000000 0 0 A.length]/\pos=[]/\los=[j7 A])
   (fun vs _ _=>match vs with | .r (.v (.int _ a))::_=>(2-a).toNat | _=>0) rfl ?_ ?_
  ·push_cast [j7,pnt]
   exact ⟨0,by omega,by simp⟩
  rintro vs pos los ⟨a,ha,rfl,rfl,rfl⟩;have d1:decide (p.1 < -64)=false:=decide_eq_false (by omega);have d2:decide (p.1>4160)=false:=decide_eq_false (by omega);have d3:decide (p.2 < -64)=false:=decide_eq_false (by omega);have d4:decide (p.2>4160)=false:=decide_eq_false (by omega);have w1:IntKind.i64.wrap 1=1:=rfl;have w2:IntKind.i64.wrap 2=2:=rfl;rcases (show a=0\/a=1\/a=2 by omega) with rfl | rfl | rfl<;>push_cast [j7,pnt,hgp,d1,d2,d3,d4,w1,w2,wi,zab,zaj,Int.toNat_one,zam,zad,Nat.zero_mul,Nat.one_mul,Nat.mul_one,zao,zap,zaq,zar,zad]
  ·exact ⟨⟨by omega,by omega⟩,⟨by omega,by omega⟩,1,by omega,rfl⟩
  ·exact ⟨⟨by omega,by omega⟩,⟨by omega,by omega⟩,2,by omega,rfl⟩
  exact ⟨⟨i+1,by omega,by simp⟩,by omega⟩
 push_cast [j7,pnt]
 refine a7 ao4 rfl trivial ?_
 push_cast

end
end Go.Ev

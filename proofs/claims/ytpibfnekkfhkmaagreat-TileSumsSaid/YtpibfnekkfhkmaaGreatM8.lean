import Derived.Test.YtpibfnekkfhkmaaGreatChecked
import Derived.WalkKit
import Derived.Test.YtpibfnekkfhkmaaGreatM7
open Nat renaming reduceBEq → zB, reduceEqDiff → zE, reduceAdd → zA, reduceSub → zS, reduceLT → zL, reduceLeDiff → zD, reduceMul → zM
open Go.Proofs.Tryz renaming prog → P0
open Go.Proofs.Tryz
open List renaming getElem?_eq_some_iff → zaa, length_nil → zab, map_nil → zac, length_map → zad, getElem?_take → zaf, getElem?_append_left → zah, append_assoc → zai, mem_map → zaj, mem_of_getElem? → zao, ext_getElem? → zap, getElem?_toArray → zar, getElem?_append_right → zas, mem_iff_getElem? → zau, take_append_drop → zav
open Nat renaming zero_add → zae
open Int renaming le_ediv_iff_mul_le → zak, ediv_lt_iff_lt_mul → zal
open Array renaming getElem?_eq_some_iff → zam
open Option renaming getD_some → zan, isSome_none → zaq, map_eq_some_iff → zat
namespace Go.Ev
set_option maxRecDepth 100000
noncomputable section
open Go
set_option linter.unusedSectionVars false
set_option linter.unnecessarySimpa false
set_option linter.unusedSimpArgs false
set_option linter.unusedVariables false
def a74 (v:Bool) (bs:List Bool):Bool:=((bs.dropWhile (· == v)).dropWhile (· == !v)).all (· == v)
theorem a73 (f:P2→Bool) (l:List P2) (v:Bool) (h:a74 v (l.map f)=true):Uni f l:=by
 refine ⟨v,l.takeWhile (fun p=>f p == v),(l.dropWhile (fun p=>f p == v)).takeWhile (fun p=>f p == !v),(l.dropWhile (fun p=>f p == v)).dropWhile (fun p=>f p == !v),?_,?_,?_,?_⟩
 ·rw [List.takeWhile_append_dropWhile,List.takeWhile_append_dropWhile]
 ·intro a ha;have:=List.all_takeWhile (p:=fun p=>f p == v) (l:=l);have:=List.all_eq_true.1 this a ha;simpa using this
 ·intro a ha;have:=List.all_takeWhile (p:=fun p=>f p == !v) (l:=l.dropWhile (fun p=>f p == v));have:=List.all_eq_true.1 this a ha;simpa using this
 ·intro a ha;unfold a74 at h;rw [List.dropWhile_map,List.dropWhile_map,List.all_map] at h;have:=List.all_eq_true.1 h a ha;simpa using this
theorem azu (a b c X t:Int) (h:b=a+c):a74 (decide (X+a≤t)) [decide (X+a≤t),decide (X+b≤t),decide (X+c≤t),decide (X + -a≤t),decide (X + -b≤t),decide (X + -c≤t)]=true:=by
 subst h
 cases h0:decide (X+a≤t)<;>cases h1:decide (X+(a+c)≤t)<;>cases h2:decide (X+c≤t)<;>cases h3:decide (X + -a≤t)<;>cases h4:decide (X + -(a+c)≤t)<;>cases h5:decide (X + -c≤t) <;>
  first
  | rfl
  | (exfalso; simp only [decide_eq_true_iff,decide_eq_false_iff_not] at h0 h1 h2 h3 h4 h5; omega)
def adg (z:Ei) (r:Nat):List P2:=(List.range 6).map fun i=>(hx z r i,hy z r i)
theorem bhf (z:Ei) (r:Nat):xh z r 6=(adg z r).map ptR:=by
 unfold xh adg;rw [List.map_map]
 rfl
theorem ax3 (z:Ei) (r:Nat):(adg z r).length=6:=by simp [adg]
theorem bg4 (r:Nat) (hr:r≤12):(kx r 1=kx r 0+kx r 2∧kx r 3=-kx r 0∧kx r 4=-kx r 1∧kx r 5=-kx r 2)∧(ky r 1=ky r 0+ky r 2∧ky r 3=-ky r 0∧ky r 4=-ky r 1∧ky r 5=-ky r 2):=by
 have:∀j:Fin 13,(kx j.val 1=kx j.val 0+kx j.val 2∧kx j.val 3=-kx j.val 0∧kx j.val 4=-kx j.val 1∧kx j.val 5=-kx j.val 2)∧(ky j.val 1=ky j.val 0+ky j.val 2∧ky j.val 3=-ky j.val 0∧ky j.val 4=-ky j.val 1∧ky j.val 5=-ky j.val 2):=by decide +kernel
 exact this ⟨r,by omega⟩
theorem ax2 (z:Ei) (r:Nat) (hr:r≤12) (d:P2):aqj ((adg z r).map (shP d)):=fun a c=>by
 obtain ⟨⟨x1,x3,x4,x5⟩,y1,y3,y4,y5⟩:=bg4 r hr;have e:((adg z r).map (shP d)).map (thr a c)=[thr a c (hx z r 0+d.1,hy z r 0+d.2),thr a c (hx z r 1+d.1,hy z r 1+d.2),thr a c (hx z r 2+d.1,hy z r 2+d.2),thr a c (hx z r 3+d.1,hy z r 3+d.2),thr a c (hx z r 4+d.1,hy z r 4+d.2),thr a c (hx z r 5+d.1,hy z r 5+d.2)]:=rfl;refine a73 _ _ (thr a c (hx z r 0+d.1,hy z r 0+d.2)) ?_;rw [e];unfold thr sel;by_cases ha:a=0
 ·simp only [if_pos ha,ao,x3,x4,x5];have:=azu (kx r 0) (kx r 1) (kx r 2) (3*cx z r+d.1) c x1;simp only [show ∀k:Int,3*cx z r+k+d.1=3*cx z r+d.1+k from fun k=>by omega];exact this
 ·simp only [if_neg ha,an,y3,y4,y5];have:=azu (ky r 0) (ky r 1) (ky r 2) (3*cy z r+d.2) c y1;simp only [show ∀k:Int,3*cy z r+k+d.2=3*cy z r+d.2+k from fun k=>by omega];exact this
theorem bg7:a8 P0 220 [c7 [],int .i64 0,int .i64 0,agF] [] (.tup []) []:=by
 refine uz rfl (by simp) ?_
 push_cast [qg,agF,c7,zac,zab]
 refine run_loop [(0,false),(1,false),(2,false),(3,false),(8,false)] (fun vs pos los=>vs=[c7 [],int .i64 0,int .i64 0,agF,int .i64 1]∧pos=[]∧los=[]) (fun _ _ _=>0) rfl ?_ ?_
 ·push_cast [agF,pnt,c7,zac]
  rfl
 ·rintro vs pos los ⟨rfl,rfl,rfl⟩;have z0:decide ((1:Int)<0)=false:=rfl
  push_cast [agF,pnt,c7,zac,z0]
theorem bgg (lim:Int):a8 P0 183 [c7 [],int .i64 0,int .i64 0,int .i64 lim,agF] [] (.tup []) []:=by
 refine vw rfl (by simp) ?_;simp only [rf,agF,pnt,c7,push_cast,↓reduceIte,reduceCtorEq,zB,zE,zA,zS,zL,zD,zM];refine run_loop [(0,false),(1,false),(2,false),(3,false),(4,false),(10,false),(11,false)] (fun vs pos los=>vs=[c7 [],int .i64 0,int .i64 0,int .i64 lim,agF,bl true,bl true]∧pos=[]∧los=[]) (fun _ _ _=>0) rfl ?_ ?_
 ·simp only [agF,pnt,c7,push_cast,↓reduceIte,reduceCtorEq,zB,zE,zA,zS,zL,zD,zM]
 ·rintro vs pos los ⟨rfl,rfl,rfl⟩;have w0:IntKind.i64.wrap ((0:Int)-0)=0:=rfl;have d0:decide ((0:Int)≤12)=true:=rfl;simp only [agF,pnt,c7,w0,d0,push_cast,↓reduceIte,reduceCtorEq,zB,zE,zA,zS,zL,zD,zM];refine b7 (as':=[c7 [],int .i64 0,int .i64 0,agF]) rfl ?_;refine a7 bg7 rfl trivial ?_;simp only [push_cast,↓reduceIte,reduceCtorEq,zB,zE,zA,zS,zL,zD,zM]
theorem bfr:a8 P0 129 [c7 [],agF] [] (.tup []) []:=by
 refine vq rfl (by simp) ?_;have w:IntKind.u64.wrap 0=0:=rfl;have h:=a6d 0 (by decide)
 push_cast [qw,agF,pnt,c7,zac,w,zab]
 refine b7 (as':=[int .u64 ((0:Nat):Int)]) rfl ?_;refine a7 h rfl trivial ?_
 push_cast
 refine b7 (as':=[c7 [],int .i64 0,int .i64 0,int .i64 (a3i 0),agF]) rfl ?_;refine a7 (bgg _) rfl trivial ?_
 push_cast
theorem bhv:a8 P0 131 [c7 []] [] (c7 []) []:=by
 refine vy rfl (by simp) ?_;have z0:decide ((0:Int)<2)=true:=rfl
 push_cast [rr,pnt,c7,z0,zac,zab]
theorem bhb:a8 P0 77 [c7 []] [] (.nils 2 (pnt 0 0)) []:=by
 refine aio rfl (by decide) ?_;have hok:=bbr [] (by simp) (fun p hp=>by simp at hp)
 push_cast [ajv,c7,zac,zab]
 refine b7 (as':=[c7 []]) rfl ?_;refine a7 hok rfl trivial ?_
 push_cast [zad]
 refine run_loop [(12,false),(10,false),(11,false),(3,false)] (fun vs pos los=>vs=[int .i64 0,c7 [],int .i64 0,.nils 2 (pnt 0 0)]∧pos=[]∧los=[]) (fun _ _ _=>0) rfl ?_ ?_
 ·push_cast [c7,pnt,zac]
  try rfl
 ·rintro vs pos los ⟨rfl,rfl,rfl⟩;have z0:decide ((0:Int)<0)=false:=rfl
  push_cast [c7,pnt,z0,zac]
  refine b7 (as':=[c7 [],agF]) rfl ?_;refine a7 bfr rfl trivial ?_
  push_cast [pnt]
  refine b7 (as':=[c7 []]) rfl ?_;refine a7 bhv rfl trivial ?_;have z1:decide ((0:Int)<3)=true:=rfl
  push_cast [pnt,c7,z1,zac,zab]

def akd:Mk P0 f39:={ x:=_ }
theorem anm:d5 39 2 akd:=c8 func39
theorem agz {l:Lin} (hl:l.ok) {rg:List P2} {p:P2} (h:p∈x6 l rg):p9 l p=true:=by
 cases rg with
 | nil=>simp [x6,z9] at h
 | cons a r=>
  rw [ab8 l hl (a::r) a rfl] at h;exact (List.mem_filter.1 h).2
theorem a1b (lo hi:P2) {a b:P2} {rg:List P2} (h:xo a b rg):xo lo hi (xm lo hi rg):=by
 have e:xm lo hi rg=x6 ⟨1,hi.2,false⟩ (x6 ⟨1,lo.2,true⟩ (x6 ⟨0,hi.1,false⟩ (x6 ⟨0,lo.1,true⟩ rg))):=rfl
 have h1:xo (lo.1,a.2) (b.1,b.2) (x6 ⟨0,lo.1,true⟩ rg):=fun p hp=>by
  have k:=agz (l:=⟨0,lo.1,true⟩) (.inl rfl) hp;have i:=aiu (l:=⟨0,lo.1,true⟩) (.inl rfl) h p hp;simp [p9,sel] at k;simp only;omega
 have h2:xo (lo.1,a.2) (hi.1,b.2) (x6 ⟨0,hi.1,false⟩ (x6 ⟨0,lo.1,true⟩ rg)):=fun p hp=>by
  have k:=agz (l:=⟨0,hi.1,false⟩) (.inl rfl) hp;have i:=aiu (l:=⟨0,hi.1,false⟩) (.inl rfl) h1 p hp;simp [p9,sel] at k;simp only at i ⊢;omega
 have h3:xo (lo.1,lo.2) (hi.1,b.2) (x6 ⟨1,lo.2,true⟩ (x6 ⟨0,hi.1,false⟩ (x6 ⟨0,lo.1,true⟩ rg))):=fun p hp=>by
  have k:=agz (l:=⟨1,lo.2,true⟩) (.inr rfl) hp;have i:=aiu (l:=⟨1,lo.2,true⟩) (.inr rfl) h2 p hp;simp [p9,sel] at k;simp only at i ⊢;omega
 rw [e];intro p hp;have k:=agz (l:=⟨1,hi.2,false⟩) (.inr rfl) hp;have i:=aiu (l:=⟨1,hi.2,false⟩) (.inr rfl) h3 p hp;simp [p9,sel] at k;simp only at i ⊢;omega
def bo (t:Til):Int:=2^(18-t.z).toNat
def ajd (t:Til):Int:=2^(30-t.z).toNat
def nu (t:Til) (z:Ei):List P2:=(adg z t.r.toNat).map (shP (-(3*(t.x*ajd t)),-(3*(t.y*ajd t))))
def ag7 (t:Til) (z:Ei):List P2:=xm (-192*bo t,-192*bo t) (12480*bo t,12480*bo t) (nu t z)
def aa (t:Til) (z:Ei):List P2:=if tch z t.r.toNat (2^(30-t.z).toNat) t.x t.y=true then oc (gh (3*bo t) (ag7 t z)) else []
set_option maxHeartbeats 1000000 in
theorem awe (t:Til) (h:tis t=true) (hf:fine t=false) (z:Ei) (hk:okc t.r.toNat z) (hz:z.In 1073741824) (hb:zq z t.r.toNat) {res:AV} {ro:List Ob}
  (hres:(aa t z=[]∧res=.nils 2 (pnt 0 0)∧ro=[])∨(aa t z≠[]∧res=.own 1000000 0 0 (aa t z).length∧ro=[u5 (aa t z)])) :
  a8 P0 39 [t.v,uw (x8 t.r.toNat z)] [] res ro:=by
 refine anm rfl (by decide) ?_;have hr:0≤t.z∧t.z≤18∧0≤t.r∧t.r≤12∧0≤t.x∧t.x<2^t.z.toNat∧0≤t.y∧t.y<2^t.z.toNat:=by simpa [tis] using h
 have ho:=a37 h;have hOk:=bgk t ho;rw [h,hf] at hOk;obtain ⟨w1,w2,w3,w4⟩:=xp t.r.toNat z hk;have hic:=aty (x8 t.r.toNat z) w4 w1;rw [w2,w3,Int.toNat_of_nonneg hr.2.2.1] at hic;have e1:(t.r == t.r)=true:=by simp
 have htc:=a1k t h z t.r hr.2.2.1 hk hb
 push_cast [akd,Til.v,uw,zab]
 refine b7 (as':=[uw (x8 t.r.toNat z)]) rfl ?_;refine a7 hic rfl trivial ?_
 push_cast [cel]
 refine b7 (as':=[t.v]) rfl ?_;refine a7 hOk rfl trivial ?_;have n0:((0:Int) != 0)=false:=rfl;have n1:(t.r != t.r)=false:=by simp
 push_cast [n0,n1]
 refine b7 (as':=[t.v,cel t.r z]) rfl ?_;refine a7 htc rfl trivial ?_
 push_cast
 cases hT:tch z t.r.toNat (2^(30-t.z).toNat) t.x t.y with
 | false=>
  have hN:aa t z=[]:=by
   unfold aa;rw [hT];exact if_neg (by decide)
  rcases hres with ⟨_,rfl,rfl⟩ | ⟨h,_⟩
  ·push_cast [pnt]
  ·exact absurd hN h
 | true=>
  have hN:aa t z=oc (gh (3*bo t) (ag7 t z)):=by
   unfold aa;rw [hT];exact if_pos rfl
  rw [hN] at hres
  push_cast
  refine b7 (as':=[z.v,int .i64 t.r]) rfl ?_;refine a7 (bbs z t.r hz ⟨hr.2.2.1,hr.2.2.2.1⟩) rfl trivial ?_
  push_cast [pnt]
  refine b7 (as':=[t.v]) rfl ?_;refine a7 (aw9 t h) rfl trivial ?_;rw [bhf]
  push_cast [pnt]
  have hin:=aib h;have hsd:=xy ⟨hr.1,hr.2.1⟩;obtain ⟨X0,hX0⟩:∃X0,t.x*2^(30-t.z).toNat=X0:=⟨_,rfl⟩
  obtain ⟨Y0,hY0⟩:∃Y0,t.y*2^(30-t.z).toNat=Y0:=⟨_,rfl⟩
  obtain ⟨S0,hS0⟩:∃S0:Int,2^(30-t.z).toNat=S0:=⟨_,rfl⟩
  rw [Int.add_mul,Int.one_mul,Int.add_mul,Int.one_mul] at hin;rw [hX0,hY0,hS0] at hin;rw [hS0] at hsd;have hRP:nu t z=(adg z t.r.toNat).map (shP (-(3*X0),-(3*Y0))):=by unfold nu ajd; rw [hX0,hY0]
  obtain ⟨R,hR⟩:∃R,adg z t.r.toNat=R:=⟨_,rfl⟩
  have hRl:R.length=6:=by rw [← hR,ax3]
  have hRb:∀p∈R,(-4294967296≤p.1∧p.1≤4294967296)∧(-4294967296≤p.2∧p.2≤4294967296):=fun p hp=>by
   rw [← hR] at hp;obtain ⟨i,hi,rfl⟩:=zaj.1 hp;exact hb i (List.mem_range.1 hi)
  rw [hX0,hY0,hS0,hR];rw [hR] at hRP;obtain ⟨d,hd⟩:∃d:P2,(-(3*X0),-(3*Y0))=d:=⟨_,rfl⟩
  rw [hd] at hRP
  refine run_loop [(55,false),(54,false),(7,false),(9,false),(10,false),(2,false)] (fun vs pos los=>∃i:Nat,i≤6∧vs=[int .i64 i,int .i64 6,.own 2000000 0 0 6,int .i64 X0,int .i64 Y0,.ptr 2000001 0 0]∧pos=[]∧los=[u5 ((R.take i).map (shP d)++R.drop i),.box [int .i64 t.z,int .i64 t.x,int .i64 t.y,int .i64 t.r]])
   (fun vs _ _=>match vs with | .r (.v (.int _ a))::_=>(6-a).toNat | _=>0) rfl ?_ ?_
  ·push_cast [u5,pnt]
   exact ⟨0,by omega,rfl,by simp⟩
  ·rintro vs pos los ⟨i,hi,rfl,rfl,rfl⟩
   push_cast [u5,pnt]
   refine b9 (fun hd6=>?_) (fun hd6=>?_)
   ·have hi2:i<6:=by have:=of_decide_eq_true hd6; omega
    obtain ⟨p,hp⟩:∃p,R[i]'(by omega)=p:=⟨_,rfl⟩
    have hpb:=hRb p (hp▸List.getElem_mem _);have wi:IntKind.i64.wrap ((i:Int)+1)=(i:Int)+1:=a5 (by omega);have hdr:R.drop i=p::R.drop (i+1):=by rw [List.drop_eq_getElem_cons (by omega),hp]
    have htk:(R.take (i+1)).map (shP d)=(R.take i).map (shP d)++[shP d p]:=by rw [List.take_succ_eq_append_getElem (by omega),hp,List.map_append]; rfl
    obtain ⟨A,hA⟩:∃A,(R.take i).map (shP d)=A:=⟨_,rfl⟩
    have hAl:A.length=i:=by rw [← hA]; simp; omega
    obtain ⟨T,hT⟩:∃T,R.drop (i+1)=T:=⟨_,rfl⟩
    rw [hdr,hA,hT]
    have hg:∀q:P2,∀z,((A++q::T).map ptR).getD i z=.agg [.v (.int .i64 q.1),.v (.int .i64 q.2)]:=fun q z=>by
     rw [← hAl]; exact ab4 A T q z
    have hs:∀(q:P2) (a b:Int),((A++q::T).map ptR).set i (.agg [.v (.int .i64 a),.v (.int .i64 b)])=(A++(a,b)::T).map ptR:=fun q a b=>by
     rw [show (RV.agg [.v (.int .i64 a),.v (.int .i64 b)])=ptR (a,b) from rfl,← List.map_set,← hAl];congr 1;simp
    have m1:IntKind.i64.wrap (3*X0)=3*X0:=a5 (by omega);have m2:IntKind.i64.wrap (3*Y0)=3*Y0:=a5 (by omega);have m3:IntKind.i64.wrap (p.1-3*X0)=p.1-3*X0:=a5 (by omega);have m4:IntKind.i64.wrap (p.2-3*Y0)=p.2-3*Y0:=a5 (by omega)
    push_cast [u5,pnt,hg,hs,m1,m2,m3,m4,wi,d7,Int.toNat_zero,Int.reduceToNat,zae,Nat.zero_mul,Nat.mul_one,List.getD_cons_zero,List.getD_cons_succ,List.set_cons_zero,List.set_cons_succ,Int.toNat_natCast,Int.toNat_natCast_add_one,zae]
    repeat refine And.intro (by first | exact ⟨by omega,by omega⟩ | kernel_rfl) ?_
    refine ⟨⟨i+1,by omega,by simp,?_⟩,by omega⟩;rw [htk,hA,hT,← hd];simp [u5,pnt,shP,Int.sub_eq_add_neg]
   ·have hi2:i=6:=by have:=of_decide_eq_false hd6; omega
    subst hi2
    have hfin:(R.take 6).map (shP d)++R.drop 6=nu t z:=by
     rw [hRP,List.take_of_length_le (by omega),List.drop_of_length_le (by omega),List.append_nil]
    rw [hfin];have hut:=a34 t hr.1 hr.2.1
    have hu1:1≤bo t∧bo t≤262144:=by
     have h1:2^(18-t.z).toNat≤2^18:=Nat.pow_le_pow_right (by decide) (by omega);have h3:((2^(18-t.z).toNat:Nat):Int)=(2:Int)^(18-t.z).toNat:=by simp
     have h4:0<2^(18-t.z).toNat:=Nat.pow_pos (by decide);unfold bo;omega
    push_cast
    refine b7 (as':=[t.v]) rfl ?_;refine a7 hut rfl trivial ?_;rw [show (2:Int)^(18-t.z).toNat=bo t from rfl];obtain ⟨U,hU⟩:∃U,bo t=U:=⟨_,rfl⟩
    rw [hU] at hu1 hres ⊢;have m1:IntKind.i64.wrap (-192*U)=-192*U:=a5 (by omega);have m2:IntKind.i64.wrap (12480*U)=12480*U:=a5 (by omega);have m3:IntKind.i64.wrap (3*U)=3*U:=a5 (by omega)
    push_cast [u5,pnt,m1,m2,m3]
    have hk0:=axv t.r.toNat 0 (by omega) (by decide);have hb0:=hb 0 (by decide);rw [ao,an] at hb0
    have hRI:xo (3*cx z t.r.toNat-100000000-3*X0,3*cy z t.r.toNat-100000000-3*Y0) (3*cx z t.r.toNat+100000000-3*X0,3*cy z t.r.toNat+100000000-3*Y0) (nu t z):=fun p hp=>by
     rw [hRP,← hR,← hd] at hp;obtain ⟨q,hq,rfl⟩:=zaj.1 hp;obtain ⟨i,hi,rfl⟩:=zaj.1 hq;have hk:=axv t.r.toNat i (by omega) (List.mem_range.1 hi);simp only [shP,ao,an];omega
    have hRL:(nu t z).length=6:=by rw [hRP]; simp [hRl]
    have hHu:aqj (nu t z):=by rw [hRP,← hR]; exact ax2 z _ (by omega) d
    obtain ⟨c1,c2,c3⟩:=bie (-192*U,-192*U) (12480*U,12480*U) (by simp only; omega) (by simp only; omega) hRI (by omega) (by simp only; omega) (by simp only; omega);have c4:=a1b (-192*U,-192*U) (12480*U,12480*U) hRI
    have c5:(xm (-192*U,-192*U) (12480*U,12480*U) (nu t z)).length≤10:=by
     have:=(auc (lo:=(-192*U,-192*U)) (hi:=(12480*U,12480*U)) hHu 4 (Nat.le_refl _)).2;rw [hRL] at this;exact this
    have hW:ag7 t z=xm (-192*U,-192*U) (12480*U,12480*U) (nu t z):=by unfold ag7; rw [hU]
    rw [← hW] at c1 c2 c3 c4 c5;obtain ⟨W,hW2⟩:∃W,ag7 t z=W:=⟨_,rfl⟩
    rw [hW2] at c1 c2 c3 c4 c5 hres;have htk6:List.take 6 ((nu t z).map ptR)=(nu t z).map ptR:=List.take_of_length_le (by simp [hRL]);refine l9 ?_;rw [htk6]
    push_cast [pnt]
    refine b7 (as':=[c7 (nu t z),pv2 (-192*U,-192*U),pv2 (12480*U,12480*U)]) rfl ?_;refine a7 c1 rfl trivial ?_
    push_cast [u5,pnt,m3]
    refine l9 ?_
    try rw [o7]
    push_cast [pnt]
    refine b7 (as':=[c7 W,int .i64 (3*U)]) rfl ?_;by_cases hWe:W=[]
    ·refine a7 (cfloor_r (3*U) (by omega) W c3 (.inl ⟨hWe,rfl,rfl⟩)) rfl trivial ?_
     push_cast [pnt]
     refine b7 (as':=[c7 []]) rfl ?_;refine a7 bhb rfl trivial ?_;have h0:oc (gh (3*U) W)=[]:=by rw [hWe]; rfl
     rw [h0] at hres;rcases hres with ⟨_,rfl,rfl⟩ | ⟨h,_⟩
     ·push_cast [pnt]
     ·exact absurd rfl h
    ·refine a7 (cfloor_r (3*U) (by omega) W c3 (.inr ⟨hWe,rfl,rfl⟩)) rfl trivial ?_
     push_cast [u5,pnt]
     refine l9 ?_
     try rw [o7]
     push_cast [pnt]
     refine b7 (as':=[c7 (gh (3*U) W)]) rfl ?_;have hFl:(gh (3*U) W).length=W.length:=by simp [gh]
     have hWl:1≤W.length:=by
      cases W with
      | nil=>exact absurd rfl hWe
      | cons a r=>simp
     have hFn:∀p∈gh (3*U) W,near29 p:=fun p hp=>by
      obtain ⟨q,hq,rfl⟩:=zaj.1 hp;have:=c4 q hq;simp only at this;have e1:-64≤q.1/(3*U):=(zak (by omega)).2 (by omega);have e2:q.1/(3*U)<4161:=(zal (by omega)).2 (by omega);have e3:-64≤q.2/(3*U):=(zak (by omega)).2 (by omega);have e4:q.2/(3*U)<4161:=(zal (by omega)).2 (by omega);unfold near29;simp only;omega
     rcases hres with ⟨a,rfl,rfl⟩ | ⟨a,rfl,rfl⟩
     ·refine a7 (hull_t (gh (3*U) W) (by omega) hFn (.inl ⟨a,rfl,rfl⟩)) rfl trivial ?_
      push_cast [u5,pnt]
     ·refine a7 (hull_t (gh (3*U) W) (by omega) hFn (.inr ⟨a,rfl,rfl⟩)) rfl trivial ?_
      push_cast [u5,pnt]
theorem awf (t:Til) (h:tis t=true) (hf:fine t=false) (z:Ei) (hk:okc t.r.toNat z) (hb:zq z t.r.toNat) :
  a8 P0 39 [t.v,uw (x8 t.r.toNat z)] [] (.own 1000000 0 0 (aa t z).length) [u5 (aa t z)]:=by
 by_cases h0:aa t z=[]
 ·have:=atr (awe t h hf z hk hk.2.1 hb (.inl ⟨h0,rfl,rfl⟩));rw [h0];exact this
 ·exact awe t h hf z hk hk.2.1 hb (.inr ⟨h0,rfl,rfl⟩)
theorem a9u (rg:List P2):(oc rg).length≤2*rg.length:=by
 have h1:=amn (y7 rg);rw [ach] at h1;have h2:=ae0 (cd (y7 rg));have h3:=ae0 (cd (y7 rg)).reverse;rw [List.length_reverse] at h3;have h4:=aek (cd (y7 rg));have h5:=aek (cd (y7 rg)).reverse;unfold oc;split
 ·simp
 ·split
  ·simp
  ·rw [List.length_append]; omega
theorem aup (t:Til) (hr:t.r≤12) (z:Ei):(aa t z).length≤20:=by
 unfold aa;split
 ·refine Nat.le_trans (a9u _) ?_
  have h1:(ag7 t z).length≤10:=by
   have:=(auc (lo:=(-192*bo t,-192*bo t)) (hi:=(12480*bo t,12480*bo t)) (ax2 z t.r.toNat (by omega) (-(3*(t.x*ajd t)),-(3*(t.y*ajd t)))) 4 (Nat.le_refl _)).2;rw [zad,ax3] at this;exact this
  have:(gh (3*bo t) (ag7 t z)).length=(ag7 t z).length:=by simp [gh]
  omega
 ·simp
theorem a6b {rg:List P2} {q:P2} (h:q∈oc rg):q∈rg:=by
 have hc:∀l:List P2,q∈bj l→q∈l:=fun l hq=>awn l (by
  unfold bj at hq
  first
  | exact List.mem_of_mem_tail (by simpa using hq)
  | exact List.mem_of_mem_dropLast (by simpa using hq)
  | (simp at hq; exact List.mem_of_mem_tail hq))
 unfold oc at h;split at h
 ·simp at h
 ·split at h
  ·simp at h
  ·rcases List.mem_append.1 h with h | h
   ·exact alg (amm (hc _ h))
   ·exact alg (amm (List.mem_reverse.1 (hc _ h)))
theorem a8e (t:Til) (h:0≤t.z∧t.z≤18) (z:Ei) (hb:∀p∈nu t z,(-1099511627776≤p.1∧p.1≤1099511627776)∧(-1099511627776≤p.2∧p.2≤1099511627776)):∀p∈aa t z,(-64≤p.1∧p.1≤4160)∧(-64≤p.2∧p.2≤4160):=fun p hp=>by
 have hu1:1≤bo t:=by
  have h3:((2^(18-t.z).toNat:Nat):Int)=(2:Int)^(18-t.z).toNat:=by simp
  have h4:0<2^(18-t.z).toNat:=Nat.pow_pos (by decide);unfold bo;omega
 unfold aa at hp;split at hp
 ·have hp2:=a6b hp;obtain ⟨q,hq,rfl⟩:=zaj.1 hp2;have hw:=a1b (a:=(-1099511627776,-1099511627776)) (b:=(1099511627776,1099511627776)) (-192*bo t,-192*bo t) (12480*bo t,12480*bo t) hb q hq;simp only at hw;generalize bo t=U at *;have e1:-64≤q.1/(3*U):=(zak (by omega)).2 (by omega);have e2:q.1/(3*U)<4161:=(zal (by omega)).2 (by omega);have e3:-64≤q.2/(3*U):=(zak (by omega)).2 (by omega);have e4:q.2/(3*U)<4161:=(zal (by omega)).2 (by omega);simp only;omega
 ·simp at hp

def ak7:Mk P0 f156:={ x:=_ }
theorem ao4:d5 156 2 ak7:=c8 func156
def aic:Mk P0 f157:={ x:=_ }
theorem alf:d5 157 2 aic:=c8 func157
def ah7:Mk P0 f159:={ x:=_ }
theorem ak6:d5 159 3 ah7:=c8 func159
def ak5:Mk P0 f112:={ x:=_ }
theorem ao3:d5 112 2 ak5:=c8 func112
structure Ky where
 c:Int
 v:Int
 d:Int
deriving DecidableEq
def Ky.rv (k:Ky):RV:=.agg [.v (.int .u64 k.c),.v (.int .i64 k.v),.v (.int .i64 k.d)]
def Ky.av (k:Ky):AV:=.r k.rv
def kl (a b:Ky):Bool:=if a.c≠b.c then decide (a.c<b.c) else if a.v≠b.v then decide (a.v<b.v) else decide (a.d<b.d)
theorem axt (a b:Ky):a8 P0 156 [a.av,b.av] [] (bl (kl a b)) []:=by
 refine ao4 rfl (by decide) ?_
 push_cast [ak7,Ky.av,Ky.rv,kl,zab]
 refine b9 (fun h1=>?_) (fun h1=>?_)
 ·push_cast
  simp at h1;refine fo ?_;simp [h1]
 ·push_cast
  simp at h1;refine b9 (fun h2=>?_) (fun h2=>?_)
  ·push_cast
   simp at h2;refine fo ?_;simp [h1,h2]
  ·push_cast
   simp at h2;refine fo ?_;simp [h1,h2]

theorem aws (F:FuncId) (A B:List AV) (hA:m0 A=[]) (hB:m0 B=[]) (hfn:zp P0 F=true) (p:Nat→Bool) (n r:Nat) (hn:n≤maxLen) (hr:r≤n)
  (h0:∀i,i<r→p i=false) (h1:∀i,r≤i→i<n→p i=true)
  (hF:∀i:Nat,i<n→a8 P0 F [int .i64 i,.ptr 1000000 0 0,.ptr 1000001 0 0] [.box A,.box B] (bl (p i)) [.box A,.box B]) :
  a8 P0 157 [int .i64 n,.fn (.func F) [.ptr 1000000 0 0,.ptr 1000001 0 0] 0] [.box A,.box B] (int .i64 r) [.box A,.box B]:=by
 refine alf rfl (by simp) ?_;simp only [aic,push_cast,↓reduceIte,reduceCtorEq,zB,zE,zA,zS,zL,zD,zM];have hmax:=k7;have iA:∀F,imL F A=A:=fun F=>rl F A hA;have iB:∀F,imL F B=B:=fun F=>rl F B hB
 refine run_loop [(1,false),(5,false),(6,false)] (fun vs pos los=>∃(lo hi:Int),0≤lo∧lo≤r∧(r:Int)≤hi∧hi≤n ∧
  vs=[.fn (.func F) [.ptr 1000000 0 0,.ptr 1000001 0 0] 0,int .i64 lo,int .i64 hi]∧pos=[.box A,.box B]∧los=[])
  (fun vs _ _=>match vs with | [_,.r (.v (.int _ a)),.r (.v (.int _ b))]=>(b-a).toNat | _=>0) rfl ?_ ?_
 ·simp only [hA,hB,iA,iB,hfn,push_cast,↓reduceIte,reduceCtorEq,zB,zE,zA,zS,zL,zD,zM];refine ⟨0,n,by omega,by omega,by omega,by omega,?_⟩;simp
 ·rintro vs pos los ⟨lo,hi,l0,lr,rh,hn',rfl,rfl,rfl⟩;simp only [hA,hB,iA,iB,hfn,push_cast,↓reduceIte,reduceCtorEq,zB,zE,zA,zS,zL,zD,zM];refine b9 (fun h=>?_) (fun h=>?_)
  ·simp only [hA,hB,iA,iB,hfn,push_cast,↓reduceIte,reduceCtorEq,zB,zE,zA,zS,zL,zD,zM];have hlt:lo<hi:=by simpa using h
   have hmx:(n:Int)≤9223372036854775807:=by have:=hn; simp only [maxLen] at this; omega
   have hw2:IntKind.u64.wrap (IntKind.i64.wrap (lo+hi))=lo+hi:=by rw [IntKind.wrap_i64,IntKind.wrap_u64]; omega
   have hs:(lo+hi).fdiv (2^min (Int.toNat 1) IntKind.u64.bits)=(lo+hi)/2:=avx (lo+hi) 1 (by decide);have hw3:IntKind.i64.wrap ((lo+hi)/2)=(lo+hi)/2:=a5 ⟨by omega,by omega⟩;obtain ⟨M,hM⟩:∃M:Nat,(lo+hi)/2=M:=⟨((lo+hi)/2).toNat,by omega⟩
   rw [hM] at hw3;simp only [hw2,hs,hM,hw3];refine ⟨by decide,a7 (hF M (by omega)) rfl ⟨rfl,rfl,trivial⟩ ?_⟩;simp only [hA,hB,iA,iB,hfn,push_cast,↓reduceIte,reduceCtorEq,zB,zE,zA,zS,zL,zD,zM];have hw4:IntKind.i64.wrap ((M:Int)+1)=M+1:=a5 ⟨by omega,by omega⟩;refine b9 (fun h2=>?_) (fun h2=>?_)
   ·simp only [hA,hB,iA,iB,hfn,hw4,push_cast,↓reduceIte,reduceCtorEq,zB,zE,zA,zS,zL,zD,zM];have hp:p M=false:=by simpa using h2
    have hMr:M<r:=Nat.lt_of_not_le fun hle=>by rw [h1 M hle (by omega)] at hp; cases hp
    refine ⟨⟨M+1,hi,by omega,by omega,by omega,by omega,?_⟩,by omega⟩;simp
   ·simp only [hA,hB,iA,iB,hfn,push_cast,↓reduceIte,reduceCtorEq,zB,zE,zA,zS,zL,zD,zM];have hp:p M=true:=by simpa using h2
    have hMr:r≤M:=Nat.le_of_not_lt fun hlt=>by rw [h0 M hlt] at hp; cases hp
    refine ⟨⟨lo,M,by omega,by omega,by omega,by omega,?_⟩,by omega⟩;simp
  ·simp only [hA,hB,iA,iB,hfn,push_cast,↓reduceIte,reduceCtorEq,zB,zE,zA,zS,zL,zD,zM];have hlt:¬lo<hi:=by simpa using h
   have e:lo=r:=by omega
   rw [e]

def bi (l:List Ky):RV:=.sl 3 (l.map Ky.rv)
def Ky.cs (k:Ky):List AV:=[int .u64 k.c,int .i64 k.v,int .i64 k.d]
theorem bea (l:List Ky) (k q:Ky) (i:Nat) (hi:i<l.length) (hq:l[i]?=some q) (hl:l.length≤maxLen):a8 P0 159 [int .i64 i,.ptr 1000000 0 0,.ptr 1000001 0 0] [.box [.r (bi l)],.box k.cs]
  (bl (!kl q k)) [.box [.r (bi l)],.box k.cs]:=by
 refine ak6 rfl (by simp) ?_
 have hg:(l.map Ky.rv).getD ((i:Int)).toNat (.agg [.v (.int .u64 0),.v (.int .i64 0),.v (.int .i64 0)])=.agg [.v (.int .u64 q.c),.v (.int .i64 q.v),.v (.int .i64 q.d)]:=by
  simp [List.getD,hq,Ky.rv]
 push_cast [ah7,bi,Ky.cs,zab,zad,hg]
 refine And.intro ⟨by omega,by omega⟩ ?_;refine d9 (axt q k) rfl trivial ?_
 push_cast
 kernel_rfl
structure Plc (l:List Ky) (k:Ky) (r:Nat):Prop where
 le:r≤l.length
 lo:∀(i:Nat) (q:Ky),i<r→l[i]?=some q→kl q k=true
 hi:∀(i:Nat) (q:Ky),r≤i→l[i]?=some q→kl q k=false
theorem bho (l:List Ky) (k:Ky) (r:Nat) (hp:Plc l k r) (hl:l.length≤maxLen):a8 P0 112 [.r (bi l),k.av] []
  (.tup [int .i64 r,bl (decide (l[r]?=some k))]) []:=by
 refine ao3 rfl (by decide) ?_
 have hF:∀i:Nat,i<l.length→a8 P0 159 [int .i64 i,.ptr 1000000 0 0,.ptr 1000001 0 0] [.box [.r (bi l)],.box k.cs] (bl ((fun i=>match l[i]? with | some q=>!kl q k | none=>true) i)) [.box [.r (bi l)],.box k.cs]:=fun i hi=>by
  have hq:l[i]?=some l[i]:=by simp [hi]
  simp only [hq];exact bea l k _ i hi hq hl
 have hS:=aws 159 [.r (bi l)] k.cs rfl rfl rfl (fun i=>match l[i]? with | some q=>!kl q k | none=>true) l.length r hl hp.le (fun i hi=>by
  have hq:l[i]?=some (l[i]'(by have:=hp.le; omega)):=by simp [show i<l.length by have:=hp.le; omega]
  simp only [hq,hp.lo i _ hi hq]; rfl) (fun i hi hn=>by
  have hq:l[i]?=some l[i]:=by simp [hn]
  simp only [hq,hp.hi i _ hi hq]; rfl) hF
 push_cast [ak5,bi,Ky.av,Ky.rv,zab,zad]
 refine a7 hS rfl ⟨rfl,rfl,trivial⟩ ?_;obtain ⟨q,hqd⟩:∃q:Ky,q=(l[r]?).getD ⟨0,0,0⟩:=⟨_,rfl⟩
 have hg:(l.map Ky.rv).getD ((r:Int)).toNat (.agg [.v (.int .u64 0),.v (.int .i64 0),.v (.int .i64 0)])=.agg [.v (.int .u64 q.c),.v (.int .i64 q.v),.v (.int .i64 q.d)]:=by
  rw [hqd];rcases hr:l[r]? with _ | q0<;>simp [List.getD,hr,Ky.rv]
 push_cast [bi,Ky.cs,zad,hg]
 refine ⟨fun h=>⟨by omega,by simpa using h⟩,by kernel_rfl,?_⟩;congr 4;rcases hr:l[r]? with _ | q0
 ·have:¬r<l.length:=fun h=>by simp [h] at hr
  simp [this]
 ·have h1:=(zaa.1 hr).1;have h2:q=q0:=by rw [hqd,hr]; rfl
  subst h2;simp [h1];cases q; cases k;simp
  rfl

def aaq:Mk P0 f158:={ x:=_ }
theorem afv:d5 158 3 aaq:=c8 func158
def adn:Mk P0 f111:={ x:=_ }
theorem ah8:d5 111 2 adn:=c8 func111
def y6 (ns:List (List Ky)) (n:Int):List RV:=[.sl 1 (ns.map bi),.v (.int .i64 n)]
theorem bdt (ns:List (List Ky)) (n:Int) (k q:Ky) (x:List Ky) (i:Nat) (hi:i<ns.length) (hx:ns[i]?=some (q::x)) (hl:ns.length≤maxLen) (hl2:(q::x).length≤maxLen) :
  a8 P0 158 [int .i64 i,.ptr 1000000 0 0,.ptr 1000001 0 0] [.box k.cs,.box [.rp (y6 ns n)]] (bl (kl k q)) [.box k.cs,.box [.rp (y6 ns n)]]:=by
 refine afv rfl (by simp) ?_
 have hg:(ns.map bi).getD ((i:Int)).toNat (.sl 3 [])=.sl 3 (q.rv::x.map Ky.rv):=by
  simp [List.getD,hx,bi]
 have hg2:(q.rv::x.map Ky.rv).getD (Int.toNat 0) (.agg [.v (.int .u64 0),.v (.int .i64 0),.v (.int .i64 0)])=.agg [.v (.int .u64 q.c),.v (.int .i64 q.v),.v (.int .i64 q.d)]:=rfl;simp only [aaq,y6,Ky.cs,hg,hg2,push_cast,↓reduceIte,reduceCtorEq,zB,zE,zA,zS,zL,zD,zM];refine And.intro ⟨by omega,by omega⟩ (And.intro ⟨by omega,by omega⟩ ?_);refine d9 (axt k q) rfl trivial ?_;simp only [push_cast,↓reduceIte,reduceCtorEq,zB,zE,zA,zS,zL,zD,zM];kernel_rfl
structure Nod (ns:List (List Ky)) (k:Ky) (r:Nat):Prop where
 le:r≤ns.length
 len:ns.length≤maxLen
 ne:∀(i:Nat) (l:List Ky),ns[i]?=some l→l≠[]∧l.length≤maxLen
 lo:∀(i:Nat) (q:Ky) (x:List Ky),i<r→ns[i]?=some (q::x)→kl k q=false
 hi:∀(i:Nat) (q:Ky) (x:List Ky),r≤i→ns[i]?=some (q::x)→kl k q=true
def a2i (ns:List (List Ky)) (k:Ky) (i:Nat):Bool:=match ns[i]? with
 | some (q::_)=>kl k q
 | _=>true
theorem Nod.at_ {ns:List (List Ky)} {k:Ky} {r:Nat} (h:Nod ns k r) {i:Nat} (hi:i<ns.length):∃q x,ns[i]?=some (q::x)∧(q::x).length≤maxLen:=by
 have hq:ns[i]?=some ns[i]:=by simp [hi]
 obtain ⟨h1,h2⟩:=h.ne i _ hq;rcases hx:ns[i] with _ | ⟨q,x⟩
 ·exact absurd hx h1
 ·rw [hx] at hq h2;exact ⟨q,x,hq,h2⟩
theorem a5z (ns:List (List Ky)) (n:Int) (k:Ky) (r:Nat) (h:Nod ns k r):a8 P0 111 [.rp (y6 ns n),k.av] [] (int .i64 ((r-1:Nat):Int)) []:=by
 refine ah8 rfl (by decide) ?_
 have hS:=aws 158 k.cs [.rp (y6 ns n)] rfl rfl rfl (a2i ns k) ns.length r h.len h.le (fun i hi=>by
  obtain ⟨q,x,h1,_⟩:=h.at_ (i:=i) (by have:=h.le; omega);simp only [a2i,h1,h.lo i q x hi h1]) (fun i hi hn=>by
  obtain ⟨q,x,h1,_⟩:=h.at_ hn;simp only [a2i,h1,h.hi i q x hi h1]) (fun i hn=>by
  obtain ⟨q,x,h1,h2⟩:=h.at_ hn;simp only [a2i,h1]
  exact bdt ns n k q x i hn h1 h.len h2)
 push_cast [adn,y6,Ky.av,Ky.rv,zab,zad]
 refine a7 hS rfl ⟨rfl,rfl,trivial⟩ ?_
 push_cast [y6,Ky.cs,zad]
 have hm:(ns.length:Int)≤9223372036854775807:=by have:=h.len; simp only [maxLen] at this; omega
 have hle:=h.le;rw [a5 ⟨by omega,by omega⟩,show max ((r:Int)-1) 0=((r-1:Nat):Int) by omega]


section
variable {P:Program} {w:World} {o:Oper} {a:Act} {K:Act→World→Prop} {Q:Exit→Act→World→Prop}
theorem abq {w:World} {g off size m m' c:Nat} {cs:Array Value} {e:TypeId} {fr:Nat×Nat} {news:List Value} (hg:w.heap[g]?=some (.cells cs e fr)) (hn:news.length=m*size)
  (hj:∀(j:Nat) (u:Value),news[j]?=some u→cs[off+j]?=some u):∀W:World,W.heap=w.heap→(Builtin.firstCells size m (.slice (some ⟨g,off,none⟩) m' c)).run P W=.ok news.toArray W:=fun W hW=>by
 refine run_firstCells_some W size m ⟨g,off,none⟩ m' c news hn fun j u hu=>?_;rw [dj];simp only [World.cell?,hW,hg,zaq,Bool.false_eq_true,if_false];exact hj j u hu
theorem bec {w:World} {size m' c:Nat} {A:Option Addr}:∀W:World,W.heap=w.heap→(Builtin.firstCells size 0 (.slice A m' c)).run P W=.ok #[] W:=fun W hW=>by
 cases A<;>simp [Builtin.firstCells,loadCells,loadCellsFrom]
theorem agq {g:Nat} {old cs:Array Value} {t:TypeId} {fr:Nat×Nat} (hg:w.heap[g]?=some (.cells old t fr)):Keeps (· = g) w (w.setRow g cs):=
  have h:=lh (cs:=cs) hg
  ⟨rfl,rfl,rfl,by simp [World.setRow],fun k hk hn=>setRow_other w g k cs hn⟩
theorem al1 {w':World} {x:Obj} {I:Nat→Prop} (h:OneMore w w' x):Keeps I w w':=⟨h.os,h.tape,h.output,by rw [h.heap]; simp,fun k hk _=>by rw [h.heap]; simp [Array.getElem?_push,Nat.ne_of_lt hk]⟩
theorem wp_app (x v : Operand) (t u : TypeId) (ho : o.op = .call { callee := .builtin .append, args := #[x, v], argTypes := #[t, u] }) {e d : TypeId} {inf : TypeInfo} {z : Value} {size bytes : Nat} (ht : P.underlying t = some (.slice e)) (hu : P.underlying u = some (.slice d))
    (hi:P.info? e=some inf) (hz:inf.zero=some z) (hzs:z.cells.size=inf.size) (hs:inf.size=size) (hby:inf.bytes=bytes) (g len cap:Nat) (hx:a.eval x=.slice (some ⟨g,0,none⟩) len cap) (hc:0<cap) {cs:Array Value} {e':TypeId} (hg:w.heap[g]?=some (.cells cs e' (0,0)))
    (hsz:cap*size≤cs.size) (hlc:len≤cap) {A2:Option Addr} {m c2:Nat} (hv:a.eval v=.slice A2 m c2) (news:List Value) (hnew:∀W:World,W.heap=w.heap→(Builtin.firstCells size m (.slice A2 m c2)).run P W=.ok news.toArray W)
    (hn:news.length=m*size) (h1:∀u∈news,u.oneCell'=true) (hmax:len+m≤maxLen) (hcap:cap≤maxLen) (hb:(len+m)*bytes≤140737488355328)
    (h:∀(g' cap':Nat) (cs':Array Value) (e2:TypeId) (w':World),(g'=g∨g'=w.heap.size)→0<cap'→len+m≤cap'→cap'≤maxLen→w'.heap[g']?=some (.cells cs' e2 (0,0))→cap'*size≤cs'.size →
      (∀j,j<(len+m)*size→cs'[j]?=(cs.toList.take (len*size)++news)[j]?)→Keeps (· = g) w w'→K (a.put o.dst (.slice (some ⟨g',0,none⟩) (len+m) cap')) w'):o.wp P a w K Q:=by
  subst hs; subst hby;have hlt:len*inf.size≤cs.size:=Nat.le_trans (Nat.mul_le_mul_right _ hlc) hsz;have hol:(cs.toList.take (len*inf.size)).length=len*inf.size:=by simp only [List.length_take,Array.length_toList]; exact Nat.min_eq_left hlt
  have hold:=abq (P:=P) (off:=0) (size:=inf.size) (m:=len) (m':=len) (c:=cap) (news:=cs.toList.take (len*inf.size)) hg hol (fun j u hu=>by
    rw [zaf] at hu;split at hu
    · simpa using hu
    · cases hu)
  have hrun0:∀r,(Builtin.append_ #[t,u] o.type #[.slice (some ⟨g,0,none⟩) len cap,.slice A2 m c2]).run P w=r→(execOp a.eval o).run P w=r.andThen fun q w'=>.ok (.value q) w':=by
    rintro r rfl;simp [execOp,ho,resolve,invoke,builtin,hx,hv]
  unfold Oper.wp
  rcases run_app (P := P) (w := w) (ty := o.type) (A := some ⟨g, 0, none⟩) (A2 := A2) (len := len) (cap := cap) (m := m) (c2 := c2) (g := g) (cur := cs) (e' := e') (olds := cs.toList.take (len * inf.size)) (news := news) ht hu hi hz hzs hlc (fun _ => ⟨rfl, hg, hsz⟩) (fun _ k _ h => absurd h.2 (Nat.not_lt_zero k))
      hold hol hnew hn h1 hmax hb with ⟨hroom,hr⟩ | ⟨hgrow,K',w',rest,hr,hK1,hK2,hom,hlen⟩
  · rw [hrun0 _ hr,if_pos hc]
    have hfit:len*inf.size+news.length≤cs.toList.length:=by
      rw [hn,← Nat.add_mul]; simp; exact Nat.le_trans (Nat.mul_le_mul_right _ hroom) hsz
    refine h g cap _ e' _ (.inl rfl) hc hroom hcap (setRow_heap w g cs _ e' _ hg) ?_ (fun j hj=>?_) (agq hg)
    · simp only [List.size_toArray,j9 hfit,Array.length_toList]; exact hsz
    · rw [zar,y8 hfit,hn];rw [Nat.add_mul] at hj;by_cases hj1:len*inf.size≤j
      · rw [if_pos ⟨hj1,hj⟩,zas (by rw [hol]; exact hj1),hol]
      · rw [if_neg (fun q=>hj1 q.1),zah (by rw [hol]; omega),zaf,if_pos (by omega)]
  · rw [hrun0 _ hr];refine h w.heap.size K' _ e w' (.inr rfl) (by omega) hK1 hK2 hom.new ?_ (fun j hj=>?_) (al1 hom)
    · simp only [List.size_toArray,hlen]; exact Nat.le_refl _
    · rw [zar,zah];simp only [List.length_append,hol,hn,← Nat.add_mul];exact hj
theorem bbz (x v:Operand) (t u:TypeId) (ho:o.op=.call { callee:=.builtin .append,args:=#[x,v],argTypes:=#[t,u] }) {e d:TypeId} {inf:TypeInfo} {z:Value} {size bytes:Nat} (ht:P.underlying t=some (.slice e)) (hu:P.underlying u=some (.slice d))
  (hi:P.info? e=some inf) (hz:inf.zero=some z) (hzs:z.cells.size=inf.size) (hs:inf.size=size) (hby:inf.bytes=bytes) {A:Option Addr} (hx:a.eval x=.slice A 0 0)
  {A2:Option Addr} {m c2:Nat} (hv:a.eval v=.slice A2 m c2) (hm:0<m) (news:List Value) (hnew:∀W:World,W.heap=w.heap→(Builtin.firstCells size m (.slice A2 m c2)).run P W=.ok news.toArray W)
  (hn:news.length=m*size) (h1:∀u∈news,u.oneCell'=true) (hmax:m≤maxLen) (hb:m*bytes≤140737488355328)
  (h:∀(cap':Nat) (cs':Array Value) (w':World),m≤cap'→cap'≤maxLen→w'.heap[w.heap.size]?=some (.cells cs' e (0,0))→cap'*size≤cs'.size →
   (∀j,j<m*size→cs'[j]?=news[j]?)→(∀I,Keeps I w w')→K (a.put o.dst (.slice (some ⟨w.heap.size,0,none⟩) m cap')) w'):o.wp P a w K Q:=by
 subst hs; subst hby
 have hrun0:∀r,(Builtin.append_ #[t,u] o.type #[.slice A 0 0,.slice A2 m c2]).run P w=r→(execOp a.eval o).run P w=r.andThen fun q w'=>.ok (.value q) w':=by
  rintro r rfl;simp [execOp,ho,resolve,invoke,builtin,hx,hv]
 unfold Oper.wp
 rcases run_app (P:=P) (w:=w) (ty:=o.type) (fr:=(0,0)) (A:=A) (A2:=A2) (len:=0) (cap:=0) (m:=m) (c2:=c2) (g:=0) (cur:=#[]) (e':=0) (olds:=[]) (news:=news) ht hu hi hz hzs (Nat.le_refl _) (by simp) (fun h=>absurd h (Nat.lt_irrefl 0))
   (fun W hW=>bec (w:=W) W rfl) (by simp) hnew hn h1 (by omega) (by rw [zae]; exact hb) with ⟨hroom,hr⟩ | ⟨hgrow,K',w',rest,hr,hK1,hK2,hom,hlen⟩
 ·omega
 ·rw [hrun0 _ hr];simp only [zae] at hK1;refine (show K (a.put o.dst (.slice (some ⟨w.heap.size,0,none⟩) (0+m) K')) w' from ?_);rw [zae];refine h K' _ w' hK1 hK2 hom.new ?_ (fun j hj=>?_) fun I=>al1 hom
  ·simp only [List.size_toArray,hlen]; exact Nat.le_refl _
  ·rw [zar,List.nil_append,zah];rw [hn];exact hj
theorem wp_cpy (x v : Operand) (t u : TypeId) (ho : o.op = .call { callee := .builtin .copy, args := #[x, v], argTypes := #[t, u] }) {e : TypeId} {inf : TypeInfo} {size : Nat} (ht : P.underlying t = some (.slice e))
    (hi:P.info? e=some inf) (hs:inf.size=size) (g d s m:Nat) {cs:Array Value} {e':TypeId} (hg:w.heap[g]?=some (.cells cs e' (0,0))) {D S:Option Addr} {dl dc sl sc:Nat} (hx:a.eval x=.slice D dl dc) (hv:a.eval v=.slice S sl sc)
    (hm:m=Nat.min sl dl) (hpos:0<m→D=some ⟨g,d,none⟩∧S=some ⟨g,s,none⟩) (hd:d+m*size≤cs.size) (hsr:s+m*size≤cs.size) (h1:∀u∈(cs.toList.drop s).take (m*size),u.oneCell'=true)
    (h:∀w',w'.heap[g]?=some (.cells (d7 cs.toList d ((cs.toList.drop s).take (m*size))).toArray e' (0,0))→Keeps (· = g) w w'→K (a.put o.dst (goInt m)) w'):o.wp P a w K Q:=by
  subst hs;unfold Oper.wp
  have hrun0:∀r,(Builtin.copy_ #[t,u] o.type #[.slice D dl dc,.slice S sl sc]).run P w=r→(execOp a.eval o).run P w=r.andThen fun q w'=>.ok (.value q) w':=by
    rintro r rfl;simp [execOp,ho,resolve,invoke,builtin,hx,hv]
  by_cases h0:m=0
  · subst h0
    have hr:(Builtin.copy_ #[t,u] o.type #[.slice D dl dc,.slice S sl sc]).run P w=.ok (goInt 0) w:=by
      have hl:∀(x:Addr),(loadCells x 0).run P w=.ok #[] w:=fun x=>by simpa using run_loadCells_list (P:=P) w x [] (by simp)
      cases D<;>cases S<;>simp [Builtin.copy_,run_underlying ht,Builtin.lenOf,Builtin.firstCells,sizeOf,typeInfo,hi,← hm,storeCells,hl]
    rw [hrun0 _ hr];refine h w ?_ (Keeps.refl _ _);simp [d7,hg]
  · obtain ⟨rfl,rfl⟩:=hpos (by omega);have hln:((cs.toList.drop s).take (m*inf.size)).length=m*inf.size:=by simp; omega
    have hf:=abq (P:=P) (w:=w) (off:=s) (size:=inf.size) (m:=m) (m':=sl) (c:=sc) (news:=(cs.toList.drop s).take (m*inf.size)) hg hln (fun j u hu=>by
      rw [zaf] at hu;split at hu
      · rw [List.getElem?_drop] at hu; simpa using hu
      · cases hu) w rfl
    have hst:=abf (P:=P) g d e' (0,0) ((cs.toList.drop s).take (m*inf.size)) 0 cs w hg (by simp) (by rw [hln]; omega) h1
    have hr:(Builtin.copy_ #[t,u] o.type #[.slice (some ⟨g,d,none⟩) dl dc,.slice (some ⟨g,s,none⟩) sl sc]).run P w=.ok (goInt m) (w.setRow g (d7 cs.toList d ((cs.toList.drop s).take (m*inf.size))).toArray):=by
      simp only [Nat.add_zero] at hst;simp [Builtin.copy_,run_underlying ht,Builtin.lenOf,sizeOf,typeInfo,hi,← hm,hf,hst,d7]
    rw [hrun0 _ hr];exact h _ (setRow_heap w g cs _ e' _ hg) (agq hg)
end

def kc (k:Ky):List Value:=[.int .u64 k.c,.int .i64 k.v,.int .i64 k.d]
def flat (l:List Ky):List Value:=l.flatMap kc
theorem cp (l:List Ky):(flat l).length=l.length*3:=by
 induction l with
 | nil=>rfl
 | cons k l ih=>simp only [flat,List.flatMap_cons,List.length_append,List.length_cons] at ih ⊢; rw [ih]; simp [kc]; omega
theorem a90 {l:List Ky} {i j:Nat} {k:Ky} (h:l[i]?=some k) (hj:j<3):(flat l)[i*3+j]?=(kc k)[j]?:=by
 have:∀(l:List Ky) (i:Nat),l[i]?=some k→(flat l)[i*3+j]?=(kc k)[j]?:=fun l=>by
  induction l with
  | nil=>intro i h; simp at h
  | cons q l ih=>
   intro i h;cases i with
   | zero=>
    simp at h;subst h;simp only [flat,List.flatMap_cons];rw [zah (by simp [kc]; omega)];simp
   | succ i=>
    simp at h;simp only [flat,List.flatMap_cons];rw [zas (by simp [kc]; omega),← ih i h];congr 1;simp [kc];omega
 exact this l i h
theorem ap5 {l:List Ky}:∀u∈flat l,u.oneCell'=true:=fun u hu=>by
 simp only [flat,List.mem_flatMap,kc] at hu;obtain ⟨k,_,hk⟩:=hu;simp at hk;rcases hk with rfl | rfl | rfl<;>rfl
def xn (w:World) (g:Nat) (l:List Ky) (c:Nat):Prop:=∃(cs:Array Value) (e:TypeId),w.heap[g]?=some (.cells cs e (0,0))∧c*3≤cs.size∧(∀(j:Nat) (u:Value),(flat l)[j]?=some u→cs[j]?=some u)∧l.length≤c∧0<c∧c≤maxLen
theorem xn.loc {w w':World} {g c:Nat} {l:List Ky} (h:xn w g l c) (hw:w'.heap[g]?=w.heap[g]?):xn w' g l c:=by
 obtain ⟨cs,e,h1,h2⟩:=h;exact ⟨cs,e,by rw [hw]; exact h1,h2⟩
theorem xn.lt {w:World} {g c:Nat} {l:List Ky} (h:xn w g l c):g<w.heap.size:=by
 obtain ⟨cs,e,h1,h2⟩:=h;exact (zam.1 h1).1
theorem xn.rel {w:World} {g c:Nat} {l:List Ky} (h:xn w g l c) {R:Nat→Prop} (hR:R g):RelV w R (bi l) (.slice (some ⟨g,0,none⟩) l.length c):=by
 obtain ⟨cs,e,h1,h2,h3,h4,h5,h6⟩:=h;have key:=RelV.sl (w:=w) (R:=R) 3 (l.map Ky.rv) (some ⟨g,0,none⟩) c (by simpa using h4) h6 g 0 (fun i j=>(cs[i*3+j]?).getD undef) (fun _=>⟨rfl,hR⟩)
 have cell:∀(i:Nat) (x:RV) (j:Nat) (y:RV),(l.map Ky.rv)[i]?=some x→x.cells[j]?=some y→∃u,y=.v u∧cs[i*3+j]?=some u∧u.oneCell'=true:=fun i x j y hi hj=>by
  rw [List.getElem?_map,zat] at hi;obtain ⟨k,hk,rfl⟩:=hi;have hj3:j<3:=by have:=(zaa.1 hj).1; simpa [Ky.rv,RV.cells] using this
  have hf:=a90 hk hj3
  match j,hj3,hj,hf with
  | 0,_,hj,hf=>simp [Ky.rv,RV.cells] at hj; subst hj; exact ⟨_,rfl,h3 _ _ hf,rfl⟩
  | 1,_,hj,hf=>simp [Ky.rv,RV.cells] at hj; subst hj; exact ⟨_,rfl,h3 _ _ hf,rfl⟩
  | 2,_,hj,hf=>simp [Ky.rv,RV.cells] at hj; subst hj; exact ⟨_,rfl,h3 _ _ hf,rfl⟩
 have:=key (fun i x hi=>by
   rw [List.getElem?_map,zat] at hi;obtain ⟨k,hk,rfl⟩:=hi
   rfl) (fun i x j y hi hj=>by
   obtain ⟨u,rfl,h,h'⟩:=cell i x j y hi hj;simp only [World.cell?,h1,zaq,Bool.false_eq_true,if_false,zae,h,zan];exact ⟨trivial,h'⟩) (fun i x j y hi hj=>by
   obtain ⟨u,rfl,h,h'⟩:=cell i x j y hi hj;simp only [h,zan]
   exact .v u)
 simpa [bi] using this
def adr (og:Option Nat):Option Addr:=og.map fun g=>⟨g,0,none⟩
structure TL (w:World) (b:Nat) (og:Option Nat) (gs:List Nat) (cap:Nat) (ns:List (List Ky)) (n:Int):Prop where
 hd:∃e,w.heap[b]?=some (.cells #[.slice (adr og) ns.length cap,.int .i64 n] e (0,0))
 le:ns.length≤cap
 mx:cap≤maxLen
 no:og=none→cap=0
 out:∀g,og=some g→0<cap∧∃cs e,w.heap[g]?=some (.cells cs e (0,0))∧cap≤cs.size∧∀(i g':Nat) (l:List Ky),gs[i]?=some g'→ns[i]?=some l→∃c,cs[i]?=some (.slice (some ⟨g',0,none⟩) l.length c)∧xn w g' l c
 len:gs.length=ns.length
 nb:(b::(og.toList++gs)).Nodup
def Ft (b:Nat) (og:Option Nat) (gs:List Nat) (x:Nat):Prop:=x=b∨og=some x∨x∈gs
section
variable {w w':World} {b cap:Nat} {og:Option Nat} {gs:List Nat} {ns:List (List Ky)} {n:Int}
theorem TL.loc (h:TL w b og gs cap ns n) (hw:∀x,Ft b og gs x→w'.heap[x]?=w.heap[x]?):TL w' b og gs cap ns n:=by
 refine ⟨?_,h.le,h.mx,h.no,fun g hg=>?_,h.len,h.nb⟩
 ·obtain ⟨e,he⟩:=h.hd;exact ⟨e,by rw [hw b (.inl rfl)]; exact he⟩
 ·obtain ⟨h0,cs,e,h1,h2,h4⟩:=h.out g hg;refine ⟨h0,cs,e,by rw [hw g (.inr (.inl hg))]; exact h1,h2,fun i g' l hi hl=>?_⟩;obtain ⟨c,h5,h6⟩:=h4 i g' l hi hl;exact ⟨c,h5,h6.loc (hw g' (.inr (.inr (zao hi))))⟩
theorem TL.lt (h:TL w b og gs cap ns n):∀x,Ft b og gs x→x<w.heap.size:=fun x hx=>by
 rcases hx with rfl | hx | hx
 ·obtain ⟨e,he⟩:=h.hd;exact (zam.1 he).1
 ·obtain ⟨h0,cs,e,h1,_⟩:=h.out x hx;exact (zam.1 h1).1
 ·obtain ⟨i,hi⟩:=zau.1 hx;have hin:=(zaa.1 hi).1;rw [h.len] at hin;rcases og with _ | g
  ·have:=h.no rfl; have:=h.le; omega
  ·obtain ⟨h0,cs,e,h1,h2,h4⟩:=h.out g rfl;obtain ⟨c,_,h6⟩:=h4 i x ns[i] hi (by simp [hin]);exact h6.lt
theorem TL.rel (h:TL w b og gs cap ns n) {R:Nat→Prop} (hR:∀x,Ft b og gs x→R x):RelV w R (.sl 1 (ns.map bi)) (.slice (adr og) ns.length cap):=by
 rcases og with _ | g
 ·have h0:=h.no rfl;have h1:=h.le;have h2:ns=[]:=List.eq_nil_of_length_eq_zero (by omega);subst h2;subst h0;exact .sl 1 [] none 0 (by simp) (by simp) 0 0 (fun _ _=>undef) (by simp) (by simp) (by simp) (by simp)
 ·obtain ⟨h0,cs,e,h1,h2,h4⟩:=h.out g rfl
  have node:∀(i:Nat) (x:RV),(ns.map bi)[i]?=some x→∃l g' c,ns[i]?=some l∧x=bi l∧gs[i]?=some g'∧cs[i]?=some (.slice (some ⟨g',0,none⟩) l.length c)∧xn w g' l c:=fun i x hi=>by
   rw [List.getElem?_map,zat] at hi;obtain ⟨l,hl,rfl⟩:=hi;have hlt:=(zaa.1 hl).1;have hg':gs[i]?=some (gs[i]'(by rw [h.len]; exact hlt)):=by simp [h.len,hlt]
   obtain ⟨c,h5,h6⟩:=h4 i _ l hg' hl;exact ⟨l,_,c,hl,rfl,hg',h5,h6⟩
  have key:=RelV.sl (w:=w) (R:=R) 1 (ns.map bi) (some ⟨g,0,none⟩) cap (by simpa using h.le) h.mx g 0 (fun i _=>(cs[i]?).getD undef) (fun _=>⟨rfl,hR g (.inr (.inl rfl))⟩) (fun i x hi=>by
    obtain ⟨l,g',c,_,rfl,_⟩:=node i x hi
    rfl) (fun i x j y hi hj=>by
    obtain ⟨l,g',c,_,rfl,_,h5,_⟩:=node i x hi;have:j=0:=by have:=(zaa.1 hj).1; simp [bi,RV.cells] at this; exact this
    subst this;simp only [World.cell?,h1,zaq,Bool.false_eq_true,if_false,zae,Nat.mul_one,Nat.add_zero,h5,zan];exact ⟨trivial,rfl⟩) (fun i x j y hi hj=>by
    obtain ⟨l,g',c,_,rfl,h7,h5,h6⟩:=node i x hi;have:j=0:=by have:=(zaa.1 hj).1; simp [bi,RV.cells] at this; exact this
    subst this;simp [bi,RV.cells] at hj;subst hj;simp only [h5,zan]
    exact h6.rel (hR g' (.inr (.inr (zao h7)))))
  simpa [adr] using key
theorem TL.rp (h:TL w b og gs cap ns n) {R:Nat→Prop} (hR:∀x,Ft b og gs x→R x) :
  ∃g:Nat→Value,∀(j:Nat) (y:RV),(y6 ns n)[j]?=some y→w.cell? ⟨b,0+j,none⟩=some (g j)∧(g j).oneCell'=true∧RelV w R y (g j):=by
 obtain ⟨e,he⟩:=h.hd;refine ⟨fun j=>(#[Value.slice (adr og) ns.length cap,.int .i64 n][j]?).getD undef,fun j y hj=>?_⟩
 match j,hj with
 | 0,hj=>
  simp [y6] at hj;subst hj;refine ⟨by simp [World.cell?,he],rfl,h.rel hR⟩
 | 1,hj=>
  simp [y6] at hj;subst hj;exact ⟨by simp [World.cell?,he],rfl,.v _⟩
 | j+2,hj=>simp [y6] at hj
def fpt (og:Option Nat) (gs:List Nat):Nat→Option Nat
 | 0=>og
 | j+1=>gs[j]?
theorem aew {x:Nat}:(∃j,fpt og gs j=some x)↔(og=some x∨x∈gs):=by
 constructor
 ·rintro ⟨j,hj⟩;cases j with
  | zero=>exact .inl hj
  | succ j=>exact .inr (zao hj)
 ·rintro (h | h)
  ·exact ⟨0,h⟩
  ·obtain ⟨i,hi⟩:=zau.1 h;exact ⟨i+1,hi⟩
end
def biv (ns:List (List Ky)) (n:Int):AbsT where
 size:=2
 Q w b φ:=∃og gs cap,TL w b og gs cap ns n∧φ=fpt og gs
 loc:=by
  rintro w w' b φ ⟨og,gs,cap,h,rfl⟩ hb hj;refine ⟨og,gs,cap,h.loc fun x hx=>?_,rfl⟩;rcases hx with rfl | hx
  ·exact hb
  ·obtain ⟨j,hj'⟩:=aew.2 hx;exact hj j x hj'
 root:=by
  rintro w b φ ⟨og,gs,cap,h,rfl⟩;obtain ⟨e,he⟩:=h.hd;exact ⟨_,e,he,rfl⟩
 lt:=by
  rintro w b φ ⟨og,gs,cap,h,rfl⟩ j c hj;exact h.lt c (.inr (aew.1 ⟨j,hj⟩))
 view:=y6 ns n
 rp:=by
  rintro w b φ R ⟨og,gs,cap,h,rfl⟩ hb hj;refine h.rp fun x hx=>?_;rcases hx with rfl | hx
  ·exact hb
  ·obtain ⟨j,hj'⟩:=aew.2 hx;exact hj j x hj'

theorem glT (w:World):Gl P0 w fun _=>False:=gl_none (by kernel_rfl) (fun _=>by kernel_rfl) (fun _=>by kernel_rfl) w
def Ky.val (k:Ky):Value:=.agg #[.int .u64 k.c,.int .i64 k.v,.int .i64 k.d]
theorem Ky.rel {w:World} {R:Nat→Prop} (k:Ky):RelV w R k.rv k.val:=by
 refine .agg _ _ rfl fun i x c hx hc=>?_
 match i,hx,hc with
 | 0,hx,hc=>simp [Ky.val] at hx hc; subst hx; subst hc; exact .v _
 | 1,hx,hc=>simp [Ky.val] at hx hc; subst hx; subst hc; exact .v _
 | 2,hx,hc=>simp [Ky.val] at hx hc; subst hx; subst hc; exact .v _
 | i+3,hx,hc=>simp at hx
theorem bat {w:World} {x:Nat} (h:x<w.heap.size):ay0 w x:=⟨h,fun ⟨id,v,o,h1,_⟩=>by simp [ob0,obs] at h1,trivial⟩
theorem aoj {w w':World} {I:Nat→Prop} (h:Go.RowKit.Below w.heap.size w w'):Keeps I w w':=⟨h.os,h.tape,h.output,h.size,fun b hb _=>h.block b hb⟩
section
variable {w:World} {b cap:Nat} {og:Option Nat} {gs:List Nat} {ns:List (List Ky)} {n:Int}
theorem axf (h:TL w b og gs cap ns n) (k:Ky) (r:Nat) (hN:Nod ns k r):Calls P0 111 #[.pointer (some ⟨b,0,none⟩),k.val] w fun e w'=>e=.returned (.int .i64 ((r-1:Nat):Int))∧∀I,Keeps I w w':=by
 obtain ⟨g,hg⟩:=h.rp (R:=ay0 w) fun x hx=>bat (h.lt x hx);refine (aah (a5z ns n k r hN) w (glT w) rfl (rel0_cons (.rp _ b 0 g (bat (h.lt b (.inl rfl))) hg) (rel0_cons (.r k.rel) rel0_nil))).mono ?_;rintro e w' ⟨c,rfl,hb,ρ',hR⟩;cases hR with
 | r hv=>cases hv; exact ⟨rfl,fun I=>aoj hb⟩
theorem aya {g c:Nat} {l:List Ky} (h:xn w g l c) (k:Ky) (r:Nat) (hP:Plc l k r):Calls P0 112 #[.slice (some ⟨g,0,none⟩) l.length c,k.val] w fun e w'=>
  e=.returned (.tuple #[.int .i64 r,.bool (decide (l[r]?=some k))])∧∀I,Keeps I w w':=by
 have hl:l.length≤maxLen:=by obtain ⟨_,_,_,_,_,h4,_,h6⟩:=h; omega
 refine (aah (bho l k r hP hl) w (glT w) rfl (rel0_cons (.r (h.rel (bat h.lt))) (rel0_cons (.r k.rel) rel0_nil))).mono ?_;rintro e w' ⟨c,rfl,hb,ρ',hR⟩;cases hR with
 | tup _ cs hl h=>
  have h0:=h 0 _ (cs[0]'(by rw [hl]; simp)) rfl (by simp [hl]);have h1:=h 1 _ (cs[1]'(by rw [hl]; simp)) rfl (by simp [hl]);refine ⟨?_,fun I=>aoj hb⟩;congr 2;have inv:∀{v c:Value},RelA w' (g8 (fun _=>True) (ob0 []) ρ' w') (ob0 []) ρ' (.r (.v v)) c→c=v:=fun h=>by cases h with | r h=>cases h; rfl
  have e0:=inv h0;have e1:=inv h1;apply Array.ext (by simp [hl]);intro i h2 h3
  match i,h2,h3 with
  | 0,h2,h3=>simpa using e0
  | 1,h2,h3=>simpa using e1
  | i+2,h2,h3=>rw [hl] at h2; exact absurd (show i+2<2 from h2) (by omega)
end
theorem a1s {f:FuncId} {T T':AbsT} {k:Ky} {res:Value} (hs:T'.size=T.size) (h:∀(w:World) (b:Nat) (φ:Nat→Option Nat),T.Q w b φ→Calls P0 f #[.pointer (some ⟨b,0,none⟩),k.val] w fun e w'=>
  e=.returned res∧∃φ',T'.Q w' b φ'∧Keeps (fun x=>x=b∨∃j,φ j=some x) w w'∧(∀j c,φ' j=some c→(∃j',φ j'=some c)∨w.heap.size≤c)) :
  a8 P0 f [.ptr 1000000 0 0,k.av] [.abs T] (.r (.v res)) [.abs T']:=by
 intro w cargs ρ B hgl hB hM hcs hargs;have hob:ob0 [Ob.abs T] 1000000=some (0,.abs T):=by simp [ob0,obs,upd]
 obtain ⟨b,hρ,hQ⟩:=hM.obj 1000000 0 (.abs T) hob
 have hid:∀(T0:AbsT) id x,ob0 [Ob.abs T0] id=some x→id=1000000∧x=(0,.abs T0):=fun T0 id x hx=>by
  obtain ⟨h1,h2,h3⟩:=xc hx
  have:id-1000000=0:=by
   have:=(zaa.1 h2).1;simpa using this
  have hid:id=1000000:=by omega
  subst hid;have hob0:ob0 [Ob.abs T0] 1000000=some (0,.abs T0):=by simp [ob0,obs,upd]
  rw [hob0] at hx;exact ⟨rfl,(Option.some.inj hx).symm⟩
 have hheld:∀x,ji (ob0 [.abs T]) ρ x↔(x=b∨∃j,ρ (.s 1000000 j)=some x):=fun x=>by
  constructor
  ·rintro ⟨id,y,h1,h2⟩;obtain ⟨rfl,rfl⟩:=hid T id _ h1;rcases h2 with h2 | ⟨_,j,h2⟩
   ·rw [hρ] at h2; cases h2; exact .inl rfl
   ·exact .inr ⟨j,h2⟩
  ·rintro (rfl | ⟨j,h2⟩)
   ·exact ⟨1000000,(0,.abs T),hob,.inl hρ⟩
   ·exact ⟨1000000,(0,.abs T),hob,.inr ⟨rfl,j,h2⟩⟩
 have hc:cargs=#[.pointer (some ⟨b,0,none⟩),k.val]:=by
  simp at hcs;apply Array.ext (by simpa using hcs);intro i h1 h2
  match i,h1,h2 with
  | 0,h1,h2=>
   have h0:=hargs 0 _ cargs[0] rfl (by simp [h1]);generalize cargs[0]=c0 at h0;cases h0 with
   | ptr _ _ _ _ hc1 hat=>
    obtain ⟨b',hb',rfl⟩:=hat.live hob;rw [hρ] at hb';cases hb'
    rfl
  | 1,h1,h2=>
   have h0:=hargs 1 _ cargs[1] rfl (by simp [h1]);generalize cargs[1]=c1 at h0;cases h0 with
   | r h0=>
    cases h0 with
    | agg xs cs hl h0=>
     have inv:∀{v c:Value},RelV w (g8 B (ob0 [.abs T]) ρ w) (.v v) c→c=v:=fun h=>by cases h; rfl
     simp only [Ky.val,List.getElem_toArray,List.getElem_cons_succ,List.getElem_cons_zero];congr 1;apply Array.ext (by simpa using hl);intro j g1 g2
     match j,g1,g2 with
     | 0,g1,g2=>exact inv (h0 0 _ cs[0] rfl (by simp [g1]))
     | 1,g1,g2=>exact inv (h0 1 _ cs[1] rfl (by simp [g1]))
     | 2,g1,g2=>exact inv (h0 2 _ cs[2] rfl (by simp [g1]))
     | j+3,g1,g2=>exact absurd (show j+3<3 from g2) (by omega)
  | i+2,h1,h2=>exact absurd (show i+2<2 from h2) (by omega)
 subst hc;refine (h w b _ hQ).mono ?_;rintro e w' ⟨rfl,φ',hQ',hK,hφ⟩;obtain ⟨ρ',h1,h2⟩:∃ρ':Pl→Option Nat,ρ' (.o 1000000)=some b∧∀j,ρ' (.s 1000000 j)=φ' j:=⟨fun | .o i=>if i=1000000 then some b else none | .s i j=>if i=1000000 then φ' j else none,by simp,by simp⟩
 refine ⟨_,ρ',rfl,⟨fun id v o hx=>?_,fun id id' x x' c hx hx' _ _=>?_,⟨hK.os,hK.tape,hK.output,hK.size,fun c hc hn=>hK.block c hc fun hx=>hn ((hheld c).2 hx)⟩,fun id v o c hx hf=>?_,fun id c hp=>?_⟩,.r (.v _)⟩
 ·obtain ⟨rfl,hx⟩:=hid T' id _ hx;cases hx;refine ⟨b,h1,?_⟩;rw [show (fun j=>ρ' (.s 1000000 j))=φ' from funext h2];exact hQ'
 ·rw [(hid T' id _ hx).1,(hid T' id' _ hx').1]
 ·obtain ⟨rfl,hx⟩:=hid T' id _ hx;cases hx;rcases hf with hf | ⟨_,j,hf⟩
  ·rw [h1] at hf; cases hf; exact .inl ((hheld b).2 (.inl rfl))
  ·rw [h2] at hf;rcases hφ j c hf with ⟨j',hj'⟩ | h
   ·exact .inl ((hheld c).2 (.inr ⟨j',hj'⟩))
   ·exact .inr h
 ·simp only [lu] at hp;split at hp
  ·rename_i v o hx;split at hp
   ·rename_i ho;obtain ⟨rfl,hx'⟩:=hid T id _ hx;refine ⟨?_,_,by simp [ob0,obs,upd]; rfl,rfl,fun h=>by cases h⟩;rw [h1,← hp,hρ]
   ·cases hp
  ·cases hp

open Go Go.RowKit
theorem sf {w:World} {x:Obj} {k:Nat} (h:k<w.heap.size):(w.alloc x).heap[k]?=w.heap[k]?:=by
 show (w.heap.push x)[k]? = _;simp [Array.getElem?_push,Nat.ne_of_lt h]
theorem aan {w:World} {x:Obj} {k:Nat} (h:k=w.heap.size):(w.alloc x).heap[k]?=some x:=by
 subst h;show (w.heap.push x)[w.heap.size]? = _;simp
theorem z7 {w:World} {x:Obj} {I:Nat→Prop}:Keeps I w (w.alloc x):=al1 (z6 x)
theorem Keeps.mono {I J:Nat→Prop} {w w':World} (h:Keeps I w w') (hi:∀x,I x→J x):Keeps J w w':=⟨h.os,h.tape,h.output,h.size,fun b hb hn=>h.block b hb fun hx=>hn (hi b hx)⟩
theorem put0_w {w : World} {b cap : Nat} {og : Option Nat} {gs : List Nat} {n : Int} (h : TL w b og gs cap [] n) (k : Ky) : Calls P0 64 #[.pointer (some ⟨b, 0, none⟩), k.val] w fun e w' => e = .returned (.bool true) ∧
    ∃og' gs' cap',TL w' b og' gs' cap' [[k]] 1∧Keeps (Ft b og gs) w w'∧∀x,Ft b og' gs' x→Ft b og gs x∨w.heap.size≤x:=by
  obtain ⟨e,he⟩:=h.hd;have hlt:=h.lt b (.inl rfl);have hc:w.cell? ⟨b,0,none⟩=some (.slice (adr og) 0 cap):=by simp [World.cell?,he]
  have hc1:w.cell? ⟨b,1,none⟩=some (.int .i64 n):=by simp [World.cell?,he]
  have hf0:w.frozen? ⟨b,0,none⟩=false:=by simp [World.frozen?,he]
  have hf1:w.frozen? ⟨b,1,none⟩=false:=by simp [World.frozen?,he]
  have hb01:b<w.heap.size+1:=by omega
  have hb02:b<w.heap.size+1+1:=by omega
  have hb0:¬b=w.heap.size:=by omega
  have hb1:¬b=w.heap.size+1:=by omega
  have hb2:¬b=w.heap.size+1+1:=by omega
  simp only [Ky.val]
  go_enter func64,Go.Proofs.Tryz.ntmps64
  go_wp2_with fail
  go_ret
  rw [setCell_eq_setRow w b 0 _ _ _ _ he,setCell_eq_setRow _ b 1 _ _ _ _ (setRow_heap w b _ _ _ _ he),setRow_setRow];generalize hw1:w.setRow b _=w1;have hh:w1.heap[b]?=some (.cells #[.slice (some ⟨w.heap.size+1+1,0,none⟩) 1 1,.int .i64 1] e):=by rw [← hw1]; exact setRow_heap w b _ _ _ _ he
  have hk:Keeps (· = b) w w1:=by rw [← hw1]; exact agq he
  have hs:w1.heap.size=w.heap.size:=by rw [← hw1]; simp [World.setRow]
  refine ⟨rfl,some (w.heap.size+1+1),[w.heap.size+1],1,⟨⟨e,?_⟩,by simp,by simp [maxLen],by simp,fun g hg=>?_,rfl,?_⟩,?_,fun x hx=>?_⟩
  · rw [sf (by simp [hs]; omega),sf (by simp [hs]; omega),sf (by simp [hs]; omega),hh]
    rfl
  · cases hg;refine ⟨by omega,_,_,aan (by simp [hs]),by simp,fun i g' l hi hl=>?_⟩;have hi0:i=0:=by have:=(zaa.1 hi).1; simp at this; exact this
    subst hi0;simp at hi hl;subst hi; subst hl;refine ⟨1,rfl,_,_,by rw [sf (by simp [hs])]; exact aan (by simp [hs]),by simp,?_,by simp,by simp,by simp [maxLen]⟩;intro j u hj;simpa [flat,kc] using hj
  · simp;omega
  · exact (hk.mono fun x hx=>.inl hx).trans ((z7.trans z7).trans z7)
  · rcases hx with h | h | h
    · exact .inl (.inl h)
    · simp at h; omega
    · simp at h; omega

open Go Go.RowKit
section
variable {w:World} {b g cap:Nat} {og:Option Nat} {gs:List Nat} {ns:List (List Ky)} {n:Int}
theorem TL.root (h:TL w b (some g) gs cap ns n):w.cell? ⟨b,0,none⟩=some (.slice (some ⟨g,0,none⟩) ns.length cap)∧w.cell? ⟨b,1,none⟩=some (.int .i64 n)∧w.frozen? ⟨b,0,none⟩=false∧w.frozen? ⟨b,1,none⟩=false∧b<w.heap.size:=by
 obtain ⟨e,he⟩:=h.hd;exact ⟨by simp [World.cell?,he,adr],by simp [World.cell?,he],by simp [World.frozen?,he],by simp [World.frozen?,he],h.lt b (.inl rfl)⟩
theorem TL.some_ (h:TL w b og gs cap ns n) {i:Nat} {l:List Ky} (hl:ns[i]?=some l):∃g,og=some g:=by
 rcases og with _ | g
 ·have:=h.no rfl;have:=h.le;have:=(zaa.1 hl).1;omega
 ·exact ⟨g,rfl⟩
theorem TL.node (h:TL w b (some g) gs cap ns n) {i:Nat} {l:List Ky} (hl:ns[i]?=some l):∃g' c,gs[i]?=some g'∧xn w g' l c∧w.cell? ⟨g,i,none⟩=some (.slice (some ⟨g',0,none⟩) l.length c)∧w.frozen? ⟨g,i,none⟩=false:=by
 obtain ⟨h0,cs,e,h1,h2,h4⟩:=h.out g rfl;have hlt:=(zaa.1 hl).1;have hg':gs[i]?=some (gs[i]'(by rw [h.len]; exact hlt)):=by simp [h.len,hlt]
 obtain ⟨c,h5,h6⟩:=h4 i _ l hg' hl;exact ⟨_,c,hg',h6,by simp [World.cell?,h1,h5],by simp [World.frozen?,h1]⟩
end
def KB (w:World) (B:Nat) (k:Ky):Prop:=w.heap[B]?=some (.cells #[.int .u64 k.c,.int .i64 k.v,.int .i64 k.d] 120 (0,0))
theorem KB.cells {w:World} {B:Nat} {k:Ky} (h:KB w B k):w.cell? ⟨B,0,none⟩=some (.int .u64 k.c)∧w.cell? ⟨B,1,none⟩=some (.int .i64 k.v)∧w.cell? ⟨B,2,none⟩=some (.int .i64 k.d):=by
 unfold KB at h;exact ⟨by simp [World.cell?,h],by simp [World.cell?,h],by simp [World.cell?,h]⟩
theorem KB.keeps {w w':World} {B:Nat} {k:Ky} {I:Nat→Prop} (h:KB w B k) (hk:Keeps I w w') (hn:¬I B):KB w' B k:=by
 unfold KB at h ⊢;rw [hk.block B (zam.1 h).1 hn];exact h
theorem TL.keeps {w w':World} {b cap:Nat} {og:Option Nat} {gs:List Nat} {ns:List (List Ky)} {n:Int} {I:Nat→Prop} (h:TL w b og gs cap ns n) (hk:Keeps I w w') (hn:∀x,Ft b og gs x→¬I x):TL w' b og gs cap ns n:=
 h.loc fun x hx=>hk.block x (h.lt x hx) (hn x hx)
theorem bf6 {w:World} {b cap:Nat} {og:Option Nat} {gs:List Nat} {ns:List (List Ky)} {n:Int} (h:TL w b og gs cap ns n) (k:Ky) (r s:Nat) (l:List Ky) (hN:Nod ns k r) (hl:ns[r-1]?=some l) (hP:Plc l k s) (hs:l[s]?=some k):Calls P0 64 #[.pointer (some ⟨b,0,none⟩),k.val] w fun e w'=>e=.returned (.bool false) ∧
  TL w' b og gs cap ns n∧∀I,Keeps I w w':=by
 obtain ⟨g,rfl⟩:=h.some_ hl;have hat:r-1<ns.length:=(zaa.1 hl).1;generalize hr:r-1=i at *;obtain ⟨c0,c1,f0,f1,hlt⟩:=h.root;have hne:((ns.length:Int) == 0)=false:=by rw [beq_eq_false_iff_ne]; omega
 have hk0:∀x,Keeps (fun _=>False) w (w.alloc x):=fun x=>z7;have i0:(0:Int)≤(i:Int):=by omega
 have i1:(i:Int)<(ns.length:Int):=by omega
 simp only [Ky.val]
 go_enter func64,Go.Proofs.Tryz.ntmps64
 go_wp2_with fail
 have h1:=h.keeps (hk0 (.cells #[.int .u64 k.c,.int .i64 k.v,.int .i64 k.d] 120)) (fun _ _ q=>q);have b1:KB (w.alloc (.cells #[.int .u64 k.c,.int .i64 k.v,.int .i64 k.d] 120)) w.heap.size k:=aan rfl;refine (axf h1 k r hN).mono ?_;rintro e w2 ⟨rfl,hK2⟩;rw [hr];have h2:=h1.keeps (hK2 fun _=>False) (fun _ _ q=>q);have b2:=b1.keeps (hK2 fun _=>False) (fun q=>q);obtain ⟨d0,d1,f2,f3,_⟩:=h2.root;obtain ⟨g',c,hg',hrow,d2,f4⟩:=h2.node hl;obtain ⟨k0,k1,k2⟩:=b2.cells
 go_wp2_with fail
 refine (aya hrow k s hP).mono ?_;rintro e w3 ⟨rfl,hK3⟩;rw [decide_eq_true hs]
 go_wp2_with fail
 go_ret
 refine ⟨rfl,h2.keeps (hK3 fun _=>False) (fun _ _ q=>q),fun I=>(z7.trans (hK2 I)).trans (hK3 I)⟩

open Go Go.RowKit
theorem ab5 (a b:List Ky):flat (a++b)=flat a++flat b:=by simp [flat]
theorem a6l (k:Ky) (b:List Ky):flat (k::b)=kc k++flat b:=by simp [flat]
theorem a10 {α:Type} (L:List α) (i:Nat) (a b c:α) (h:i+3≤L.length):((L.set i a).set (i+1) b).set (i+2) c=d7 L i [a,b,c]:=by
 apply zap;intro j;rw [y8 (by simpa using h)];simp only [List.getElem?_set,List.length_set,List.length_cons,zab];by_cases h0:j=i
 ·subst h0; simp; omega
 by_cases h1:j=i+1
 ·subst h1; simp; omega
 by_cases h2:j=i+2
 ·subst h2; simp; omega
 rw [if_neg (by omega),if_neg (by omega),if_neg (by omega),if_neg (by omega)]
theorem ags {cs:List Value} {l:List Ky} {k:Ky} {s:Nat} (hs:s≤l.length) (hp:(flat l++kc k) <+: cs) :
  flat (l.take s++k::l.drop s) <+: d7 (d7 cs ((s+1)*3) ((cs.drop (s*3)).take ((l.length-s)*3))) (s*3) (kc k):=by
 obtain ⟨t,rfl⟩:=hp;obtain ⟨A,hA⟩:∃A,A=flat (l.take s):=⟨_,rfl⟩
 obtain ⟨D,hD⟩:∃D,D=flat (l.drop s):=⟨_,rfl⟩
 have hl:flat l=A++D:=by rw [hA,hD,← ab5,zav]
 have lA:A.length=s*3:=by rw [hA,cp,List.length_take,Nat.min_eq_left hs]
 have lD:D.length=(l.length-s)*3:=by rw [hD,cp,List.length_drop]
 have lk:(kc k).length=3:=rfl;rw [ab5,a6l,← hA,← hD,hl,← lA,← lD,show (s+1)*3=A.length+3 by omega];refine ⟨t,?_⟩;obtain ⟨E,hE⟩:∃E,E=(D++kc k++t).take 3:=⟨_,rfl⟩
 have lE:E.length=3:=by rw [hE]; simp; omega
 have e1:(A++D++kc k++t).take (A.length+3)=A++E:=by
  rw [hE,zai A D,zai A,List.take_length_add_append]
 have e2:((A++D++kc k++t).drop A.length).take D.length=D:=by
  rw [zai A D,zai A,List.drop_left,zai D,List.take_left]
 have e3:(A++D++kc k++t).drop (A.length+3+D.length)=t:=by
  have:A.length+3+D.length=(A++D++kc k).length:=by simp [lk]; omega
  rw [this,List.drop_left]
 have e4:d7 (A++D++kc k++t) (A.length+3) D=A++(E++(D++t)):=by
  unfold d7;rw [e1,e3];simp
 rw [e2,e4];unfold d7
 have e5:(A++(E++(D++t))).drop (A.length+3)=D++t:=by
  have:A.length+3=(A++E).length:=by simp [lE]
  rw [this,← zai,List.drop_left]
 rw [List.take_left,lk,e5];simp
theorem bf7 {cs2:Array Value} {X:List Value} (h:∀j,j<X.length→cs2[j]?=X[j]?) (hl:X.length≤cs2.size):X <+: cs2.toList:=by
 rw [List.prefix_iff_eq_take];apply zap;intro j;rw [zaf];by_cases hj:j<X.length
 ·rw [if_pos hj,← h j hj];simp
 ·rw [if_neg hj];simp;omega
theorem bd {w w':World} {x:Nat} (h:w'.heap[x]?=w.heap[x]?) (o:Nat):w'.cell? ⟨x,o,none⟩=w.cell? ⟨x,o,none⟩:=by simp only [World.cell?,h]
theorem pw {w w':World} {x:Nat} (h:w'.heap[x]?=w.heap[x]?) (o:Nat):w'.frozen? ⟨x,o,none⟩=w.frozen? ⟨x,o,none⟩:=by simp only [World.frozen?,h]
theorem up {w:World} {g o:Nat} {cs:Array Value} {e:TypeId} {fr:Nat×Nat} (h:w.heap[g]?=some (.cells cs e fr)) (ho:o<cs.size):∃v,w.cell? ⟨g,o,none⟩=some v:=⟨cs[o],by simp [World.cell?,h,ho]⟩
theorem ki {w:World} {g o:Nat} {cs:Array Value} {e:TypeId} (h:w.heap[g]?=some (.cells cs e (0,0))):w.frozen? ⟨g,o,none⟩=false:=by simp [World.frozen?,h]
theorem am2 {w:World} {x:Obj}:(w.alloc x).heap.size=w.heap.size+1:=by simp
theorem v5 {w:World} {g o:Nat} {cs:Array Value} {e:TypeId} {fr:Nat×Nat} {v:Value} (h:w.heap[g]?=some (.cells cs e fr)):(w.setCell ⟨g,o,none⟩ v).heap[g]?=some (.cells (cs.setIfInBounds o v) e fr):=by
 rw [setCell_eq_setRow w g o cs e fr v h];exact setRow_heap w g _ _ _ _ h
theorem s8 {w:World} {g o x:Nat} {cs:Array Value} {e:TypeId} {fr:Nat×Nat} {v:Value} (h:w.heap[g]?=some (.cells cs e fr)) (hx:x≠g):(w.setCell ⟨g,o,none⟩ v).heap[x]?=w.heap[x]?:=by
 rw [setCell_eq_setRow w g o cs e fr v h];exact setRow_other w g x _ hx
theorem s9 {w:World} {g o:Nat} {cs:Array Value} {e:TypeId} {fr:Nat×Nat} {v:Value} {I:Nat→Prop} (h:w.heap[g]?=some (.cells cs e fr)) (hI:I g):Keeps I w (w.setCell ⟨g,o,none⟩ v):=by
 rw [setCell_eq_setRow w g o cs e fr v h];have hk:=agq (cs:=cs.setIfInBounds o v) h;exact ⟨hk.os,hk.tape,hk.output,hk.size,fun b hb hn=>hk.block b hb fun q=>hn (q▸hI)⟩
theorem rk {w w':World} {I:Nat→Prop} (h:Keeps (fun x=>I x∨w.heap.size≤x) w w'):Keeps I w w':=⟨h.os,h.tape,h.output,h.size,fun b hb hn=>h.block b hb fun q=>by rcases q with q | q; exact hn q; omega⟩
theorem avw {l:List Ky} {a j:Nat} (ha:a≤l.length):(flat l)[a*3+j]?=(flat (l.drop a))[j]?:=by
 have:flat l=flat (l.take a)++flat (l.drop a):=by rw [← ab5,zav]
 have hl:(flat (l.take a)).length=a*3:=by rw [cp,List.length_take,Nat.min_eq_left ha]
 rw [this,zas (by omega),hl];congr 1;omega
theorem avv {l:List Ky} {a j:Nat} {u:Value} (h:(flat (l.take a))[j]?=some u):(flat l)[j]?=some u:=by
 have:flat l=flat (l.take a)++flat (l.drop a):=by rw [← ab5,zav]
 rw [this,zah (zaa.1 h).1];exact h
theorem a8w {cs:Array Value} {A:List Value} (hf:∀(j:Nat) (u:Value),A[j]?=some u→cs[j]?=some u):cs.toList.take A.length=A:=by
 apply zap;intro j;rw [zaf];by_cases hj:j<A.length
 ·have hq:A[j]?=some A[j]:=by simp [hj]
  rw [if_pos hj,hq,← hf j _ hq];simp
 ·rw [if_neg hj,eq_comm,List.getElem?_eq_none_iff];omega
theorem az8 {cs cs2:Array Value} {A B:List Value} {N:Nat} (hN:A.length=N) (hf:∀(j:Nat) (u:Value),A[j]?=some u→cs[j]?=some u) (h:∀j,j<N+B.length→cs2[j]?=(cs.toList.take N++B)[j]?) (hl:N+B.length≤cs2.size):(A++B) <+: cs2.toList:=by
 subst hN;rw [a8w hf] at h;exact bf7 (fun j hj=>h j (by simpa using hj)) (by simpa using hl)
theorem azx {L X:List Value} (hp:X <+: L) (h1:∀u∈X,u.oneCell'=true) {a m:Nat} (h:a+m≤X.length):∀u∈(L.drop a).take m,u.oneCell'=true:=fun u hu=>by
 obtain ⟨t,rfl⟩:=hp;obtain ⟨j,hj⟩:=zau.1 hu;rw [zaf] at hj;split at hj
 ·rw [List.getElem?_drop,zah (by omega)] at hj;exact h1 u (zao hj)
 ·cases hj
theorem bg9 {α:Type} {L:List α} {i:Nat} {x y:α} (h:i<L.length) (j:Nat):(L.take i++x::y::L.drop (i+1))[j]?=if j<i then L[j]? else if j=i then some x else if j=i+1 then some y else L[j-1]?:=by
 have hl:(L.take i).length=i:=by simp; omega
 rw [List.getElem?_append,hl];by_cases h1:j<i
 ·rw [if_pos h1,if_pos h1,zaf,if_pos h1]
 ·rw [if_neg h1,if_neg h1];by_cases h2:j=i
  ·subst h2; simp
  ·rw [if_neg h2];by_cases h3:j=i+1
   ·subst h3; simp
   ·rw [if_neg h3];obtain ⟨m,rfl⟩:∃m,j=i+2+m:=⟨j-(i+2),by omega⟩
    rw [show i+2+m-i=m+2 by omega];simp only [List.getElem?_cons_succ,List.getElem?_drop];congr 1;omega
section
variable {w w':World} {b g cap:Nat} {gs:List Nat} {ns:List (List Ky)} {n n':Int}
theorem TL.put (h:TL w b (some g) gs cap ns n) {i:Nat} (hi:i<ns.length) {g2 c2:Nat} {l':List Ky} (hb:∃e,w'.heap[b]?=some (.cells #[.slice (some ⟨g,0,none⟩) ns.length cap,.int .i64 n'] e (0,0)))
  (hg:∃cs e,w.heap[g]?=some (.cells cs e (0,0))∧w'.heap[g]?=some (.cells (cs.setIfInBounds i (.slice (some ⟨g2,0,none⟩) l'.length c2)) e (0,0))) (hrow:xn w' g2 l' c2)
  (ho:∀(j x:Nat),j≠i→gs[j]?=some x→w'.heap[x]?=w.heap[x]?) (hg2:gs[i]?=some g2∨(g2≠b∧g2≠g∧g2∉gs)):TL w' b (some g) (gs.set i g2) cap (ns.set i l') n':=by
 obtain ⟨h0,cs,e,h1,h2,h4⟩:=h.out g rfl;obtain ⟨cs',e',q1,q2⟩:=hg;rw [h1] at q1;cases q1;refine ⟨?_,by simpa using h.le,h.mx,by simp,fun g0 hg0=>?_,by simp [h.len],?_⟩
 ·obtain ⟨e,he⟩:=hb;exact ⟨e,by rw [he]; simp [adr]⟩
 ·cases hg0;refine ⟨h0,_,_,q2,by simpa using h2,fun j x l hj hl=>?_⟩
  ·rw [List.getElem?_set] at hj hl;by_cases hij:i=j
   ·subst hij;simp [h.len,hi] at hj hl;subst hj; subst hl;refine ⟨c2,?_,hrow⟩;have:i<cs.size:=by have:=h.le; omega
    simp [this]
   ·rw [if_neg hij] at hj hl;obtain ⟨c,h5,h6⟩:=h4 j x l hj hl;refine ⟨c,?_,h6.loc (ho j x (Ne.symm hij) hj)⟩;rw [Array.getElem?_setIfInBounds,if_neg hij];exact h5
 ·have hnd:=h.nb;simp only [Option.toList_some,List.cons_append,List.nil_append] at hnd ⊢;rcases hg2 with hg2 | ⟨p1,p2,p3⟩
  ·have:gs.set i g2=gs:=by
    apply zap;intro j;rw [List.getElem?_set];split
    ·rename_i hij; subst hij; rw [hg2]; simp; exact (zaa.1 hg2).1
    ·rfl
   rw [this];exact hnd
  ·simp only [List.nodup_cons,List.mem_cons,not_or] at hnd ⊢;obtain ⟨⟨a1,a2⟩,a3,a4⟩:=hnd;refine ⟨⟨a1,fun hm=>?_⟩,fun hm=>?_,?_⟩
   ·rcases List.mem_or_eq_of_mem_set hm with hm | hm
    ·exact a2 hm
    ·exact p1 hm.symm
   ·rcases List.mem_or_eq_of_mem_set hm with hm | hm
    ·exact a3 hm
    ·exact p2 hm.symm
   ·rw [List.Nodup,List.pairwise_iff_getElem] at a4 ⊢;intro x y hx hy hxy;rw [List.length_set] at hx hy;simp only [List.getElem_set];have nm:∀z (hz:z<gs.length),gs[z]≠g2:=fun z hz q=>p3 (q▸List.getElem_mem hz);split
    ·rw [if_neg (by omega)];exact fun q=>nm y hy q.symm
    ·split
     ·exact nm x hx
     ·exact a4 x y hx hy hxy
end

end
end Go.Ev

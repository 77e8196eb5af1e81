import Derived.Test.YtpibfnekkfhkmaaGreatM11
open Nat renaming reduceBEq → zB, reduceEqDiff → zE, reduceAdd → zA, reduceSub → zS, reduceLT → zL, reduceLeDiff → zD, reduceMul → zM
open Go.Proofs.Tryz renaming prog → P0
open Go.Proofs.Tryz
open Nat renaming zero_add → zaa, add_zero → zaj, le_refl → zaw
open Int renaming toNat_natCast → zab, toNat_zero → zac, toNat_natCast_add_one → zad, toNat_one → zae, reduceToNat → zaf, natCast_zero → zak, natCast_one → zal, le_ediv_iff_mul_le → zbq, ediv_lt_iff_lt_mul → zbr, tmod_eq_emod_of_nonneg → zbw
open List renaming length_cons → zah, length_map → zai, getD_eq_getElem?_getD → zam, range → zan, take_of_length_le → zao, getElem?_eq_none → zap, take → zaq, mem_map → zar, getElem?_eq_getElem → zas, length_nil → zat, mem_of_getElem? → zau, map_append → zav, append_assoc → zax, length_append → zay, getD_cons_zero → zaz, getD_cons_succ → zba, getElem?_map → zbb, map_map → zbc, mem_singleton → zbe, drop_zero → zbf, cons_append → zbg, take_add_one → zbh, drop_succ_cons → zbi, take_length → zbj, mem_range → zbk, map_set → zbl, ext_getElem? → zbm, append_nil → zbn, map_cons → zbo, getElem_mem → zbp, eq_nil_of_length_eq_zero → zbs, nil_append → zbt, drop_eq_getElem_cons → zbu, getElem?_range → zbv, map_congr_left → zbx
open BitVec renaming ofInt → zbd
namespace Go.Ev
set_option maxRecDepth 100000
noncomputable section
open Go
set_option linter.unusedSectionVars false
set_option linter.unnecessarySimpa false
set_option linter.unusedVariables false
def aee:Mk P0 f85:={ x:=_ }
theorem akd:b8 85 3 aee:=b7 func85
def abc:Mk P0 f87:={ x:=_ }
theorem aht:b8 87 2 abc:=b7 func87
theorem ap4 (l:Lin) (hl:l.ok) (hc:-9007199254740992≤l.at'∧l.at'≤9007199254740992) (rg:List P2) (h:RgOk rg) :
  a8 P0 140 [a9 rg,int .i64 l.axis,int .i64 l.at',bl l.above] [] (.own 1000000 0 0 (u9 l rg).length) [d6 (u9 l rg)]:=by
 obtain ⟨a,c,b⟩:=l;rcases hl with h1 | h1<;>simp only at h1<;>subst h1
 ·by_cases h0:u9 ⟨0,c,b⟩ rg=[]
  ·have:=yx (side0_t c b hc rg h (.inl ⟨h0,rfl,rfl⟩));rw [h0];exact this
  ·exact side0_t c b hc rg h (.inr ⟨h0,rfl,rfl⟩)
 ·by_cases h0:u9 ⟨1,c,b⟩ rg=[]
  ·have:=yx (side1_t c b hc rg h (.inl ⟨h0,rfl,rfl⟩));rw [h0];exact this
  ·exact side1_t c b hc rg h (.inr ⟨h0,rfl,rfl⟩)
set_option maxHeartbeats 4000000 in
theorem bfm (lo hi:P2) (hlo:(-9007199254740992≤lo.1∧lo.1≤9007199254740992)∧(-9007199254740992≤lo.2∧lo.2≤9007199254740992)) (hhi:(-9007199254740992≤hi.1∧hi.1≤9007199254740992)∧(-9007199254740992≤hi.2∧hi.2≤9007199254740992))
  (rg:List P2) (h:∀i,i<4→RgOk (bk lo hi rg i)):a8 P0 85 [a9 rg,pv2 lo,pv2 hi] [] (.own 1000000 0 0 (nu lo hi rg).length) [d6 (nu lo hi rg)]:=by
 refine akd rfl (by decide) ?_;simp only [aee,a9,pv2,pnt,zac,zaa,push_cast,↓reduceIte,reduceCtorEq,zE,zA,zL,zM]
 have hk:∀(i:Nat) (l:Lin),(jp lo hi)[i]?=some l→bk lo hi rg (i+1)=u9 l (bk lo hi rg i):=fun i l hl=>by
  unfold bk;rw [zbh,hl,List.foldl_append]
  rfl
 have f0:=ap4 ⟨0,lo.1,true⟩ (.inl rfl) hlo.1 _ (h 0 (by decide));have f1:=ap4 ⟨0,hi.1,false⟩ (.inl rfl) hhi.1 _ (h 1 (by decide));have f2:=ap4 ⟨1,lo.2,true⟩ (.inr rfl) hlo.2 _ (h 2 (by decide));have f3:=ap4 ⟨1,hi.2,false⟩ (.inr rfl) hhi.2 _ (h 3 (by decide));rw [← hk 0 _ rfl] at f0;rw [← hk 1 _ rfl] at f1;rw [← hk 2 _ rfl] at f2;rw [← hk 3 _ rfl] at f3;refine And.intro (by omega) ?_;refine i7 (as':=[a9 rg,int .i64 0,int .i64 lo.1,bl true]) rfl ?_;refine b9 f0 rfl trivial ?_;simp only [d6,pnt,zac,zaa,push_cast,↓reduceIte,zE,zA,zS,zL,zD,zM];refine And.intro (by omega) ?_
 try rw [d5]
 refine i7 (as':=[a9 (bk lo hi rg 1),int .i64 0,int .i64 hi.1,bl false]) rfl ?_
 refine am2 f1 rfl trivial (by simp [ba]) (by
  intro o ho;simp only [zbe] at ho;subst ho
  exact acz _) ?_
 simp only [d6,pnt,zae,zaa,push_cast,↓reduceIte,zE,zA,zS,zL,zD,zM];refine And.intro (by omega) ?_
 try rw [d5]
 refine i7 (as':=[a9 (bk lo hi rg 2),int .i64 1,int .i64 lo.2,bl true]) rfl ?_
 refine am2 f2 rfl trivial (by simp [ba]) (by
  intro o ho;simp only [zbe] at ho;subst ho
  exact acz _) ?_
 simp only [d6,pnt,zae,zaa,push_cast,↓reduceIte,zE,zA,zS,zL,zD,zM];refine And.intro (by omega) ?_
 try rw [d5]
 refine i7 (as':=[a9 (bk lo hi rg 3),int .i64 1,int .i64 hi.2,bl false]) rfl ?_
 refine am2 f3 rfl trivial (by simp [ba]) (by
  intro o ho;simp only [zbe] at ho;subst ho
  exact acz _) ?_
 simp only [d6,pnt,zaa,push_cast,↓reduceIte,zE,zA,zS,zL,zD,zM];refine And.intro (by kernel_rfl) ?_;exact ⟨rfl,rfl⟩
set_option maxHeartbeats 4000000 in
theorem rflr_r (b : Int) (hb : 1 ≤ b ∧ b ≤ 9007199254740992) (rg : List P2) (h : RgOk rg) {res : AV} {ro : List Ob}
    (hres:(rg=[]∧res=.nils 2 (pnt 0 0)∧ro=[])∨(rg≠[]∧res=.own 1000000 0 0 (x7 b rg).length∧ro=[d6 (x7 b rg)])) :
    a8 P0 87 [a9 rg,int .i64 b] [] res ro:=by
  refine aht rfl (by decide) ?_;have hmx:=d7;have hok:=a1g rg h;obtain ⟨h1,h2,h3⟩:=h;have d1:decide (b<1)=false:=by simp; omega
  push_cast [abc,a9,d1,zat]
  refine b5 (as':=[a9 rg]) rfl ?_;refine a6 hok rfl trivial ?_
  push_cast [d1,zai]
  have hlt:∀i,(x7 b (rg.take i)).length≤i:=fun i=>by unfold x7; simp; omega
  refine run_loop [(6, false), (0, false), (1, false), (5, false)] (fun vs pos los => ∃ i : Nat, i ≤ rg.length ∧ pos = [] ∧
      (i=0∧vs=[int .i64 i,a9 rg,int .i64 b,.nils 2 (pnt 0 0)]∧los=[] ∨
       i≠0∧vs=[int .i64 i,a9 rg,int .i64 b,.own 2000000 0 0 (x7 b (rg.take i)).length]∧los=[d6 (x7 b (rg.take i))]))
    (fun vs _ _=>match vs with | .r (.v (.int _ a))::_=>(rg.length-a).toNat | _=>0) rfl ?_ ?_
  · push_cast [a9,pnt]
    exact ⟨0,by omega,.inl ⟨rfl,by simp⟩⟩
  · rintro vs pos los ⟨i,hi,rfl,⟨h0,rfl,rfl⟩ | ⟨h0,rfl,rfl⟩⟩
    · have hlen:=hlt i
      push_cast [a9,pnt,zai]
      refine b6 (fun hd=>?_) (fun hd=>?_)
      · have hi2:i<rg.length:=by simpa using hd
        obtain ⟨p,hp⟩:∃p,rg[i]?=some p:=⟨rg[i],by simp [hi2]⟩
        have hpb:=h2 p (zau hp);have wi:IntKind.i64.wrap ((i:Int)+1)=(i:Int)+1:=a5 (by omega);have hf1:=x6 p.1 b (by unfold in64; omega) (by unfold in64; omega);have hf2:=x6 p.2 b (by unfold in64; omega) (by unfold in64; omega);rw [if_pos (by omega),if_pos (by omega)] at hf1 hf2
        have hN:x7 b (rg.take (i+1))=[(p.1/b,p.2/b)]:=by
          unfold x7;rw [zbh,hp,zav];rw [h0]; rfl
        push_cast [a9,zai,fb hp,wi,zac,zae,zaf,zaz,zba,zbf,zbi,zah,zab,zad,zaa]
        repeat refine And.intro (by first | decide | omega | exact fun _=>by decide | (simp +contextual; done) | kernel_rfl) ?_
        refine a6 hf1 rfl trivial ?_
        push_cast [a9,zai,fb hp,wi,zac,zae,zaf,zaz,zba,zbf,zbi,zah,zab,zad,zaa]
        repeat refine And.intro (by first | decide | omega | exact fun _=>by decide | (simp +contextual; done) | kernel_rfl) ?_
        refine a6 hf2 rfl trivial ?_
        push_cast [a9,zai,d5,wi,zac,zae,zaf,zaz,zba,zbf,zbi,zah,zab,zad,zaa]
        repeat refine And.intro (by first | decide | omega | exact fun _=>by decide | (simp +contextual; done) | kernel_rfl) ?_
        exact ⟨⟨i+1,by omega,.inr ⟨by omega,by rw [hN]; simp,by rw [hN]; simp [ptR,pnt]⟩⟩,by omega⟩
      · have hi2:i=rg.length:=by
          have:¬i<rg.length:=by simpa using hd
          omega
        rcases hres with ⟨g0,rfl,rfl⟩ | ⟨g0,rfl,rfl⟩
        · push_cast [pnt]
        · exact absurd (List.length_eq_zero_iff.1 (by omega)) g0
    · have hlen:=hlt i
      push_cast [a9,pnt,zai]
      refine b6 (fun hd=>?_) (fun hd=>?_)
      · have hi2:i<rg.length:=by simpa using hd
        obtain ⟨p,hp⟩:∃p,rg[i]?=some p:=⟨rg[i],by simp [hi2]⟩
        have hpb:=h2 p (zau hp);have wi:IntKind.i64.wrap ((i:Int)+1)=(i:Int)+1:=a5 (by omega);have hf1:=x6 p.1 b (by unfold in64; omega) (by unfold in64; omega);have hf2:=x6 p.2 b (by unfold in64; omega) (by unfold in64; omega);rw [if_pos (by omega),if_pos (by omega)] at hf1 hf2
        have hN:x7 b (rg.take (i+1))=x7 b (rg.take i)++[(p.1/b,p.2/b)]:=by
          unfold x7;rw [zbh,hp,zav]
          rfl
        push_cast [a9,zai,fb hp,wi,zac,zae,zaf,zaz,zba,zbf,zbi,zah,zab,zad,zaa]
        repeat refine And.intro (by first | decide | omega | exact fun _=>by decide | (simp +contextual; done) | kernel_rfl) ?_
        refine a6 hf1 rfl trivial ?_
        push_cast [a9,zai,fb hp,wi,zac,zae,zaf,zaz,zba,zbf,zbi,zah,zab,zad,zaa]
        repeat refine And.intro (by first | decide | omega | exact fun _=>by decide | (simp +contextual; done) | kernel_rfl) ?_
        refine a6 hf2 rfl trivial ?_
        push_cast [a9,zai,d5,wi,zac,zae,zaf,zaz,zba,zbf,zbi,zah,zab,zad,zaa]
        repeat refine And.intro (by first | decide | omega | exact fun _=>by decide | (simp +contextual; done) | kernel_rfl) ?_
        exact ⟨⟨i+1,by omega,.inr ⟨by omega,by rw [hN]; simp,by rw [hN]; simp [ptR,pnt]⟩⟩,by omega⟩
      · have hi2:i=rg.length:=by
          have:¬i<rg.length:=by simpa using hd
          omega
        rcases hres with ⟨g0,rfl,rfl⟩ | ⟨g0,rfl,rfl⟩
        · exfalso; rw [g0] at hi2; exact h0 hi2
        · rw [hi2,zbj]; push_cast [pnt]; rfl

def aby:Mk P0 f44:={ x:=_ }
theorem aif:b8 44 2 aby:=b7 func44
theorem bfn (lo hi:P2) (hlo:(-9007199254740992≤lo.1∧lo.1≤9007199254740992)∧(-9007199254740992≤lo.2∧lo.2≤9007199254740992)) (hhi:(-9007199254740992≤hi.1∧hi.1≤9007199254740992)∧(-9007199254740992≤hi.2∧hi.2≤9007199254740992))
  {a b:P2} {rg:List P2} (h:qv a b rg) (hl:rg.length≤6) (h1:-1099511627776≤a.1∧b.1≤1099511627776∧b.1-a.1≤1073741824) (h2:-1099511627776≤a.2∧b.2≤1099511627776∧b.2-a.2≤1073741824) :
  a8 P0 85 [a9 rg,pv2 lo,pv2 hi] [] (.own 1000000 0 0 (nu lo hi rg).length) [d6 (nu lo hi rg)]∧qv a b (nu lo hi rg)∧RgOk (nu lo hi rg):=by
 have key:∀i,i≤4→RgOk (bk lo hi rg i):=fun i hi'=>by
  obtain ⟨g1,g2⟩:=alp (lo:=lo) (hi:=hi) h i hi';have:2^i≤2^4:=Nat.pow_le_pow_right (by decide) hi';have:=Nat.mul_le_mul this hl;exact a25 g1 (by omega) h1 h2
 exact ⟨bfm lo hi hlo hhi rg fun i hi'=>key i (by omega),(alp h 4 (zaw _)).1,key 4 (zaw _)⟩
def fk (t:Til) (z:Ei):List P2:=if tch z t.r.toNat (2^(30-t.z).toNat) t.x t.y=true then uz (x7 (3*r9 t) (vn t z)) else []
theorem bfi:a8 P0 86 [a9 []] [] (.nils 2 (pnt 0 0)) []:=by
 refine xf rfl (by decide) ?_
 push_cast [su,a9,List.map_nil,zat]
 refine b5 (as':=[a9 [],int .i64 1000]) rfl ?_;refine a6 (az5 [] (by decide) (by simp)) rfl trivial ?_
 push_cast [pnt,zat]
set_option maxHeartbeats 1000000 in
theorem ax5 (t:Til) (h:tis t=true) (hf:fine t=false) (z:Ei) (hk:okc t.r.toNat z) (hz:z.In 1073741824) (hb:na z t.r.toNat) {res:AV} {ro:List Ob}
  (hres:(fk t z=[]∧res=.nils 2 (pnt 0 0)∧ro=[])∨(fk t z≠[]∧res=.own 1000000 0 0 (fk t z).length∧ro=[d6 (fk t z)])) :
  a8 P0 44 [t.v,uw (s9 t.r.toNat z)] [] res ro:=by
 refine aif rfl (by decide) ?_;have hr:0≤t.z∧t.z≤18∧0≤t.r∧t.r≤12∧0≤t.x∧t.x<2^t.z.toNat∧0≤t.y∧t.y<2^t.z.toNat:=by simpa [tis] using h
 have ho:=aty h;have h1:=bdk t h hf z hk hb
 push_cast [aby,Til.v,uw,zat]
 refine b5 (as':=[t.v,uw (s9 t.r.toNat z)]) rfl ?_;refine a6 h1 rfl trivial ?_
 push_cast
 cases hT:tch z t.r.toNat (2^(30-t.z).toNat) t.x t.y with
 | false=>
  have hN:fk t z=[]:=by
   unfold fk;rw [hT];exact if_neg (by decide)
  rcases hres with ⟨_,rfl,rfl⟩ | ⟨h,_⟩
  ·push_cast [pnt]
  ·exact absurd hN h
 | true=>
  have hN:fk t z=uz (x7 (3*r9 t) (vn t z)):=by
   unfold fk;rw [hT];exact if_pos rfl
  rw [hN] at hres
  push_cast
  refine b5 (as':=[uw (s9 t.r.toNat z)]) rfl ?_;refine a6 (asm t.r z hr.2.2.1 hk) rfl trivial ?_
  push_cast [cel]
  refine b5 (as':=[t.v]) rfl ?_;refine a6 (ax7 t h) rfl trivial ?_
  push_cast [pnt]
  refine b5 (as':=[z.v,int .i64 t.r]) rfl ?_;refine a6 (a7m z t.r hz ⟨hr.2.2.1,hr.2.2.2.1⟩) rfl trivial ?_;rw [a81]
  push_cast [pnt]
  have hin:=yk h;have hsd:=uf ⟨hr.1,hr.2.1⟩;obtain ⟨X0,hX0⟩:∃X0,t.x*2^(30-t.z).toNat=X0:=⟨_,rfl⟩
  obtain ⟨Y0,hY0⟩:∃Y0,t.y*2^(30-t.z).toNat=Y0:=⟨_,rfl⟩
  obtain ⟨S0,hS0⟩:∃S0:Int,2^(30-t.z).toNat=S0:=⟨_,rfl⟩
  rw [Int.add_mul,Int.one_mul,Int.add_mul,Int.one_mul] at hin;rw [hX0,hY0,hS0] at hin;rw [hS0] at hsd;have hRP:bo t z=(aha z t.r.toNat).map (shP (-(3*X0),-(3*Y0))):=by unfold bo afv; rw [hX0,hY0]
  obtain ⟨R,hR⟩:∃R,aha z t.r.toNat=R:=⟨_,rfl⟩
  have hRl:R.length=6:=by rw [← hR,amy]
  have hRb:∀p∈R,(-4294967296≤p.1∧p.1≤4294967296)∧(-4294967296≤p.2∧p.2≤4294967296):=fun p hp=>by
   rw [← hR] at hp;obtain ⟨i,hi,rfl⟩:=zar.1 hp;exact hb i (zbk.1 hi)
  rw [hX0,hY0,hS0,hR];rw [hR] at hRP;obtain ⟨d,hd⟩:∃d:P2,(-(3*X0),-(3*Y0))=d:=⟨_,rfl⟩
  rw [hd] at hRP
  refine run_loop [(11,false),(10,false),(7,false),(8,false),(2,false)] (fun vs pos los=>∃i:Nat,i≤6∧vs=[int .i64 i,.own 2000000 0 0 6,int .i64 X0,int .i64 Y0,.ptr 2000001 0 0]∧pos=[]∧los=[d6 ((R.take i).map (shP d)++R.drop i),.box [int .i64 t.z,int .i64 t.x,int .i64 t.y,int .i64 t.r]])
   (fun vs _ _=>match vs with | .r (.v (.int _ a))::_=>(6-a).toNat | _=>0) rfl ?_ ?_
  ·push_cast [d6,pnt]
   exact ⟨0,by omega,rfl,by simp⟩
  ·rintro vs pos los ⟨i,hi,rfl,rfl,rfl⟩
   push_cast [d6,pnt]
   refine b6 (fun hd6=>?_) (fun hd6=>?_)
   ·have hi2:i<6:=by have:=of_decide_eq_true hd6; omega
    obtain ⟨p,hp⟩:∃p,R[i]'(by omega)=p:=⟨_,rfl⟩
    have hpb:=hRb p (hp▸zbp _);have wi:IntKind.i64.wrap ((i:Int)+1)=(i:Int)+1:=a5 (by omega);have hdr:R.drop i=p::R.drop (i+1):=by rw [zbu (by omega),hp]
    have htk:(R.take (i+1)).map (shP d)=(R.take i).map (shP d)++[shP d p]:=by rw [List.take_succ_eq_append_getElem (by omega),hp,zav]; rfl
    obtain ⟨A,hA⟩:∃A,(R.take i).map (shP d)=A:=⟨_,rfl⟩
    have hAl:A.length=i:=by rw [← hA]; simp; omega
    obtain ⟨T,hT⟩:∃T,R.drop (i+1)=T:=⟨_,rfl⟩
    rw [hdr,hA,hT]
    have hg:∀q:P2,∀z,((A++q::T).map ptR).getD i z=.agg [.v (.int .i64 q.1),.v (.int .i64 q.2)]:=fun q z=>by
     rw [← hAl]; exact aat A T q z
    have hs:∀(q:P2) (a b:Int),((A++q::T).map ptR).set i (.agg [.v (.int .i64 a),.v (.int .i64 b)])=(A++(a,b)::T).map ptR:=fun q a b=>by
     rw [show (RV.agg [.v (.int .i64 a),.v (.int .i64 b)])=ptR (a,b) from rfl,← zbl,← hAl];congr 1;simp
    have m1:IntKind.i64.wrap (3*X0)=3*X0:=a5 (by omega);have m2:IntKind.i64.wrap (3*Y0)=3*Y0:=a5 (by omega);have m3:IntKind.i64.wrap (p.1-3*X0)=p.1-3*X0:=a5 (by omega);have m4:IntKind.i64.wrap (p.2-3*Y0)=p.2-3*Y0:=a5 (by omega)
    push_cast [d6,pnt,hg,hs,m1,m2,m3,m4,wi,c9,zac,zaf,zaa,Nat.zero_mul,Nat.mul_one,zaz,zba,List.set_cons_zero,List.set_cons_succ,zab,zad,zaa]
    repeat refine And.intro (by first | exact ⟨by omega,by omega⟩ | kernel_rfl) ?_
    refine ⟨⟨i+1,by omega,by simp,?_⟩,by omega⟩;rw [htk,hA,hT,← hd];simp [shP,Int.sub_eq_add_neg]
   ·have hi2:i=6:=by have:=of_decide_eq_false hd6; omega
    subst hi2
    have hfin:(R.take 6).map (shP d)++R.drop 6=bo t z:=by
     rw [hRP,zao (by omega),List.drop_of_length_le (by omega),zbn]
    rw [hfin];have hut:=ap5 (18-t.z) (by omega) (by omega)
    have hu1:1≤r9 t∧r9 t≤262144:=by
     have h1:2^(18-t.z).toNat≤2^18:=Nat.pow_le_pow_right (by decide) (by omega);have h3:((2^(18-t.z).toNat:Nat):Int)=(2:Int)^(18-t.z).toNat:=by simp
     have h4:0<2^(18-t.z).toNat:=Nat.pow_pos (by decide);unfold r9;omega
    push_cast
    rw [show IntKind.i64.wrap (18-t.z)=18-t.z from a5 (by omega)];refine a6 hut rfl trivial ?_;rw [show (2:Int)^(18-t.z).toNat=r9 t from rfl];obtain ⟨U,hU⟩:∃U,r9 t=U:=⟨_,rfl⟩
    rw [hU] at hu1 hres ⊢;have m1:IntKind.i64.wrap (-192*U)=-192*U:=a5 (by omega);have m2:IntKind.i64.wrap (12480*U)=12480*U:=a5 (by omega);have m3:IntKind.i64.wrap (3*U)=3*U:=a5 (by omega)
    push_cast [d6,pnt,m1,m2,m3]
    have hk0:=as1 t.r.toNat 0 (by omega) (by decide);have hb0:=hb 0 (by decide);rw [cg,cd] at hb0
    have hRI:qv (3*cx z t.r.toNat-100000000-3*X0,3*cy z t.r.toNat-100000000-3*Y0) (3*cx z t.r.toNat+100000000-3*X0,3*cy z t.r.toNat+100000000-3*Y0) (bo t z):=fun p hp=>by
     rw [hRP,← hR,← hd] at hp;obtain ⟨q,hq,rfl⟩:=zar.1 hp;obtain ⟨i,hi,rfl⟩:=zar.1 hq;have hk:=as1 t.r.toNat i (by omega) (zbk.1 hi);simp only [shP,cg,cd];omega
    have hRL:(bo t z).length=6:=by rw [hRP]; simp [hRl]
    have hHu:ap0 (bo t z):=by rw [hRP,← hR]; exact amw z _ (by omega) d
    obtain ⟨c1,c2,c3⟩:=bfn (-192*U,-192*U) (12480*U,12480*U) (by simp only; omega) (by simp only; omega) hRI (by omega) (by simp only; omega) (by simp only; omega);have c4:=aqj (-192*U,-192*U) (12480*U,12480*U) hRI
    have c5:(nu (-192*U,-192*U) (12480*U,12480*U) (bo t z)).length≤10:=by
     have:=(aln (lo:=(-192*U,-192*U)) (hi:=(12480*U,12480*U)) hHu 4 (zaw _)).2;rw [hRL] at this;exact this
    have hW:vn t z=nu (-192*U,-192*U) (12480*U,12480*U) (bo t z):=by unfold vn; rw [hU]
    rw [← hW] at c1 c2 c3 c4 c5;obtain ⟨W,hW2⟩:∃W,vn t z=W:=⟨_,rfl⟩
    rw [hW2] at c1 c2 c3 c4 c5 hres;have htk6:zaq 6 ((bo t z).map ptR)=(bo t z).map ptR:=zao (by simp [hRL]);refine i9 ?_;rw [htk6]
    push_cast [pnt]
    refine b5 (as':=[a9 (bo t z),pv2 (-192*U,-192*U),pv2 (12480*U,12480*U)]) rfl ?_;refine a6 c1 rfl trivial ?_
    push_cast [d6,pnt,m3]
    refine i9 ?_
    try rw [d5]
    push_cast [pnt]
    refine b5 (as':=[a9 W,int .i64 (3*U)]) rfl ?_;by_cases hWe:W=[]
    ·refine a6 (rflr_r (3*U) (by omega) W c3 (.inl ⟨hWe,rfl,rfl⟩)) rfl trivial ?_
     push_cast [pnt]
     refine b5 (as':=[a9 []]) rfl ?_;refine a6 bfi rfl trivial ?_;have h0:uz (x7 (3*U) W)=[]:=by rw [hWe]; rfl
     rw [h0] at hres;rcases hres with ⟨_,rfl,rfl⟩ | ⟨h,_⟩
     ·push_cast [pnt]
     ·exact absurd rfl h
    ·refine a6 (rflr_r (3*U) (by omega) W c3 (.inr ⟨hWe,rfl,rfl⟩)) rfl trivial ?_
     push_cast [d6,pnt]
     refine i9 ?_
     try rw [d5]
     push_cast [pnt]
     refine b5 (as':=[a9 (x7 (3*U) W)]) rfl ?_;have hFl:(x7 (3*U) W).length=W.length:=by simp [x7]
     have hWl:1≤W.length:=by
      cases W with
      | nil=>exact absurd rfl hWe
      | cons a r=>simp
     have hFn:∀p∈x7 (3*U) W,near29 p:=fun p hp=>by
      obtain ⟨q,hq,rfl⟩:=zar.1 hp;have:=c4 q hq;simp only at this;have e1:-64≤q.1/(3*U):=(zbq (by omega)).2 (by omega);have e2:q.1/(3*U)<4161:=(zbr (by omega)).2 (by omega);have e3:-64≤q.2/(3*U):=(zbq (by omega)).2 (by omega);have e4:q.2/(3*U)<4161:=(zbr (by omega)).2 (by omega);unfold near29;simp only;omega
     have hFe:x7 (3*U) W≠[]:=fun h=>by rw [h] at hFl; simp at hFl; omega
     rcases hres with ⟨a,rfl,rfl⟩ | ⟨a,rfl,rfl⟩
     ·refine a6 (rhull_t (x7 (3*U) W) (by omega) hFe hFn (.inl ⟨a,rfl,rfl⟩)) rfl trivial ?_
      push_cast [d6,pnt]
     ·refine a6 (rhull_t (x7 (3*U) W) (by omega) hFe hFn (.inr ⟨a,rfl,rfl⟩)) rfl trivial ?_
      push_cast [d6,pnt]
theorem a7i (t:Til) (h:tis t=true) (hf:fine t=false) (z:Ei) (hk:okc t.r.toNat z) (hb:na z t.r.toNat) :
  a8 P0 44 [t.v,uw (s9 t.r.toNat z)] [] (.own 1000000 0 0 (fk t z).length) [d6 (fk t z)]:=by
 by_cases h0:fk t z=[]
 ·have:=yx (ax5 t h hf z hk hk.2.1 hb (.inl ⟨h0,rfl,rfl⟩));rw [h0];exact this
 ·exact ax5 t h hf z hk hk.2.1 hb (.inr ⟨h0,rfl,rfl⟩)


theorem at1:∀(r:List P2) (p:P2) (i:Nat) (q o:P2),r[i]?=some q→(p::r)[i]?=some o→(p9 p r).getD (2*i) 0=zig (IntKind.i64.wrap (q.1-o.1))∧(p9 p r).getD (2*i+1) 0=zig (IntKind.i64.wrap (q.2-o.2))
 | [],p,i,q,o,h,_=>by simp at h
 | a::r,p,0,q,o,h,g=>by
  simp at h g;subst h; subst g;exact ⟨rfl,rfl⟩
 | a::r,p,i+1,q,o,h,g=>by
  have ih:=at1 r a i q o (by simpa using h) (by simpa using g);rw [show 2*(i+1)=2*i+1+1 by omega,p9];exact ih
theorem aj2 {p:P2} {r:List P2} (h:2≤r.length):n6 (p::r)=[9,zig p.1,zig p.2,8*(r.length:Int)+2]++p9 p r++[15]:=by
 rw [n6,if_neg (by omega)]
theorem avp {ring:List P2} (h:3≤ring.length):(n6 ring).length=2*ring.length+3:=by
 cases ring with
 | nil=>simp at h
 | cons p r=>
  simp only [zah] at h;rw [aj2 (by omega)];have:=iq r p;simp [this];omega
theorem avq {ring:List P2} (h:3≤ring.length):ao (n6 ring)=true:=by
 have hs:=avp h;cases ring with
 | nil=>simp at h
 | cons p r=>
  simp only [zah] at h hs;have hsh:=aj2 (p:=p) (r:=r) (by omega);have hl:=iq r p;unfold ao;rw [hs];have e1:(n6 (p::r)).getD 0 0=9:=by rw [hsh]; rfl
  have e2:(n6 (p::r)).getD (2*(r.length+1)+3-1) 0=15:=by
   rw [hsh,zam,List.getElem?_append_right (by simp [hl]; omega)];rw [show 2*(r.length+1)+3-1-([9,zig p.1,zig p.2,8*(r.length:Int)+2]++p9 p r).length=0 by simp [hl]; omega]
   rfl
  have e3:(n6 (p::r)).getD 3 0=8*(r.length:Int)+2:=by rw [hsh]; rfl
  rw [e1,e2,e3];have a1:decide (9≤2*(r.length+1)+3)=true:=decide_eq_true (by omega);have a2:((2*(r.length+1)+3)%2 == 1)=true:=by rw [beq_iff_eq]; omega
  have a3:(8*(r.length:Int)+2 == 8*((((2*(r.length+1)+3:Nat):Int)-5)/2)+2)=true:=by rw [beq_iff_eq]; omega
  rw [a1,a2,a3]
  rfl
theorem a41 {ring:List P2} (h:3≤ring.length) (hin:i64P ring):dj (n6 ring)=ring:=by
 rw [dj,if_pos (avq h),avp h];cases ring with
 | nil=>simp at h
 | cons p r=>
  simp only [zah] at h ⊢;have hsh:=aj2 (p:=p) (r:=r) (by omega);have hl:=iq r p
  have hc:∀j,j<r.length+1→∀o,(p::r)[j]?=some o→vd (n6 (p::r)) j=o:=fun j=>by
   induction j with
   | zero=>
    intro _ o ho;simp at ho;subst ho;rw [vd,hsh];show (zag (zig p.1),zag (zig p.2))=p;rw [agn,agn]
   | succ j ih=>
    intro hj q hq;obtain ⟨o,ho⟩:∃o,(p::r)[j]?=some o:=⟨(p::r)[j]'(by simp; omega),by simp [show j<r.length+1 by omega]⟩
    have hq2:r[j]?=some q:=by simpa using hq
    obtain ⟨g1,g2⟩:=at1 r p j q o hq2 ho;have hqi:=hin q (by simp [zau hq2]);have hoi:=hin o (zau ho)
    have hd:∀k,k<2*r.length→(n6 (p::r)).getD (4+k) 0=(p9 p r).getD k 0:=fun k hk=>by
     rw [hsh,zax,zam,List.getElem?_append_right (by simp),zam];rw [show 4+k-[9,zig p.1,zig p.2,8*(r.length:Int)+2].length=k by simp];rw [List.getElem?_append_left (by omega)]
    rw [vd,ih (by omega) o ho,hd (2*j) (by omega),show 5+2*j=4+(2*j+1) by omega,hd (2*j+1) (by omega),g1,g2,agn,agn]
    have wr:∀a b:Int,in64 a→in64 b→IntKind.i64.wrap (b+IntKind.i64.wrap (a-b))=a:=fun a b ha hb=>by
     rw [IntKind.wrap_i64,IntKind.wrap_i64];unfold in64 at ha hb;omega
    rw [wr _ _ hqi.1 hoi.1,wr _ _ hqi.2 hoi.2]
  apply zbm;intro i;by_cases hi:i<r.length+1
  ·rw [bw,zbb,zbv (by omega),zas (by simpa using hi)];rw [Option.map_some,hc i hi _ (zas (by simpa using hi))]
  ·rw [zap (by simp [bw]; omega),zap (by simp; omega)]

def go:Mk P0 f50:={ x:=_ }
theorem ake:b8 50 2 go:=b7 func50
def ar:Mk P0 f23:={ x:=_ }
theorem age:b8 23 1 ar:=b7 func23
def ag1 (f:Fea) (k:Nat) (z:Int):Fea:=match k with
 | 0=>{ f with c:=z }
 | 1=>{ f with s:=z }
 | 2=>{ f with lo:=z }
 | _=>{ f with hi:=z }
def vw (b:List UInt8):Option Nat:=
 match r7 b with
 | some [x]=>if x.1=6∧x.2.1=0 then some x.2.2.1 else none
 | _=>none
def uscan:List Fld→List Fea→Nat→Option (List Fea)
 | [],o,n=>some o
 | f::r,o,n=>
  if f.1=2∧f.2.1=2 then (if (featD f.2.2.2).2 then uscan r (o++[(featD f.2.2.2).1]) n else none)
  else if f.1=4 then (match vw f.2.2.2 with
   | some m=>if n/4<o.length then uscan r (o.set (n/4) (ag1 (o.getD (n/4) default) (n%4) (zag m))) (n+1) else none
   | none=>none)
  else uscan r o n
def xn (b:List UInt8):Option (List Fea):=
 match r7 b with
 | some [x]=>if x.2.1=2 then (match r7 x.2.2.2 with
   | some fs=>uscan fs [] 0
   | none=>none) else none
 | _=>none
theorem awr {b:List UInt8} (h:∀m,r7 b=some m→m.length≠1):vw b=none:=by
 unfold vw;split
 ·rename_i x e;exact absurd rfl (h _ e)
 ·rfl
def xr:Option Nat→AV
 | some n=>.tup [int .u64 (n:Nat),bl true]
 | none=>.tup [int .u64 0,bl false]
theorem a7j (b:List UInt8) (hb:b.length≤1000000):a8 P0 50 [sb b,int .i64 6] [] (xr (vw b)) []:=by
  refine ake rfl (by decide) ?_;have hr:=adw b (by omega);have hmx:=d7;have f10:((10:Int) != 0)=true:=rfl;have f00:((0:Int) != 0)=false:=rfl;have f01:((0:Int) != 1)=true:=rfl;cases hm:r7 b with
  | none=>
    have hv:vw b=none:=awr (fun m h=>by rw [hm] at h; cases h);rw [hm] at hr;rw [hv];simp only [go,x9,t7,push_cast,↓reduceIte,reduceCtorEq,zA];refine a6 hr rfl trivial ?_;simp only [ca,dx,f10,xr,push_cast,↓reduceIte,reduceCtorEq,zE,zA,zL]
  | some m=>
    by_cases h0:m=[]
    · subst h0;have hv:vw b=none:=awr (fun m h=>by rw [hm] at h; cases h; simp);rw [hm] at hr;rw [hv];simp only [go,x9,t7,push_cast,↓reduceIte,reduceCtorEq,zA];refine a6 hr rfl trivial ?_;simp only [ca,dx,f00,f01,xr,push_cast,↓reduceIte,reduceCtorEq,zE,zA,zL]
    rw [hm,(o5 h0).1,(o5 h0).2] at hr;have hml:=kr hm;by_cases h1:m.length≠1
    · have hv:vw b=none:=awr (fun m' h=>by rw [hm] at h; cases h; exact h1);rw [hv]
      obtain ⟨y,t,rfl⟩:∃y t,m=y::t:=by
        cases m with
        | nil=>exact absurd rfl h0
        | cons y t=>exact ⟨y,t,rfl⟩
      simp only [zah] at h1;have e1:((t.length:Int)+1 != 1)=true:=bne_iff_ne.2 (by omega);simp only [go,x9,t7,push_cast,↓reduceIte,reduceCtorEq,zA];refine a6 hr rfl trivial ?_;simp only [f00,e1,xr,bj,zac,zaj,zaa,push_cast,↓reduceIte,reduceCtorEq,zE,zA,zS,zL,zD,zM]
    obtain ⟨x,rfl⟩:∃x,m=[x]:=List.length_eq_one_iff.1 (by omega);have hx:=u6 hm x (by simp);have e1:((1:Int) != 1)=false:=rfl;have hv:vw b=if x.1=6∧x.2.1=0 then some x.2.2.1 else none:=by unfold vw; rw [hm]
    rw [hv];simp only [go,x9,t7,push_cast,↓reduceIte,reduceCtorEq,zA];refine a6 hr rfl trivial ?_;cases e2:((x.1:Int) != 6) with
    | true=>
      have e2':x.1≠6:=by have:=bne_iff_ne.1 e2; omega
      rw [if_neg (fun h=>e2' h.1)];simp only [f00,e1,e2,bj,xr,zac,push_cast,↓reduceIte,reduceCtorEq,zE,zA,zS,zL,zD,zM];omega
    | false=>
      have e2' : x.1 = 6 := by have : ((x.1 : Int) = 6) := by simpa using e2
                               omega
      cases e3:((x.2.1:Int) != 0) with
      | true=>
        have e3':x.2.1≠0:=by have:=bne_iff_ne.1 e3; omega
        rw [if_neg (fun h=>e3' h.2)];simp only [f00,e1,e2,e3,bj,xr,zac,push_cast,↓reduceIte,reduceCtorEq,zE,zA,zS,zL,zD,zM];omega
      | false=>
        have e3' : x.2.1 = 0 := by have : ((x.2.1 : Int) = 0) := by simpa using e3
                                   omega
        rw [if_pos ⟨e2',e3'⟩];simp only [f00,e1,e2,e3,bj,xr,zac,push_cast,↓reduceIte,reduceCtorEq,zE,zA,zS,zL,zD,zM];omega
theorem awb {b:List UInt8} (h:∀m,r7 b=some m→m.length≠1):xn b=none:=by
 unfold xn;split
 ·rename_i x e;exact absurd rfl (h _ e)
 ·rfl
def gk (b:List UInt8):Option (List Fea)→Option (List Fea)
 | none=>none
 | some o=>if o≠[]∧q9 o=b then some o else none
def amf (b:List UInt8):Option (List Fea):=if b=[] then some [] else gk b (xn b)
def al6 (o:List Fea):AV:=if o=[] then .nils 6 g7 else .own 2000001 0 0 o.length
def al7 (o:List Fea):List Ob:=if o=[] then [] else [fm o]
theorem bep (f:Fea) (k:Nat) (z:Int):(ag1 f k z).rv=match k with
  | 0=>.agg [.v (.int .u64 f.w),.sl 2 (f.ring.map ptR),.v (.int .i64 z),.v (.int .i64 f.s),.v (.int .i64 f.lo),.v (.int .i64 f.hi)]
  | 1=>.agg [.v (.int .u64 f.w),.sl 2 (f.ring.map ptR),.v (.int .i64 f.c),.v (.int .i64 z),.v (.int .i64 f.lo),.v (.int .i64 f.hi)]
  | 2=>.agg [.v (.int .u64 f.w),.sl 2 (f.ring.map ptR),.v (.int .i64 f.c),.v (.int .i64 f.s),.v (.int .i64 z),.v (.int .i64 f.hi)]
  | _=>.agg [.v (.int .u64 f.w),.sl 2 (f.ring.map ptR),.v (.int .i64 f.c),.v (.int .i64 f.s),.v (.int .i64 f.lo),.v (.int .i64 z)]:=by
 match k with
 | 0=>rfl
 | 1=>rfl
 | 2=>rfl
 | k+3=>rfl
theorem aws {b:List UInt8} {m:Nat} (h:vw b=some m):m<18446744073709551616:=by
 unfold vw at h;split at h
 ·rename_i x e;split at h
  ·cases h;exact (u6 e x (by simp)).2.2.1
  ·cases h
 ·cases h
theorem ber {f:Fea} (h:f.ok) (k:Nat) {z:Int} (hz:in64 z):(ag1 f k z).ok:=by
 obtain ⟨h1,h2,h3,h4,h5,h6,h7⟩:=h;unfold ag1;split
 ·exact ⟨h1,h2,h3,hz,h5,h6,h7⟩
 ·exact ⟨h1,h2,h3,h4,hz,h6,h7⟩
 ·exact ⟨h1,h2,h3,h4,h5,hz,h7⟩
 ·exact ⟨h1,h2,h3,h4,h5,h6,hz⟩
theorem agx:∀(fs:List Fld) (o:List Fea) (n:Nat),(∀x∈fs,x.2.2.2.length≤100000)→(∀f∈o,f.ok)→∀p,uscan fs o n=some p→(∀f∈p,f.ok)∧p.length≤o.length+fs.length
 | [],o,n,h,ho,p,e=>by
  cases e;exact ⟨ho,by simp⟩
 | x::r,o,n,h,ho,p,e=>by
  have hr:∀y∈r,y.2.2.2.length≤100000:=fun y hy=>h y (by simp [hy]);rw [uscan] at e;split at e
  ·split at e
   ·obtain ⟨a,b⟩:=agx r _ _ hr (fun f hf=>by
     rcases List.mem_append.1 hf with hf | hf
     ·exact ho f hf
     ·rw [zbe.1 hf]
      exact a1j _ (h x (by simp))) p e
    refine ⟨a,?_⟩;simp only [zay,zah,zat] at b ⊢;omega
   ·cases e
  ·split at e
   ·split at e
    ·rename_i m hm;split at e
     ·rename_i hlt
      obtain ⟨a,b⟩:=agx r _ _ hr (fun f hf=>by
       rcases List.mem_or_eq_of_mem_set hf with hf | rfl
       ·exact ho f hf
       ·have:=aws hm
        exact ber (aau ho hlt) _ (atm _ (by omega) (by omega))) p e
      refine ⟨a,?_⟩;simp only [List.length_set,zah] at b ⊢;omega
     ·cases e
    ·cases e
   ·obtain ⟨a,b⟩:=agx r _ _ hr ho p e;refine ⟨a,?_⟩;simp only [zah];omega
set_option maxHeartbeats 4000000 in
theorem bkr (b:List UInt8) (hb:b.length≤100000):a8 P0 23 [z7 (l9 b)] [] (rdR (amf b)) (rdO (amf b)):=by
  refine age rfl (by decide) ?_;have hmx:=d7
  have hbs:((l9 b).toList == ({ data:=#[] }:ByteArray).toList)=decide (b=[]):=by
    rw [ajf,ByteArray.toList_eq];by_cases h:b=[]
    · subst h; rfl
    · rw [decide_eq_false h]; exact beq_eq_false_iff_ne.2 h
  by_cases h0:b=[]
  · subst h0;simp only [ar,hbs,push_cast,↓reduceIte,reduceCtorEq,zE,zA];rw [show amf []=some [] from if_pos rfl];exact ⟨rfl,rfl⟩
  rw [decide_eq_false h0] at hbs;have hrt:amf b=gk b (xn b):=if_neg h0;rw [hrt];have hr:=adw b (by omega);have f10:((10:Int) != 0)=true:=rfl;have f00:((0:Int) != 0)=false:=rfl;have f01:((0:Int) != 1)=true:=rfl;have bad:∀(v:AV) (os:List Ob),v=.tup [.nils 6 g7,int .i64 10]→os=[]→v=rdR none∧os=rdO none:=fun v os h1 h2=>by rw [h1,h2]; exact ⟨rfl,rfl⟩
  cases hm:r7 b with
  | none=>
    have hv:xn b=none:=awb (fun m h=>by rw [hm] at h; cases h);rw [hm] at hr;rw [hv,gk];simp only [ar,hbs,push_cast,↓reduceIte,reduceCtorEq];refine a6 hr rfl trivial ?_;simp only [ca,dx,f10,rdR,rdO,g7,push_cast,↓reduceIte,reduceCtorEq,zE,zA,zL]
  | some m=>
    by_cases hm0:m=[]
    · subst hm0;have hv:xn b=none:=awb (fun m h=>by rw [hm] at h; cases h; simp);rw [hm] at hr;rw [hv,gk];simp only [ar,hbs,push_cast,↓reduceIte,reduceCtorEq];refine a6 hr rfl trivial ?_;simp only [ca,dx,f00,f01,rdR,rdO,g7,push_cast,↓reduceIte,zE,zA,zL]
    rw [hm,(o5 hm0).1,(o5 hm0).2] at hr;have hml:=kr hm;by_cases h1:m.length≠1
    · have hv:xn b=none:=awb (fun m' h=>by rw [hm] at h; cases h; exact h1);rw [hv,gk]
      obtain ⟨y,t,rfl⟩:∃y t,m=y::t:=by
        cases m with
        | nil=>exact absurd rfl hm0
        | cons y t=>exact ⟨y,t,rfl⟩
      simp only [zah] at h1;have e1:((t.length:Int)+1 != 1)=true:=bne_iff_ne.2 (by omega);simp only [ar,hbs,push_cast,↓reduceIte,reduceCtorEq];refine a6 hr rfl trivial ?_;simp only [f00,e1,rdR,rdO,g7,bj,zac,zaj,zaa,push_cast,↓reduceIte,reduceCtorEq,zE,zA,zS,zL,zD,zM]
    obtain ⟨x,rfl⟩:∃x,m=[x]:=List.length_eq_one_iff.1 (by omega);have hx:=u6 hm x (by simp);have e1:((1:Int) != 1)=false:=rfl
    have hv:xn b=if x.2.1=2 then (match r7 x.2.2.2 with
      | some fs=>uscan fs [] 0
      | none=>none) else none:=by unfold xn; rw [hm]
    rw [hv];simp only [ar,hbs,push_cast,↓reduceIte,reduceCtorEq];refine a6 hr rfl trivial ?_;cases e2:((x.2.1:Int) != 2) with
    | true=>
      have e2':x.2.1≠2:=by have:=bne_iff_ne.1 e2; omega
      rw [if_neg e2',gk];simp only [f00,e1,e2,bj,rdR,rdO,g7,zac,push_cast,↓reduceIte,zE,zA,zS,zL,zD,zM];omega
    | false=>
      have e2' : x.2.1 = 2 := by have : ((x.2.1 : Int) = 2) := by simpa using e2
                                 omega
      rw [if_pos e2'];have hr2:=adw x.2.2.2 (by omega);simp only [f00,e1,e2,bj,x9,t7,zac,push_cast,↓reduceIte,zE,zA,zS,zL,zD,zM]
      repeat refine And.intro (by omega) ?_
      cases hm2:r7 x.2.2.2 with
      | none=>
        rw [hm2] at hr2;simp only [gk];refine a6 hr2 rfl trivial ?_;simp only [ca,dx,f10,rdR,rdO,g7,push_cast,↓reduceIte,zE,zA,zL]
      | some fs=>
        have hfl:=u6 hm2;have hfn:=kr hm2
        have hok:∀p,uscan fs [] 0=some p→(∀f∈p,f.ok)∧p.length≤fs.length:=fun p hp=>by
          have:=agx fs [] 0 (fun y hy=>by have:=hfl y hy; omega) (by simp) p hp;simpa using this
        have f04:((0:Int) != 4)=true:=rfl;have e44:((4:Int) != 4)=false:=rfl
        have hUm : (match some fs with
              | some fs=>uscan fs [] 0
              | none=>none)=uscan fs [] 0:=rfl
        rw [hUm];by_cases h2:fs=[]
        · subst h2;rw [hm2] at hr2;refine a6 hr2 rfl trivial ?_;have d00:decide ((0:Int)<0)=false:=rfl;have g00:((0:Int) == 0)=true:=rfl;have hfn0:gk b (uscan [] [] 0)=none:=by rw [uscan]; exact if_neg (t:=some ([]:List Fea)) (fun h:([]:List Fea)≠[]∧q9 []=b=>h.1 rfl)
          rw [hfn0];simp only [ca,dx,f00,rdR,rdO,push_cast,↓reduceIte,zE,zA,zL];refine run_loop [(9,false),(6,false),(7,false),(8,false),(0,false)] (fun vs pos los=>vs=[int .i64 0,asy,.nils 6 g7,int .i64 0,z7 (l9 b)]∧pos=[]∧los=[]) (fun _ _ _=>0) rfl ?_ ?_
          · simp only [g7,push_cast,↓reduceIte,reduceCtorEq,zE,zA]
          · rintro vs pos los ⟨rfl,rfl,rfl⟩;simp only [g7,d00,g00,push_cast,↓reduceIte,reduceCtorEq,zE,zA,zL]
        rw [hm2,(o5 h2).1,(o5 h2).2] at hr2;obtain ⟨M,hM,hM1⟩:∃M:Int,((fs.length:Nat):Int)=M∧0≤M∧M≤1000000:=⟨_,rfl,by omega,by omega⟩
        refine a6 hr2 rfl trivial ?_;simp only [f00,push_cast,↓reduceIte,zE,zA,zS,zL,zD,zM]
        refine run_loop [(9, false), (6, false), (7, false), (8, false), (0, false)] (fun vs pos los => ∃ (i : Nat) (o : List Fea) (n : Nat), i ≤ fs.length ∧ o.length ≤ i ∧ n ≤ i ∧ uscan fs [] 0 = uscan (fs.drop i) o n ∧
            vs=[int .i64 i,.own 2000000 0 0 fs.length,al6 o,int .i64 n,z7 (l9 b)]∧pos=[]∧los=awi fs::al7 o)
          (fun vs _ _=>match vs with | .r (.v (.int _ a))::_=>(M-a).toNat | _=>0) rfl ?_ ?_
        · simp only [push_cast,↓reduceIte,reduceCtorEq,zE,zA,zL,zD];exact ⟨0,[],0,by omega,by simp,by omega,rfl,rfl,rfl⟩
        · rintro vs pos los ⟨i,o,n,hi,hol,hnl0,hs,rfl,rfl,rfl⟩;have w1:IntKind.i64.wrap ((i:Int)+1)=i+1:=a5 (by omega);have wn:IntKind.i64.wrap ((n:Int)+1)=n+1:=a5 (by omega)
          have hstep : ∀ hi2 : i < fs.length, uscan (fs.drop i) o n = if fs[i].1 = 2 ∧ fs[i].2.1 = 2 then (if (featD fs[i].2.2.2).2 then uscan (fs.drop (i + 1)) (o ++ [(featD fs[i].2.2.2).1]) n else none)
              else if fs[i].1=4 then (match vw fs[i].2.2.2 with
                | some m=>if n/4<o.length then uscan (fs.drop (i+1)) (o.set (n/4) (ag1 (o.getD (n/4) default) (n%4) (zag m))) (n+1) else none
                | none=>none)
              else uscan (fs.drop (i+1)) o n:=fun hi2=>by
            rw [zbu hi2,uscan]
          have hget:∀(hi2:i<fs.length) z,(fs.map bj).getD i z=.agg [.v (.int .i64 (fs[i].1:Nat)),.v (.int .i64 (fs[i].2.1:Nat)),.v (.int .u64 (fs[i].2.2.1:Nat)),.sl 1 (bys fs[i].2.2.2)]:=fun hi2 z=>by
            rw [zam,zbb,zas hi2]; rfl
          have hFb:∀hi2:i<fs.length,fs[i].2.2.2.length≤100000:=fun hi2=>by
            have:=hfl _ (zbp hi2);omega
          by_cases ho0:o=[]
          · simp only [al6,al7,ho0,g7,hM,push_cast,↓reduceIte,zE];refine b6 (fun hd=>?_) (fun hd=>?_)
            · have hd:=of_decide_eq_true hd;have hi2:i<fs.length:=by omega
              have hg:=hget hi2;have hsp:=hstep hi2;have hdb:=hFb hi2;rw [hsp] at hs;clear hsp;generalize fs[i]=F at *;cases e2:((F.1:Int) == 2) with
              | false=>
                have e2':¬(F.1=2∧F.2.1=2):=fun h=>by have:=beq_eq_false_iff_ne.1 e2; omega
                rw [if_neg e2'] at hs;cases e4:((F.1:Int) == 4) with
                | false=>
                  have e4':¬F.1=4:=by have:=beq_eq_false_iff_ne.1 e4; omega
                  rw [if_neg e4'] at hs;simp only [hg,e2,e4,w1,hM,zab,zaa,push_cast,↓reduceIte,reduceCtorEq,zE,zA,zL,zD]
                  repeat refine And.intro (by omega) ?_
                  exact ⟨⟨i+1,o,n,by omega,by omega,by omega,hs,by simp [ho0],by simp [ho0]⟩,by omega⟩
                | true=>
                  have q4:F.1=4:=by have:=eq_of_beq e4; omega
                  rw [if_pos q4] at hs;have hone:=a7j F.2.2.2 (by omega);simp only [hg,e2,e4,hM,zab,zaa,push_cast,↓reduceIte,zE,zL,zD]
                  repeat refine And.intro (by omega) ?_
                  refine a6 hone rfl trivial ?_;cases hO:vw F.2.2.2 with
                  | none=>
                    rw [hO] at hs;simp only [xr,hs,gk,rdR,rdO,g7,push_cast,↓reduceIte,reduceCtorEq,zE,zA,zL]
                  | some mm=>
                    rw [hO] at hs;simp only at hs;have hq:(n:Int).tdiv 4=((n/4:Nat):Int):=by rw [Int.tdiv_eq_ediv_of_nonneg (by omega)]; omega
                    have wq:IntKind.i64.wrap ((n/4:Nat):Int)=((n/4:Nat):Int):=a5 (by omega);have hml:=aws hO;have hlt:¬n/4<o.length:=by rw [ho0]; simp
                    rw [if_neg hlt] at hs;obtain ⟨Q,hqe⟩:∃Q,n/4=Q:=⟨_,rfl⟩
                    rw [hqe] at hq wq;have dge:decide ((Q:Int)≥0)=true:=decide_eq_true (by omega);simp only [xr,hs,hq,wq,dge,gk,rdR,rdO,g7,push_cast,↓reduceIte,zE,zA,zL]
                    decide
              | true=>
                have q2:F.1=2:=by have:=eq_of_beq e2; omega
                have e4:((F.1:Int) == 4)=false:=by rw [q2]; rfl
                have e4':¬F.1=4:=by omega
                cases e3:((F.2.1:Int) == 2) with
                | false=>
                  have e2':¬(F.1=2∧F.2.1=2):=fun h=>by have:=beq_eq_false_iff_ne.1 e3; omega
                  rw [if_neg e2',if_neg e4'] at hs;simp only [hg,e2,e3,e4,w1,hM,zab,zaa,push_cast,↓reduceIte,reduceCtorEq,zE,zA,zL,zD]
                  repeat refine And.intro (by omega) ?_
                  exact ⟨⟨i+1,o,n,by omega,by omega,by omega,hs,by simp [ho0],by simp [ho0]⟩,by omega⟩
                | true=>
                  have q3:F.2.1=2:=by have:=eq_of_beq e3; omega
                  rw [if_pos ⟨q2,q3⟩] at hs;have hrf:=adw F.2.2.2 (by omega);simp only [hg,e2,e3,x9,t7,hM,zab,zaa,push_cast,↓reduceIte,zE,zL,zD]
                  repeat refine And.intro (by omega) ?_
                  by_cases hF4:∃x4 y4 z4 u4,r7 F.2.2.2=some [x4,y4,z4,u4]
                  · obtain ⟨x4,y4,z4,u4,hF4⟩:=hF4;have hx4:=u6 hF4 x4 (by simp);have hu4:=u6 hF4 u4 (by simp);have hfd:featD F.2.2.2=(⟨x4.2.2.1,dj (s5 u4.2.2.2),0,0,0,0⟩,ao (s5 u4.2.2.2)):=by unfold featD; rw [hF4]
                    rw [hfd] at hs;have hva:=a21 u4.2.2.2 (by omega);have hnl:=ai4 u4.2.2.2;have hnu:=ai3 u4.2.2.2;have htr:=fun res ro=>rring_t (s5 u4.2.2.2) (by omega) hnu (res:=res) (ro:=ro);have hnd:s5 u4.2.2.2=((au u4.2.2.2).getD []).map fun n:Nat=>(n:Int):=rfl;rw [hF4] at hrf;refine a6 hrf rfl trivial ?_;simp only [ca,dx,f00,e44,bj,x9,t7,zaf,push_cast,↓reduceIte,zE,zA,zS,zL,zD,zM]
                    repeat refine And.intro (by omega) ?_
                    by_cases hne:∃ns,au u4.2.2.2=some ns∧ns≠[]
                    · obtain ⟨ns,hns,hn0⟩:=hne;have hnd2:s5 u4.2.2.2=ns.map fun n:Nat=>(n:Int):=by rw [hnd,hns]; rfl
                      rw [hns,(tm hn0).1,(tm hn0).2] at hva;refine a6 hva rfl trivial ?_;have htk:zaq ns.length (da ns)=da ns:=adp ns;simp only [htk,push_cast,↓reduceIte,zE,zA,zS,zL,zD,zM];refine i9 ?_;refine b5 (as':=[.r (.sl 1 (n9 (s5 u4.2.2.2)))]) (by rw [hnd2,← aml]; rfl) ?_;cases hck:ao (s5 u4.2.2.2) with
                      | false=>
                        rw [hck] at hs;refine a6 (htr _ _ (.inl ⟨hck,rfl,rfl⟩)) rfl trivial ?_;simp only [f00,hs,gk,rdR,rdO,g7,push_cast,↓reduceIte,zE,zA,zL]
                      | true=>
                        rw [hck] at hs;simp only [if_true] at hs;refine a6 (htr _ _ (.inr ⟨hck,rfl,rfl⟩)) rfl trivial ?_;generalize dj (s5 u4.2.2.2)=R at *;have htk2:zaq R.length (R.map ptR)=R.map ptR:=d5 R;simp only [f00,e4,w1,hg,htk2,d6,pnt,zac,hM,zab,zaa,push_cast,↓reduceIte,reduceCtorEq,zB,zE,zA,zS,zL,zD,zM];exact ⟨by omega,by simp,(by first | omega | exact ⟨by omega,by omega⟩),by omega,⟨i+1,o++[⟨x4.2.2.1,R,0,0,0,0⟩],n,by omega,by simp; omega,by omega,hs,by simp [ho0],by simp [ho0,Fea.rv,g7]⟩,by omega⟩
                    · have hnd2:s5 u4.2.2.2=[]:=by
                        rw [hnd];cases hvl:au u4.2.2.2 with
                        | none=>rfl
                        | some ns=>
                          have:ns=[]:=Classical.byContradiction fun h=>hne ⟨ns,hvl,h⟩;rw [this]; rfl
                      have hck:ao (s5 u4.2.2.2)=false:=by rw [hnd2]; rfl
                      have htr2:=htr _ _ (.inl ⟨hck,rfl,rfl⟩);rw [hck] at hs;rw [hnd2] at htr2;cases hvl:au u4.2.2.2 with
                      | none=>
                        rw [hvl] at hva;refine a6 hva rfl trivial ?_;simp only [zn,zo,push_cast,↓reduceIte,zE,zA,zL];refine b5 (as':=[.r (.sl 1 (n9 []))]) rfl ?_;refine a6 htr2 rfl trivial ?_;simp only [f10,hs,gk,rdR,rdO,g7,push_cast,↓reduceIte,reduceCtorEq,zE,zA,zL]
                      | some ns=>
                        obtain rfl:ns=[]:=Classical.byContradiction fun h=>hne ⟨ns,hvl,h⟩;rw [hvl] at hva;refine a6 hva rfl trivial ?_;simp only [zn,zo,push_cast,↓reduceIte,zE,zA,zL];refine b5 (as':=[.r (.sl 1 (n9 []))]) rfl ?_;refine a6 htr2 rfl trivial ?_;simp only [f00,hs,gk,rdR,rdO,g7,push_cast,↓reduceIte,zE,zA,zL]
                  · have hfd:=ahc (b:=F.2.2.2) (fun m' h h4=>hF4 (by
                      rcases m' with _ | ⟨x,_ | ⟨y,_ | ⟨z,_ | ⟨u,_ | ⟨v,r⟩⟩⟩⟩⟩<;>simp at h4
                      exact ⟨x,y,z,u,h⟩))
                    rw [hfd] at hs;simp only [Bool.false_eq_true,if_false] at hs;cases hmF:r7 F.2.2.2 with
                    | none=>
                      rw [hmF] at hrf;refine a6 hrf rfl trivial ?_;simp only [ca,dx,f10,hs,gk,rdR,rdO,g7,push_cast,↓reduceIte,reduceCtorEq,zE,zA,zL]
                    | some mF=>
                      by_cases hmF0:mF=[]
                      · subst hmF0;rw [hmF] at hrf;refine a6 hrf rfl trivial ?_;simp only [ca,dx,f00,f04,hs,gk,rdR,rdO,g7,push_cast,↓reduceIte,zE,zA,zL]
                      · rw [hmF,(o5 hmF0).1,(o5 hmF0).2] at hrf
                        have e4n:((mF.length:Int) != 4)=true:=bne_iff_ne.2 (fun h=>hF4 (by
                          rcases mF with _ | ⟨x,_ | ⟨y,_ | ⟨z,_ | ⟨u,_ | ⟨v,r⟩⟩⟩⟩⟩<;>simp at h
                          · exact ⟨x,y,z,u,hmF⟩
                          · omega))
                        refine a6 hrf rfl trivial ?_;simp only [f00,e4n,hs,gk,rdR,rdO,g7,push_cast,↓reduceIte,zE,zA,zS,zL,zD,zM]
            · have hd:=of_decide_eq_false hd;have hi2:i=fs.length:=by omega
              subst hi2;rw [List.drop_length,uscan] at hs;have hE:gk b (some o)=none:=by rw [ho0]; exact if_neg (t:=some ([]:List Fea)) (fun h:([]:List Fea)≠[]∧q9 []=b=>h.1 rfl)
              have g00:((0:Int) == 0)=true:=rfl;rw [hs,hE];simp only [g00,rdR,rdO,g7,push_cast,↓reduceIte,reduceCtorEq,zE,zA]
          · simp only [al6,al7,ho0,g7,hM,push_cast,↓reduceIte,zE,zA];refine b6 (fun hd=>?_) (fun hd=>?_)
            · have hd:=of_decide_eq_true hd;have hi2:i<fs.length:=by omega
              have hg:=hget hi2;have hsp:=hstep hi2;have hdb:=hFb hi2;rw [hsp] at hs;clear hsp;generalize fs[i]=F at *;cases e2:((F.1:Int) == 2) with
              | false=>
                have e2':¬(F.1=2∧F.2.1=2):=fun h=>by have:=beq_eq_false_iff_ne.1 e2; omega
                rw [if_neg e2'] at hs;cases e4:((F.1:Int) == 4) with
                | false=>
                  have e4':¬F.1=4:=by have:=beq_eq_false_iff_ne.1 e4; omega
                  rw [if_neg e4'] at hs;simp only [hg,e2,e4,w1,hM,zab,zaa,push_cast,↓reduceIte,reduceCtorEq,zB,zE,zA,zL,zD]
                  repeat refine And.intro (by omega) ?_
                  exact ⟨⟨i+1,o,n,by omega,by omega,by omega,hs,by simp [ho0],by simp [ho0,g7]⟩,by omega⟩
                | true=>
                  have q4:F.1=4:=by have:=eq_of_beq e4; omega
                  rw [if_pos q4] at hs;have hone:=a7j F.2.2.2 (by omega);simp only [hg,e2,e4,hM,zab,zaa,push_cast,↓reduceIte,zE,zL,zD]
                  repeat refine And.intro (by omega) ?_
                  refine a6 hone rfl trivial ?_;cases hO:vw F.2.2.2 with
                  | none=>
                    rw [hO] at hs;simp only [xr,hs,gk,rdR,rdO,g7,push_cast,↓reduceIte,reduceCtorEq,zE,zA,zL]
                  | some mm=>
                    rw [hO] at hs;simp only at hs;have hq:(n:Int).tdiv 4=((n/4:Nat):Int):=by rw [Int.tdiv_eq_ediv_of_nonneg (by omega)]; omega
                    have wq:IntKind.i64.wrap ((n/4:Nat):Int)=((n/4:Nat):Int):=a5 (by omega);have hml:=aws hO;obtain ⟨Q,hqe⟩:∃Q,n/4=Q:=⟨_,rfl⟩
                    rw [hqe] at hq wq hs;by_cases hlt:Q<o.length
                    · rw [if_pos hlt] at hs;have dge:decide ((Q:Int)≥(o.length:Int))=false:=decide_eq_false (by omega);have hz:=a7a (mm:Int) (by omega) (by omega);have hPl:(o.map Fea.rv).getD Q g7=.agg [.v (.int .u64 (o.getD Q default).w),.sl 2 ((o.getD Q default).ring.map ptR),.v (.int .i64 (o.getD Q default).c),.v (.int .i64 (o.getD Q default).s),.v (.int .i64 (o.getD Q default).lo),.v (.int .i64 (o.getD Q default).hi)]:=ale hlt g7;have hsr:=fun k z=>bep (o.getD Q default) k z;have hr4:(n:Int).tmod 4=((n%4:Nat):Int):=by rw [zbw (by omega)]; omega
                      have hsl:∀x,(o.set Q x).length=o.length:=fun x=>List.length_set;have hne:∀x,o.set Q x≠[]:=fun x h=>by have:=hsl x; rw [h] at this; simp at this; omega
                      generalize o.getD Q default=P at *;rcases (show n%4=0∨n%4=1∨n%4=2∨n%4=3 by omega) with h4 | h4 | h4 | h4
                      · rw [h4] at hr4 hs;have hsk:=hsr 0 (zag mm);simp only at hsk;have c0:((0:Int) == 0)=true:=rfl;have c1:((0:Int) == 1)=false:=rfl;have c2:((0:Int) == 2)=false:=rfl;simp only [xr,hq,wq,dge,hr4,c0,zab,zaa,push_cast,↓reduceIte,zE,zA,zL]
                        repeat refine And.intro (by first | decide | omega) ?_
                        refine a6 hz rfl trivial ?_;simp only [hPl,w1,wn,zaa,push_cast,↓reduceIte,reduceCtorEq,zB,zE,zA,zL,zD];exact ⟨⟨i+1,o.set Q (ag1 P 0 (zag mm)),n+1,by omega,by rw [hsl]; omega,by omega,hs,by simp [ho0],by simp [ho0,zbl,hsk]⟩,by omega⟩
                      · rw [h4] at hr4 hs;have hsk:=hsr 1 (zag mm);simp only at hsk;have c0:((1:Int) == 0)=false:=rfl;have c1:((1:Int) == 1)=true:=rfl;have c2:((1:Int) == 2)=false:=rfl;simp only [xr,hq,wq,dge,hr4,c0,c1,zab,zaa,push_cast,↓reduceIte,zE,zA,zL]
                        repeat refine And.intro (by first | decide | omega) ?_
                        refine a6 hz rfl trivial ?_;simp only [hPl,w1,wn,zaa,push_cast,↓reduceIte,reduceCtorEq,zB,zE,zA,zL,zD];exact ⟨⟨i+1,o.set Q (ag1 P 1 (zag mm)),n+1,by omega,by rw [hsl]; omega,by omega,hs,by simp [ho0],by simp [ho0,zbl,hsk]⟩,by omega⟩
                      · rw [h4] at hr4 hs;have hsk:=hsr 2 (zag mm);simp only at hsk;have c0:((2:Int) == 0)=false:=rfl;have c1:((2:Int) == 1)=false:=rfl;have c2:((2:Int) == 2)=true:=rfl;simp only [xr,hq,wq,dge,hr4,c0,c1,c2,zab,zaa,push_cast,↓reduceIte,zE,zA,zL]
                        repeat refine And.intro (by first | decide | omega) ?_
                        refine a6 hz rfl trivial ?_;simp only [hPl,w1,wn,zaa,push_cast,↓reduceIte,reduceCtorEq,zB,zE,zA,zL,zD];exact ⟨⟨i+1,o.set Q (ag1 P 2 (zag mm)),n+1,by omega,by rw [hsl]; omega,by omega,hs,by simp [ho0],by simp [ho0,zbl,hsk]⟩,by omega⟩
                      · rw [h4] at hr4 hs;have hsk:=hsr 3 (zag mm);simp only at hsk;have c0:((3:Int) == 0)=false:=rfl;have c1:((3:Int) == 1)=false:=rfl;have c2:((3:Int) == 2)=false:=rfl;simp only [xr,hq,wq,dge,hr4,c0,c1,c2,zab,zaa,push_cast,↓reduceIte,zE,zA,zL]
                        repeat refine And.intro (by first | decide | omega) ?_
                        refine a6 hz rfl trivial ?_;simp only [hPl,w1,wn,zaa,push_cast,↓reduceIte,reduceCtorEq,zB,zE,zA,zL,zD];exact ⟨⟨i+1,o.set Q (ag1 P 3 (zag mm)),n+1,by omega,by rw [hsl]; omega,by omega,hs,by simp [ho0],by simp [ho0,zbl,hsk]⟩,by omega⟩
                    · rw [if_neg hlt] at hs;have dge:decide ((Q:Int)≥(o.length:Int))=true:=decide_eq_true (by omega);simp only [xr,hs,hq,wq,dge,gk,rdR,rdO,g7,push_cast,↓reduceIte,zE,zA,zL]
                      decide
              | true=>
                have q2:F.1=2:=by have:=eq_of_beq e2; omega
                have e4:((F.1:Int) == 4)=false:=by rw [q2]; rfl
                have e4':¬F.1=4:=by omega
                cases e3:((F.2.1:Int) == 2) with
                | false=>
                  have e2':¬(F.1=2∧F.2.1=2):=fun h=>by have:=beq_eq_false_iff_ne.1 e3; omega
                  rw [if_neg e2',if_neg e4'] at hs;simp only [hg,e2,e3,e4,w1,hM,zab,zaa,push_cast,↓reduceIte,reduceCtorEq,zB,zE,zA,zL,zD]
                  repeat refine And.intro (by omega) ?_
                  exact ⟨⟨i+1,o,n,by omega,by omega,by omega,hs,by simp [ho0],by simp [ho0,g7]⟩,by omega⟩
                | true=>
                  have q3:F.2.1=2:=by have:=eq_of_beq e3; omega
                  rw [if_pos ⟨q2,q3⟩] at hs;have hrf:=adw F.2.2.2 (by omega);simp only [hg,e2,e3,x9,t7,hM,zab,zaa,push_cast,↓reduceIte,zE,zL,zD]
                  repeat refine And.intro (by omega) ?_
                  by_cases hF4:∃x4 y4 z4 u4,r7 F.2.2.2=some [x4,y4,z4,u4]
                  · obtain ⟨x4,y4,z4,u4,hF4⟩:=hF4;have hx4:=u6 hF4 x4 (by simp);have hu4:=u6 hF4 u4 (by simp);have hfd:featD F.2.2.2=(⟨x4.2.2.1,dj (s5 u4.2.2.2),0,0,0,0⟩,ao (s5 u4.2.2.2)):=by unfold featD; rw [hF4]
                    rw [hfd] at hs;have hva:=a21 u4.2.2.2 (by omega);have hnl:=ai4 u4.2.2.2;have hnu:=ai3 u4.2.2.2;have htr:=fun res ro=>rring_t (s5 u4.2.2.2) (by omega) hnu (res:=res) (ro:=ro);have hnd:s5 u4.2.2.2=((au u4.2.2.2).getD []).map fun n:Nat=>(n:Int):=rfl;rw [hF4] at hrf;refine a6 hrf rfl trivial ?_;simp only [ca,dx,f00,e44,bj,x9,t7,zaf,push_cast,↓reduceIte,zE,zA,zS,zL,zD,zM]
                    repeat refine And.intro (by omega) ?_
                    by_cases hne:∃ns,au u4.2.2.2=some ns∧ns≠[]
                    · obtain ⟨ns,hns,hn0⟩:=hne;have hnd2:s5 u4.2.2.2=ns.map fun n:Nat=>(n:Int):=by rw [hnd,hns]; rfl
                      rw [hns,(tm hn0).1,(tm hn0).2] at hva;refine a6 hva rfl trivial ?_;have htk:zaq ns.length (da ns)=da ns:=adp ns;simp only [htk,push_cast,↓reduceIte,zE,zA,zS,zL,zD,zM];refine i9 ?_;refine b5 (as':=[.r (.sl 1 (n9 (s5 u4.2.2.2)))]) (by rw [hnd2,← aml]; rfl) ?_;cases hck:ao (s5 u4.2.2.2) with
                      | false=>
                        rw [hck] at hs;refine a6 (htr _ _ (.inl ⟨hck,rfl,rfl⟩)) rfl trivial ?_;simp only [f00,hs,gk,rdR,rdO,g7,push_cast,↓reduceIte,zE,zA,zL]
                      | true=>
                        rw [hck] at hs;simp only [if_true] at hs;refine a6 (htr _ _ (.inr ⟨hck,rfl,rfl⟩)) rfl trivial ?_;generalize dj (s5 u4.2.2.2)=R at *;have htk2:zaq R.length (R.map ptR)=R.map ptR:=d5 R;simp only [f00,e4,w1,hg,htk2,d6,pnt,zac,hM,zab,zaa,push_cast,↓reduceIte,reduceCtorEq,zB,zE,zA,zS,zL,zD,zM];exact ⟨by omega,by simp,(by first | omega | exact ⟨by omega,by omega⟩),by omega,⟨i+1,o++[⟨x4.2.2.1,R,0,0,0,0⟩],n,by omega,by simp; omega,by omega,hs,by simp [ho0],by simp [ho0,Fea.rv,g7]⟩,by omega⟩
                    · have hnd2:s5 u4.2.2.2=[]:=by
                        rw [hnd];cases hvl:au u4.2.2.2 with
                        | none=>rfl
                        | some ns=>
                          have:ns=[]:=Classical.byContradiction fun h=>hne ⟨ns,hvl,h⟩;rw [this]; rfl
                      have hck:ao (s5 u4.2.2.2)=false:=by rw [hnd2]; rfl
                      have htr2:=htr _ _ (.inl ⟨hck,rfl,rfl⟩);rw [hck] at hs;rw [hnd2] at htr2;cases hvl:au u4.2.2.2 with
                      | none=>
                        rw [hvl] at hva;refine a6 hva rfl trivial ?_;simp only [zn,zo,push_cast,↓reduceIte,zE,zA,zL];refine b5 (as':=[.r (.sl 1 (n9 []))]) rfl ?_;refine a6 htr2 rfl trivial ?_;simp only [f10,hs,gk,rdR,rdO,g7,push_cast,↓reduceIte,reduceCtorEq,zE,zA,zL]
                      | some ns=>
                        obtain rfl:ns=[]:=Classical.byContradiction fun h=>hne ⟨ns,hvl,h⟩;rw [hvl] at hva;refine a6 hva rfl trivial ?_;simp only [zn,zo,push_cast,↓reduceIte,zE,zA,zL];refine b5 (as':=[.r (.sl 1 (n9 []))]) rfl ?_;refine a6 htr2 rfl trivial ?_;simp only [f00,hs,gk,rdR,rdO,g7,push_cast,↓reduceIte,zE,zA,zL]
                  · have hfd:=ahc (b:=F.2.2.2) (fun m' h h4=>hF4 (by
                      rcases m' with _ | ⟨x,_ | ⟨y,_ | ⟨z,_ | ⟨u,_ | ⟨v,r⟩⟩⟩⟩⟩<;>simp at h4
                      exact ⟨x,y,z,u,h⟩))
                    rw [hfd] at hs;simp only [Bool.false_eq_true,if_false] at hs;cases hmF:r7 F.2.2.2 with
                    | none=>
                      rw [hmF] at hrf;refine a6 hrf rfl trivial ?_;simp only [ca,dx,f10,hs,gk,rdR,rdO,g7,push_cast,↓reduceIte,reduceCtorEq,zE,zA,zL]
                    | some mF=>
                      by_cases hmF0:mF=[]
                      · subst hmF0;rw [hmF] at hrf;refine a6 hrf rfl trivial ?_;simp only [ca,dx,f00,f04,hs,gk,rdR,rdO,g7,push_cast,↓reduceIte,zE,zA,zL]
                      · rw [hmF,(o5 hmF0).1,(o5 hmF0).2] at hrf
                        have e4n:((mF.length:Int) != 4)=true:=bne_iff_ne.2 (fun h=>hF4 (by
                          rcases mF with _ | ⟨x,_ | ⟨y,_ | ⟨z,_ | ⟨u,_ | ⟨v,r⟩⟩⟩⟩⟩<;>simp at h
                          · exact ⟨x,y,z,u,hmF⟩
                          · omega))
                        refine a6 hrf rfl trivial ?_;simp only [f00,e4n,hs,gk,rdR,rdO,g7,push_cast,↓reduceIte,zE,zA,zS,zL,zD,zM]
            · have hd:=of_decide_eq_false hd;have hi2:i=fs.length:=by omega
              subst hi2;rw [List.drop_length,uscan] at hs;have hoo:=hok o hs;have n0:((o.length:Int) == 0)=false:=beq_eq_false_iff_ne.2 (fun h=>ho0 (List.length_eq_zero_iff.1 (by omega)));have hly:=a0f o (by omega) hoo.1;rw [if_neg ho0] at hly
              have hfd:gk b (some o)=if q9 o=b then some o else none:=by
                show (if o≠[]∧q9 o=b then some o else none) = _;by_cases h:q9 o=b
                · rw [if_pos ⟨ho0,h⟩,if_pos h]
                · rw [if_neg (fun q=>h q.2),if_neg h]
              rw [hs,hfd];generalize q9 o=LL at *;simp only [n0,push_cast,↓reduceIte,zE];refine pj ?_;refine b5 (as':=[l8 o]) rfl ?_;refine sp hly rfl trivial trivial (by simp) ?_;simp only [ajf,push_cast,↓reduceIte,reduceCtorEq,zE];by_cases he:LL=b
              · have hb1:(LL == b)=true:=beq_iff_eq.2 he;rw [if_pos he,(amj ho0).1,(amj ho0).2];simp only [hb1,g7,push_cast,↓reduceIte,zE,zA,zL,zD]
                rfl
              · have hb1:(LL == b)=false:=beq_eq_false_iff_ne.2 he;rw [if_neg he];simp only [hb1,rdR,rdO,g7,push_cast,↓reduceIte,zE,zA]
                done

theorem a43:∀(f g:Nat) (l:List UInt8),l.length≤f→l.length≤g→ez f l=ez g l:=by
 intro f
 induction f with
 | zero=>
  intro g l hf _;have:l=[]:=zbs (by omega);subst this;rw [jg,jg]
 | succ f ih=>
  intro g l hf hg
  match l with
  | []=>rw [jg,jg]
  | c::t=>
   match g with
   | 0=>simp at hg
   | g+1=>
    rw [ez,ez];rcases h:t6 (c::t) with _ | ⟨x,k⟩
    ·rfl
    ·obtain ⟨h2,h3⟩:=aaj h;have hl:((c::t).drop k).length≤t.length-1:=by rw [List.length_drop,zah]; omega
     have h4:0<t.length:=by rw [zah] at h3; omega
     simp only;rw [zah] at hf hg;rw [ih g _ (by omega) (by omega)]
theorem a4p:∀(f g:Nat) (l:List UInt8),l.length≤f→l.length≤g→dp f l=dp g l:=by
 intro f
 induction f with
 | zero=>
  intro g l hf _;have:l=[]:=zbs (by omega);subst this;rw [je,je]
 | succ f ih=>
  intro g l hf hg
  match l with
  | []=>rw [je,je]
  | c::t=>
   match g with
   | 0=>simp at hg
   | g+1=>
    rw [dp,dp];split
    ·rfl
    ·rename_i h;rw [zah] at hf hg;have hl:((c::t).drop (take (c::t)).2).length≤t.length:=by rw [List.length_drop,zah]; omega
     rw [ih g _ (by omega) (by omega)]
theorem a42 {x:Fld} {c rest:List UInt8} (h:t6 (c++rest)=some (x,c.length)):r7 (c++rest)=(r7 rest).map (x :: ·):=by
 obtain ⟨h2,h3⟩:=aaj h;obtain ⟨f',hf,e⟩:=rq (by rw [zay] at h3 ⊢; omega) (zaw _) h;unfold r7;rw [e,List.drop_left,a43 f' rest.length rest (by rw [zay] at hf; omega) (zaw _)]
theorem a4o (n:Nat) (rest:List UInt8) (h:n<18446744073709551616):au (m6 n++rest)=(au rest).map (n :: ·):=by
 have hp:=al3 n;rw [a4m (by rw [zay]; omega) (al9 n rest h) (by omega),List.drop_left];unfold au;rw [a4p _ rest.length rest (by rw [zay]; omega) (zaw _)]
theorem a4n (l:List Nat) (h:∀n∈l,n<18446744073709551616):au (l.flatMap m6)=some l:=by
 induction l with
 | nil=>rfl
 | cons n l ih=>
  rw [List.flatMap_cons,a4o n _ (h n (by simp)),ih fun x hx=>h x (by simp [hx])]
  rfl
theorem aab (cs:List (List UInt8×Fld)) (h:∀c∈cs,∀rest,t6 (c.1++rest)=some (c.2,c.1.length)):r7 (cs.flatMap (·.1))=some (cs.map (·.2)):=by
 induction cs with
 | nil=>rfl
 | cons c cs ih=>
  rw [List.flatMap_cons,a42 (h c (by simp) _),ih fun x hx=>h x (by simp [hx])]
  rfl
theorem a0o (t:Nat) (rest:List UInt8) (ht:t<18446744073709551616) (h1:1≤t/8) (h2:t/8≤1000) (n j:Nat) (hn:take rest=(n,j)) :
  t6 (m6 t++rest)=if j=0 then none else if t%8=0 then some ((t/8,0,n,[]),(m6 t).length+j)
   else if t%8=2∧n≤rest.length-j then some ((t/8,2,0,(rest.drop j).take n),(m6 t).length+j+n) else none:=by
 have hp:=al3 t;have hd:(m6 t++rest).drop (m6 t).length=rest:=by simp
 unfold t6;rw [al9 t rest ht];simp only [hd,hn];rw [if_neg (by omega)];split
 ·rfl
 ·split
  ·rfl
  ·have e1:(m6 t++rest).length-(m6 t).length-j=rest.length-j:=by simp
   have e2:(m6 t++rest).drop ((m6 t).length+j)=rest.drop j:=by rw [← List.drop_drop,hd]
   rw [e1,e2]
theorem adx (f:Nat) (n:Int) (rest:List UInt8) (hf:1≤f∧f≤1000) (h0:0≤n) (h1:n<18446744073709551616):t6 (o6 (f:Int) n++rest)=some ((f,0,n.toNat,[]),(o6 (f:Int) n).length):=by
 have hk:okB (f:Int)=true:=by simp [okB]; omega
 have hp:=al3 n.toNat;have e:((f:Int)*8).toNat=8*f:=by omega
 unfold o6;rw [if_pos hk,e,zax,a0o (8*f) _ (by omega) (by omega) (by omega) n.toNat (m6 n.toNat).length (al9 _ rest (by omega)),if_neg (by omega),if_pos (by omega),zay];rw [show 8*f/8=f by omega]
theorem mf (f:Nat) (x rest:List UInt8) (hf:1≤f∧f≤1000) (hx:x.length<18446744073709551616):t6 (k8 (f:Int) x++rest)=some ((f,2,0,x),(k8 (f:Int) x).length):=by
 have hk:okB (f:Int)=true:=by simp [okB]; omega
 have hp:=al3 x.length;have e:((f:Int)*8+2).toNat=8*f+2:=by omega
 unfold k8;rw [if_pos hk,e,zax,zax,a0o (8*f+2) _ (by omega) (by omega) (by omega) x.length (m6 x.length).length (al9 _ _ hx),if_neg (by omega),if_neg (by omega),if_pos ⟨by omega,by simp⟩];rw [List.drop_left,List.take_left,show (8*f+2)/8=f by omega];simp;omega
theorem a5b (l:List Int) (h:u64L l):s5 (l.flatMap fun n=>m6 n.toNat)=l:=by
 have e:(l.flatMap fun n=>m6 n.toNat)=(l.map Int.toNat).flatMap m6:=by rw [List.flatMap_map]
 unfold s5
 rw [e,a4n _ (fun n hn=>by
  obtain ⟨k,hk,rfl⟩:=zar.1 hn;have:=h k hk
  omega)]
 simp only [Option.getD_some,zbc]
 conv=>rhs; rw [← List.map_id l]
 apply zbx;intro n hn;have:=h n hn;simp only [Function.comp,id];omega
def zf (f:Fea):Fea:=⟨f.w,f.ring,0,0,0,0⟩
theorem a2i {f:Fea} (hf:f.ok) (n:Int) (hn:in64 n):featD (ci f.w n f.ring)=(if 3≤f.ring.length then zf f else ⟨f.w,[],0,0,0,0⟩,decide (3≤f.ring.length)):=by
 obtain ⟨hw,hl,hi,_⟩:=hf;have hC:=apr f.ring hl hi;have hn':-9223372036854775808≤n∧n≤9223372036854775807:=hn;have hT:=ase (k:=max n 0) (by omega);have h2:=apc (em (max n 0));have h4:=apc (n6 f.ring);have h5:=ajc f.ring;have h6:(em (max n 0)).length=8:=rfl
 have hr:r7 (ci f.w n f.ring)=some [(1,0,f.w.toNat,[]),(2,2,0,(em (max n 0)).flatMap fun n=>m6 n.toNat),(3,0,3,[]),(4,2,0,(n6 f.ring).flatMap fun n=>m6 n.toNat)]:=by
  have e:ci f.w n f.ring=[(o6 ((1:Nat):Int) f.w,((1,0,f.w.toNat,[]):Fld)),(k8 ((2:Nat):Int) ((em (max n 0)).flatMap fun n=>m6 n.toNat),(2,2,0,(em (max n 0)).flatMap fun n=>m6 n.toNat)),(o6 ((3:Nat):Int) 3,(3,0,3,[])),(k8 ((4:Nat):Int) ((n6 f.ring).flatMap fun n=>m6 n.toNat),(4,2,0,(n6 f.ring).flatMap fun n=>m6 n.toNat))].flatMap (·.1):=by
   simp [ci,lc]
  rw [e,aab]
  ·rfl
  ·intro c hc rest;simp only [List.mem_cons,List.not_mem_nil,or_false] at hc;rcases hc with rfl | rfl | rfl | rfl
   ·exact adx 1 f.w rest (by omega) hw.1 hw.2
   ·exact mf 2 _ rest (by omega) (by omega)
   ·exact adx 3 3 rest (by omega) (by omega) (by omega)
   ·exact mf 4 _ rest (by omega) (by omega)
 unfold featD;rw [hr];simp only;rw [a5b _ hC];have hwn:((f.w.toNat:Nat):Int)=f.w:=by omega
 rw [hwn];by_cases h3:3≤f.ring.length
 ·rw [if_pos h3,avq h3,a41 h3 hi,decide_eq_true h3]
  rfl
 ·rw [if_neg h3,aj1 (by omega),decide_eq_false h3]
  rfl
theorem a7p {z:Int} (h:0≤z∧z<18446744073709551616):r7 (o6 6 z)=some [(6,0,z.toNat,[])]:=by
 have e:o6 6 z=[(o6 ((6:Nat):Int) z,((6,0,z.toNat,[]):Fld))].flatMap (·.1):=by simp
 rw [e,aab]
 ·rfl
 ·intro c hc rest;rw [zbe.1 hc];exact adx 6 z rest (by omega) h.1 h.2
theorem azx {n:Int} (h:in64 n):mb (o6 6 (zig n))=n∧vw (o6 6 (zig n))=some (zig n).toNat:=by
 have hz:=ado n h;unfold mb vw;rw [a7p hz];simp only;have:(((zig n).toNat:Nat):Int)=zig n:=by omega
 exact ⟨by rw [this,agn],rfl⟩

def ftc (l:List Fea) (j:Nat):List UInt8×Fld:=(fx l j,(2,2,0,ci (l.getD j default).w (4*(j:Int)) (l.getD j default).ring))
def kyc (j:Nat):List UInt8×Fld:=(k8 3 (er j),(3,2,0,er j))
def lh (l:List Fea) (m:Nat):Int:=(l.getD (m/4) default).nums.getD (m%4) 0
def vlc (l:List Fea) (m:Nat):List UInt8×Fld:=(k8 4 (o6 6 (zig (lh l m))),(4,2,0,o6 6 (zig (lh l m))))
def hdc:List (List UInt8×Fld):=[(o6 15 2,(15,0,2,[])),(k8 1 [99,101,108,108,115],(1,2,0,[99,101,108,108,115]))]
def tlc:List (List UInt8×Fld):=[(o6 5 4096,(5,0,4096,[]))]
def fts (l:List Fea):List (List UInt8×Fld):=(zan l.length).map (ftc l)
def vls (l:List Fea) (n:Nat):List (List UInt8×Fld):=(zan n).map (vlc l)
def chs (l:List Fea):List (List UInt8×Fld):=hdc++(fts l++((zan 4).map kyc++(vls l (4*l.length)++tlc)))
theorem axq (l:List Fea):∀n,(vls l (4*n)).flatMap (·.1)=mr l n
 | 0=>rfl
 | n+1=>by
  have e:vls l (4*(n+1))=vls l (4*n)++[vlc l (4*n),vlc l (4*n+1),vlc l (4*n+2),vlc l (4*n+3)]:=by
   unfold vls;rw [show 4*(n+1)=4*n+1+1+1+1 by omega];simp only [List.range_succ,zav,zbo,List.map_nil,zax,zbg,zbt]
  have h:∀k,k<4→(vlc l (4*n+k)).1=vx (l.getD n default) k:=fun k hk=>by
   unfold vlc lh vx;rw [show (4*n+k)/4=n by omega,show (4*n+k)%4=k by omega]
  rw [e,List.flatMap_append,axq l n,afo];have h0:=h 0 (by omega);have h1:=h 1 (by omega);have h2:=h 2 (by omega);have h3:=h 3 (by omega);simp only [zaj] at h0;simp [ny,List.range_succ,h0,h1,h2,h3]
theorem ay5 (l:List Fea):(chs l).flatMap (·.1)=ov++fo l l.length++mz 4++mr l l.length++o6 5 4096:=by
 simp only [chs,List.flatMap_append,axq];have h1:hdc.flatMap (·.1)=ov:=by simp [hdc,ov]
 have h2:(fts l).flatMap (·.1)=fo l l.length:=by rw [fts,List.flatMap_map]; rfl
 have h3:((zan 4).map kyc).flatMap (·.1)=mz 4:=by rw [List.flatMap_map]; rfl
 have h4:tlc.flatMap (·.1)=o6 5 4096:=by simp [tlc]
 rw [h1,h2,h3,h4];simp only [zax]
theorem ard {l:List Fea} (hl:l.length≤100000) (h:∀f∈l,f.ok):r7 (q9 l)=some [(3,2,0,(chs l).flatMap (·.1))]∧r7 ((chs l).flatMap (·.1))=some ((chs l).map (·.2)):=by
 have hll:=au6 h
 have hg:∀m,in64 (lh l m):=fun m=>by
  unfold lh
  have hd:(l.getD (m/4) default).ok:=by
   by_cases hm:m/4<l.length
   ·exact aau h hm
   ·rw [zam,zap (by omega)];exact ⟨by decide,by decide,fun p hp=>by simp [show (default:Fea).ring=[] from rfl] at hp,by decide,by decide,by decide,by decide⟩
  obtain ⟨_,_,_,q1,q2,q3,q4⟩:=hd;rcases (show m%4=0∨m%4=1∨m%4=2∨m%4=3 by omega) with e | e | e | e<;>rw [e]
  ·exact q1
  ·exact q2
  ·exact q3
  ·exact q4
 constructor
 ·have e:q9 l=[(k8 ((3:Nat):Int) ((chs l).flatMap (·.1)),((3,2,0,(chs l).flatMap (·.1)):Fld))].flatMap (·.1):=by
   rw [ay5];simp [q9]
  have hb:((chs l).flatMap (·.1)).length<18446744073709551616:=by
   have h1:=aaw h l.length;have h2:=yh l l.length;have h3:=yz 4;have h4:=ad0;have h5:=ck 5 4096;rw [ay5];simp only [zay];omega
  rw [e,aab]
  ·rfl
  ·intro c hc rest;rw [zbe.1 hc];exact mf 3 _ rest (by omega) hb
 ·refine aab _ fun c hc rest=>?_;simp only [chs,List.mem_append] at hc;rcases hc with hc | hc | hc | hc | hc
  ·simp only [hdc,List.mem_cons,List.not_mem_nil,or_false] at hc;rcases hc with rfl | rfl
   ·exact adx 15 2 rest (by omega) (by omega) (by omega)
   ·exact mf 1 _ rest (by omega) (by decide)
  ·obtain ⟨j,hj,rfl⟩:=zar.1 hc;have hj:=zbk.1 hj;have hf:=ad2 (l.getD j default).w (4*(j:Int)) (l.getD j default).ring;have:=(aau h hj).2.1;exact mf 2 _ rest (by omega) (by omega)
  ·obtain ⟨j,hj,rfl⟩:=zar.1 hc;have:=as0 j;exact mf 3 _ rest (by omega) (by omega)
  ·obtain ⟨m,hm,rfl⟩:=zar.1 hc;have:=ck 6 (zig (lh l m));exact mf 4 _ rest (by omega) (by omega)
  ·rw [zbe.1 (show c∈[_] from hc)];exact adx 5 4096 rest (by omega) (by omega) (by omega)
theorem at6:∀(X:List Fld) (R:List Fld) (o:List Fea) (v:List Int),(∀x∈X,x.1=2)→(z9 (X++R) o v=if (X.all fun x=>(featD x.2.2.2).2)=true then z9 R (o++X.map fun x=>(featD x.2.2.2).1) v else none)
 | [],R,o,v,_=>by simp
 | x::X,R,o,v,h=>by
  rw [zbg,z9,if_pos (h x (by simp)),List.all_cons];by_cases hx:(featD x.2.2.2).2=true
  ·rw [if_pos hx,at6 X R _ v fun y hy=>h y (by simp [hy]),hx,Bool.true_and,zbo,zax]
   rfl
  ·rw [if_neg hx];have:(featD x.2.2.2).2=false:=by simpa using hx
   rw [this]
   rfl
theorem aq8:∀(X:List Fld) (R:List Fld) (o:List Fea) (n:Nat),(∀x∈X,x.1=2∧x.2.1=2)→(uscan (X++R) o n=if (X.all fun x=>(featD x.2.2.2).2)=true then uscan R (o++X.map fun x=>(featD x.2.2.2).1) n else none)
 | [],R,o,n,_=>by simp
 | x::X,R,o,n,h=>by
  rw [zbg,uscan,if_pos (h x (by simp)),List.all_cons];by_cases hx:(featD x.2.2.2).2=true
  ·rw [if_pos hx,aq8 X R _ n fun y hy=>h y (by simp [hy]),hx,Bool.true_and,zbo,zax]
   rfl
  ·rw [if_neg hx];have:(featD x.2.2.2).2=false:=by simpa using hx
   rw [this]
   rfl
theorem aiy:∀(X R:List Fld) (o:List Fea) (v:List Int),(∀x∈X,x.1≠2∧x.1≠4)→z9 (X++R) o v=z9 R o v
 | [],R,o,v,_=>rfl
 | x::X,R,o,v,h=>by
  have:=h x (by simp);rw [zbg,z9,if_neg this.1,if_neg this.2];exact aiy X R o v fun y hy=>h y (by simp [hy])
theorem afp:∀(X R:List Fld) (o:List Fea) (n:Nat),(∀x∈X,x.1≠2∧x.1≠4)→uscan (X++R) o n=uscan R o n
 | [],R,o,n,_=>rfl
 | x::X,R,o,n,h=>by
  have:=h x (by simp);rw [zbg,uscan,if_neg (fun q=>this.1 q.1),if_neg this.2];exact afp X R o n fun y hy=>h y (by simp [hy])
theorem ax1:∀(X R:List Fld) (o:List Fea) (v:List Int),(∀x∈X,x.1=4)→z9 (X++R) o v=z9 R o (v++X.map fun x=>mb x.2.2.2)
 | [],R,o,v,_=>by simp
 | x::X,R,o,v,h=>by
  have h4:=h x (by simp);rw [zbg,z9,if_neg (by omega),if_pos h4,ax1 X R o _ fun y hy=>h y (by simp [hy]),zbo,zax]
  rfl

theorem asx {l:List Fea} (h:∀f∈l,f.ok) {m:Nat} (hm:m<4*l.length):in64 (lh l m):=by
 obtain ⟨_,_,_,q1,q2,q3,q4⟩:=aau h (show m/4<l.length by omega);unfold lh;rcases (show m%4=0∨m%4=1∨m%4=2∨m%4=3 by omega) with e | e | e | e<;>rw [e]
 ·exact q1
 ·exact q2
 ·exact q3
 ·exact q4
def pf (l:List Fea) (m i:Nat):Fea:=
 ⟨(l.getD i default).w,(l.getD i default).ring,if 4*i<m then (l.getD i default).c else 0,if 4*i+1<m then (l.getD i default).s else 0,if 4*i+2<m then (l.getD i default).lo else 0,if 4*i+3<m then (l.getD i default).hi else 0⟩
def pfs (l:List Fea) (m:Nat):List Fea:=(zan l.length).map (pf l m)
theorem acr (l:List Fea) (m:Nat):(pfs l m).length=l.length:=by simp [pfs]
theorem ak7 (l:List Fea) (m:Nat) {i:Nat} (h:i<l.length):(pfs l m)[i]?=some (pf l m i):=by simp [pfs,h]
theorem bft (l:List Fea):pfs l (4*l.length)=l:=by
 apply zbm;intro i;by_cases hi:i<l.length
 ·rw [ak7 l _ hi,zas hi];unfold pf;rw [if_pos (by omega),if_pos (by omega),if_pos (by omega),if_pos (by omega)];have:l.getD i default=l[i]:=by rw [zam,zas hi]; rfl
  rw [this]
 ·rw [zap (by rw [acr]; omega),zap (by omega)]
theorem bk4 (l:List Fea):pfs l 0=l.map zf:=by
 apply zbm;intro i;by_cases hi:i<l.length
 ·rw [ak7 l _ hi,zbb,zas hi];have:l.getD i default=l[i]:=by rw [zam,zas hi]; rfl
  show some (pf l 0 i)=some (zf l[i]);unfold pf zf;rw [this];simp
 ·rw [zap (by rw [acr]; omega),zap (by simp; omega)]
theorem bbd (l:List Fea) {m:Nat} (hm:m<4*l.length):(pfs l m).set (m/4) (ag1 ((pfs l m).getD (m/4) default) (m%4) (lh l m))=pfs l (m+1):=by
 apply zbm;intro i;rw [List.getElem?_set];by_cases hi:i<l.length
 ·by_cases he:m/4=i
  ·rw [if_pos he,if_pos (by rw [acr]; omega),ak7 l _ hi];have hg:(pfs l m).getD (m/4) default=pf l m i:=by rw [zam,he,ak7 l m hi]; rfl
   rw [hg];congr 1;rcases (show m%4=0∨m%4=1∨m%4=2∨m%4=3 by omega) with e | e | e | e
   all_goals
    unfold lh pf;rw [e,he];simp only [ag1,Fea.nums,zaz,zba];congr 1
    all_goals (split<;>first | rfl | (exfalso; omega) | (split<;>first | rfl | (exfalso; omega)))
  ·rw [if_neg he,ak7 l m hi,ak7 l (m+1) hi];unfold pf;congr 2
   all_goals (split<;>first | rfl | (exfalso; omega) | (split<;>first | rfl | (exfalso; omega)))
 ·have h1:(pfs l m)[i]?=none:=zap (by rw [acr]; omega);have h2:(pfs l (m+1))[i]?=none:=zap (by rw [acr]; omega);rw [h2,h1];split
  ·rw [if_neg (by rw [acr]; omega)]
  ·rfl
theorem ats (l:List Fea) (h:∀f∈l,f.ok) (R:List Fld):∀(k m:Nat),k+m=4*l.length→uscan (((zan (4*l.length)).drop m).map (fun j=>(vlc l j).2)++R) (pfs l m) m=uscan R l (4*l.length)
 | 0,m,e=>by
  have hm:m=4*l.length:=by omega
  subst hm;rw [List.drop_of_length_le (by simp),bft]
  rfl
 | k+1,m,e=>by
  have hm:m<4*l.length:=by omega
  have hd:(zan (4*l.length)).drop m=m::(zan (4*l.length)).drop (m+1):=by
   rw [zbu (by simpa using hm)];simp
  have hv:=azx (asx h hm);have hz:=ado _ (asx h hm);rw [hd,zbo,zbg,uscan];rw [if_neg (show ¬((vlc l m).2.1=2∧(vlc l m).2.2.1=2) by simp [vlc]),if_pos (show (vlc l m).2.1=4 from rfl)];rw [show (vlc l m).2.2.2.2=o6 6 (zig (lh l m)) from rfl,hv.2];simp only;rw [if_pos (by rw [acr]; omega)];have e2:(((zig (lh l m)).toNat:Nat):Int)=zig (lh l m):=by omega
  rw [e2,agn,bbd l hm];exact ats l h R k (m+1) (by omega)
def ah2 (l:List Fea):Bool:=l.all fun f=>decide (3≤f.ring.length)
theorem a82 {l:List Fea} (h:∀f∈l,f.ok) (hl:l.length≤100000):((fts l).map (·.2)).all (fun x=>(featD x.2.2.2).2)=ah2 l∧(ah2 l=true→((fts l).map (·.2)).map (fun x=>(featD x.2.2.2).1)=l.map zf):=by
 have hj:∀j,j<l.length→featD (ftc l j).2.2.2.2=(if 3≤(l.getD j default).ring.length then zf (l.getD j default) else ⟨(l.getD j default).w,[],0,0,0,0⟩,decide (3≤(l.getD j default).ring.length)):=fun j hj=>a2i (aau h hj) _ (by unfold in64; omega)
 have hlr:l=(zan l.length).map fun j=>l.getD j default:=by
  apply zbm;intro i;by_cases hi:i<l.length
  ·simp [hi]
  ·rw [zap (by omega),zap (by simp; omega)]
 constructor
 ·unfold ah2
  conv=>rhs; rw [hlr]
  unfold fts;rw [zbc,List.all_map,List.all_map,Bool.eq_iff_iff,List.all_eq_true,List.all_eq_true];refine forall_congr' fun j=>forall_congr' fun hjm=>?_;simp only [Function.comp];rw [hj j (zbk.1 hjm)]
 ·intro hA
  have hA2:∀j,j<l.length→3≤(l.getD j default).ring.length:=fun j hj2=>by
   have:=List.all_eq_true.1 hA (l.getD j default) (by rw [zam,zas hj2]; exact zbp hj2);simpa using this
  conv=>rhs; rw [hlr]
  unfold fts;rw [zbc,zbc,zbc];apply zbx;intro j hjm;have hjl:=zbk.1 hjm;simp only [Function.comp];rw [hj j hjl,if_pos (hA2 j hjl)]
theorem a88 {l:List Fea}:adk (l.map zf) ((zan (4*l.length)).map (lh l))=l:=by
 apply zbm;intro i;by_cases hi:i<l.length
 ·have hd:l.getD i default=l[i]:=by rw [zam,zas hi]; rfl
  have hv:∀k,k<4→((zan (4*l.length)).map (lh l)).getD (4*i+k) 0=(l[i]).nums.getD k 0:=fun k hk=>by
   have hlt:4*i+k<4*l.length:=by omega
   rw [zam,zbb,zbv hlt];simp only [Option.map_some,Option.getD_some,lh];rw [show (4*i+k)/4=i by omega,show (4*i+k)%4=k by omega,hd]
  have h0:=hv 0 (by omega);have h1:=hv 1 (by omega);have h2:=hv 2 (by omega);have h3:=hv 3 (by omega);simp only [zaj] at h0;have hz:(l.map zf).getD i default=zf l[i]:=by rw [zam,zbb,zas hi]; rfl
  rw [adk,zbb,zai,zbv hi,Option.map_some,hz,zas hi];unfold avg;rw [h0,h1,h2,h3]
  rfl
 ·rw [zap (by simp [adk]; omega),zap (by omega)]
theorem atx {l:List Fea} (hl:l.length≤100000) (h:∀f∈l,f.ok):aw (q9 l)=if ah2 l=true∧l≠[] then (l,true) else ([],false):=by
 obtain ⟨r1,r2⟩:=ard hl h;obtain ⟨f1,f2⟩:=a82 h hl
 have hs:aw (q9 l)=aay (z9 ((chs l).map (·.2)) [] []):=by
  unfold aw;rw [r1];simp only;rw [r2]
 rw [hs];simp only [chs,zav];rw [aiy (hdc.map (·.2)) _ _ _ (by simp [hdc])];rw [at6 _ _ _ _ (by simp [fts,ftc]),f1];by_cases hA:ah2 l=true
 ·rw [if_pos hA,f2 hA,zbt];rw [aiy (((zan 4).map kyc).map (·.2)) _ _ _ (by simp [kyc])];rw [ax1 _ _ _ _ (by simp [vls,vlc]),zbt];have e3:=aiy (tlc.map (·.2)) [] (l.map zf) (((vls l (4*l.length)).map (·.2)).map fun x=>mb x.2.2.2) (by simp [tlc]);rw [zbn] at e3;rw [e3,z9]
  have hvals:((vls l (4*l.length)).map (·.2)).map (fun x=>mb x.2.2.2)=(zan (4*l.length)).map (lh l):=by
   unfold vls;rw [zbc,zbc];apply zbx;intro m hm;exact (azx (asx h (zbk.1 hm))).1
  rw [hvals,aay];by_cases h0:l=[]
  ·subst h0
   rfl
  ·rw [if_neg (by simp [h0]),if_pos ⟨hA,h0⟩,a88]
 ·rw [if_neg hA,if_neg (fun q=>hA q.1)]
  rfl
theorem axt {l:List Fea} (hl:l.length≤100000) (h:∀f∈l,f.ok):xn (q9 l)=if ah2 l=true then some l else none:=by
 obtain ⟨r1,r2⟩:=ard hl h;obtain ⟨f1,f2⟩:=a82 h hl
 have hs:xn (q9 l)=uscan ((chs l).map (·.2)) [] 0:=by
  unfold xn;rw [r1];simp only [if_true];rw [r2]
 rw [hs];simp only [chs,zav];rw [afp (hdc.map (·.2)) _ _ _ (by simp [hdc])];rw [aq8 _ _ _ _ (by simp [fts,ftc]),f1];by_cases hA:ah2 l=true
 ·rw [if_pos hA,if_pos hA,f2 hA,zbt];rw [afp (((zan 4).map kyc).map (·.2)) _ _ _ (by simp [kyc])];have hv:=ats l h (tlc.map (·.2)) (4*l.length) 0 (by omega);rw [zbf,bk4] at hv;have e2:(vls l (4*l.length)).map (·.2)=(zan (4*l.length)).map fun j=>(vlc l j).2:=by unfold vls; rw [zbc]; rfl
  rw [e2,hv];have e3:=afp (tlc.map (·.2)) [] l (4*l.length) (by simp [tlc]);rw [zbn] at e3;rw [e3,uscan]
 ·rw [if_neg hA,if_neg hA]
theorem bd8 {b:List UInt8} (hb:b.length≤100000) {o:List Fea} (h:xn b=some o):(∀f∈o,f.ok)∧o.length≤100000:=by
 unfold xn at h;split at h
 ·rename_i x e;have hx:=u6 e x (by simp);split at h
  ·split at h
   ·rename_i fs e2;have hfl:=u6 e2;have hfn:=kr e2;obtain ⟨a,b⟩:=agx fs [] 0 (fun y hy=>by have:=hfl y hy; omega) (by simp) o h;simp only [zat] at b;exact ⟨a,by omega⟩
   ·cases h
  ·cases h
 ·cases h
theorem a7o (b:List UInt8) (hb:b.length≤100000):rdT b=amf b:=by
 by_cases h0:b=[]
 ·rw [rdT,amf,if_pos h0,if_pos h0]
 obtain ⟨q1,q2,q3⟩:=ar6 b hb;rw [rdT,amf,if_neg h0,if_neg h0];by_cases hR:(aw b).2=true∧q9 (aw b).1=b
 ·rw [if_pos hR];obtain ⟨hR1,hR2⟩:=hR;have hq3:=q3 hR1;have ht:=atx (l:=(aw b).1) (by omega) q1;have hu:=axt (l:=(aw b).1) (by omega) q1;rw [hR2] at ht hu
  have hA:ah2 (aw b).1=true:=by
   by_cases hA:ah2 (aw b).1=true
   ·exact hA
   ·rw [if_neg (fun q=>hA q.1)] at ht;rw [ht] at hR1;cases hR1
  rw [hu,if_pos hA];exact (if_pos ⟨hq3,hR2⟩).symm
 ·rw [if_neg hR];cases hU:xn b with
  | none=>rfl
  | some o=>
   refine (if_neg fun q=>hR ?_).symm;obtain ⟨o1,o2⟩:=bd8 hb hU;have ht:=atx o2 o1;have hu:=axt o2 o1;rw [q.2] at ht hu;rw [hU] at hu
   have hA:ah2 o=true:=by
    by_cases hA:ah2 o=true
    ·exact hA
    ·rw [if_neg hA] at hu;cases hu
   rw [if_pos ⟨hA,q.1⟩] at ht;rw [ht];exact ⟨rfl,q.2⟩

def sx:Mk P0 f24:={ x:=_ }
theorem ac8:b8 24 2 sx:=b7 func24
theorem nes (x:Int):(x != x)=false:=by simp
set_option maxHeartbeats 1000000 in
theorem ago (l:List Fea) (hl:l.length≤100000) (h:∀f∈l,f.ok):a8 P0 24 [l8 l,l8 l] [] (bl true) []:=by
 refine ac8 rfl (by decide) ?_;have hmx:=d7;obtain ⟨N,hN,hN1⟩:∃N:Int,((l.length:Nat):Int)=N∧0≤N∧N≤100000:=⟨_,rfl,by omega,by omega⟩
 push_cast [sx,l8,zai,hN,nes,zat]
 refine run_loop [(5,false),(0,false),(1,false)] (fun vs pos los=>∃i:Nat,i≤l.length∧vs=[int .i64 i,l8 l,l8 l]∧pos=[]∧los=[])
  (fun vs _ _=>match vs with | .r (.v (.int _ a))::_=>(N-a).toNat | _=>0) rfl ?_ ?_
 ·push_cast [l8]
  exact ⟨0,by omega,rfl⟩
 ·rintro vs pos los ⟨i,hi,rfl,rfl,rfl⟩;have w1:IntKind.i64.wrap ((i:Int)+1)=i+1:=a5 (by omega)
  push_cast [l8,w1,zai,hN]
  refine b6 (fun hd=>?_) (fun hd=>?_)
  ·have hd:=of_decide_eq_true hd;have hi2:i<l.length:=by omega
   have hg:=ale hi2;have ho:=aau h hi2;generalize l.getD i default=f at *;have hr:=bd9 f.ring f.ring (by have:=ho.2.1; omega) (by have:=ho.2.1; omega);rw [decide_eq_true rfl] at hr
   push_cast [l8,hg,nes,w1,zai,hN,zab,zad,zaa]
   repeat refine And.intro (by first | omega | kernel_rfl) ?_
   refine b5 (as':=[a9 f.ring,a9 f.ring]) rfl ?_;refine a6 hr rfl trivial ?_
   push_cast [w1]
   exact ⟨⟨i+1,by omega,rfl⟩,by omega⟩
  ·push_cast

def abz:Mk P0 f51:={ x:=_ }
theorem aig:b8 51 2 abz:=b7 func51
def abx:Mk P0 f25:={ x:=_ }
theorem aie:b8 25 2 abx:=b7 func25
theorem bh6 (ws:List Int) (hl:ws.length≤1000):a8 P0 93 [.r (.sl 1 (aa ws))] [] (.own 1000000 0 0 (ni ws).length) [j7 (ni ws)]:=by
 by_cases h:ni ws=[]
 ·have:=yx (set_t ws hl (.inl ⟨h,rfl,rfl⟩));rw [h];exact this
 ·exact set_t ws hl (.inr ⟨h,rfl,rfl⟩)
def y6 (L:List Pt):AV:=.r (.sl 4 (L.map Pt.rv))
theorem a0h {L:List Pt} {i:Nat} {p:Pt} (h:L[i]?=some p) (z:RV):(L.map Pt.rv).getD i z=.agg [.v (.int .i64 p.k),.v (.int .i64 p.x),.v (.int .i64 p.y),.v (.int .i64 p.v)]:=by
 rw [zam,zbb,h]; rfl
def ws9 (L:List Pt) (r:Nat):List Int:=L.map fun p=>((p.w r:Nat):Int)
def sn (L:List Pt) (r:Nat):List Int:=ni (ws9 L r)
set_option maxHeartbeats 2000000 in
theorem cells9_t (L : List Pt) (hL : L.length ≤ 40) (hok : ∀ p ∈ L, p.ok) (r : Int) (hr : 0 ≤ r ∧ r ≤ 12) :
    a8 P0 51 [y6 L,int .i64 r] [] (.own 1000000 0 0 (sn L r.toNat).length) [j7 (sn L r.toNat)]:=by
  refine aig rfl (by decide) ?_;have hmx:=d7;have dA:decide (r≥0)=true:=decide_eq_true (by omega);have dB:decide (r≤12)=true:=decide_eq_true (by omega);have hset:=bh6 (ws9 L r.toNat) (by simp [ws9]; omega);have hlw:∀i,(ws9 (L.take i) r.toNat).length≤i:=fun i=>by unfold ws9; simp; omega
  push_cast [abz,y6,zat]
  refine run_loop [(6, false), (0, false), (1, false), (5, false)] (fun vs pos los => ∃ i : Nat, i ≤ L.length ∧ pos = [] ∧
      (i=0∧vs=[int .i64 i,y6 L,int .i64 r,.nils 1 (.v (.int .u64 0))]∧los=[] ∨
       i≠0∧vs=[int .i64 i,y6 L,int .i64 r,.own 2000000 0 0 (ws9 (L.take i) r.toNat).length]∧los=[j7 (ws9 (L.take i) r.toNat)]))
    (fun vs _ _=>match vs with | .r (.v (.int _ a))::_=>(L.length-a).toNat | _=>0) rfl ?_ ?_
  · push_cast [y6]
    exact ⟨0,by omega,.inl ⟨rfl,by simp⟩⟩
  · rintro vs pos los ⟨i,hi,rfl,hcase⟩;have hlen:=hlw i;have wi:IntKind.i64.wrap ((i:Int)+1)=(i:Int)+1:=a5 (by omega);by_cases hd:i<L.length
    · have d1:decide ((i:Int)<(L.length:Int))=true:=decide_eq_true (by omega);obtain ⟨p,hp⟩:∃p,L[i]?=some p:=⟨L[i],by simp [hd]⟩
      have hpo:=hok p (zau hp);have hgp:=fun z=>a0h hp z;have hw:=ax2 p.x p.y r hpo.2.1 hr
      have hN:ws9 (L.take (i+1)) r.toNat=ws9 (L.take i) r.toNat++[((p.w r.toNat:Nat):Int)]:=by
        unfold ws9;rw [zbh,hp,zav]
        rfl
      rcases hcase with ⟨h0,rfl,rfl⟩ | ⟨h0,rfl,rfl⟩
      · push_cast [y6,zai,d1,dA,dB,hgp,zab,zad,zaa]
        refine And.intro (by omega) (And.intro (by omega) ?_);refine i7 (as':=[int .i64 p.x,int .i64 p.y,int .i64 r]) rfl ?_;refine b9 hw rfl trivial ?_
        push_cast [y6,uw,wi,j6,zab,zad,zaa]
        refine And.intro (by simp) (And.intro (by omega) (And.intro (by kernel_rfl) ?_));subst h0;exact ⟨⟨1,by omega,.inr ⟨by omega,by rw [hN]; simp [ws9],by rw [hN]; simp [ws9,j7,aa,Pt.w]⟩⟩,by omega⟩
      · push_cast [y6,j7,zai,d1,dA,dB,hgp,zab,zad,zaa]
        refine And.intro (by omega) (And.intro (by omega) ?_);refine i7 (as':=[int .i64 p.x,int .i64 p.y,int .i64 r]) rfl ?_;refine b9 hw rfl trivial ?_
        push_cast [y6,uw,wi,j6,zab,zad,zaa]
        refine And.intro (by simp) (And.intro ⟨by omega,by omega⟩ (And.intro (by kernel_rfl) ?_));exact ⟨⟨i+1,by omega,.inr ⟨by omega,by rw [hN]; simp,by rw [hN]; simp [aa,Pt.w,zao]⟩⟩,by omega⟩
    · have d1:decide ((i:Int)<(L.length:Int))=false:=decide_eq_false (by omega);have hi2:i=L.length:=by omega
      rcases hcase with ⟨h0,rfl,rfl⟩ | ⟨h0,rfl,rfl⟩
      · push_cast [y6,zai,d1,dA,dB]
        have hw0:ws9 L r.toNat=[]:=by
          have:L=[]:=zbs (by omega);rw [this]; rfl
        rw [hw0] at hset;refine b5 (as':=[.r (.sl 1 (aa []))]) rfl ?_;refine a6 hset rfl trivial ?_;unfold sn
        push_cast [hw0,j7]
      · push_cast [y6,j7,zai,d1,dA,dB]
        rw [hi2,zbj];refine i9 ?_;rw [zao (by rw [j6]; exact zaw _)];refine a6 hset rfl trivial ?_;unfold sn
        push_cast [j7]
def du (L:List Pt) (t:Til):List Int:=(sn L t.r.toNat).filter (tw t)
theorem ay7 {L:List Pt} {r:Nat} {n:Int} (h:n∈sn L r):∃p∈L,n=((p.w r:Nat):Int):=by
 have h1:=((aok (ws9 L r) [] List.Pairwise.nil).2 n).1 h;rcases h1 with h1 | h1
 ·cases h1
 ·obtain ⟨p,hp,rfl⟩:=zar.1 h1;exact ⟨p,hp,rfl⟩
theorem avv (L:List Pt) (r:Nat):(sn L r).length≤L.length:=by
 have:=az8 (ws9 L r);simpa [sn,ws9] using this
theorem bk8 (t:Til) (h:tis t=true) (hf:fine t=false) (p:Pt) (hpo:p.ok):a8 P0 52 [t.v,int .u64 ((p.w t.r.toNat:Nat):Int)] [] (bl (tw t ((p.w t.r.toNat:Nat):Int))) []:=by
 have hb:0≤t.z∧t.z≤18∧0≤t.r∧t.r≤12∧0≤t.x∧t.x<2^t.z.toNat∧0≤t.y∧t.y<2^t.z.toNat:=by simpa [tis] using h
 have hk:=jo p.x p.y t.r.toNat hpo.2.1.1 hpo.2.1.2 (by omega);obtain ⟨c1,c2,c3,c4⟩:=kj t.r.toNat _ hk;have hl:=asz p.x p.y t.r.toNat (by omega);have:=bdk t h hf _ hk (oq (by omega) hpo.2.1 hl)
 have e:tw t ((p.w t.r.toNat:Nat):Int)=tch (d9 p.x p.y t.r.toNat) t.r.toNat (2^(30-t.z).toNat) t.x t.y:=by
  unfold tw;rw [zab,show p.w t.r.toNat=s9 t.r.toNat (d9 p.x p.y t.r.toNat) from rfl,c3]
 rw [e];exact this
set_option maxHeartbeats 2000000 in
theorem shown9_r (L : List Pt) (hL : L.length ≤ 40) (hok : ∀ p ∈ L, p.ok) (t : Til) (h : tis t = true) (hf : fine t = false) {res : AV} {ro : List Ob}
    (hres:(du L t=[]∧res=.nils 1 (.v (.int .u64 0))∧ro=[])∨(du L t≠[]∧res=.own 1000000 0 0 (du L t).length∧ro=[j7 (du L t)])) :
    a8 P0 25 [t.v,y6 L] [] res ro:=by
  refine aie rfl (by decide) ?_;have hmx:=d7;have hb:0≤t.z∧t.z≤18∧0≤t.r∧t.r≤12∧0≤t.x∧t.x<2^t.z.toNat∧0≤t.y∧t.y<2^t.z.toNat:=by simpa [tis] using h
  have hce:=cells9_t L hL hok t.r ⟨hb.2.2.1,hb.2.2.2.1⟩;have hcl:=avv L t.r.toNat;have hat:=fun n (h:n∈sn L t.r.toNat)=>ay7 h;have hsh:du L t=(sn L t.r.toNat).filter (tw t):=rfl;rw [hsh] at hres;have hft:∀C:List Int,∀i,((C.take i).filter (tw t)).length≤C.length:=fun C i=>Nat.le_trans (List.length_filter_le _ _) (by rw [List.length_take]; exact Nat.min_le_right _ _);generalize sn L t.r.toNat=C at *
  push_cast [abx,Til.v,y6,zat]
  refine b5 (as':=[y6 L,int .i64 t.r]) rfl ?_;refine a6 hce rfl trivial ?_
  push_cast [j7,j6]
  refine run_loop [(7, false), (6, false), (2, false), (5, false)] (fun vs pos los => ∃ i : Nat, i ≤ C.length ∧ pos = [] ∧
      ((C.take i).filter (tw t)=[]∧vs=[int .i64 i,.own 2000000 0 0 C.length,.ptr 2000001 0 0,.nils 1 (.v (.int .u64 0))]∧los=[j7 C,.box [int .i64 t.z,int .i64 t.x,int .i64 t.y,int .i64 t.r]] ∨
       (C.take i).filter (tw t)≠[]∧vs=[int .i64 i,.own 2000000 0 0 C.length,.ptr 2000001 0 0,.own 2000002 0 0 ((C.take i).filter (tw t)).length]∧los=[j7 C,.box [int .i64 t.z,int .i64 t.x,int .i64 t.y,int .i64 t.r],j7 ((C.take i).filter (tw t))]))
    (fun vs _ _=>match vs with | .r (.v (.int _ a))::_=>(C.length-a).toNat | _=>0) rfl ?_ ?_
  · push_cast [j7]
    exact ⟨0,by omega,.inl ⟨rfl,by simp⟩⟩
  · rintro vs pos los ⟨i,hi,rfl,hcase⟩;have wi:IntKind.i64.wrap ((i:Int)+1)=(i:Int)+1:=a5 (by omega);have hfi:=hft C i;by_cases hd:i<C.length
    · have d1:decide ((i:Int)<(C.length:Int))=true:=decide_eq_true (by omega);obtain ⟨n,hn⟩:∃n,C[i]?=some n:=⟨C[i],by simp [hd]⟩
      obtain ⟨p,hp,rfl⟩:=hat n (zau hn);have ho:=bk8 t h hf p (hok p hp);have htk:=ajl (f:=tw t) hn;rcases hcase with ⟨h0,rfl,rfl⟩ | ⟨h0,rfl,rfl⟩
      · push_cast [j7,d1,u5 hn,t5 hn,j6]
        refine And.intro (by omega) ?_;refine i7 (as':=[t.v,int .u64 ((p.w t.r.toNat:Nat):Int)]) rfl ?_;refine b9 ho rfl trivial ?_
        push_cast [j7,j6,wi]
        refine And.intro (by kernel_rfl) ?_;refine b6 (fun hc=>?_) (fun hc=>?_)
        · rw [if_pos hc] at htk
          push_cast [wi,j7,u5 hn,t5 hn,j6]
          refine And.intro (by omega) (And.intro (by simp) (And.intro (by omega) ?_));exact ⟨⟨i+1,by omega,.inr ⟨by rw [htk]; simp,by rw [htk]; simp [h0],by rw [htk]; simp [aa,h0]⟩⟩,by omega⟩
        · rw [if_neg (by rw [hc]; simp),zbn] at htk
          push_cast [wi,j7,j6]
          exact ⟨⟨i+1,by omega,.inl ⟨by rw [htk]; exact h0,by simp⟩⟩,by omega⟩
      · push_cast [j7,d1,u5 hn,t5 hn,j6]
        refine And.intro (by omega) ?_;refine i7 (as':=[t.v,int .u64 ((p.w t.r.toNat:Nat):Int)]) rfl ?_;refine b9 ho rfl trivial ?_
        push_cast [j7,j6,wi]
        refine And.intro (by kernel_rfl) ?_;refine b6 (fun hc=>?_) (fun hc=>?_)
        · rw [if_pos hc] at htk
          push_cast [wi,j7,u5 hn,t5 hn,j6]
          refine And.intro (by omega) (And.intro (by simp) (And.intro ⟨by omega,by omega⟩ ?_));exact ⟨⟨i+1,by omega,.inr ⟨by rw [htk]; simp,by rw [htk]; simp [],by rw [htk]; simp [aa,zao]⟩⟩,by omega⟩
        · rw [if_neg (by rw [hc]; simp),zbn] at htk
          push_cast [wi,j7,j6]
          exact ⟨⟨i+1,by omega,.inr ⟨by rw [htk]; exact h0,by rw [htk]; simp,by rw [htk]⟩⟩,by omega⟩
    · have d1:decide ((C.length:Int)<(C.length:Int))=false:=decide_eq_false (by omega);have hi2:i=C.length:=by omega
      rw [hi2,zbj] at hcase;rcases hcase with ⟨h0,rfl,rfl⟩ | ⟨h0,rfl,rfl⟩
      · rcases hres with ⟨g0,rfl,rfl⟩ | ⟨g0,rfl,rfl⟩
        · push_cast [j7,d1,j6]
        · exact absurd h0 g0
      · rcases hres with ⟨g0,rfl,rfl⟩ | ⟨g0,rfl,rfl⟩
        · exact absurd g0 h0
        · push_cast [j7,d1,j6]
theorem bao (L:List Pt) (hL:L.length≤40) (hok:∀p∈L,p.ok) (t:Til) (h:tis t=true) (hf:fine t=false) :
  a8 P0 25 [t.v,y6 L] [] (.own 1000000 0 0 (du L t).length) [j7 (du L t)]:=by
 by_cases h0:du L t=[]
 ·have:=yx (shown9_r L hL hok t h hf (.inl ⟨h0,rfl,rfl⟩));rw [h0];exact this
 ·exact shown9_r L hL hok t h hf (.inr ⟨h0,rfl,rfl⟩)

def abd:Mk P0 f43:={ x:=_ }
theorem ahu:b8 43 2 abd:=b7 func43
structure Sm where
 n:Int
 s:Int
 lo:Int
 hi:Int
def smS (w:Nat) (r:Nat) (a:Sm) (p:Pt):Sm:=
 if p.w r=w then ⟨a.n+1,if a.n=0 then p.v else a.s+p.v,if a.n=0 then p.v else min a.lo p.v,if a.n=0 then p.v else max a.hi p.v⟩ else a
def smL (L:List Pt) (w:Nat) (r:Nat):Sm:=L.foldl (smS w r) ⟨0,0,0,0⟩
def Sm.ok (a:Sm) (i:Nat):Prop:=(0≤a.n∧a.n≤i)∧(-2147483648*i≤a.s∧a.s≤2147483648*i)∧(-2147483648≤a.lo∧a.lo≤2147483648)∧(-2147483648≤a.hi∧a.hi≤2147483648)
theorem bh4 {w r:Nat} {a:Sm} {i:Nat} (h:a.ok i) (p:Pt) (hp:p.ok):(smS w r a p).ok (i+1):=by
 obtain ⟨h1,h2,h3,h4⟩:=h;have hv:=hp.2.2;unfold smS;split
 ·refine ⟨by simp only; omega,?_,?_,?_⟩
  ·simp only;split<;>omega
  ·simp only;split<;>omega
  ·simp only;split<;>omega
 ·exact ⟨by omega,by omega,h3,h4⟩
theorem az6 (L:List Pt) (hok:∀p∈L,p.ok) (w r:Nat):∀i,i≤L.length→(smL (L.take i) w r).ok i
 | 0,_=>by simp [smL,Sm.ok]
 | i+1,hi=>by
  have ih:=az6 L hok w r i (by omega)
  have e:smL (L.take (i+1)) w r=smS w r (smL (L.take i) w r) (L[i]'(by omega)):=by
   unfold smL;rw [List.take_succ_eq_append_getElem (by omega),List.foldl_append]
   rfl
  rw [e];exact bh4 ih _ (hok _ (zbp _))
theorem bg0 {a b:Int} (h:(a != b)=true):decide (a≠b)=true:=by simpa using h
def Sm.bx (a:Sm) (w:Nat):List AV:=[int .u64 (if a.n=0 then 0 else (w:Nat)),int .i64 a.n,int .i64 a.s,int .i64 a.lo,int .i64 a.hi]
def Sm.v (a:Sm) (w:Nat):RV:=.agg [.v (.int .u64 (if a.n=0 then 0 else (w:Nat))),.v (.int .i64 a.n),.v (.int .i64 a.s),.v (.int .i64 a.lo),.v (.int .i64 a.hi)]
set_option maxHeartbeats 4000000 in
theorem bcb (L:List Pt) (hL:L.length≤40) (hok:∀p∈L,p.ok) (r:Nat) (hr:r≤12) (q:Pt) (hq:q.ok) :
  a8 P0 43 [y6 L,int .u64 ((q.w r:Nat):Int)] [] (.tup [.r ((smL L (q.w r) r).v (q.w r)),bl (decide ((smL L (q.w r) r).n>0))]) []:=by
 refine ahu rfl (by decide) ?_;have hk:=jo q.x q.y r hq.2.1.1 hq.2.1.2 hr;have hc:=asm (r:Int) (d9 q.x q.y r) (by omega) (by rw [zab]; exact hk);rw [zab,show s9 r (d9 q.x q.y r)=q.w r from rfl] at hc;obtain ⟨W,hW⟩:∃W,q.w r=W:=⟨_,rfl⟩
 rw [hW] at hc ⊢;have hwL:∀i,smL (L.take i) W r=smL (L.take i) W r:=fun i=>rfl;simp only [abd,y6,push_cast,↓reduceIte,reduceCtorEq,zE,zA,zD];refine b5 (as':=[uw W]) rfl ?_;refine a6 hc rfl trivial ?_;have n0:((0:Int) != 0)=false:=rfl;simp only [cel,n0,push_cast,↓reduceIte,zE,zA,zL,zD]
 refine run_loop [(9,false),(0,false),(1,false),(7,false),(6,false),(4,false)] (fun vs pos los=>∃i:Nat,i≤L.length∧pos=[] ∧
   vs=[int .i64 i,y6 L,int .u64 W,.ptr 2000000 0 0,.ptr 2000001 0 0,.ptr 2000002 0 0] ∧
   los=[.box [int .i64 r,int .i64 (d9 q.x q.y r).a,int .i64 (d9 q.x q.y r).b],.box ((smL (L.take i) W r).bx W),.box [int .u64 0,int .i64 0,int .i64 0,int .i64 0,int .i64 0]])
  (fun vs _ _=>match vs with | .r (.v (.int _ a))::_=>(L.length-a).toNat | _=>0) rfl ?_ ?_
 ·simp only [y6,push_cast,↓reduceIte,reduceCtorEq,zB,zE,zA,zL,zD];exact ⟨0,by omega,rfl,rfl⟩
 ·rintro vs pos los ⟨i,hi,rfl,rfl,rfl⟩;have wi:IntKind.i64.wrap ((i:Int)+1)=(i:Int)+1:=a5 (by omega);obtain ⟨a,ha⟩:∃a,smL (L.take i) W r=a:=⟨_,rfl⟩
  have hao:=az6 L hok W r i hi;rw [ha] at hao ⊢;obtain ⟨an,sm,alo,ahi⟩:=a;obtain ⟨a1,a2,a3,a4⟩:=hao;simp only at a1 a2 a3 a4;by_cases hd:i<L.length
  ·have d1:decide ((i:Int)<(L.length:Int))=true:=decide_eq_true (by omega);obtain ⟨p,hp⟩:∃p,L[i]?=some p:=⟨L[i],by simp [hd]⟩
   have hpo:=hok p (zau hp);have hgp:=fun z=>a0h hp z;have hw:=ax2 p.x p.y r hpo.2.1 ⟨by omega,by omega⟩;rw [zab] at hw
   have hN:smL (L.take (i+1)) W r=smS W r ⟨an,sm,alo,ahi⟩ p:=by
    unfold smL at ha ⊢;rw [zbh,hp,List.foldl_append,ha]
    rfl
   simp only [y6,Sm.bx,d1,hgp,zab,zaa,push_cast,↓reduceIte,reduceCtorEq,zE,zA,zL];refine And.intro (by omega) (And.intro (by omega) ?_);refine i7 (as':=[int .i64 p.x,int .i64 p.y,int .i64 r]) rfl ?_;refine b9 hw rfl trivial ?_;simp only [uw,push_cast,↓reduceIte,reduceCtorEq,zE];refine And.intro (by kernel_rfl) ?_;refine b6 (fun hc=>?_) (fun hc=>?_)
   ·have hc:=of_decide_eq_true (bg0 hc);rw [smS,if_neg (fun h=>hc (by rw [← h]; rfl))] at hN;simp only [wi,push_cast,↓reduceIte,reduceCtorEq,zB,zE,zA,zL,zD];exact ⟨⟨i+1,by omega,by simp [],by rw [hN]⟩,by omega⟩
   ·have hc:(atp p.x p.y r:Int)=W:=by simpa using hc
    have hc2:p.w r=W:=by
     have:atp p.x p.y r=W:=by omega
     exact this
    rw [smS,if_pos hc2] at hN;have w1:IntKind.i64.wrap (an+1)=an+1:=a5 (by omega);have w2:IntKind.i64.wrap (sm+p.v)=sm+p.v:=a5 (by have:=hpo.2.2; omega);have w3:IntKind.i64.wrap (0+1)=1:=rfl;have w4:IntKind.i64.wrap (0+p.v)=p.v:=by rw [a5 (by have:=hpo.2.2; omega)]; omega
    by_cases h0:an=0
    ·have e0:(an == 0)=true:=beq_iff_eq.2 h0;simp only [hgp,e0,wi,w3,w4,zab,zaa,push_cast,↓reduceIte,reduceCtorEq,zB,zE,zA,zL,zD];refine ⟨by omega,⟨i+1,by omega,by simp [],?_⟩,by omega⟩;rw [hN,h0];simp
    ·have e0:(an == 0)=false:=beq_eq_false_iff_ne.2 h0;simp only [hgp,e0,wi,w1,w2,zab,zaa,push_cast,↓reduceIte,reduceCtorEq,zB,zE,zA,zL,zD];refine ⟨by omega,⟨i+1,by omega,by simp [],?_⟩,by omega⟩;rw [hN];simp [h0,show ¬an+1=0 by omega]
  ·have d1:decide ((i:Int)<(L.length:Int))=false:=decide_eq_false (by omega);have hi2:i=L.length:=by omega
   subst hi2;rw [zbj] at ha;simp only [y6,Sm.bx,d1,ha,push_cast,↓reduceIte,reduceCtorEq,zE,zA,zL,zD];exact ⟨by kernel_rfl,rfl⟩

def ab2:Mk P0 f21:={ x:=_ }
theorem aik:b8 21 2 ab2:=b7 func21
theorem a8v (l:List P2):(uz l).length≤l.length+1:=by
 have:=an1 l (xa l) (l.length+1) (xa l);unfold uz;split
 ·simp
 ·split
  ·simp
  ·exact this
theorem a8u {l:List P2} {q:P2} (h:q∈uz l):q∈l:=by
 unfold uz at h;split at h
 ·simp at h
 ·rename_i h0;split at h
  ·simp at h
  ·exact axo _ (a5s h0) _ h
theorem a4w (t:Til) (hr:t.r≤12) (z:Ei):(fk t z).length≤11:=by
 unfold fk;split
 ·refine Nat.le_trans (a8v _) ?_
  have h1:(vn t z).length≤10:=by
   have:=(aln (lo:=(-192*r9 t,-192*r9 t)) (hi:=(12480*r9 t,12480*r9 t)) (amw z t.r.toNat (by omega) (-(3*(t.x*afv t)),-(3*(t.y*afv t)))) 4 (zaw _)).2;rw [zai,amy] at this;exact this
  have:(x7 (3*r9 t) (vn t z)).length=(vn t z).length:=by simp [x7]
  omega
 ·simp
theorem a64 (t:Til) (h:0≤t.z∧t.z≤18) (z:Ei) (hb:∀p∈bo t z,(-1099511627776≤p.1∧p.1≤1099511627776)∧(-1099511627776≤p.2∧p.2≤1099511627776)):∀p∈fk t z,(-64≤p.1∧p.1≤4160)∧(-64≤p.2∧p.2≤4160):=fun p hp=>by
 have hu1:1≤r9 t:=by
  have h3:((2^(18-t.z).toNat:Nat):Int)=(2:Int)^(18-t.z).toNat:=by simp
  have h4:0<2^(18-t.z).toNat:=Nat.pow_pos (by decide);unfold r9;omega
 unfold fk at hp;split at hp
 ·have hp2:=a8u hp;obtain ⟨q,hq,rfl⟩:=zar.1 hp2;have hw:=aqj (a:=(-1099511627776,-1099511627776)) (b:=(1099511627776,1099511627776)) (-192*r9 t,-192*r9 t) (12480*r9 t,12480*r9 t) hb q hq;simp only at hw;generalize r9 t=U at *;have e1:-64≤q.1/(3*U):=(zbq (by omega)).2 (by omega);have e2:q.1/(3*U)<4161:=(zbr (by omega)).2 (by omega);have e3:-64≤q.2/(3*U):=(zbq (by omega)).2 (by omega);have e4:q.2/(3*U)<4161:=(zbr (by omega)).2 (by omega);simp only;omega
 ·simp at hp
def eg (L:List Pt) (t:Til) (n:Int):Fea:=⟨n,fk t (o7 n.toNat t.r.toNat),(smL L n.toNat t.r.toNat).n,(smL L n.toNat t.r.toNat).s,(smL L n.toNat t.r.toNat).lo,(smL L n.toNat t.r.toNat).hi⟩
def avl (L:List Pt) (t:Til):List UInt8:=if (du L t).map (eg L t)=[] then [] else q9 ((du L t).map (eg L t))
theorem axz {L:List Pt} {t:Til} {n:Int} (h:n∈du L t):∃p∈L,n=((p.w t.r.toNat:Nat):Int):=ay7 (List.mem_filter.1 h).1
theorem at5 (L:List Pt) (t:Til):(du L t).length≤L.length:=Nat.le_trans (List.length_filter_le ..) (avv L _)
theorem bb8 {L:List Pt} (hL:L.length≤40) (hok:∀p∈L,p.ok) {t:Til} (hti:tis t=true) {p:Pt} (hp:p∈L):(eg L t ((p.w t.r.toNat:Nat):Int)).ok∧(eg L t ((p.w t.r.toNat:Nat):Int)).ring.length≤11:=by
 have hr:0≤t.z∧t.z≤18∧0≤t.r∧t.r≤12∧0≤t.x∧t.x<2^t.z.toNat∧0≤t.y∧t.y<2^t.z.toNat:=by simpa [tis] using hti
 have hpo:=hok p hp;have hk:=jo p.x p.y t.r.toNat hpo.2.1.1 hpo.2.1.2 (by omega);obtain ⟨c1,c2,c3,c4⟩:=kj t.r.toNat _ hk;have hz:o7 (p.w t.r.toNat) t.r.toNat=d9 p.x p.y t.r.toNat:=by rw [show p.w t.r.toNat=s9 t.r.toNat (d9 p.x p.y t.r.toNat) from rfl,c3]
 have hb:na (d9 p.x p.y t.r.toNat) t.r.toNat:=oq (by omega) hpo.2.1 (asz p.x p.y t.r.toNat (by omega));have hwl:p.w t.r.toNat<18446744073709551616:=c4;have hs:=az6 L hok (p.w t.r.toNat) t.r.toNat L.length (zaw _);rw [zbj] at hs;obtain ⟨s1,s2,s3,s4⟩:=hs;have hl11:=a4w t hr.2.2.2.1 (d9 p.x p.y t.r.toNat);unfold eg;rw [zab,hz];refine ⟨⟨⟨by simp only; omega,by simp only; omega⟩,by simp only; omega,fun q hq=>?_,?_,?_,?_,?_⟩,hl11⟩
 ·have:=a64 t ⟨hr.1,hr.2.1⟩ _ (a24 hti hb) q hq;unfold in64;omega
 ·unfold in64; simp only; omega
 ·unfold in64; simp only; omega
 ·unfold in64; simp only; omega
 ·unfold in64; simp only; omega
theorem ay0 {L:List Pt} (hL:L.length≤40) (hok:∀p∈L,p.ok) {t:Til} (hti:tis t=true):∀f∈(du L t).map (eg L t),f.ok∧f.ring.length≤11:=fun f hf=>by
 obtain ⟨n,hn,rfl⟩:=zar.1 hf;obtain ⟨p,hp,rfl⟩:=axz hn;exact bb8 hL hok hti hp
theorem art {l:List Fea} (h:∀f∈l,f.ring.length≤11):∀i,(fo l i).length≤1000*i
 | 0=>by simp [fo]
 | j+1=>by
  have:=art h j;have h1:=jb 2 (ci (l.getD j default).w (4*(j:Int)) (l.getD j default).ring);have h2:=ad2 (l.getD j default).w (4*(j:Int)) (l.getD j default).ring
  have h3:(l.getD j default).ring.length≤11:=by
   rw [zam];cases e:l[j]? with
   | none=>exact Nat.zero_le _
   | some f=>exact h f (zau e)
  rw [adl,zay];unfold fx;omega
theorem a9f {L:List Pt} (hL:L.length≤40) (hok:∀p∈L,p.ok) {t:Til} (hti:tis t=true):(avl L t).length≤60000:=by
 unfold avl;have hk:=ay0 hL hok hti
 have hl:((du L t).map (eg L t)).length≤40:=by
  have:=at5 L t;rw [zai];omega
 generalize (du L t).map (eg L t)=l at *;split
 ·simp
 ·have h1:=art (fun f hf=>(hk f hf).2) l.length;have h2:=yh l l.length;have h3:=yz 4;have h4:=ad0;have h5:=ck 5 4096;have h6:=jb 3 (ov++fo l l.length++mz 4++mr l l.length++o6 5 4096);unfold q9;simp only [zay] at h6;omega
set_option maxHeartbeats 2000000 in
theorem draw9_t (L : List Pt) (hL : L.length ≤ 40) (hok : ∀ p ∈ L, p.ok) (t : Til) (hti : tis t = true) (hf : fine t = false) :
    a8 P0 21 [t.v,y6 L] [] (z7 (l9 (avl L t))) []:=by
  refine aik rfl (by decide) ?_;have hmx:=d7;have hr:0≤t.z∧t.z≤18∧0≤t.r∧t.r≤12∧0≤t.x∧t.x<2^t.z.toNat∧0≤t.y∧t.y<2^t.z.toNat:=by simpa [tis] using hti
  have hc:=bao L hL hok t hti hf;have hsl:=at5 L t;have hsa:=fun n h=>axz (L:=L) (t:=t) (n:=n) h;have hdk:=fun f h=>(ay0 hL hok hti f h).1;have hly:=a0f ((du L t).map (eg L t)) (by simp; omega) hdk;rw [show avl L t=if (du L t).map (eg L t)=[] then [] else q9 ((du L t).map (eg L t)) from rfl];generalize du L t=S at *
  push_cast [ab2,Til.v,y6,zah,zat]
  refine b5 (as':=[t.v,y6 L]) rfl ?_;refine a6 hc rfl trivial ?_
  push_cast [j7,y6]
  have hT:∀i,((S.take i).map (eg L t)).length≤50:=fun i=>by simp; omega
  refine run_loop [(7, false), (6, false), (5, false), (2, false), (1, false)] (fun vs pos los => ∃ i : Nat, i ≤ S.length ∧ pos = [] ∧
      (i=0∧vs=[int .i64 i,.own 2000000 0 0 S.length,.nils 6 g7,.ptr 2000001 0 0,y6 L]∧los=[j7 S,.box [int .i64 t.z,int .i64 t.x,int .i64 t.y,int .i64 t.r]] ∨
       i≠0∧vs=[int .i64 i,.own 2000000 0 0 S.length,.own 2000001 0 0 i,.ptr 2000002 0 0,y6 L]∧los=[j7 S,fm ((S.take i).map (eg L t)),.box [int .i64 t.z,int .i64 t.x,int .i64 t.y,int .i64 t.r]]))
    (fun vs _ _=>match vs with | .r (.v (.int _ a))::_=>(S.length-a).toNat | _=>0) rfl ?_ ?_
  · push_cast [g7,j7,y6]
    exact ⟨0,by omega,.inl ⟨rfl,by simp⟩⟩
  · rintro vs pos los ⟨i,hi,rfl,hcase⟩;have wi:IntKind.i64.wrap ((i:Int)+1)=i+1:=a5 (by omega);by_cases hd:i<S.length
    · have d1:decide ((i:Int)<(S.length:Int))=true:=decide_eq_true (by omega);obtain ⟨n,hn⟩:∃n,S[i]?=some n:=⟨S[i],by simp [hd]⟩
      obtain ⟨p,hp,rfl⟩:=hsa n (zau hn);have hpo:=hok p hp;have hk:=jo p.x p.y t.r.toNat hpo.2.1.1 hpo.2.1.2 (by omega);obtain ⟨c1,c2,c3,c4⟩:=kj t.r.toNat _ hk;have hz:o7 (p.w t.r.toNat) t.r.toNat=d9 p.x p.y t.r.toNat:=by rw [show p.w t.r.toNat=s9 t.r.toNat (d9 p.x p.y t.r.toNat) from rfl,c3]
      have hb:=oq (by omega) hpo.2.1 (asz p.x p.y t.r.toNat (by omega));have hvs:=a7i t hti hf (d9 p.x p.y t.r.toNat) hk hb;rw [show s9 t.r.toNat (d9 p.x p.y t.r.toNat)=p.w t.r.toNat from rfl] at hvs;have hdi:=bcb L hL hok t.r.toNat (by omega) p hpo;have hfe:eg L t ((p.w t.r.toNat:Nat):Int)=⟨(p.w t.r.toNat:Nat),fk t (d9 p.x p.y t.r.toNat),(smL L (p.w t.r.toNat) t.r.toNat).n,(smL L (p.w t.r.toNat) t.r.toNat).s,(smL L (p.w t.r.toNat) t.r.toNat).lo,(smL L (p.w t.r.toNat) t.r.toNat).hi⟩:=by unfold eg; rw [zab,hz]
      have hgU:=fun z=>u5 hn z;have hgU0:=fun z=>t5 hn z;generalize fk t (d9 p.x p.y t.r.toNat)=Q at *;have htq:zaq Q.length (Q.map ptR)=Q.map ptR:=d5 Q;have hTi:=hT i;have htk:zaq i (((S.take i).map (eg L t)).map Fea.rv)=((S.take i).map (eg L t)).map Fea.rv:=zao (by simp; omega)
      have hnx:(S.take (i+1)).map (eg L t)=(S.take i).map (eg L t)++[eg L t ((p.w t.r.toNat:Nat):Int)]:=by
        rw [zbh,hn,zav]; rfl
      rcases hcase with ⟨h0,rfl,rfl⟩ | ⟨h0,rfl,rfl⟩
      · push_cast [g7,j7,y6,j6,d1,hgU,hgU0]
        refine And.intro (by omega) ?_;refine b5 (as':=[y6 L,int .u64 ((p.w t.r.toNat:Nat):Int)]) rfl ?_;refine a6 hdi rfl trivial ?_
        push_cast [g7,j7,y6,Sm.v,j6,hgU,hgU0]
        refine And.intro (by omega) (And.intro (by omega) ?_);refine i7 (as':=[t.v,uw (p.w t.r.toNat:Nat)]) rfl ?_;refine b9 hvs rfl trivial ?_
        push_cast [d6,pnt,htq,wi]
        refine And.intro (by simp) (And.intro (by omega) (And.intro (by kernel_rfl) ?_));subst h0;exact ⟨⟨1,by omega,.inr ⟨by omega,rfl,by rw [hnx,hfe]; rfl⟩⟩,by omega⟩
      · push_cast [g7,j7,y6,fm,j6,d1,hgU,hgU0]
        refine And.intro (by omega) ?_;refine b5 (as':=[y6 L,int .u64 ((p.w t.r.toNat:Nat):Int)]) rfl ?_;refine a6 hdi rfl trivial ?_
        push_cast [g7,j7,y6,Sm.v,j6,hgU,hgU0]
        refine And.intro (by omega) (And.intro (by omega) ?_);refine i7 (as':=[t.v,uw (p.w t.r.toNat:Nat)]) rfl ?_;refine b9 hvs rfl trivial ?_
        push_cast [d6,pnt,htq,htk,wi]
        refine And.intro (by simp) (And.intro ⟨by omega,by omega⟩ (And.intro (by kernel_rfl) ?_));exact ⟨⟨i+1,by omega,.inr ⟨by omega,by simp,by rw [hnx,hfe,zav]; rfl⟩⟩,by omega⟩
    · have d1:decide ((S.length:Int)<(S.length:Int))=false:=decide_eq_false (by omega);obtain rfl:i=S.length:=by omega
      rcases hcase with ⟨h0,rfl,rfl⟩ | ⟨h0,rfl,rfl⟩
      · push_cast [g7,j7,y6,j6,d1]
        have hS0:S=[]:=zbs h0;rw [hS0] at hly ⊢;refine b5 (as':=[l8 []]) rfl ?_;refine a6 hly rfl trivial ?_
        push_cast [List.map_nil]
      · have htk:zaq S.length ((S.map (eg L t)).map Fea.rv)=(S.map (eg L t)).map Fea.rv:=zao (by simp)
        push_cast [g7,j7,y6,fm,j6,d1]
        rw [zbj,htk];refine i9 ?_;refine b5 (as':=[l8 (S.map (eg L t))]) rfl ?_;refine a6 hly rfl trivial ?_
        push_cast

def jv:Mk P0 f6:={ x:=_ }
theorem adb:b8 6 8 jv:=b7 func6
theorem a27 (b:List UInt8) (hb:b.length≤100000):(rdT b=none∧a8 P0 22 [sb b] [] (.tup [.nils 6 g7,int .i64 10]) []∧a8 P0 23 [z7 (l9 b)] [] (.tup [.nils 6 g7,int .i64 10]) []) ∨
  (rdT b=some []∧a8 P0 22 [sb b] [] (.tup [.nils 6 g7,int .i64 0]) []∧a8 P0 23 [z7 (l9 b)] [] (.tup [.nils 6 g7,int .i64 0]) []) ∨
  (∃l,l.length≤100000∧(∀f∈l,f.ok)∧a8 P0 22 [sb b] [] (.tup [.own 1000000 0 0 l.length,int .i64 0]) [fm l]∧a8 P0 23 [z7 (l9 b)] [] (.tup [.own 1000000 0 0 l.length,int .i64 0]) [fm l]):=by
 have h1:=a2t b hb;have h2:=bkr b hb;rw [← a7o b hb] at h2;obtain ⟨q1,q2,q3⟩:=ar6 b hb;cases hr:rdT b with
 | none=>
  rw [hr] at h1 h2;exact .inl ⟨rfl,h1,h2⟩
 | some l=>
  rw [hr] at h1 h2;cases l with
  | nil=>exact .inr (.inl ⟨rfl,h1,h2⟩)
  | cons f l=>
   have hl:f::l=(aw b).1:=by
    unfold rdT at hr;split at hr
    ·cases hr
    ·split at hr
     ·injection hr with hr; exact hr.symm
     ·cases hr
   exact .inr (.inr ⟨f::l,by rw [hl]; omega,by rw [hl]; exact q1,h1,h2⟩)
abbrev bk2 (L:List Pt):Ob:=.row 4 (.agg [.v (.int .i64 0),.v (.int .i64 0),.v (.int .i64 0),.v (.int .i64 0)]) true true (L.map Pt.rv)
set_option maxHeartbeats 4000000 in
theorem treads_t (b : List UInt8) (xs : List Int) (z r at' : Int) (by' : UInt8) (cut : Int) (tail : List UInt8)
    (hx:∀x∈xs,-9223372036854775808≤x∧x≤9223372036854775807) (hz:in64 z) (hr:in64 r) (ha:in64 at') (hcu:in64 cut) :
    a8 P0 6 [sb b,.r (ae0 xs),int .i64 z,int .i64 r,int .i64 at',int .u8 by'.toNat,int .i64 cut,sb tail] [] (bl true) []:=by
  refine adb rfl (by decide) ?_;have hmx:=d7;obtain ⟨N,hN,hN0⟩:∃N:Int,((b.length:Nat):Int)=N∧0≤N:=⟨_,rfl,by omega⟩
  obtain ⟨M,hM,hM0⟩:∃N:Int,((xs.length:Nat):Int)=N∧0≤N:=⟨_,rfl,by omega⟩
  obtain ⟨K,hK,hK0⟩:∃N:Int,((tail.length:Nat):Int)=N∧0≤N:=⟨_,rfl,by omega⟩
  by_cases hc:1000<N∨30<M∨50<K
  · cases d1:decide (N>1000)<;>cases d2:decide (M>30)<;>cases d3:decide (K>50) <;>
      first
      | (exfalso; have a:=of_decide_eq_false d1; have b:=of_decide_eq_false d2; have c:=of_decide_eq_false d3; omega)
      | (simp only [jv,ae0,hN,hM,hK,d1,d2,d3,push_cast,↓reduceIte,reduceCtorEq,zE,zA]
         refine a6 ay9 rfl trivial ?_
         simp only [push_cast,↓reduceIte,zA])
  · have d1:decide (N>1000)=false:=decide_eq_false (by omega);have d2:decide (M>30)=false:=decide_eq_false (by omega);have d3:decide (K>50)=false:=decide_eq_false (by omega);have hPt:=bbc xs hx;have hgp:GP (kg xs []):=a3z xs [] (by simp [GP]);have hle:=a3y xs [] (by decide);simp only [jv,ae0,hN,hM,hK,d1,d2,d3,push_cast,↓reduceIte,reduceCtorEq,zE,zA];refine b5 (as':=[.r (ae0 xs)]) rfl ?_;refine a6 hPt rfl trivial ?_;generalize hG:kg xs []=L at *;have hlen0:L.length≤40:=hle
    have hok:∀p∈L,p.ok:=fun p hp=>by
      obtain ⟨j,hj⟩:=List.getElem?_of_mem hp;exact (hgp j p hj).2
    simp only [Pt.rv,push_cast,↓reduceIte,zE,zA,zS,zL,zD,zM];refine am4 (fun E ob=>∃X Y:Int,in64 X∧in64 Y∧E 18=int .i64 X∧E 19=int .i64 Y∧E 17=.own 102000 0 0 L.length∧ob 102000=some (0,bk2 L)∧E 0=sb b∧E 2=int .i64 z∧E 3=int .i64 r∧E 4=int .i64 at'∧E 5=int .u8 by'.toNat∧E 6=int .i64 cut∧E 7=sb tail) ?_ (fun hp=>?_) (fun hp=>?_)
    · rintro E ob ⟨X,Y,hX,hY,q18,q19,q17,qo,q0,q2,q3,q4,q5,q6,q7⟩;have hT:=bhw X Y z r hX hY hz hr;have hti:=bhv X Y z r;generalize aob X Y z r=t at *;have hto:=aty hti;have hTO:=ax4 t hto;rw [if_pos hti] at hTO;obtain ⟨V,hV⟩:∃V:Int,(if fine t=true then (14:Int) else 0)=V:=⟨_,rfl⟩
      rw [hV] at hTO;simp only [q18,q19,q2,q3,push_cast,↓reduceIte,zE];refine a6 hT rfl trivial ?_;simp only [Til.v,push_cast,↓reduceIte,zE,zA,zD];refine And.intro (by simp) ?_;refine b5 (as':=[t.v]) rfl ?_;refine a6 hTO rfl trivial ?_;simp only [push_cast,↓reduceIte];refine am4 (fun E ob=>∃(C:List UInt8) (id ver:Nat) (ap:Bool),(id=59∨id=66)∧C.length≤60000∧E 21=.own id ver 0 C.length∧ob id=some (ver,.row 1 (.v (.int .u8 0)) ap true (bys C))∧E 0=sb b∧E 4=int .i64 at'∧E 5=int .u8 by'.toNat∧E 6=int .i64 cut∧E 7=sb tail) ?_ (fun hv=>?_) (fun hv=>?_)
      · rintro E ob ⟨C,id,ver,ap,hid,hCl,e21,eo,e0,e4,e5,e6,e7⟩;simp only [e21,eo,push_cast,↓reduceIte];refine am4 (fun E ob=>∃(C:List UInt8) (id ver:Nat) (ap:Bool),(id=59∨id=66)∧C.length≤60000∧E 21=.own id ver 0 C.length∧ob id=some (ver,.row 1 (.v (.int .u8 0)) ap true (bys C))∧E 0=sb b∧E 6=int .i64 cut∧E 7=sb tail) ?_ (fun hv=>?_) (fun hv=>?_)
        · clear e21 eo e0 e4 e5 e6 e7 hid hCl;rintro E ob ⟨C,id,ver,ap,hid,hCl,e21,eo,e0,e6,e7⟩;have w15:IntKind.i64.wrap ((zbd IntKind.i64.bits cut &&& zbd IntKind.i64.bits 15).toNat)=cut%16:=adc cut 15 4 (by decide) (by decide)
          obtain ⟨m,hm,hm2⟩:∃m:Nat,(C.length:Int)-(cut%16).tmod ((C.length:Int)+1)=m∧m≤C.length:=by
            rw [zbw (by omega)];have h1:=Int.emod_nonneg (cut%16) (show ((C.length:Int)+1)≠0 by omega);have h2:=Int.emod_lt_of_pos (cut%16) (show 0<((C.length:Int)+1) by omega);exact ⟨((C.length:Int)-(cut%16)%((C.length:Int)+1)).toNat,by omega,by omega⟩
          have w1:IntKind.i64.wrap ((C.length:Int)+1)=(C.length:Int)+1:=a5 (by omega);have wm:IntKind.i64.wrap (m:Int)=m:=a5 (by omega);have m0:((m:Int)-0).toNat=m:=by omega
          have hn0:¬((C.length:Int)+1=0):=by omega
          have hlt:tail.length≤50:=by omega
          have htm:zaq m (bys C)=bys (C.take m):=by simp
          have hap:bys (C.take m)++bys tail=bys (C.take m++tail):=by simp
          simp only [e21,eo,e6,e7,w15,w1,hm,wm,m0,hn0,htm,hap,zac,zaj,push_cast,↓reduceIte,zE]
          have hap2:(ap || !bif decide (1000000≤id) then decide (id<2000000) else false)=true:=by
            rcases hid with rfl | rfl<;>simp
          refine And.intro (by omega) (And.intro ⟨hap2,by omega,by omega⟩ ?_);obtain ⟨D,hD⟩:∃D,C.take m++tail=D:=⟨_,rfl⟩
          have hDl:D.length=m+tail.length:=by rw [← hD]; simp; omega
          have hb1:b.length≤100000:=by omega
          have hb2:D.length≤100000:=by omega
          rw [hD];have tD:zaq D.length (bys D)=bys D:=zao (by simp);rw [← hDl];clear hDl hD htm hap e21 e6 e7
          refine run_loop [(22,false),(0,false),(21,false)] (fun vs pos los=>∃(i:Nat) (wr ap:Bool),i≤2∧vs=[int .i64 i,sb b,.own 2000000 0 0 D.length]∧pos=[]∧los=[.row 1 (.v (.int .u8 0)) ap wr (bys D)])
            (fun vs _ _=>match vs with | .r (.v (.int _ a))::_=>(2-a).toNat | _=>0) rfl ?_ ?_
          · rcases hid with rfl | rfl
            · simp only [e0,push_cast,↓reduceIte,reduceCtorEq,zE,zA,zL,zD];exact ⟨0,true,ap,by omega,by simp⟩
            · simp only [e0,push_cast,↓reduceIte,reduceCtorEq,zE,zA,zL,zD];exact ⟨0,true,ap,by omega,by simp⟩
          · rintro vs pos los ⟨i,wr,ap,hi,rfl,rfl,rfl⟩;simp only [push_cast,↓reduceIte];refine b6 (fun hd=>?_) (fun hd=>?_)
            · have hd:=of_decide_eq_true hd;rcases (show i=0∨i=1 by omega) with rfl | rfl
              · have hi0:IntKind.i64.wrap (0+1)=1:=rfl;rcases a27 b hb1 with ⟨_,t1,t2⟩ | ⟨_,t1,t2⟩ | ⟨l,hl,hlk,t1,t2⟩
                · have t3:=ago [] (by simp) (by simp);simp only [tD,zac,zaj,zaa,push_cast,↓reduceIte,reduceCtorEq,zE,zA,zL];refine And.intro (by simp) (And.intro (by omega) ?_);refine b5 (as':=[sb b]) rfl ?_;refine a6 t1 rfl trivial ?_;simp only [tD,g7,x9,t7,zac,zaj,zaa,push_cast,↓reduceIte,reduceCtorEq,zE,zA,zL];refine And.intro (by simp) (And.intro (by omega) ?_);refine b5 (as':=[z7 (l9 b)]) rfl ?_;refine a6 t2 rfl trivial ?_;simp only [g7,bne_self_eq_false,push_cast,↓reduceIte,zE,zA,zL];refine b5 (as':=[l8 [],l8 []]) rfl ?_;refine a6 t3 rfl trivial ?_
                  simp only [hi0,push_cast,↓reduceIte,reduceCtorEq,zE,zA,zL,zD];exact ⟨⟨1,false,ap,by omega,by simp⟩,by decide⟩
                · have t3:=ago [] (by simp) (by simp);simp only [tD,zac,zaj,zaa,push_cast,↓reduceIte,reduceCtorEq,zE,zA,zL];refine And.intro (by simp) (And.intro (by omega) ?_);refine b5 (as':=[sb b]) rfl ?_;refine a6 t1 rfl trivial ?_;simp only [tD,g7,x9,t7,zac,zaj,zaa,push_cast,↓reduceIte,reduceCtorEq,zE,zA,zL];refine And.intro (by simp) (And.intro (by omega) ?_);refine b5 (as':=[z7 (l9 b)]) rfl ?_;refine a6 t2 rfl trivial ?_;simp only [g7,bne_self_eq_false,push_cast,↓reduceIte,zE,zA,zL];refine b5 (as':=[l8 [],l8 []]) rfl ?_;refine a6 t3 rfl trivial ?_
                  simp only [hi0,push_cast,↓reduceIte,reduceCtorEq,zE,zA,zL,zD];exact ⟨⟨1,false,ap,by omega,by simp⟩,by decide⟩
                · have t3:=ago l hl hlk;have tl:zaq l.length (l.map Fea.rv)=l.map Fea.rv:=zao (by simp);simp only [tD,zac,zaj,zaa,push_cast,↓reduceIte,reduceCtorEq,zE,zA,zL];refine And.intro (by simp) (And.intro (by omega) ?_);refine b5 (as':=[sb b]) rfl ?_;refine a6 t1 rfl trivial ?_;simp only [tD,fm,g7,x9,t7,zac,zaj,zaa,push_cast,↓reduceIte,reduceCtorEq,zE,zA,zS,zL,zD,zM];refine And.intro (by simp) (And.intro (by omega) ?_);refine b5 (as':=[z7 (l9 b)]) rfl ?_;refine a6 t2 rfl trivial ?_;simp only [tl,fm,g7,bne_self_eq_false,push_cast,↓reduceIte,zE,zA,zS,zL,zD,zM];refine i9 ?_;refine b5 (as':=[l8 l,l8 l]) rfl ?_
                  refine a6 t3 rfl trivial ?_;simp only [hi0,push_cast,↓reduceIte,reduceCtorEq,zE,zA,zL,zD];exact ⟨⟨1,false,ap,by omega,by simp⟩,by decide⟩
              · have hi0:IntKind.i64.wrap (1+1)=2:=rfl;rcases a27 D hb2 with ⟨_,t1,t2⟩ | ⟨_,t1,t2⟩ | ⟨l,hl,hlk,t1,t2⟩
                · have t3:=ago [] (by simp) (by simp);simp only [tD,zae,zaa,push_cast,↓reduceIte,reduceCtorEq,zE,zA,zL];refine And.intro (by simp) (And.intro (by omega) ?_);refine b5 (as':=[sb D]) rfl ?_;refine a6 t1 rfl trivial ?_;simp only [tD,g7,x9,t7,zae,zaa,push_cast,↓reduceIte,reduceCtorEq,zE,zA,zL];refine And.intro (by simp) (And.intro (by omega) ?_);refine b5 (as':=[z7 (l9 D)]) rfl ?_;refine a6 t2 rfl trivial ?_;simp only [g7,bne_self_eq_false,push_cast,↓reduceIte,zE,zA,zL];refine b5 (as':=[l8 [],l8 []]) rfl ?_;refine a6 t3 rfl trivial ?_
                  simp only [hi0,push_cast,↓reduceIte,reduceCtorEq,zE,zA,zL,zD];exact ⟨⟨2,false,ap,by omega,by simp⟩,by decide⟩
                · have t3:=ago [] (by simp) (by simp);simp only [tD,zae,zaa,push_cast,↓reduceIte,reduceCtorEq,zE,zA,zL];refine And.intro (by simp) (And.intro (by omega) ?_);refine b5 (as':=[sb D]) rfl ?_;refine a6 t1 rfl trivial ?_;simp only [tD,g7,x9,t7,zae,zaa,push_cast,↓reduceIte,reduceCtorEq,zE,zA,zL];refine And.intro (by simp) (And.intro (by omega) ?_);refine b5 (as':=[z7 (l9 D)]) rfl ?_;refine a6 t2 rfl trivial ?_;simp only [g7,bne_self_eq_false,push_cast,↓reduceIte,zE,zA,zL];refine b5 (as':=[l8 [],l8 []]) rfl ?_;refine a6 t3 rfl trivial ?_
                  simp only [hi0,push_cast,↓reduceIte,reduceCtorEq,zE,zA,zL,zD];exact ⟨⟨2,false,ap,by omega,by simp⟩,by decide⟩
                · have t3:=ago l hl hlk;have tl:zaq l.length (l.map Fea.rv)=l.map Fea.rv:=zao (by simp);simp only [tD,zae,zaa,push_cast,↓reduceIte,reduceCtorEq,zE,zA,zL];refine And.intro (by simp) (And.intro (by omega) ?_);refine b5 (as':=[sb D]) rfl ?_;refine a6 t1 rfl trivial ?_;simp only [tD,fm,g7,x9,t7,zae,zaj,zaa,push_cast,↓reduceIte,reduceCtorEq,zE,zA,zS,zL,zD,zM];refine And.intro (by simp) (And.intro (by omega) ?_);refine b5 (as':=[z7 (l9 D)]) rfl ?_;refine a6 t2 rfl trivial ?_;simp only [tl,fm,g7,bne_self_eq_false,push_cast,↓reduceIte,zE,zA,zS,zL,zD,zM];refine i9 ?_;refine b5 (as':=[l8 l,l8 l]) rfl ?_
                  refine a6 t3 rfl trivial ?_;simp only [hi0,push_cast,↓reduceIte,reduceCtorEq,zE,zA,zL,zD];exact ⟨⟨2,false,ap,by omega,by simp⟩,by decide⟩
            · simp only [push_cast,↓reduceIte];refine a6 ay9 rfl trivial ?_;simp only [push_cast,↓reduceIte,zA]
        · have hC0:0<C.length:=by have:=of_decide_eq_true hv; omega
          have wa:IntKind.i64.wrap ((zbd IntKind.i64.bits at' &&& zbd IntKind.i64.bits 65535).toNat)=at'%65536:=adc at' 65535 16 (by decide) (by decide)
          obtain ⟨k,hk,hk2⟩:∃k:Nat,(at'%65536).tmod (C.length:Int)=k∧k<C.length:=by
            rw [zbw (by omega)];have h1:=Int.emod_nonneg (at'%65536) (show (C.length:Int)≠0 by omega);have h2:=Int.emod_lt_of_pos (at'%65536) (show 0<(C.length:Int) by omega);exact ⟨((at'%65536)%(C.length:Int)).toNat,by omega,by omega⟩
          have hn0:¬((C.length:Int)=0):=by omega
          obtain ⟨c,hc⟩:∃c,C[k]?=some c:=⟨C[k],by simp [hk2]⟩
          have hgc:∀z,(bys C).getD k z=.v (.int .u8 c.toNat):=fun z=>by
            rw [zam,zbb,hc]; rfl
          obtain ⟨d,hd⟩:∃d:UInt8,IntKind.u8.wrap ((zbd IntKind.u8.bits (c.toNat:Int) ^^^ zbd IntKind.u8.bits (by'.toNat:Int)).toNat)=(d.toNat:Int):=by
            generalize ((zbd IntKind.u8.bits (c.toNat:Int) ^^^ zbd IntKind.u8.bits (by'.toNat:Int)).toNat)=x;exact ⟨UInt8.ofNat x,by rw [IntKind.wrap_u8]; simp⟩
          have hset:(bys C).set k (.v (.int .u8 d.toNat))=bys (C.set k d):=by
            show (C.map by8).set k (by8 d)=(C.set k d).map by8;rw [zbl]
          rcases hid with rfl | rfl
          · simp only [e21,eo,e0,e4,e5,e6,e7,wa,hk,hn0,hgc,hd,hset,zab,zaa,push_cast,↓reduceIte,reduceCtorEq,zE,zL,zD];exact ⟨by omega,by omega,C.set k d,59,ver,ap,.inl rfl,by simp; omega,by simp,rfl⟩
          · simp only [e21,eo,e0,e4,e5,e6,e7,wa,hk,hn0,hgc,hd,hset,zab,zaa,push_cast,↓reduceIte,reduceCtorEq,zE,zL,zD];exact ⟨by omega,by omega,C.set k d,66,ver,ap,.inr rfl,by simp; omega,by simp,rfl⟩
        · simp only [push_cast,↓reduceIte,reduceCtorEq,zE];exact ⟨C,id,ver,ap,hid,hCl,e21,eo,e0,e6,e7⟩
      · have hfi:fine t=false:=by
          cases hf:fine t with
          | false=>rfl
          | true=>rw [hf] at hV; simp at hV; rw [← hV] at hv; simp at hv
        have hD:=draw9_t L hlen0 hok t hti hfi;have hDl:=a9f hlen0 hok hti;simp only [q17,qo,push_cast,↓reduceIte,zE,zA,zD];refine i9 ?_
        try rw [zao (Nat.le_of_eq (by simp))]
        refine b5 (as':=[t.v,y6 L]) rfl ?_;refine a6 hD rfl trivial ?_;simp only [qo,j8,push_cast,↓reduceIte,reduceCtorEq,zE];refine And.intro (by omega) ?_;refine ⟨avl L t,66,_,false,.inr rfl,hDl,rfl,?_⟩;simp [q0,q4,q5,q6,q7,ajg];exact fun _ _=>rfl
      · simp only [push_cast,↓reduceIte,reduceCtorEq,zE];refine ⟨[],59,_,true,.inl rfl,by simp,rfl,?_⟩;simp [q0,q4,q5,q6,q7]
    · have h0:0<L.length:=by have:=of_decide_eq_true hp; omega
      obtain ⟨p,hp0⟩:∃p,L[0]?=some p:=⟨L[0],by simp [h0]⟩
      have hgp:=fun z=>a0h hp0 z;have hpb:=(hok p (zau hp0)).2.1;simp only [hgp,zac,zaa,push_cast,↓reduceIte,reduceCtorEq,zE,zL,zD];unfold inW at hpb;exact ⟨by omega,by omega,by kernel_rfl,p.x,p.y,by unfold in64; omega,by unfold in64; omega,by simp⟩
    · simp only [push_cast,↓reduceIte,reduceCtorEq,zE];exact ⟨1,2,by unfold in64; omega,by unfold in64; omega,by simp⟩

end
end Go.Ev

import Derived.Test.YtpibfnekkfhkmaaGreatM6
open Nat renaming reduceBEq → zB, reduceEqDiff → zE, reduceAdd → zA, reduceSub → zS, reduceLT → zL, reduceLeDiff → zD, reduceMul → zM
open Go.Proofs.Tryz renaming prog → P0
open Go.Proofs.Tryz
open Int renaming reduceToNat → zaa, toNat_natCast → zaf, toNat_zero → zah, toNat → zaj, add_mul → zal, toNat_natCast_add_one → zao, one_mul → zap, tmod_eq_emod_of_nonneg → zaw, le_of_lt → zaz, natAbs_ediv_le_natAbs → zbl, fdiv_eq_ediv_of_nonneg → zbn, mul_le_mul_of_nonneg_right → zbo
open List renaming length_nil → zab, length_map → zac, length_cons → zai, getD_eq_getElem?_getD → zak, mem_of_getElem? → zam, mem_singleton → zan, length_append → zaq, mem_append → zar, append_nil → zat, mem_cons → zau, take_add_one → zbc, filter_append → zbd, append_assoc → zbe, mem_range → zbh, nil_append → zbi, getElem?_eq_getElem → zbj, map_set → zbk, map_append → zbm, take_of_length_le → zbp
open Nat renaming zero_add → zad, le_refl → zas, mod_lt → zav, or_lt_two_pow → zax, pow_le_pow_right → zay, lt_of_le_of_lt → zbf, min_eq_left → zbg
open BitVec renaming ofInt → zae
open Bool renaming not_false → zba, false_eq_true → zbb
namespace Go.Ev
set_option maxRecDepth 100000
noncomputable section
open Go
set_option linter.unusedSectionVars false
set_option linter.unnecessarySimpa false
set_option linter.unusedVariables false
def ael:Mk P0 f54:={ x:=_ }
theorem akl:b8 54 1 ael:=b7 func54
def aeq:Mk P0 f82:={ x:=_ }
theorem ako:b8 82 1 aeq:=b7 func82
theorem acd {a:Nat} (h:a<18446744073709551616):IntKind.u64.wrap (a:Int)=a:=by rw [IntKind.wrap_u64]; omega
theorem ofI (a:Nat) (h:a<18446744073709551616):(zae IntKind.u64.bits (a:Int)).toNat=a:=by
 rw [show IntKind.u64.bits=64 from rfl,BitVec.toNat_ofInt];omega
theorem amk {a b:Nat} (ha:a<18446744073709551616) (hb:b<18446744073709551616):IntKind.u64.wrap (zae IntKind.u64.bits (a:Int) ||| zae IntKind.u64.bits (b:Int)).toNat=((a ||| b:Nat):Int):=by
 rw [BitVec.toNat_or,ofI a ha,ofI b hb];exact acd (zax (n:=64) ha hb)
theorem a8i (x:BitVec 64):(~~~ x).toNat=2^64-1-x.toNat:=BitVec.toNat_not
theorem bct {a b:Nat} (ha:a<18446744073709551616) (hb:b<18446744073709551616):IntKind.u64.wrap (zae IntKind.u64.bits (a:Int) &&& ~~~ zae IntKind.u64.bits (b:Int)).toNat=((a &&& (2^64-1-b):Nat):Int):=by
 rw [BitVec.toNat_and,ofI a ha,show (~~~ zae IntKind.u64.bits (b:Int)).toNat=2^64-1-(zae IntKind.u64.bits (b:Int)).toNat from a8i _,ofI b hb];exact acd (zbf Nat.and_le_left ha)
theorem bl8 {a n:Nat} (m:Int) (hm:m=2^n-1) (hn:n≤62) (ha:a<18446744073709551616):IntKind.u64.wrap (zae IntKind.u64.bits (a:Int) &&& zae IntKind.u64.bits m).toNat=((a%2^n:Nat):Int):=by
 have h1:2^n≤2^62:=zay (by decide) hn;have h2:=Nat.two_pow_pos n;have h3:((2^n:Nat):Int)=(2:Int)^n:=by simp
 have h4:m=((2^n-1:Nat):Int):=by rw [hm,← h3]; omega
 rw [h4,BitVec.toNat_and,ofI a ha,ofI _ (by omega),Nat.and_two_pow_sub_one_eq_mod];exact acd (zbf (Nat.mod_le _ _) ha)
theorem afw {a k:Nat} {s:Int} (hs:s.toNat=k) (hk:k≤63) (h:a*2^k<18446744073709551616):IntKind.u64.wrap ((a:Int)*2^min s.toNat IntKind.u64.bits)=((a*2^k:Nat):Int):=by
 rw [hs,show min k IntKind.u64.bits=k from zbg (by simp [IntKind.bits]; omega),show (a:Int)*2^k=((a*2^k:Nat):Int) by simp];exact acd h
def uw (n:Nat):AV:=int .u64 n
theorem bfe (r:Int) (z:Ei) (h0:0≤r) (h_:okc r.toNat z):a8 P0 54 [cel r z] [] (.tup [uw (s9 r.toNat z),int .i64 0]) []:=by
 refine akl rfl (by decide) ?_;have h':=h_;obtain ⟨r12,hz,ha,hb⟩:=h';simp only [ael,cel,push_cast,↓reduceIte,zE,zA,zD];refine b5 (as':=[cel r z]) rfl ?_;refine a6 (a7k r z h0 h_) rfl trivial ?_;simp only [push_cast,↓reduceIte,zE,zA,zL,zD];have hw0:=bd0 r.toNat z (by omega)
 refine run_loop [(6,false),(1,false),(4,false),(5,false)] (fun vs pos los=>∃i:Int,(0≤i∧i≤r)∧vs=[int .i64 i,.ptr 2000000 0 0,.ptr 2000001 0 0,int .u64 (nw r.toNat z i.toNat)]∧pos=[]∧los=[.box [int .i64 r,int .i64 z.a,int .i64 z.b],.box [int .i64 (anc (r-i).toNat z).a,int .i64 (anc (r-i).toNat z).b]])
  (fun vs _ _=>match vs with | .r (.v (.int _ j))::_=>j.toNat | _=>0) rfl ?_ ?_
 ·simp only [push_cast,↓reduceIte,zB,zE,zA,zL,zD];refine ⟨r,by omega,?_⟩;rw [hw0,Int.sub_self];exact ⟨rfl,rfl⟩
 ·rintro vs pos los ⟨i,i6,rfl,rfl,rfl⟩;simp only [push_cast,↓reduceIte,zA];refine b6 (fun h=>?_) (fun h=>?_)
  ·simp only [decide_eq_true_eq] at h;have hp:=av7 (r-i).toNat hz (by decide);simp only [push_cast,↓reduceIte,zE,zA,zD];refine b5 (as':=[(anc (r-i).toNat z).v]) rfl ?_;refine a6 (ax6 _ hp) rfl trivial ?_;simp only [Ei.v,Ei.rv,push_cast,↓reduceIte,zB,zE,zA,zL,zD];rw [show IntKind.i64.wrap (3*i)=3*i from a5 (by omega),show IntKind.i64.wrap (36-3*i)=36-3*i from a5 (by omega),show IntKind.i64.wrap (i-1)=i-1 from a5 (by omega)];have hl:=al2 r.toNat z i.toNat (by omega) r12;have hst:=a4k r.toNat z i.toNat (by omega) (by omega) r12;have hd:=dg_lt (anc (r-i).toNat z);have hat:(36-3*i).toNat=36-3*i.toNat:=by omega
   have hp2:2^(36-3*i.toNat)≤2^33:=zay (by decide) (by omega);have hd2:dg (anc (r-i).toNat z)*2^(36-3*i.toNat)≤6*2^(36-3*i.toNat):=Nat.mul_le_mul_right _ (by omega);rw [acd (show dg (anc (r-i).toNat z)<18446744073709551616 by omega),show (7:Int)=((7:Nat):Int) from rfl,afw hat (by omega) (by omega),afw hat (by omega) (by omega),bct (by omega) (by omega),amk (zbf Nat.and_le_left (by omega)) (by omega)];rw [show (r-i).toNat=r.toNat-i.toNat by omega] at *;rw [hst];refine ⟨by omega,by omega,by kernel_rfl,⟨i-1,by omega,?_,?_⟩,by omega⟩
   ·rw [show (i-1).toNat=i.toNat-1 by omega]
   ·rw [show (r-(i-1)).toNat=r.toNat-i.toNat+1 by omega,ana]
  ·have hi:i=0:=by simp at h; omega
   subst hi;simp only [push_cast,↓reduceIte,zE,zA,zL];refine ⟨by decide,by decide,by decide,?_⟩;have hl:=al2 r.toNat z 0 (by omega) r12;rw [show (r-0).toNat=r.toNat by omega];obtain ⟨A,hA⟩:∃A:Nat,(anc r.toNat z).a+512=A:=⟨((anc r.toNat z).a+512).toNat,by omega⟩
   obtain ⟨B,hB⟩:∃B:Nat,(anc r.toNat z).b+512=B:=⟨((anc r.toNat z).b+512).toNat,by omega⟩
   have ho:=bdz r.toNat z r12 A B (by omega) (by omega) hA hB;have hwl:=ap2 r.toNat z h_;obtain ⟨R,rfl⟩:∃R:Nat,r=R:=⟨r.toNat,by omega⟩
   rw [zaf] at *;rw [hA,hB,show IntKind.i64.wrap (A:Int)=A from a5 (by omega),show IntKind.i64.wrap (B:Int)=B from a5 (by omega),acd (show A<18446744073709551616 by omega),acd (show B<18446744073709551616 by omega),acd (show R<18446744073709551616 by omega)];rw [afw (k:=56) rfl (by decide) (by omega),afw (k:=46) rfl (by decide) (by omega),afw (k:=36) rfl (by decide) (by omega),show (1152921504606846976:Int)=((1152921504606846976:Nat):Int) from rfl,zah];have l1:nw R z 0 ||| 1152921504606846976<18446744073709551616:=zax (n:=64) (by omega) (by omega);have l2:nw R z 0 ||| 1152921504606846976 ||| R*2^56<18446744073709551616:=zax (n:=64) l1 (by omega)
   have l3:nw R z 0 ||| 1152921504606846976 ||| R*2^56 ||| A*2^46<18446744073709551616:=zax (n:=64) l2 (by omega);rw [amk (by omega) (by omega),amk l1 (by omega),amk l2 (by omega),amk l3 (by omega),ho]
   rfl
def acx (w:Nat):Bool:=decide (w/1152921504606846976=1)&&decide (u7 w≤12)&&(List.range 13).all fun i=>decide (i=0)||(decide (dgt w i=7) == decide (u7 w<i))
theorem amp (w:Nat):acx w=true↔isW w:=by
 simp only [acx,isW,Bool.and_eq_true,decide_eq_true_eq,List.all_eq_true,zbh,Bool.or_eq_true,beq_iff_eq,decide_eq_decide];constructor
 ·rintro ⟨⟨h1,h2⟩,h3⟩;refine ⟨h1,h2,fun i i1 i2=>?_⟩;rcases h3 i (by omega) with h | h
  ·omega
  ·exact h
 ·rintro ⟨h1,h2,h3⟩;refine ⟨⟨h1,h2⟩,fun i hi=>?_⟩;by_cases h0:i=0
  ·exact .inl h0
  ·exact .inr (h3 i (by omega) (by omega))
theorem ayq {r:Nat} {z:Ei} (h:okc r z):acx (s9 r z)=true:=(amp _).2 (arz r z h).1
theorem aw0 {w:Nat} (h:¬isW w):acx w=false:=by
 cases hb:acx w with
 | false=>rfl
 | true=>exact absurd ((amp w).1 hb) h
theorem ban {a k:Nat} {s:Int} (hs:s.toNat=k) (hk:k≤63):(a:Int).fdiv (2^min s.toNat IntKind.u64.bits)=((a/2^k:Nat):Int):=by
 rw [hs,show min k IntKind.u64.bits=k from zbg (by simp [IntKind.bits]; omega)];rw [zbn _ (by have:=Int.pow_pos (n:=2) (m:=k) (by decide); omega)];simp
theorem yo {a k n:Nat} {s m:Int} (hs:s.toNat=k) (hk:k≤63) (hm:m=2^n-1) (hn:n≤62) (ha:a<18446744073709551616) :
  IntKind.u64.wrap (zae IntKind.u64.bits ((a:Int).fdiv (2^min s.toNat IntKind.u64.bits)) &&& zae IntKind.u64.bits m).toNat=((a/2^k%2^n:Nat):Int):=by
 rw [ban hs hk,bl8 m hm hn (zbf (Nat.div_le_self _ _) ha)]
theorem aqg (w:Nat) (i:Nat) (hi:i≤12):(o7 w i).In 1000000000000:=by
 have h:∀i:Nat,∀n:Int,(o7 w i).In n→1≤n→(o7 w (i+1)).In (5*n):=fun i n hn h1=>by
  have hd:∀d,(uni d).In 1:=fun d=>by unfold uni; split<;>unfold Ei.In<;>decide
  have hu:=hd (dgt w (i+1)-1);unfold Ei.In at hn hu ⊢;rw [o7,rf];split<;>simp only [Ei.mul,y9,Ei.add]<;>omega
 have h0:(o7 w 0).In 512:=by
  unfold Ei.In o7 a57;dsimp only;omega
 have h1:=h 0 _ h0 (by decide);have h2:=h 1 _ h1 (by decide);have h3:=h 2 _ h2 (by decide);have h4:=h 3 _ h3 (by decide);have h5:=h 4 _ h4 (by decide);have h6:=h 5 _ h5 (by decide);have h7:=h 6 _ h6 (by decide);have h8:=h 7 _ h7 (by decide);have h9:=h 8 _ h8 (by decide);have h10:=h 9 _ h9 (by decide);have h11:=h 10 _ h10 (by decide);have h12:=h 11 _ h11 (by decide);rcases (show i=0∨i=1∨i=2∨i=3∨i=4∨i=5∨i=6∨i=7∨i=8∨i=9∨i=10∨i=11∨i=12 by omega) with rfl | rfl | rfl | rfl | rfl | rfl | rfl | rfl | rfl | rfl | rfl | rfl | rfl
 ·exact h0.mono (by decide)
 ·exact h1.mono (by decide)
 ·exact h2.mono (by decide)
 ·exact h3.mono (by decide)
 ·exact h4.mono (by decide)
 ·exact h5.mono (by decide)
 ·exact h6.mono (by decide)
 ·exact h7.mono (by decide)
 ·exact h8.mono (by decide)
 ·exact h9.mono (by decide)
 ·exact h10.mono (by decide)
 ·exact h11.mono (by decide)
 ·exact h12.mono (by decide)
theorem bfo (w:Nat) (hw:w<18446744073709551616):a8 P0 82 [uw w] [] (.tup (if acx w then [cel (u7 w) (o7 w (u7 w)),int .i64 0] else [cel 0 ⟨0,0⟩,int .i64 5])) []:=by
 refine ako rfl (by decide) ?_;simp only [aeq,cel,uw,push_cast,↓reduceIte,reduceCtorEq,zE];have e1:(w:Int).fdiv (2^min (zaj 60) IntKind.u64.bits)=((w/1152921504606846976:Nat):Int):=ban (k:=60) rfl (by decide)
 have e2:IntKind.i64.wrap (IntKind.u64.wrap (zae IntKind.u64.bits ((w:Int).fdiv (2^min (zaj 56) IntKind.u64.bits)) &&& zae IntKind.u64.bits 15).toNat)=(u7 w:Int):=by
  rw [yo (k:=56) (n:=4) rfl (by decide) (by decide) (by decide) hw];exact a5 (by omega)
 have e3:IntKind.i64.wrap (IntKind.i64.wrap (IntKind.u64.wrap (zae IntKind.u64.bits ((w:Int).fdiv (2^min (zaj 46) IntKind.u64.bits)) &&& zae IntKind.u64.bits 1023).toNat)-512)=(o7 w 0).a:=by
  rw [yo (k:=46) (n:=10) rfl (by decide) (by decide) (by decide) hw,show ∀x:Nat,x<1024→IntKind.i64.wrap (IntKind.i64.wrap (x:Int)-512)=x-512 from fun x hx=>by rw [a5 (x:=(x:Int)) (by omega),a5 (by omega)]]
  ·rfl
  ·omega
 have e4:IntKind.i64.wrap (IntKind.i64.wrap (IntKind.u64.wrap (zae IntKind.u64.bits ((w:Int).fdiv (2^min (zaj 36) IntKind.u64.bits)) &&& zae IntKind.u64.bits 1023).toNat)-512)=(o7 w 0).b:=by
  rw [yo (k:=36) (n:=10) rfl (by decide) (by decide) (by decide) hw,show ∀x:Nat,x<1024→IntKind.i64.wrap (IntKind.i64.wrap (x:Int)-512)=x-512 from fun x hx=>by rw [a5 (x:=(x:Int)) (by omega),a5 (by omega)]]
  ·rfl
  ·omega
 rw [e1,e2];obtain ⟨T,hT⟩:∃T:Int,((w/1152921504606846976:Nat):Int)=T:=⟨_,rfl⟩
 obtain ⟨R,hR⟩:∃R:Int,(u7 w:Int)=R:=⟨_,rfl⟩
 have hR16:u7 w<16:=by unfold u7; omega
 rw [hT,hR];refine ⟨by decide,by decide,fun h=>by simp [h],?_⟩;refine b6 (fun h=>?_) (fun h=>?_)
 ·have hno:acx w=false:=aw0 fun hh=>by
   obtain ⟨w1,w2,_⟩:=hh;have:¬R>12:=by omega
   have hT1:T=1:=by omega
   rw [hT1] at h;simp [this] at h
  rw [hno];simp only [push_cast,↓reduceIte,zE,zA,zD]
 ·have hT1:T=1:=by
   by_cases hc:T=1
   ·exact hc
   ·have:(T != 1)=true:=by simp [hc]
    rw [this] at h;cases h
  rw [hT1] at h;have hR12:R≤12:=by simpa using h
  simp only [push_cast,↓reduceIte,reduceCtorEq,zE,zA,zD];rw [e3,e4];refine ⟨by decide,by decide,?_⟩
  refine run_loop [(6,false),(0,false),(4,false),(5,false),(2,false)] (fun vs pos los=>∃i:Nat,(1≤i∧i≤13)∧(∀j,1≤j→j<i→(dgt w j=7↔u7 w<j))∧vs=[int .i64 i,int .u64 w,int .i64 R,.ptr 2000000 0 0,.ptr 2000001 0 0]∧pos=[]∧los=[.box [int .i64 (o7 w (min (i-1) (u7 w))).a,int .i64 (o7 w (min (i-1) (u7 w))).b],.box [int .i64 0,int .i64 0,int .i64 0]])
   (fun vs _ _=>match vs with | .r (.v (.int _ j))::_=>(13-j).toNat | _=>0) rfl ?_ ?_
  ·simp only [push_cast,↓reduceIte,reduceCtorEq,zB,zE,zA,zL,zD];refine ⟨1,by omega,fun j h1 h2=>by omega,rfl,?_⟩;rw [show min (1-1) (u7 w)=0 by omega]
  ·rintro vs pos los ⟨i,i6,hj,rfl,rfl,rfl⟩;simp only [push_cast,↓reduceIte,zA];refine b6 (fun hi=>?_) (fun hi=>?_)
   ·have hi:i≤12:=by simp at hi; omega
    have e5:IntKind.i64.wrap (IntKind.u64.wrap (zae IntKind.u64.bits ((w:Int).fdiv (2^min (36-3*(i:Int)).toNat IntKind.u64.bits)) &&& zae IntKind.u64.bits 7).toNat)=(dgt w i:Int):=by
     rw [yo (k:=36-3*i) (n:=3) (by omega) (by omega) (by decide) (by decide) hw];rw [show 2^(36-3*i)=8^(12-i) by rw [show (8:Nat)=2^3 from rfl,← Nat.pow_mul]; congr 1; omega];have:w/8^(12-i)%2^3=dgt w i:=rfl;rw [this];have:dgt w i<8:=zav _ (by decide);exact a5 (by omega)
    have hD8:dgt w i<8:=zav _ (by decide);simp only [push_cast,↓reduceIte,reduceCtorEq,zE];rw [show IntKind.i64.wrap (3*(i:Int))=3*i from a5 (by omega),show IntKind.i64.wrap (36-3*(i:Int))=36-3*i from a5 (by omega),e5];obtain ⟨D,hD⟩:∃D:Int,(dgt w i:Int)=D:=⟨_,rfl⟩
    rw [hD];refine ⟨by omega,?_⟩;refine b6 (fun hc=>?_) (fun hc=>?_)
    ·have hc':u7 w<i:=by simp at hc; omega
     simp only [push_cast,↓reduceIte,zE];refine b6 (fun hd=>?_) (fun hd=>?_)
     ·have hno:acx w=false:=aw0 fun hh=>by
       have:=(hh.2.2 i i6.1 hi).2 hc';have:D=7:=by omega
       rw [this] at hd;cases hd
      rw [hno];simp only [push_cast,↓reduceIte,reduceCtorEq,zE,zA,zD]
     ·have hd7:D=7:=by simpa using hd
      simp only [push_cast,↓reduceIte,reduceCtorEq,zB,zE,zA,zL,zD];rw [show IntKind.i64.wrap ((i:Int)+1)=((i+1:Nat):Int) by rw [a5 (by omega)]; omega];refine ⟨⟨i+1,by omega,fun j h1 h2=>?_,rfl,?_⟩,by omega⟩
      ·by_cases hji:j=i
       ·subst hji;constructor
        ·intro _; exact hc'
        ·intro _; omega
       ·exact hj j h1 (by omega)
      ·rw [show min (i+1-1) (u7 w)=min (i-1) (u7 w) by omega]
    ·have hc':i≤u7 w:=by simp at hc; omega
     simp only [push_cast,↓reduceIte,zE];refine b6 (fun hd=>?_) (fun hd=>?_)
     ·have hno:acx w=false:=aw0 fun hh=>by
       have hd7:D=7:=by simpa using hd
       have:=(hh.2.2 i i6.1 hi).1 (by omega);omega
      rw [hno];simp only [push_cast,↓reduceIte,reduceCtorEq,zE,zA,zD]
     ·have hd7:D≠7:=by simpa using hd
      have hz:=aqg w (i-1) (by omega);have hz2:=aqg w i hi;have hzm:((o7 w (i-1)).mul y9).In 10000000000000:=(sa hz (show y9.In 2 by unfold Ei.In; decide)).mono (by decide)
      have hdn:o7 w i=rf (o7 w (i-1)) (dgt w i):=by
       conv=>lhs; rw [show i=i-1+1 by omega]
       rw [o7,show i-1+1=i by omega]
      rw [show min (i-1) (u7 w)=i-1 by omega];simp only [push_cast,↓reduceIte,reduceCtorEq,zE,zA,zD];refine b5 (as':=[(o7 w (i-1)).v,y9.v]) rfl ?_;refine a6 (adv _ _ (hz.mono (by decide)) (show y9.In _ by unfold Ei.In; decide) (hzm.mono (by decide))) rfl trivial ?_;simp only [Ei.v,Ei.rv,push_cast,↓reduceIte,reduceCtorEq,zE,zA,zL,zD]
      have hnew:∀j,1≤j→j<i+1→(dgt w j=7↔u7 w<j):=fun j h1 h2=>by
       by_cases hji:j=i
       ·subst hji;constructor
        ·intro h; omega
        ·intro h; omega
       ·exact hj j h1 (by omega)
      refine b6 (fun hp=>?_) (fun hp=>?_)
      ·have hp':0<D:=by simpa using hp
       simp only [push_cast,↓reduceIte,zE];rw [show IntKind.i64.wrap (D-1)=D-1 from a5 (by omega)];refine a6 (a22 (D-1) (by omega)) rfl trivial ?_;simp only [Ei.v,Ei.rv,push_cast,↓reduceIte,reduceCtorEq,zB,zE,zA,zL,zD];rw [show IntKind.i64.wrap ((i:Int)+1)=((i+1:Nat):Int) by rw [a5 (by omega)]; omega];rw [show (D-1).toNat=dgt w i-1 by omega]
       have hch:rf (o7 w (i-1)) (dgt w i)=((o7 w (i-1)).mul y9).add (uni (dgt w i-1)):=by
        unfold rf;rw [if_neg (by omega)]
       rw [hch] at hdn;have ea:((o7 w (i-1)).mul y9).a+(uni (dgt w i-1)).a=(o7 w i).a:=by rw [hdn]; rfl
       have eb:((o7 w (i-1)).mul y9).b+(uni (dgt w i-1)).b=(o7 w i).b:=by rw [hdn]; rfl
       unfold Ei.In at hz2;rw [ea,eb,a5 (by omega),a5 (by omega)];refine ⟨⟨i+1,by omega,hnew,rfl,?_⟩,by omega⟩;rw [show min (i+1-1) (u7 w)=i by omega]
      ·have hp':D=0:=by simp at hp; omega
       simp only [push_cast,↓reduceIte,reduceCtorEq,zB,zE,zA,zL,zD];rw [show IntKind.i64.wrap ((i:Int)+1)=((i+1:Nat):Int) by rw [a5 (by omega)]; omega]
       have hch:rf (o7 w (i-1)) (dgt w i)=(o7 w (i-1)).mul y9:=by
        unfold rf;rw [if_pos (by omega)]
       rw [hch] at hdn;refine ⟨⟨i+1,by omega,hnew,rfl,?_⟩,by omega⟩;rw [show min (i+1-1) (u7 w)=i by omega,hdn]
   ·have hi:i=13:=by simp at hi; omega
    subst hi;have hyes:acx w=true:=(amp w).2 ⟨by omega,by omega,fun j h1 h2=>hj j h1 (by omega)⟩;rw [hyes];simp only [push_cast,↓reduceIte,reduceCtorEq,zE,zA,zS,zD];rw [show min (13-1) (u7 w)=u7 w by omega]

def aa9:Mk P0 f27:={ x:=_ }
theorem ahq:b8 27 3 aa9:=b7 func27
def abo:Mk P0 f163:={ x:=_ }
theorem ah6:b8 163 3 abo:=b7 func163
def arn:Mk P0 f115:={ x:=_ }
theorem avb:b8 115 1 arn:=b7 func115
def atp (x y:Int) (r:Nat):Nat:=s9 r (d9 x y r)
theorem ax2 (x y r:Int) (h:inW x y) (hr:0≤r∧r≤12):a8 P0 27 [int .i64 x,int .i64 y,int .i64 r] [] (uw (atp x y r.toNat)) []:=by
 refine ahq rfl (by decide) ?_
 push_cast [aa9,zab]
 refine a6 (bfh x y r h hr) rfl trivial ?_
 push_cast [Ei.v,Ei.rv]
 refine b5 (as':=[cel r (d9 x y r.toNat)]) rfl ?_;refine a6 (bfe r (d9 x y r.toNat) hr.1 (jo x y r.toNat h.1 h.2 (by omega))) rfl trivial ?_
 push_cast [uw]
 rfl
def zm (w i:Nat):Nat:=w/8^(13-i)*8^(13-i)
theorem a4j (w i:Nat) (h1:1≤i) (hi:i≤12):zm w i ||| dgt w i*2^(36-3*i)=zm w (i+1):=by
 unfold zm dgt;have e1:13-(i+1)=12-i:=by omega
 have e2:13-i=12-i+1:=by omega
 have e3:2^(36-3*i)=8^(12-i):=by rw [show (8:Nat)=2^3 from rfl,← Nat.pow_mul]; congr 1; omega
 have e4:(8:Nat)^(12-i+1)=2^(3*(12-i+1)):=by rw [show (8:Nat)=2^3 from rfl,← Nat.pow_mul]
 rw [e1,e2,e3,Nat.or_comm,show w/8^(12-i+1)*8^(12-i+1)=w/8^(12-i+1)*2^(3*(12-i+1)) by rw [e4],yw]
 ·rw [← e4,Nat.pow_succ,← Nat.div_div_eq_div_mul];have hq:=Nat.div_add_mod (w/8^(12-i)) 8;generalize w/8^(12-i)=q at *;generalize 8^(12-i)=m at *;rw [Nat.mul_comm m 8,← Nat.mul_assoc,← Nat.add_mul,Nat.mul_comm (q/8) 8,hq]
 ·rw [← e4,Nat.pow_succ,Nat.mul_comm];exact Nat.mul_lt_mul_of_pos_left (zav _ (by decide)) (p8 _)
theorem a6l (w:Nat):zm w 13=w:=by simp [zm]
theorem a6k (r:Nat) (z:Ei) (hr:r≤12) (A B:Nat) (hA:A<1024) (hB:B<1024) (hA':(anc r z).a+512=A) (hB':(anc r z).b+512=B) :
  (((1152921504606846976 ||| r*2^56) ||| A*2^46) ||| B*2^36)=zm (s9 r z) 1:=by
 unfold zm;rw [show 13-1=12 by rfl,show (8:Nat)^12=68719476736 by decide,al1 r z hr,ow,hA',hB',zaf,zaf]
 have s1:1152921504606846976 ||| r*2^56=(16+r)*2^56:=by
  rw [Nat.or_comm,show (1152921504606846976:Nat)=1*2^60 by decide,yw (show r*2^56<2^60 by omega)];omega
 have s2:(16+r)*2^56 ||| A*2^46=((16+r)*1024+A)*2^46:=by
  rw [Nat.or_comm,yw (show A*2^46<2^56 by omega)];omega
 have s3:((16+r)*1024+A)*2^46 ||| B*2^36=(((16+r)*1024+A)*1024+B)*2^36:=by
  rw [Nat.or_comm,yw (show B*2^36<2^46 by omega)];omega
 rw [s1,s2,s3]
theorem a98 {w:Nat} (h:w<18446744073709551616) (i:Nat):zm w i<18446744073709551616:=zbf (Nat.div_mul_le_self _ _) h
theorem bdd (w d r:Nat) (hw:w<18446744073709551616) (hd:d<8) (h1:1≤r) (hr:r≤12):a8 P0 163 [.ptr 1000000 0 0,int .i64 r,int .u64 d] [.box [uw w]] (.tup []) [.box [uw (w ||| d*2^(36-3*r))]]:=by
 refine ah6 rfl (by simp) ?_
 push_cast [abo,uw,zai,zab]
 have e1:IntKind.i64.wrap ((r:Int)-1)=(r:Int)-1:=a5 (by omega);have e2:IntKind.i64.wrap (3*((r:Int)-1))=3*((r:Int)-1):=a5 (by omega);have e3:IntKind.i64.wrap (33-3*((r:Int)-1))=((36-3*r:Nat):Int):=by rw [a5 (by omega)]; omega
 have hp:2^(36-3*r)≤2^33:=zay (by decide) (by omega);have hm:d*2^(36-3*r)≤7*2^(36-3*r):=Nat.mul_le_mul_right _ (by omega);rw [e1,e2,e3,show IntKind.u64.wrap ((36-3*r:Nat):Int)=((36-3*r:Nat):Int) from acd (by omega),afw (zaf _) (by omega) (by omega),amk hw (by omega)]
 repeat refine And.intro (by first | decide | omega | exact fun _=>by decide | (simp +contextual; done) | kernel_rfl) ?_
 rfl
theorem bce (r:Nat) (z:Ei) (l:List AV) (h:l.length≤13):List.map AV.r (af6 r z 0)++List.drop (0+(af6 r z 0).length) l=dm r z 0:=by
 rw [List.drop_of_length_le (by simp [af6]; omega),zat];simp [af6,dm]
theorem bcd (r:Nat) (z:Ei) (j:Nat) (h1:1≤j) (h2:j≤r) (hr:r≤12):(dm r z 0).getD j AV.undef=int .i64 (dg (anc (r-j) z)):=by
 rw [zak];unfold dm;rw [List.getElem?_map,List.getElem?_range (by omega)];simp only [Option.map_some,Option.getD_some];rw [if_pos (by omega)]
theorem bhn (r:Int) (z:Ei) (h0:0≤r) (hk:okc r.toNat z):a8 P0 115 [cel r z] [] (.tup [uw (s9 r.toNat z),int .i64 0]) []:=by
 refine avb rfl (by decide) ?_;obtain ⟨hs,hbb⟩:=a49 h0 hk;have hwl:=ap2 r.toNat z hk;obtain ⟨r12,hz,ha,hb⟩:=id hk;simp only [arn,cel,push_cast,↓reduceIte,zE,zA,zD];refine b5 (as':=[cel r z]) rfl ?_;refine a6 (bc0 r z hs) rfl trivial ?_;rw [hbb];simp only [Ei.v,Ei.rv,push_cast,↓reduceIte,zE,zA,zL,zD];obtain ⟨A,hA⟩:∃A:Nat,(anc r.toNat z).a+512=A:=⟨((anc r.toNat z).a+512).toNat,by omega⟩
 obtain ⟨B,hB⟩:∃B:Nat,(anc r.toNat z).b+512=B:=⟨((anc r.toNat z).b+512).toNat,by omega⟩
 have hone:=a6k r.toNat z r12 A B (by omega) (by omega) hA hB;obtain ⟨R,rfl⟩:∃R:Nat,r=R:=⟨r.toNat,by omega⟩
 rw [zaf] at *;rw [hA,hB,show IntKind.i64.wrap (A:Int)=A from a5 (by omega),show IntKind.i64.wrap (B:Int)=B from a5 (by omega),acd (show A<18446744073709551616 by omega),acd (show B<18446744073709551616 by omega),acd (show R<18446744073709551616 by omega)];rw [afw (k:=56) rfl (by decide) (by omega),afw (k:=46) rfl (by decide) (by omega),afw (k:=36) rfl (by decide) (by omega),show (1152921504606846976:Int)=((1152921504606846976:Nat):Int) from rfl];have l1:1152921504606846976 ||| R*2^56<18446744073709551616:=zax (n:=64) (by omega) (by omega);have l2:1152921504606846976 ||| R*2^56 ||| A*2^46<18446744073709551616:=zax (n:=64) l1 (by omega)
 rw [amk (by omega) (by omega),amk l1 (by omega),amk l2 (by omega),hone];have hdl:=yc R z 0;simp only [bce R z [AV.r (RV.v (Value.int IntKind.i64 0)),AV.r (RV.v (Value.int IntKind.i64 0)),AV.r (RV.v (Value.int IntKind.i64 0)),AV.r (RV.v (Value.int IntKind.i64 0)),AV.r (RV.v (Value.int IntKind.i64 0)),AV.r (RV.v (Value.int IntKind.i64 0)),AV.r (RV.v (Value.int IntKind.i64 0)),AV.r (RV.v (Value.int IntKind.i64 0)),AV.r (RV.v (Value.int IntKind.i64 0)),AV.r (RV.v (Value.int IntKind.i64 0)),AV.r (RV.v (Value.int IntKind.i64 0)),AV.r (RV.v (Value.int IntKind.i64 0)),AV.r (RV.v (Value.int IntKind.i64 0))] (by simp)]
 repeat refine And.intro (by first | decide | (simp [af6]; done) | kernel_rfl) ?_
 refine run_loop [(9,false),(1,false),(5,false),(7,false),(8,false)] (fun vs pos los=>∃i:Nat,(1≤i∧i≤13)∧vs=[int .i64 i,.ptr 2000000 0 0,.ptr 2000001 0 0,.ptr 2000002 0 0,.fn (.func 163) [.ptr 2000002 0 0] 1]∧pos=[] ∧
  los=[.box [int .i64 R,int .i64 z.a,int .i64 z.b],.box (dm R z 0),.box [uw (zm (s9 R z) i)]])
  (fun vs _ _=>match vs with | .r (.v (.int _ j))::_=>(13-j).toNat | _=>0) rfl ?_ ?_
 ·simp only [ai9,ams,uw,push_cast,↓reduceIte,zB,zE,zA,zL,zD];exact ⟨1,by omega,rfl,rfl⟩
 ·rintro vs pos los ⟨i,hi,rfl,rfl,rfl⟩;simp only [uw,push_cast,↓reduceIte,zA];refine b6 (fun h=>?_) (fun h=>?_)
  ·have hi12:i≤12:=by simp at h; omega
   have hul:=a98 hwl i;have hst:=a4j (s9 R z) i hi.1 hi12;simp only [push_cast,↓reduceIte,zE,zA,zL];refine b6 (fun hc=>?_) (fun hc=>?_)
   ·have hc':R<i:=by simp at hc; omega
    simp only [push_cast,↓reduceIte,zE,zA];refine ⟨by kernel_rfl,?_⟩;refine b5 (as':=[.ptr 1000000 0 0,int .i64 i,int .u64 (7:Nat)]) rfl ?_;refine a6 (bdd (zm (s9 R z) i) 7 i hul (by decide) hi.1 hi12) rfl ⟨rfl,trivial⟩ ?_;rw [ato R i z hc' hi12] at hst;rw [hst];simp only [ai9,ams,uw,push_cast,↓reduceIte,zB,zE,zA,zL,zD];rw [show IntKind.i64.wrap ((i:Int)+1)=((i+1:Nat):Int) by rw [a5 (by omega)]; omega];exact ⟨⟨i+1,by omega,rfl,rfl⟩,by omega⟩
   ·have hc':i≤R:=by simp at hc; omega
    have hd:=dg_lt (anc (R-i) z);simp only [zaf,zad,Nat.mul_one,bcd R z i hi.1 hc' r12,push_cast,↓reduceIte,zE,zA];rw [acd (show dg (anc (R-i) z)<18446744073709551616 by omega)]
    repeat refine And.intro (by first | decide | omega | exact fun _=>by decide | (simp +contextual; done) | kernel_rfl) ?_
    refine a6 (bdd (zm (s9 R z) i) (dg (anc (R-i) z)) i hul (by omega) hi.1 hi12) rfl ⟨rfl,trivial⟩ ?_;rw [ar0 R i z r12 hi.1 hc'] at hst;rw [hst];simp only [ai9,ams,uw,push_cast,↓reduceIte,zB,zE,zA,zL,zD];rw [show IntKind.i64.wrap ((i:Int)+1)=((i+1:Nat):Int) by rw [a5 (by omega)]; omega];exact ⟨⟨i+1,by omega,rfl,rfl⟩,by omega⟩
  ·have hi13:i=13:=by simp at h; omega
   subst hi13;simp only [a6l,push_cast,↓reduceIte,zE,zA,zL]


theorem awe (t:Til):a8 P0 41 [t.v] [] (bl (tis t)) []:=by
 refine aj8 rfl (by decide) ?_;by_cases h1:0≤t.z∧t.z≤18
 ·have e1:decide (t.z≥0)=true:=by simp [h1.1]
  have e2:decide (t.z≤18)=true:=by simp [h1.2]
  have hs:=ap5 t.z h1.1 (by omega);by_cases h2:0≤t.x
  ·have e3:decide (t.x≥0)=true:=by simp [h2]
   by_cases h3:t.x<2^t.z.toNat
   ·have e4:decide (t.x<2^t.z.toNat)=true:=by simp [h3]
    by_cases h4:0≤t.y
    ·have e5:decide (t.y≥0)=true:=by simp [h4]
     push_cast [az,Til.v,zab,e1,e2,e3]
     refine b9 hs rfl trivial ?_
     push_cast [e4,e5]
     refine b9 hs rfl trivial ?_
     push_cast [e4,e5]
     refine ⟨by kernel_rfl,?_⟩;refine ei ?_;simp [tis];omega
    ·have e5:decide (t.y≥0)=false:=by simp; omega
     have e6:tis t=false:=by simp [tis]; omega
     push_cast [az,Til.v,zab,e1,e2,e3]
     refine b9 hs rfl trivial ?_
     push_cast [e4,e5,e6]
     (show _=true); kernel_rfl
   ·have e4:decide (t.x<2^t.z.toNat)=false:=by simp; omega
    have e6:tis t=false:=by simp [tis]; omega
    push_cast [az,Til.v,zab,e1,e2,e3]
    refine b9 hs rfl trivial ?_
    push_cast [e4,e6]
    (show _=true); kernel_rfl
  ·have e3:decide (t.x≥0)=false:=by simp; omega
   have e6:tis t=false:=by simp [tis]; omega
   push_cast [az,Til.v,zab,e1,e2,e3,e6]
   (show _=true); kernel_rfl
 ·have e6:tis t=false:=by simp [tis]; omega
  by_cases h0:0≤t.z
  ·have e1:decide (t.z≥0)=true:=by simp [h0]
   have e2:decide (t.z≤18)=false:=by simp; omega
   push_cast [az,Til.v,zab,e1,e2,e6]
   (show _=true); kernel_rfl
  ·have e1:decide (t.z≥0)=false:=by simp; omega
   push_cast [az,Til.v,zab,e1,e6]
   (show _=true); kernel_rfl

theorem a26 (t:Til) (ht:t.ok):a8 P0 42 [t.v] [] (bl (fine t)) []:=by
 refine akc rfl (by decide) ?_
 push_cast [aed,Til.v,zab]
 refine i7 (as':=[t.v]) rfl ?_;refine b9 (awe t) rfl trivial ?_;cases hti:tis t with
 | false=>
  push_cast
  exact ⟨by kernel_rfl,by simp [fine,hti]⟩
 | true=>
  have hr:0≤t.z∧t.z≤18∧0≤t.r∧t.r≤12:=by simp [tis] at hti; omega
  have w1:IntKind.i64.wrap (12-t.r)=12-t.r:=a5 (by omega);have w2:IntKind.i64.wrap (18-t.z)=18-t.z:=a5 (by omega);have w3:IntKind.i64.wrap (2*(18-t.z))=2*(18-t.z):=a5 (by omega);have h7:=p7 (12-t.r).toNat (by omega);have h2:=p2 (2*(18-t.z)).toNat (by omega)
  have hq:(2:Int)^(2*(18-t.z)).toNat=2^(18-t.z).toNat*2^(18-t.z).toNat:=by
   rw [← Int.pow_add]; congr 1; omega
  push_cast [w1,w2,w3]
  refine b9 (a2x (12-t.r) (by omega) (by omega)) rfl trivial ?_
  push_cast [w1,w2,w3]
  refine b9 (ap5 (2*(18-t.z)) (by omega) (by omega)) rfl trivial ?_
  push_cast [w1,w2,w3]
  refine ⟨by kernel_rfl,?_⟩;rw [a5 (by omega),a5 (by omega)];refine ei ?_;rw [hq,← Int.mul_assoc];simp [fine,hti]
theorem ap3 (a n:Int) (hn:0<n):-n<a.tmod n∧a.tmod n<n∧(a.tmod n+n)%n=a%n:=by
 have h0:=Int.emod_nonneg a (show n≠0 by omega);have h1:=Int.emod_lt_of_pos a hn;rw [Int.tmod_eq_emod];split
 ·refine ⟨by omega,by omega,?_⟩;rw [show a%n-((0:Nat):Int)+n=a%n+n by omega,Int.add_emod_right,Int.emod_emod]
 ·rename_i h;have h2:a%n≠0:=fun h3=>h (.inr (Int.dvd_of_emod_eq_zero h3));refine ⟨by omega,by omega,?_⟩;rw [show a%n-(n.natAbs:Int)+n=a%n by omega,Int.emod_emod]
def nq (z:Int):Nat→Nat
 | 0=>0
 | n+1=>if fine ⟨z,0,0,(n+1:Nat)⟩ then nq z n else n+1
def aob (x y z r:Int):Til:=⟨z%19,(x%1073741824)/2^(30-z%19).toNat,(y%1073741824)/2^(30-z%19).toNat,nq (z%19) (r%13).toNat⟩
theorem ay4 (z:Int):∀n,nq z n≤n
 | 0=>zas _
 | n+1=>by
  have:=ay4 z n;unfold nq;split<;>omega
theorem bhv (x y z r:Int):tis (aob x y z r)=true:=by
 have h1:=ay4 (z%19) (r%13).toNat;have hz:0≤z%19∧z%19≤18:=by omega
 have hp:=p2 (30-z%19).toNat (by omega);have hq:=p2 (z%19).toNat (by omega)
 have hpq:(2:Int)^(30-z%19).toNat*2^(z%19).toNat=1073741824:=by
  rw [← Int.pow_add,show (30-z%19).toNat+(z%19).toNat=30 by omega]; rfl
 have key:∀a:Int,0≤(a%1073741824)/2^(30-z%19).toNat∧(a%1073741824)/2^(30-z%19).toNat<2^(z%19).toNat:=fun a=>by
  refine ⟨Int.ediv_nonneg (by omega) (by omega),?_⟩;rw [Int.ediv_lt_iff_lt_mul (by omega),Int.mul_comm,hpq];omega
 have kx:=key x;have ky:=key y;have hc:(0:Int)≤(nq (z%19) (r%13).toNat:Nat)∧((nq (z%19) (r%13).toNat:Nat):Int)≤12:=by omega
 exact decide_eq_true ⟨hz.1,hz.2,hc.1,hc.2,kx.1,kx.2,ky.1,ky.2⟩
theorem azn (x:Int) (hx:in64 x):IntKind.i64.wrap ((zae IntKind.i64.bits x &&& zae IntKind.i64.bits 1073741823).toNat)=x%1073741824:=by
 have e:(zae 64 1073741823).toNat=2^30-1:=by decide
 rw [show IntKind.i64.bits=64 from rfl,BitVec.toNat_and,e,Nat.and_two_pow_sub_one_eq_mod,BitVec.toNat_ofInt];rw [a5 (by unfold in64 at hx; omega)];omega
theorem bhw (x y z r:Int) (hx:in64 x) (hy:in64 y) (hz:in64 z) (hr:in64 r):a8 P0 26 [int .i64 x,int .i64 y,int .i64 z,int .i64 r] [] (aob x y z r).v []:=by
 refine air rfl (by decide) ?_;have m1:IntKind.i64.wrap (z.tmod 19+19)=z.tmod 19+19:=a5 (by have:=ap3 z 19 (by decide); omega)
 have m2:(z.tmod 19+19).tmod 19=z%19:=by
  have:=ap3 z 19 (by decide);rw [zaw (by omega),this.2.2]
 have m3:IntKind.i64.wrap (r.tmod 13+13)=r.tmod 13+13:=a5 (by have:=ap3 r 13 (by decide); omega)
 have m4:(r.tmod 13+13).tmod 13=r%13:=by
  have:=ap3 r 13 (by decide);rw [zaw (by omega),this.2.2]
 simp only [ab9,m1,m2,m3,m4,push_cast,↓reduceIte,reduceCtorEq,zE,zA];refine ⟨by decide,by decide,by decide,by decide,?_⟩;generalize hzz:z%19=z';have hz':0≤z'∧z'≤18:=by omega
 have hp:=p2 z'.toNat (by omega)
 refine run_loop [(0,false),(1,false),(2,false),(3,false),(8,false)] (fun vs pos los=>∃n:Nat,n≤12∧nq z' n=nq z' (r%13).toNat ∧
  vs=[int .i64 x,int .i64 y,int .i64 z',int .i64 n,.ptr 2000000 0 0]∧pos=[]∧los=[.box [int .i64 0,int .i64 0,int .i64 0,int .i64 0]])
  (fun vs _ _=>match vs with | _::_::_ :: .r (.v (.int _ j))::_=>j.toNat | _=>0) rfl ?_ ?_
 ·simp only [push_cast,↓reduceIte,reduceCtorEq,zE,zA,zL,zD];exact ⟨(r%13).toNat,by omega,rfl,by rw [Int.toNat_of_nonneg (by omega)]⟩
 ·rintro vs pos los ⟨n,hn,hc,rfl,rfl,rfl⟩
  have fin:aob x y z r=⟨z',(x%1073741824)/2^(30-z').toNat,(y%1073741824)/2^(30-z').toNat,(nq z' n:Nat)⟩:=by
   simp only [aob,hzz,hc]
  have w1:IntKind.i64.wrap (30-z')=30-z':=a5 (by omega)
  have sh:∀a:Int,a.fdiv (2^min (30-z').toNat IntKind.i64.bits)=a/2^(30-z').toNat:=fun a=>by
   rw [show min (30-z').toNat IntKind.i64.bits=(30-z').toNat from zbg (by simp [IntKind.bits]; omega)];exact zbn _ (zaz (Int.pow_pos (by decide)))
  cases n with
  | zero=>
   simp only [gt_iff_lt,Int.lt_irrefl,azn x hx,azn y hy,w1,sh,fin,Til.v,nq,push_cast,↓reduceIte,reduceCtorEq,zE,zA,zD];refine ⟨by omega,by omega,?_⟩
   (show _=true); kernel_rfl
  | succ n=>
   have e1:decide (((n+1:Nat):Int)>0)=true:=by simp
   have w2:IntKind.i64.wrap (((n+1:Nat):Int)-1)=n:=by rw [a5 (by omega)]; omega
   generalize hm:((n+1:Nat):Int)=m;rw [hm] at e1 w2;simp only [e1,push_cast,↓reduceIte,reduceCtorEq,zE,zA,zD];refine b5 (as':=[Til.v ⟨z',0,0,m⟩]) rfl ?_;refine a6 (a26 ⟨z',0,0,m⟩ ⟨by unfold in64; dsimp; omega,by show in64 0; decide,by show in64 0; decide,by unfold in64; dsimp; omega⟩) rfl trivial ?_;cases hf:fine ⟨z',0,0,m⟩ with
   | true=>
    simp only [w2,push_cast,↓reduceIte,reduceCtorEq,zE,zA,zL,zD];refine ⟨⟨n,by omega,?_,rfl⟩,by omega⟩;rw [← hc];simp only [nq,hm,hf,if_true]
   | false=>
    have hk:nq z' (n+1)=n+1:=by simp [nq,hm,hf]
    rw [hk,hm] at fin;simp only [azn x hx,azn y hy,w1,sh,fin,Til.v,push_cast,↓reduceIte,reduceCtorEq,zE,zA,zD];refine ⟨by omega,by omega,?_⟩
    (show _=true); kernel_rfl


def mnN (f:Nat→Int):Nat→Int
 | 0=>f 0
 | k+1=>min (mnN f k) (f k)
def mxN (f:Nat→Int):Nat→Int
 | 0=>f 0
 | k+1=>max (mxN f k) (f k)
def sq (z:Ei) (r:Nat) (lx ly ux uy:Int):Prop:=(mxN (hx z r) 6<lx∨ux<mnN (hx z r) 6)∨(mxN (hy z r) 6<ly∨uy<mnN (hy z r) 6)
instance (z:Ei) (r:Nat) (lx ly ux uy:Int):Decidable (sq z r lx ly ux uy):=inferInstanceAs (Decidable (_∨_))
def ajr (z:Ei) (r:Nat) (lx ly ux uy:Int) (i:Nat):Prop:=crs z r i ((i+1)%6) lx ly<0∧crs z r i ((i+1)%6) ux ly<0∧crs z r i ((i+1)%6) ux uy<0∧crs z r i ((i+1)%6) lx uy<0
instance (z:Ei) (r:Nat) (lx ly ux uy:Int) (i:Nat):Decidable (ajr z r lx ly ux uy i):=inferInstanceAs (Decidable (_∧_))
def mt (z:Ei) (r:Nat) (lx ly ux uy:Int):Bool:=!decide (sq z r lx ly ux uy)&&(List.range 6).all fun i=>!decide (ajr z r lx ly ux uy i)
theorem apy {z:Ei} {r:Nat} {lx ly ux uy:Int} (h:sq z r lx ly ux uy):mt z r lx ly ux uy=false:=by simp [mt,h]
def rng (a b:Int):List Int:=(List.range (b+1-a).toNat).map fun i:Nat=>a+(i:Int)
def bmd (p:Int→Int→Bool) (a b k:Int):List (Int×Int):=((rng a b).filter fun i=>p i k).map fun i=>(i,k)
def bdb (p:Int→Int→Bool) (a b c d:Int):List (Int×Int):=(rng c d).flatMap (bmd p a b)
def tlo (m s last:Int):Int:=min (max (m.tdiv (3*s)-1) 0) last
def thi (m s last:Int):Int:=min (max (m.tdiv (3*s)+1) 0) last
def dlo (m s:Int):Int:=max (m.tdiv (3*s)-2) 0
def dhi (m s last:Int):Int:=min (m.tdiv (3*s)+2) last
def tch (z:Ei) (r:Nat) (s i k:Int):Bool:=mt z r (3*(i*s)) (3*(k*s)) (3*((i+1)*s)) (3*((k+1)*s))
def bde (z:Ei) (r:Nat) (s last:Int):List (Int×Int):=bdb (tch z r s) (tlo (mnN (hx z r) 6) s last) (thi (mxN (hx z r) 6) s last) (tlo (mnN (hy z r) 6) s last) (thi (mxN (hy z r) 6) s last)
def bmh (z:Ei) (r:Nat) (s last:Int):List (Int×Int):=bdb (tch z r s) (dlo (mnN (hx z r) 6) s) (dhi (mxN (hx z r) 6) s last) (dlo (mnN (hy z r) 6) s) (dhi (mxN (hy z r) 6) s last)

def afe:Mk P0 f165:={ x:=_ }
theorem alj:b8 165 2 afe:=b7 func165
def aa3:Mk P0 f235:={ x:=_ }
theorem ahh:b8 235 1 aa3:=b7 func235
def abr:Mk P0 f202:={ x:=_ }
theorem ah9:b8 202 2 abr:=b7 func202
def aa2:Mk P0 f203:={ x:=_ }
theorem ahg:b8 203 3 aa2:=b7 func203
def aa1:Mk P0 f167:={ x:=_ }
theorem ahf:b8 167 2 aa1:=b7 func167
def ahj:Mk P0 f118:={ x:=_ }
theorem am3:b8 118 3 ahj:=b7 func118
def pv (x y:Int):AV:=.r (pnt x y)
def bxv (lx ly ux uy:Int):AV:=.r (.agg [.v (.int .i64 lx),.v (.int .i64 ly),.v (.int .i64 ux),.v (.int .i64 uy)])
def vz (x:Int):Prop:=-2147483648≤x∧x≤2147483648
def ibx (lx ly ux uy i:Int):List AV:=if i=0 then [int .i64 0,int .i64 0,int .i64 0,int .i64 0] else if i=1 then [int .i64 (3*lx),int .i64 0,int .i64 (3*ux),int .i64 0] else [int .i64 (3*lx),int .i64 (3*ly),int .i64 (3*ux),int .i64 (3*uy)]
theorem blw (lx ly ux uy:Int):ibx lx ly ux uy 0=[int .i64 0,int .i64 0,int .i64 0,int .i64 0]:=rfl
theorem blv (lx ly ux uy:Int):ibx lx ly ux uy 1=[int .i64 (3*lx),int .i64 0,int .i64 (3*ux),int .i64 0]:=rfl
theorem blu (lx ly ux uy:Int):ibx lx ly ux uy 2=[int .i64 (3*lx),int .i64 (3*ly),int .i64 (3*ux),int .i64 (3*uy)]:=rfl
theorem a5q (lx ly ux uy:Int) (h1:vz lx) (h2:vz ly) (h3:vz ux) (h4:vz uy) (hx:lx≤ux) (hy:ly≤uy):a8 P0 165 [pv lx ly,pv ux uy] [] (.tup [bxv (3*lx) (3*ly) (3*ux) (3*uy),bl true]) []:=by
 refine alj rfl (by decide) ?_
 push_cast [afe,pv,pnt,bxv,zab]
 unfold vz at h1 h2 h3 h4
 refine run_loop [(8,false),(6,false),(4,false),(3,false),(2,false)] (fun vs pos los=>∃i:Int,(i=0∨i=1∨i=2)∧vs=[int .i64 i,.ptr 2000000 0 0,.ptr 2000001 0 0,.ptr 2000002 0 0,.ptr 2000003 0 0]∧pos=[] ∧
  los=[.box (ibx lx ly ux uy i),.box [int .i64 0,int .i64 0,int .i64 0,int .i64 0],.box [int .i64 ux,int .i64 uy],.box [int .i64 lx,int .i64 ly]])
  (fun vs _ _=>match vs with | .r (.v (.int _ j))::_=>(2-j).toNat | _=>0) rfl ?_ ?_
 ·push_cast
  exact ⟨0,by omega,rfl,rfl⟩
 ·rintro vs pos los ⟨i,rfl | rfl | rfl,rfl,rfl,rfl⟩
  ·have g1:decide (lx < -2147483648)=false:=by simp; omega
   have g2:decide (ux>2147483648)=false:=by simp; omega
   have g3:decide (ux<lx)=false:=by simp; omega
   have g0:decide ((0:Int)<2)=true:=rfl;have e1:IntKind.i64.wrap (3*lx)=3*lx:=a5 (by omega);have e2:IntKind.i64.wrap (3*ux)=3*ux:=a5 (by omega);have e3:IntKind.i64.wrap (0+1)=1:=by decide
   push_cast [blw,g0,g1,g2,g3,e1,e2,e3,zaa]
   repeat refine And.intro (by first | decide | kernel_rfl) ?_
   exact ⟨⟨1,by omega,rfl,rfl⟩,by decide⟩
  ·have g1:decide (ly < -2147483648)=false:=by simp; omega
   have g2:decide (uy>2147483648)=false:=by simp; omega
   have g3:decide (uy<ly)=false:=by simp; omega
   have g0:decide ((1:Int)<2)=true:=rfl;have e1:IntKind.i64.wrap (3*ly)=3*ly:=a5 (by omega);have e2:IntKind.i64.wrap (3*uy)=3*uy:=a5 (by omega);have e3:IntKind.i64.wrap (1+1)=2:=by decide
   push_cast [blv,g0,g1,g2,g3,e1,e2,e3,zaa]
   repeat refine And.intro (by first | decide | kernel_rfl) ?_
   exact ⟨⟨2,by omega,rfl,rfl⟩,by decide⟩
  ·have g0:decide ((2:Int)<2)=false:=rfl
   push_cast [blu,g0,zaa]
theorem a9k (lx ly ux uy:Int):a8 P0 235 [bxv lx ly ux uy] [] (.own 1000000 0 0 4) [.row 2 (pnt 0 0) true true [pnt lx ly,pnt ux ly,pnt ux uy,pnt lx uy]]:=by
 refine ahh rfl (by decide) ?_
 push_cast [aa3,pnt,bxv,zab,zaa]
 decide
theorem zc (z:Ei) (r:Nat):((ke z r 6).length:Int)=6:=by rw [as7]; rfl
theorem ji (z:Ei) (r n i:Nat) (h:i<n) (d:RV):(ke z r n).getD i d=.agg [.v (.int .i64 (hx z r i)),.v (.int .i64 (hy z r i))]:=by
 rw [zak];simp [ke,h,a5r,pnt]
def na (z:Ei) (r:Nat):Prop:=∀i,i<6→(-4294967296≤hx z r i∧hx z r i≤4294967296)∧(-4294967296≤hy z r i∧hy z r i≤4294967296)
abbrev ag9 (z:Ei) (r:Nat):AV:=.r (.sl 2 (ke z r 6))
theorem bco (z:Ei) (r:Nat) (lx ly ux uy:Int) (hb:na z r):a8 P0 202 [bxv lx ly ux uy,ag9 z r] [] (bl (decide (sq z r lx ly ux uy))) []:=by
 refine ah9 rfl (by decide) ?_;simp only [abr,bxv,push_cast,↓reduceIte,zA]
 refine run_loop [(10,false),(2,false),(1,false)] (fun vs pos los=>∃i:Int,(i=0∨(i=1∧¬(mxN (hx z r) 6<lx∨ux<mnN (hx z r) 6))∨(i=2∧¬sq z r lx ly ux uy))∧vs=[int .i64 i,.ptr 2000000 0 0,ag9 z r]∧pos=[] ∧
  los=[.box [int .i64 lx,int .i64 ly,int .i64 ux,int .i64 uy]])
  (fun vs _ _=>match vs with | .r (.v (.int _ j))::_=>(2-j).toNat | _=>0) rfl ?_ ?_
 ·simp only [push_cast,↓reduceIte,reduceCtorEq,zE,zA,zL,zD];exact ⟨0,by omega,rfl⟩
 ·rintro vs pos los ⟨i,hi | hi | hi,rfl,rfl,rfl⟩
  ·obtain rfl:=hi;have g0:decide ((0:Int)<2)=true:=rfl;simp only [g0,zc,ji z r 6 0 (by decide),zaa,push_cast,↓reduceIte,zE,zA,zL,zM]
   repeat refine And.intro (by first | decide | kernel_rfl) ?_
   refine run_loop [(25,false),(24,false),(23,false),(6,false),(7,false),(5,false),(2,false),(1,false),(10,false)] (fun vs pos los=>∃k:Nat,k≤6∧vs=[int .i64 k,int .i64 6,ag9 z r,int .i64 (mnN (hx z r) k),int .i64 (mxN (hx z r) k),int .i64 0,.ptr 2000000 0 0,ag9 z r,int .i64 0]∧pos=[] ∧
    los=[.box [int .i64 lx,int .i64 ly,int .i64 ux,int .i64 uy]])
    (fun vs _ _=>match vs with | .r (.v (.int _ j))::_=>(6-j).toNat | _=>0) rfl ?_ ?_
   ·simp only [push_cast,↓reduceIte,zE,zA,zL,zD];exact ⟨0,by omega,rfl⟩
   ·rintro vs pos los ⟨k,hk,rfl,rfl,rfl⟩;simp only [push_cast,↓reduceIte,zE];refine b6 (fun h=>?_) (fun h=>?_)
    ·have hi:k<6:=by simp at h; omega
     simp only [zc,zaf,ji z r 6 k hi,zaa,push_cast,↓reduceIte,zE,zA,zL,zD,zM];rw [show IntKind.i64.wrap ((k:Int)+1)=((k+1:Nat):Int) by rw [a5 (by omega)]; omega];refine ⟨by omega,by decide,by decide,by kernel_rfl,⟨k+1,by omega,rfl⟩,by omega⟩
    ·have hi:k=6:=by simp at h; omega
     subst hi;simp only [zaa,push_cast,↓reduceIte,zE,zA,zL,zM]
     repeat refine And.intro (by first | decide | exact fun _=>by decide | (simp +contextual; done) | kernel_rfl) ?_
     refine b6 (fun h=>?_) (fun h=>?_)
     ·have hbe:mxN (hx z r) 6<lx∨ux<mnN (hx z r) 6:=by simpa using h
      simp only [push_cast,↓reduceIte,zA];rw [decide_eq_true (show sq z r lx ly ux uy from .inl hbe)]
     ·have hne:¬(mxN (hx z r) 6<lx∨ux<mnN (hx z r) 6):=by
       have:=h;simp at this;omega
      simp only [push_cast,↓reduceIte,zE,zA,zL,zD];refine ⟨⟨1,.inr (.inl ⟨rfl,hne⟩),rfl⟩,by decide⟩
  ·obtain ⟨rfl,hn⟩:=hi;have g0:decide ((1:Int)<2)=true:=rfl;simp only [g0,zc,ji z r 6 0 (by decide),zaa,push_cast,↓reduceIte,zE,zA,zL,zM]
   repeat refine And.intro (by first | decide | kernel_rfl) ?_
   refine run_loop [(25,false),(24,false),(23,false),(6,false),(7,false),(5,false),(2,false),(1,false),(10,false)] (fun vs pos los=>∃k:Nat,k≤6∧vs=[int .i64 k,int .i64 6,ag9 z r,int .i64 (mnN (hy z r) k),int .i64 (mxN (hy z r) k),int .i64 1,.ptr 2000000 0 0,ag9 z r,int .i64 1]∧pos=[] ∧
    los=[.box [int .i64 lx,int .i64 ly,int .i64 ux,int .i64 uy]])
    (fun vs _ _=>match vs with | .r (.v (.int _ j))::_=>(6-j).toNat | _=>0) rfl ?_ ?_
   ·simp only [push_cast,↓reduceIte,zE,zA,zL,zD];exact ⟨0,by omega,rfl⟩
   ·rintro vs pos los ⟨k,hk,rfl,rfl,rfl⟩;simp only [push_cast,↓reduceIte,zE];refine b6 (fun h=>?_) (fun h=>?_)
    ·have hi:k<6:=by simp at h; omega
     simp only [zc,zaf,ji z r 6 k hi,zaa,push_cast,↓reduceIte,zE,zA,zL,zD,zM];rw [show IntKind.i64.wrap ((k:Int)+1)=((k+1:Nat):Int) by rw [a5 (by omega)]; omega];refine ⟨by omega,by decide,by decide,by kernel_rfl,⟨k+1,by omega,rfl⟩,by omega⟩
    ·have hi:k=6:=by simp at h; omega
     subst hi;simp only [zaa,push_cast,↓reduceIte,zE,zA,zL,zM]
     repeat refine And.intro (by first | decide | exact fun _=>by decide | (simp +contextual; done) | kernel_rfl) ?_
     refine b6 (fun h=>?_) (fun h=>?_)
     ·have hbe:mxN (hy z r) 6<ly∨uy<mnN (hy z r) 6:=by simpa using h
      simp only [push_cast,↓reduceIte,zA];rw [decide_eq_true (show sq z r lx ly ux uy from .inr hbe)]
     ·have hne:¬(mxN (hy z r) 6<ly∨uy<mnN (hy z r) 6):=by
       have:=h;simp at this;omega
      simp only [push_cast,↓reduceIte,zE,zA,zL,zD];refine ⟨⟨2,.inr (.inr ⟨rfl,fun hc=>hc.elim hn hne⟩),rfl⟩,by decide⟩
  ·obtain ⟨rfl,hn⟩:=hi;have g0:decide ((2:Int)<2)=false:=rfl;simp only [g0,push_cast,↓reduceIte,zA];rw [decide_eq_false hn]
def ah (x:Int):Prop:=-4294967296≤x∧x≤4294967296
def as4 (x:Int):Prop:=-268435456≤x∧x≤268435456
def crP (p0 p1 q0 q1 x y:Int):Int:=(q0-p0)*(y-p1)-(q1-p1)*(x-p0)
theorem bju {p0 p1 q0 q1 x y:Int} (h0:ah p0) (h1:ah p1) (d0:as4 (q0-p0)) (d1:as4 (q1-p1)) (hx:ah x) (hy:ah y) :
  IntKind.i64.wrap (IntKind.i64.wrap (IntKind.i64.wrap (q0-p0)*IntKind.i64.wrap (y-p1))-IntKind.i64.wrap (IntKind.i64.wrap (q1-p1)*IntKind.i64.wrap (x-p0)))=crP p0 p1 q0 q1 x y:=by
 unfold ah at h0 h1 hx hy;unfold as4 at d0 d1;have m1:=bf (n:=268435456) (m:=8589934592) d0 (y:=y-p1) (by omega);have m2:=bf (n:=268435456) (m:=8589934592) d1 (y:=x-p0) (by omega);unfold crP;rw [show IntKind.i64.wrap (q0-p0)=q0-p0 from a5 (by omega),show IntKind.i64.wrap (q1-p1)=q1-p1 from a5 (by omega),show IntKind.i64.wrap (y-p1)=y-p1 from a5 (by omega),show IntKind.i64.wrap (x-p0)=x-p0 from a5 (by omega)];generalize (q0-p0)*(y-p1)=A at *;generalize (q1-p1)*(x-p0)=B at *;rw [show IntKind.i64.wrap A=A from a5 (by omega),show IntKind.i64.wrap B=B from a5 (by omega),a5 (by omega)]
def cnx (lx ux:Int) (i:Nat):Int:=if i=0∨i=3 then lx else ux
def cny (ly uy:Int) (i:Nat):Int:=if i=0∨i=1 then ly else uy
def cnL (lx ly ux uy:Int):List RV:=[pnt lx ly,pnt ux ly,pnt ux uy,pnt lx uy]
theorem bjx (lx ly ux uy:Int) (i:Nat) (h:i<4) (d:RV):(cnL lx ly ux uy).getD i d=.agg [.v (.int .i64 (cnx lx ux i)),.v (.int .i64 (cny ly uy i))]:=by
 rcases (show i=0∨i=1∨i=2∨i=3 by omega) with rfl | rfl | rfl | rfl<;>rfl
def asr (p0 p1 q0 q1 lx ly ux uy:Int):Prop:=∀i,i<4→crP p0 p1 q0 q1 (cnx lx ux i) (cny ly uy i)<0
instance (p0 p1 q0 q1 lx ly ux uy:Int):Decidable (asr p0 p1 q0 q1 lx ly ux uy):=inferInstanceAs (Decidable (∀i,i<4→_))
theorem a8d (lx ly ux uy p0 p1 q0 q1:Int) (h1:ah lx) (h2:ah ly) (h3:ah ux) (h4:ah uy) (h5:ah p0) (h6:ah p1) (d0:as4 (q0-p0)) (d1:as4 (q1-p1)) :
  a8 P0 203 [bxv lx ly ux uy,pv p0 p1,pv q0 q1] [] (bl (decide (asr p0 p1 q0 q1 lx ly ux uy))) []:=by
 refine ahg rfl (by decide) ?_
 push_cast [aa2,bxv,pv,pnt,zab]
 refine b5 (as':=[bxv lx ly ux uy]) rfl ?_;refine a6 (a9k lx ly ux uy) rfl trivial ?_
 push_cast [pnt]
 refine run_loop [(12,false),(11,false),(10,false),(5,false),(4,false)] (fun vs pos los=>∃i:Nat,i≤4∧(∀j,j<i→crP p0 p1 q0 q1 (cnx lx ux j) (cny ly uy j)<0)∧vs=[int .i64 i,int .i64 4,.own 2000000 0 0 4,.ptr 2000001 0 0,.ptr 2000002 0 0]∧pos=[] ∧
  los=[.row 2 (.agg [.v (.int .i64 0),.v (.int .i64 0)]) true true (cnL lx ly ux uy),.box [int .i64 q0,int .i64 q1],.box [int .i64 p0,int .i64 p1]])
  (fun vs _ _=>match vs with | .r (.v (.int _ j))::_=>(4-j).toNat | _=>0) rfl ?_ ?_
 ·push_cast
  exact ⟨0,by omega,fun j hj=>by omega,rfl,rfl⟩
 ·rintro vs pos los ⟨i,i4,hj,rfl,rfl,rfl⟩
  push_cast
  refine b6 (fun h=>?_) (fun h=>?_)
  ·have hi:i<4:=by simp at h; omega
   have hcx:ah (cnx lx ux i):=by unfold cnx; split<;>assumption
   have hcy:ah (cny ly uy i):=by unfold cny; split<;>assumption
   push_cast [zaf,zad,bjx lx ly ux uy i hi,bju h5 h6 d0 d1 hcx hcy,zaa]
   refine ⟨by omega,?_⟩
   repeat refine And.intro (by first | decide | omega | kernel_rfl) ?_
   refine b6 (fun h'=>?_) (fun h'=>?_)
   ·have hc:¬crP p0 p1 q0 q1 (cnx lx ux i) (cny ly uy i)<0:=by simp at h'; omega
    push_cast
    rw [decide_eq_false (show ¬asr p0 p1 q0 q1 lx ly ux uy from fun c=>hc (c i hi))]
   ·have hc:crP p0 p1 q0 q1 (cnx lx ux i) (cny ly uy i)<0:=by simp at h'; omega
    push_cast
    rw [show IntKind.i64.wrap ((i:Int)+1)=((i+1:Nat):Int) by rw [a5 (by omega)]; omega];refine ⟨⟨i+1,by omega,fun j hj'=>?_,rfl⟩,by omega⟩;by_cases hji:j=i
    ·subst hji; exact hc
    ·exact hj j (by omega)
  ·have hi:i=4:=by simp at h; omega
   subst hi
   push_cast
   rw [decide_eq_true (show asr p0 p1 q0 q1 lx ly ux uy from hj)]
theorem a0l (z:Ei) (r i j:Nat) (lx ly ux uy:Int) (hj:j=(i+1)%6):asr (hx z r i) (hy z r i) (hx z r j) (hy z r j) lx ly ux uy↔ajr z r lx ly ux uy i:=by
 subst hj
 have e:∀x y,crP (hx z r i) (hy z r i) (hx z r ((i+1)%6)) (hy z r ((i+1)%6)) x y=crs z r i ((i+1)%6) x y:=fun x y=>by
  simp only [crP,crs];rw [show hx z r ((i+1)%6)-hx z r i=kx r ((i+1)%6)-kx r i by rw [cg,cg]; omega,show hy z r ((i+1)%6)-hy z r i=ky r ((i+1)%6)-ky r i by rw [cd,cd]; omega]
 simp only [asr,ajr,e];constructor
 ·intro h;exact ⟨h 0 (by decide),h 1 (by decide),h 2 (by decide),h 3 (by decide)⟩
 ·rintro ⟨h0,h1,h2,h3⟩ k hk;rcases (show k=0∨k=1∨k=2∨k=3 by omega) with rfl | rfl | rfl | rfl
  ·exact h0
  ·exact h1
  ·exact h2
  ·exact h3
theorem a55 (z:Ei) (r:Nat) (hr:r≤12) (lx ly ux uy:Int) (hb:na z r) (h1:ah lx) (h2:ah ly) (h3:ah ux) (h4:ah uy):a8 P0 167 [bxv lx ly ux uy,ag9 z r] [] (bl (mt z r lx ly ux uy)) []:=by
 refine ahf rfl (by decide) ?_
 push_cast [aa1,bxv,zab]
 refine b5 (as':=[bxv lx ly ux uy,ag9 z r]) rfl ?_;refine a6 (bco z r lx ly ux uy hb) rfl trivial ?_;by_cases hbe:sq z r lx ly ux uy
 ·rw [decide_eq_true hbe]
  push_cast
  rw [apy hbe]
 ·rw [decide_eq_false hbe]
  push_cast [zc]
  refine run_loop [(12,false),(11,false),(10,false),(2,false),(1,false)] (fun vs pos los=>∃i:Nat,i≤6∧(∀j,j<i→¬ajr z r lx ly ux uy j)∧vs=[int .i64 i,int .i64 6,ag9 z r,.ptr 2000000 0 0,ag9 z r]∧pos=[] ∧
   los=[.box [int .i64 lx,int .i64 ly,int .i64 ux,int .i64 uy]])
   (fun vs _ _=>match vs with | .r (.v (.int _ j))::_=>(6-j).toNat | _=>0) rfl ?_ ?_
  ·push_cast
   exact ⟨0,by omega,fun j hj=>by omega,rfl⟩
  ·rintro vs pos los ⟨i,i6,hj,rfl,rfl,rfl⟩
   push_cast
   refine b6 (fun h=>?_) (fun h=>?_)
   ·have hi:i<6:=by simp at h; omega
    obtain ⟨J,hJ⟩:∃J,J=(i+1)%6:=⟨_,rfl⟩
    have hJ6:J<6:=by omega
    have hm:(IntKind.i64.wrap ((i:Int)+1)).tmod 6=(J:Int):=by
     rw [a5 (by omega),zaw (by omega)]; omega
    push_cast [zc,hm,zaf,ji z r 6 i hi,ji z r 6 J hJ6,zaa]
    refine ⟨by omega,?_⟩
    repeat refine And.intro (by first | decide | omega | kernel_rfl) ?_
    refine i7 (as':=[bxv lx ly ux uy,pv (hx z r i) (hy z r i),pv (hx z r J) (hy z r J)]) rfl ?_;have k1:=as1 r i hr hi;have k2:=as1 r J hr hJ6;refine b9 (a8d lx ly ux uy _ _ _ _ h1 h2 h3 h4 (hb i hi).1 (hb i hi).2 (by rw [cg,cg]; unfold as4; omega) (by rw [cd,cd]; unfold as4; omega)) rfl trivial ?_
    push_cast
    repeat refine And.intro (by first | decide | omega | kernel_rfl) ?_
    have hio:=a0l z r i J lx ly ux uy hJ;refine b6 (fun h'=>?_) (fun h'=>?_)
    ·have ho:ajr z r lx ly ux uy i:=hio.1 (by simpa using h')
     push_cast
     have:mt z r lx ly ux uy=false:=by
      simp only [mt,hbe,decide_false,zba,Bool.true_and];rw [List.all_eq_false];exact ⟨i,zbh.2 hi,by simp [ho]⟩
     rw [this]
    ·have ho:¬ajr z r lx ly ux uy i:=fun c=>by
      have:=hio.2 c;simp [this] at h'
     push_cast
     rw [show IntKind.i64.wrap ((i:Int)+1)=((i+1:Nat):Int) by rw [a5 (by omega)]; omega];refine ⟨⟨i+1,by omega,fun j hj'=>?_,rfl⟩,by omega⟩;by_cases hji:j=i
     ·subst hji; exact ho
     ·exact hj j (by omega)
   ·have hi:i=6:=by simp at h; omega
    subst hi
    push_cast
    have:mt z r lx ly ux uy=true:=by
     simp only [mt,hbe,decide_false,zba,Bool.true_and,List.all_eq_true,zbh,Bool.not_eq_true',decide_eq_false_iff_not];exact hj
    rw [this]
theorem a6v (z:Ei) (r:Nat):List.take 6 (ke z r 6)=ke z r 6:=rfl
attribute [push_cast high] a6v
theorem a5v (z:Ei) (r:Int) (h0:0≤r) (hk:okc r.toNat z) (lx ly ux uy:Int) (hb:na z r.toNat) (h1:0≤lx∧lx≤ux∧ux≤1073741824) (h2:0≤ly∧ly≤uy∧uy≤1073741824) :
  a8 P0 118 [cel r z,pv lx ly,pv ux uy] [] (bl (mt z r.toNat (3*lx) (3*ly) (3*ux) (3*uy))) []:=by
 refine am3 rfl (by decide) ?_
 push_cast [ahj,cel,pv,pnt,zab]
 refine b5 (as':=[pv lx ly,pv ux uy]) rfl ?_;refine a6 (a5q lx ly ux uy (by unfold vz; omega) (by unfold vz; omega) (by unfold vz; omega) (by unfold vz; omega) h1.2.1 h2.2.1) rfl trivial ?_
 push_cast [bxv]
 refine b5 (as':=[cel r z]) rfl ?_;refine a6 (bl2 r z h0 hk) rfl trivial ?_
 push_cast
 have hr:r≤12:=by have:=hk.1; omega
 refine b5 (as':=[z.v,int .i64 r]) rfl ?_;refine a6 (bds z r hk.2.1 ⟨h0,hr⟩) rfl trivial ?_
 push_cast [pnt]
 refine i9 ?_
 push_cast
 refine b5 (as':=[bxv (3*lx) (3*ly) (3*ux) (3*uy),ag9 z r.toNat]) rfl ?_;refine a6 (a55 z r.toNat hk.1 _ _ _ _ hb (by unfold ah; omega) (by unfold ah; omega) (by unfold ah; omega) (by unfold ah; omega)) rfl trivial ?_
 push_cast

def aku:Mk P0 f67:={ x:=_ }
theorem an3:b8 67 1 aku:=b7 func67
def yg:Mk P0 f68:={ x:=_ }
theorem afn:b8 68 2 yg:=b7 func68
def ais:Mk P0 f72:={ x:=_ }
theorem anx:b8 72 2 ais:=b7 func72
theorem uf {z:Int} (h:0≤z∧z≤18):4096≤(2:Int)^(30-z).toNat∧(2:Int)^(30-z).toNat≤1073741824:=by
 have h1:2^(30-z).toNat≤2^30:=zay (by decide) (by omega);have h2:2^12≤2^(30-z).toNat:=zay (by decide) (by omega);have h3:((2^(30-z).toNat:Nat):Int)=(2:Int)^(30-z).toNat:=by simp
 omega
theorem yk {t:Til} (h:tis t=true):(0≤t.x*2^(30-t.z).toNat∧(t.x+1)*2^(30-t.z).toNat≤1073741824)∧(0≤t.y*2^(30-t.z).toNat∧(t.y+1)*2^(30-t.z).toNat≤1073741824):=by
 simp only [tis,decide_eq_true_eq] at h;obtain ⟨z0,z1,r0,r1,x0,x1,y0,y1⟩:=h;have hs:=uf ⟨z0,z1⟩
 have hpq:(2:Int)^t.z.toNat*2^(30-t.z).toNat=1073741824:=by
  rw [← Int.pow_add,show t.z.toNat+(30-t.z).toNat=30 by omega]; rfl
 have hx:(t.x+1)*2^(30-t.z).toNat≤1073741824:=by rw [← hpq]; exact zbo (by omega) (by omega)
 have hy:(t.y+1)*2^(30-t.z).toNat≤1073741824:=by rw [← hpq]; exact zbo (by omega) (by omega)
 exact ⟨⟨Int.mul_nonneg x0 (by omega),hx⟩,Int.mul_nonneg y0 (by omega),hy⟩
theorem a1e (t:Til) (h:tis t=true):a8 P0 67 [t.v] [] (bxv (t.x*2^(30-t.z).toNat) (t.y*2^(30-t.z).toNat) ((t.x+1)*2^(30-t.z).toNat) ((t.y+1)*2^(30-t.z).toNat)) []:=by
 refine an3 rfl (by decide) ?_;have hi:=yk h;have hs:=uf (show 0≤t.z∧t.z≤18 by simp only [tis,decide_eq_true_eq] at h; omega)
 push_cast [aku,Til.v,bxv,zab]
 refine b5 (as':=[t.v]) rfl ?_;refine a6 (a0n t h) rfl trivial ?_
 push_cast
 rw [zal,zap,zal,zap] at *;rw [a5 (by omega),a5 (by omega)]
theorem avf (z:Ei) (r:Int) (h0:0≤r) (hk:okc r.toNat z) (lx ly ux uy:Int) (hb:na z r.toNat) (h1:0≤lx∧lx≤ux∧ux≤1073741824) (h2:0≤ly∧ly≤uy∧uy≤1073741824) :
  a8 P0 68 [bxv lx ly ux uy,cel r z] [] (bl (mt z r.toNat (3*lx) (3*ly) (3*ux) (3*uy))) []:=by
 refine afn rfl (by decide) ?_
 push_cast [yg,cel,bxv,zab]
 refine b5 (as':=[cel r z,pv lx ly,pv ux uy]) rfl ?_;refine a6 (a5v z r h0 hk lx ly ux uy hb h1 h2) rfl trivial ?_
 push_cast
theorem a4l (t:Til) (h:tis t=true) (z:Ei) (r:Int) (h0:0≤r) (hk:okc r.toNat z) (hb:na z r.toNat) :
  a8 P0 72 [t.v,cel r z] [] (bl (tch z r.toNat (2^(30-t.z).toNat) t.x t.y)) []:=by
 refine anx rfl (by decide) ?_;have hi:=yk h;have hz:0≤t.z∧t.z≤18:=by simp only [tis,decide_eq_true_eq] at h; omega
 have hs:=uf hz
 push_cast [ais,Til.v,cel,zab]
 refine i7 (as':=[t.v]) rfl ?_;refine b9 (a5o t) rfl trivial ?_;rw [h]
 push_cast
 refine i7 (as':=[t.v]) rfl ?_;refine b9 (a1e t h) rfl trivial ?_
 push_cast [bxv]
 refine i7 (as':=[bxv (t.x*2^(30-t.z).toNat) (t.y*2^(30-t.z).toNat) ((t.x+1)*2^(30-t.z).toNat) ((t.y+1)*2^(30-t.z).toNat),cel r z]) rfl ?_;refine b9 (avf z r h0 hk _ _ _ _ hb ⟨hi.1.1,by rw [zal]; omega,hi.1.2⟩ ⟨hi.2.1,by rw [zal]; omega,hi.2.2⟩) rfl trivial ?_
 push_cast
 exact ⟨by kernel_rfl,rfl⟩

def afg:Mk P0 f149:={ x:=_ }
theorem alq:b8 149 2 afg:=b7 func149
def abv:Mk P0 f150:={ x:=_ }
theorem aic:b8 150 4 abv:=b7 func150
def vm:Mk P0 f190:={ x:=_ }
theorem aen:b8 190 2 vm:=b7 func190
def td:Mk P0 f230:={ x:=_ }
theorem ada:b8 230 1 td:=b7 func230
def abb:Mk P0 f83:={ x:=_ }
theorem ahs:b8 83 1 abb:=b7 func83
def aba:Mk P0 f20:={ x:=_ }
theorem ahr:b8 20 1 aba:=b7 func20
theorem a7n (x y:Int) (h1:vz x) (h2:vz y):a8 P0 149 [int .i64 x,int .i64 y] [] (bl false) []:=by
 refine alq rfl (by decide) ?_;unfold vz at h1 h2;have c1:decide (x < -2147483648)=false:=by simp; omega
 have c2:decide (x>2147483648)=false:=by simp; omega
 have c3:decide (y < -2147483648)=false:=by simp; omega
 have c4:decide (y>2147483648)=false:=by simp; omega
 push_cast [afg,zab,c1,c2,c3,c4]
def amq (x:Int):Prop:=-42535295865117307932921825928971026432≤x∧x≤42535295865117307932921825928971026432
theorem bg1 (a:Int) (h:-170141183460469231731687303715884105728≤a∧a<170141183460469231731687303715884105728):a8 P0 230 [n8 a] [] (bl (decide (a<0))) []:=by
 refine ada rfl (by decide) ?_;simp only [td,n8,push_cast,↓reduceIte,zE,zA,zL]
 have e:Int.fdiv (a/18446744073709551616%18446744073709551616) (2^min (zaj 63) IntKind.u64.bits)=a/18446744073709551616%18446744073709551616/9223372036854775808:=by
  rw [show min (zaj 63) IntKind.u64.bits=63 from rfl,zbn _ (by decide)]
  rfl
 rw [e];refine ⟨by decide,ei ?_⟩;simp only [beq_iff_eq,decide_eq_true_eq];omega
theorem a2p (a b:Int) (ha:amq a) (hb:amq b):a8 P0 190 [n8 a,n8 b] [] (bl (decide (a<b))) []:=by
 refine aen rfl (by decide) ?_;unfold amq at ha hb
 push_cast [vm,n8,zab]
 refine i7 (as':=[n8 b]) rfl ?_;refine b9 (al8 b) rfl trivial ?_
 push_cast [n8]
 refine i7 (as':=[n8 a,n8 (-b)]) rfl ?_;refine b9 (aop a (-b)) rfl trivial ?_
 push_cast [n8]
 refine i7 (as':=[n8 (a + -b)]) rfl ?_;refine b9 (bg1 (a + -b) (by omega)) rfl trivial ?_
 push_cast
 refine ⟨by kernel_rfl,ei ?_⟩;simp only [decide_eq_true_eq];omega
def sg (x:Int):Int:=if x<0 then -1 else if 0<x then 1 else 0
theorem asl (p0 p1 q0 q1 x y:Int) (h0:ah p0) (h1:ah p1) (h2:ah q0) (h3:ah q1) (h4:ah x) (h5:ah y) :
  a8 P0 150 [pv p0 p1,pv q0 q1,int .i64 x,int .i64 y] [] (int .i64 (sg (crP p0 p1 q0 q1 x y))) []:=by
 refine aic rfl (by decide) ?_;unfold ah at h0 h1 h2 h3 h4 h5;have m1:=bf (n:=8589934592) (m:=8589934592) (x:=q0-p0) (y:=y-p1) (by omega) (by omega);have m2:=bf (n:=8589934592) (m:=8589934592) (x:=q1-p1) (y:=x-p0) (by omega) (by omega)
 push_cast [abv,pv,pnt,zab,zaa]
 rw [show IntKind.i64.wrap (q0-p0)=q0-p0 from a5 (by omega),show IntKind.i64.wrap (y-p1)=y-p1 from a5 (by omega)]
 repeat refine And.intro (by first | decide | omega) ?_
 refine a6 (acg (q0-p0) (y-p1) (by unfold in64; omega) (by unfold in64; omega)) rfl trivial ?_
 push_cast [n8,zaa]
 rw [show IntKind.i64.wrap (q1-p1)=q1-p1 from a5 (by omega),show IntKind.i64.wrap (x-p0)=x-p0 from a5 (by omega)]
 repeat refine And.intro (by first | decide | omega) ?_
 refine a6 (acg (q1-p1) (x-p0) (by unfold in64; omega) (by unfold in64; omega)) rfl trivial ?_;have hc:crP p0 p1 q0 q1 x y=(q0-p0)*(y-p1)-(q1-p1)*(x-p0):=rfl;rw [hc];generalize (q0-p0)*(y-p1)=A at *;generalize (q1-p1)*(x-p0)=B at *
 push_cast [n8]
 refine b5 (as':=[n8 A,n8 B]) rfl ?_;refine a6 (a2p A B (by unfold amq; omega) (by unfold amq; omega)) rfl trivial ?_
 push_cast [n8]
 refine b6 (fun h=>?_) (fun h=>?_)
 ·simp at h
  push_cast
  rw [sg,if_pos (by omega)]
 ·simp at h
  push_cast
  refine b5 (as':=[n8 B,n8 A]) rfl ?_;refine a6 (a2p B A (by unfold amq; omega) (by unfold amq; omega)) rfl trivial ?_
  push_cast [n8]
  refine b6 (fun h'=>?_) (fun h'=>?_)
  ·simp at h'
   push_cast
   rw [sg,if_neg (by omega),if_pos (by omega)]
  ·simp at h'
   push_cast
   rw [sg,if_neg (by omega),if_neg (by omega)]
theorem ax7 (t:Til) (h:tis t=true):a8 P0 83 [t.v] [] (.tup [int .i64 (t.x*2^(30-t.z).toNat),int .i64 (t.y*2^(30-t.z).toNat),int .i64 (2^(30-t.z).toNat)]) []:=by
 refine ahs rfl (by decide) ?_;have hi:=yk h;have hz:0≤t.z∧t.z≤18:=by simp only [tis,decide_eq_true_eq] at h; omega
 have hs:=uf hz
 push_cast [abb,Til.v,zab]
 refine b5 (as':=[t.v]) rfl ?_;refine a6 (awe t) rfl trivial ?_;rw [h]
 push_cast
 rw [show IntKind.i64.wrap (30-t.z)=30-t.z from a5 (by omega)];refine a6 (ap5 (30-t.z) (by omega) (by omega)) rfl trivial ?_
 push_cast
 rw [zal,zap,zal,zap] at hi;rw [a5 (by omega),a5 (by omega)];exact ⟨by kernel_rfl,rfl⟩
theorem ax4 (t:Til) (ht:t.ok):a8 P0 20 [t.v] [] (int .i64 (if tis t then (if fine t then 14 else 0) else 1)) []:=by
 refine ahr rfl (by decide) ?_
 push_cast [aba,Til.v,zab]
 refine b5 (as':=[t.v]) rfl ?_;refine a6 (awe t) rfl trivial ?_;cases hti:tis t with
 | false=>push_cast
 | true=>
  push_cast
  refine b5 (as':=[t.v]) rfl ?_;refine a6 (a26 t ht) rfl trivial ?_;cases hf:fine t<;>push_cast

def zj:Mk P0 f94:={ x:=_ }
theorem agd:b8 94 3 zj:=b7 func94
def afh:Mk P0 f52:={ x:=_ }
theorem alr:b8 52 2 afh:=b7 func52
def bxC (lx ly ux uy:Int):List AV:=[int .i64 (3*lx),int .i64 (3*ly),int .i64 (3*ux),int .i64 (3*ly),int .i64 (3*ux),int .i64 (3*uy),int .i64 (3*lx),int .i64 (3*uy)]
theorem fu (lx ly ux uy:Int):n7 (bxC lx ly ux uy)=[]:=rfl
theorem jh (F:Ren) (lx ly ux uy:Int):imL F (bxC lx ly ux uy)=bxC lx ly ux uy:=rfl
theorem bgy (lx ly ux uy:Int):(bxC lx ly ux uy).length=8:=rfl
theorem bl5 (lx ly ux uy:Int) (k:Nat) (h:k<4):(bxC lx ly ux uy).getD (k*2) AV.undef=int .i64 (cnx (3*lx) (3*ux) k):=by
 rcases (show k=0∨k=1∨k=2∨k=3 by omega) with rfl | rfl | rfl | rfl<;>rfl
theorem bl4 (lx ly ux uy:Int) (k:Nat) (h:k<4):(bxC lx ly ux uy).getD (k*2+1) AV.undef=int .i64 (cny (3*ly) (3*uy) k):=by
 rcases (show k=0∨k=1∨k=2∨k=3 by omega) with rfl | rfl | rfl | rfl<;>rfl
theorem bam (z:Ei) (r i j l:Nat) (hr:r≤12) (hi:i<6) (hj:j=(i+1)%6) (hl:l=(i+3)%6):sg (crP (hx z r i) (hy z r i) (hx z r j) (hy z r j) (hx z r l) (hy z r l))=1:=by
 have h:=bls r i hr hi;have e:∀a b,hx z r a-hx z r b=kx r a-kx r b:=fun a b=>by rw [cg,cg]; omega
 have e':∀a b,hy z r a-hy z r b=ky r a-ky r b:=fun a b=>by rw [cd,cd]; omega
 rw [← hj,← hl] at h;rw [crP,e,e,e',e',sg,if_neg (by omega),if_pos h]
theorem bk1 (c:Int):((sg c != 0)&&(sg c != 1))=decide (c<0):=by
 unfold sg;by_cases h1:c<0
 ·rw [if_pos h1,decide_eq_true h1]; rfl
 ·rw [if_neg h1,decide_eq_false h1];by_cases h2:0<c
  ·rw [if_pos h2]; rfl
  ·rw [if_neg h2]; rfl
theorem a91 (D:Bool) (c:Int):(bif (bif D then sg c != 0 else false) then sg c != 1 else false)=(D&&decide (c<0)):=by
 rw [← bk1];cases D<;>cases (sg c != 0)<;>rfl
theorem bcu (p:Nat→Int) (k:Nat):decide (∀j,j<k+1→p j<0)=(decide (∀j,j<k→p j<0)&&decide (p k<0)):=by
 rw [Bool.eq_iff_iff];simp only [decide_eq_true_eq,Bool.and_eq_true];constructor
 ·intro h; exact ⟨fun j hj=>h j (by omega),h k (by omega)⟩
 ·rintro ⟨h1,h2⟩ j hj;by_cases hjk:j=k
  ·subst hjk; exact h2
  ·exact h1 j (by omega)
theorem a40 (z:Ei) (r:Int) (h0:0≤r) (hk:okc r.toNat z) (lx ly ux uy:Int) (hb:na z r.toNat) (h1:0≤lx∧lx≤ux∧ux≤1073741824) (h2:0≤ly∧ly≤uy∧uy≤1073741824) :
  a8 P0 94 [cel r z,pv lx ly,pv ux uy] [] (bl (mt z r.toNat (3*lx) (3*ly) (3*ux) (3*uy))) []:=by
 refine agd rfl (by decide) ?_;have hr:r.toNat≤12:=hk.1
 push_cast [zj,cel,pv,pnt,zab]
 refine b5 (as':=[cel r z]) rfl ?_;refine a6 (a7k r z h0 hk) rfl trivial ?_
 push_cast [zaa]
 repeat refine And.intro (by first | decide | exact fun _=>by decide | (simp +contextual; done) | kernel_rfl) ?_
 refine a6 (a7n lx ly (by unfold vz; omega) (by unfold vz; omega)) rfl trivial ?_
 push_cast [zaa]
 repeat refine And.intro (by first | decide | exact fun _=>by decide | (simp +contextual; done) | kernel_rfl) ?_
 refine a6 (a7n ux uy (by unfold vz; omega) (by unfold vz; omega)) rfl trivial ?_;have c1:decide (ux<lx)=false:=by simp; omega
 have c2:decide (uy<ly)=false:=by simp; omega
 push_cast [zaa,c1,c2]
 repeat refine And.intro (by first | decide | exact fun _=>by decide | (simp +contextual; done) | kernel_rfl) ?_
 refine b5 (as':=[z.v,int .i64 r]) rfl ?_;refine a6 (a7m z r hk.2.1 ⟨h0,by omega⟩) rfl trivial ?_
 push_cast [pnt,zaa]
 repeat refine And.intro (by first | decide | exact fun _=>by decide | (simp +contextual; done) | kernel_rfl) ?_
 rw [show IntKind.i64.wrap (3*lx)=3*lx from a5 (by omega),show IntKind.i64.wrap (3*ly)=3*ly from a5 (by omega),show IntKind.i64.wrap (3*ux)=3*ux from a5 (by omega),show IntKind.i64.wrap (3*uy)=3*uy from a5 (by omega)];generalize r.toNat=R at *
 refine run_loop [(9,false),(7,false),(4,false),(5,false),(8,false)] (fun vs pos los=>∃i:Int,(i=0∨(i=1∧¬(mxN (hx z R) 6<3*lx∨3*ux<mnN (hx z R) 6))∨(i=2∧¬sq z R (3*lx) (3*ly) (3*ux) (3*uy)))∧vs=[int .i64 i,.own 2000000 0 0 6,.ptr 2000001 0 0,.ptr 2000002 0 0,.ptr 2000003 0 0]∧pos=[] ∧
  los=[.row 2 (.agg [.v (.int .i64 0),.v (.int .i64 0)]) true true (ke z R 6),.box [int .i64 lx,int .i64 ly],.box [int .i64 ux,int .i64 uy],.box (bxC lx ly ux uy)])
  (fun vs _ _=>match vs with | .r (.v (.int _ j))::_=>(2-j).toNat | _=>0) rfl ?_ ?_
 ·push_cast
  exact ⟨0,by omega,rfl,rfl⟩
 ·rintro vs pos los ⟨i,hi | hi | hi,rfl,rfl,rfl⟩
  ·obtain rfl:=hi;have g0:decide ((0:Int)<2)=true:=rfl
   push_cast [g0,ji z R 6 0 (by decide),zaa]
   repeat refine And.intro (by first | decide | kernel_rfl) ?_
   refine run_loop [(12,false),(10,false),(11,false),(9,false),(7,false),(4,false),(5,false),(8,false)] (fun vs pos los=>∃k:Nat,k≤6∧vs=[int .i64 k,int .i64 (mnN (hx z R) k),int .i64 (mxN (hx z R) k),int .i64 0,.own 2000000 0 0 6,.ptr 2000001 0 0,.ptr 2000002 0 0,.ptr 2000003 0 0]∧pos=[] ∧
    los=[.row 2 (.agg [.v (.int .i64 0),.v (.int .i64 0)]) true true (ke z R 6),.box [int .i64 lx,int .i64 ly],.box [int .i64 ux,int .i64 uy],.box (bxC lx ly ux uy)])
    (fun vs _ _=>match vs with | .r (.v (.int _ j))::_=>(6-j).toNat | _=>0) rfl ?_ ?_
   ·push_cast [fu,jh]
    exact ⟨0,by omega,rfl⟩
   ·rintro vs pos los ⟨k,hk,rfl,rfl,rfl⟩
    push_cast
    refine b6 (fun h=>?_) (fun h=>?_)
    ·have hi:k<6:=by simp at h; omega
     push_cast [zaf,zad,ji z R 6 k hi,fu,jh,zaa]
     rw [show IntKind.i64.wrap ((k:Int)+1)=((k+1:Nat):Int) by rw [a5 (by omega)]; omega]
     repeat refine And.intro (by first | decide | omega | kernel_rfl) ?_
     exact ⟨⟨k+1,by omega,rfl⟩,by omega⟩
    ·have hi:k=6:=by simp at h; omega
     subst hi
     push_cast [zaa]
     rw [show IntKind.i64.wrap (3*lx)=3*lx from a5 (by omega),show IntKind.i64.wrap (3*ux)=3*ux from a5 (by omega)]
     repeat refine And.intro (by first | decide | exact fun _=>by decide | (simp +contextual; done) | kernel_rfl) ?_
     refine b6 (fun h=>?_) (fun h=>?_)
     ·have hbe:mxN (hx z R) 6<3*lx∨3*ux<mnN (hx z R) 6:=by simpa using h
      push_cast
      rw [apy (show sq z R (3*lx) (3*ly) (3*ux) (3*uy) from .inl hbe)]
     ·have hne:¬(mxN (hx z R) 6<3*lx∨3*ux<mnN (hx z R) 6):=by
       have:=h;simp at this;omega
      push_cast [fu,jh]
      exact ⟨⟨1,.inr (.inl ⟨rfl,hne⟩),rfl⟩,by decide⟩
  ·obtain ⟨rfl,hn⟩:=hi;have g0:decide ((1:Int)<2)=true:=rfl
   push_cast [g0,ji z R 6 0 (by decide),zaa]
   repeat refine And.intro (by first | decide | kernel_rfl) ?_
   refine run_loop [(12,false),(10,false),(11,false),(9,false),(7,false),(4,false),(5,false),(8,false)] (fun vs pos los=>∃k:Nat,k≤6∧vs=[int .i64 k,int .i64 (mnN (hy z R) k),int .i64 (mxN (hy z R) k),int .i64 1,.own 2000000 0 0 6,.ptr 2000001 0 0,.ptr 2000002 0 0,.ptr 2000003 0 0]∧pos=[] ∧
    los=[.row 2 (.agg [.v (.int .i64 0),.v (.int .i64 0)]) true true (ke z R 6),.box [int .i64 lx,int .i64 ly],.box [int .i64 ux,int .i64 uy],.box (bxC lx ly ux uy)])
    (fun vs _ _=>match vs with | .r (.v (.int _ j))::_=>(6-j).toNat | _=>0) rfl ?_ ?_
   ·push_cast [fu,jh]
    exact ⟨0,by omega,rfl⟩
   ·rintro vs pos los ⟨k,hk,rfl,rfl,rfl⟩
    push_cast
    refine b6 (fun h=>?_) (fun h=>?_)
    ·have hi:k<6:=by simp at h; omega
     push_cast [zaf,zad,ji z R 6 k hi,fu,jh,zaa]
     rw [show IntKind.i64.wrap ((k:Int)+1)=((k+1:Nat):Int) by rw [a5 (by omega)]; omega]
     repeat refine And.intro (by first | decide | omega | kernel_rfl) ?_
     exact ⟨⟨k+1,by omega,rfl⟩,by omega⟩
    ·have hi:k=6:=by simp at h; omega
     subst hi
     push_cast [zaa]
     rw [show IntKind.i64.wrap (3*ly)=3*ly from a5 (by omega),show IntKind.i64.wrap (3*uy)=3*uy from a5 (by omega)]
     repeat refine And.intro (by first | decide | exact fun _=>by decide | (simp +contextual; done) | kernel_rfl) ?_
     refine b6 (fun h=>?_) (fun h=>?_)
     ·have hbe:mxN (hy z R) 6<3*ly∨3*uy<mnN (hy z R) 6:=by simpa using h
      push_cast
      rw [apy (show sq z R (3*lx) (3*ly) (3*ux) (3*uy) from .inr hbe)]
     ·have hne:¬(mxN (hy z R) 6<3*ly∨3*uy<mnN (hy z R) 6):=by
       have:=h;simp at this;omega
      push_cast [fu,jh]
      exact ⟨⟨2,.inr (.inr ⟨rfl,fun hc=>hc.elim hn hne⟩),rfl⟩,by decide⟩
  ·obtain ⟨rfl,hn⟩:=hi;have g0:decide ((2:Int)<2)=false:=rfl
   push_cast [g0]
   refine run_loop [(13,false),(7,false),(8,false)] (fun vs pos los=>∃i:Nat,i≤6∧(∀j,j<i→¬ajr z R (3*lx) (3*ly) (3*ux) (3*uy) j)∧vs=[int .i64 i,.own 2000000 0 0 6,.ptr 2000001 0 0]∧pos=[] ∧
    los=[.row 2 (.agg [.v (.int .i64 0),.v (.int .i64 0)]) true true (ke z R 6),.box (bxC lx ly ux uy)])
    (fun vs _ _=>match vs with | .r (.v (.int _ j))::_=>(6-j).toNat | _=>0) rfl ?_ ?_
   ·push_cast [fu,jh]
    exact ⟨0,by omega,fun j hj=>by omega,rfl⟩
   ·rintro vs pos los ⟨i,i6,hj,rfl,rfl,rfl⟩
    push_cast
    refine b6 (fun h=>?_) (fun h=>?_)
    ·have hi:i<6:=by simp at h; omega
     obtain ⟨J,hJ⟩:∃J,J=(i+1)%6:=⟨_,rfl⟩
     have hJ6:J<6:=by omega
     obtain ⟨L,hL⟩:∃L,L=(i+3)%6:=⟨_,rfl⟩
     have hL6:L<6:=by omega
     have hm:(IntKind.i64.wrap ((i:Int)+1)).tmod 6=(J:Int):=by
      rw [a5 (by omega),zaw (by omega)]; omega
     have hm3:(IntKind.i64.wrap ((i:Int)+3)).tmod 6=(L:Int):=by
      rw [a5 (by omega),zaw (by omega)]; omega
     push_cast [hm,hm3,zaf,zad,ji z R 6 i hi,ji z R 6 J hJ6,ji z R 6 L hL6,fu,jh,zaa]
     repeat refine And.intro (by first | decide | omega | kernel_rfl) ?_
     refine i7 (as':=[pv (hx z R i) (hy z R i),pv (hx z R J) (hy z R J),int .i64 (hx z R L),int .i64 (hy z R L)]) rfl ?_;refine b9 (asl _ _ _ _ _ _ (hb i hi).1 (hb i hi).2 (hb J hJ6).1 (hb J hJ6).2 (hb L hL6).1 (hb L hL6).2) rfl trivial ?_;rw [show sg (crP (hx z R i) (hy z R i) (hx z R J) (hy z R J) (hx z R L) (hy z R L))=1 from bam z R i J L hr hi hJ hL]
     push_cast [fu,jh]
     repeat refine And.intro (by first | decide | omega | kernel_rfl) ?_
     refine run_loop [(18,false),(17,false),(16,false),(13,false),(7,false),(8,false),(14,false),(15,false)] (fun vs pos los=>∃k:Nat,k≤4∧vs=[int .i64 k,bl (decide (∀j,j<k→crP (hx z R i) (hy z R i) (hx z R J) (hy z R J) (cnx (3*lx) (3*ux) j) (cny (3*ly) (3*uy) j)<0)),int .i64 1,int .i64 i,.own 2000000 0 0 6,.ptr 2000001 0 0,.ptr 2000002 0 0,.ptr 2000003 0 0]∧pos=[] ∧
      los=[.row 2 (.agg [.v (.int .i64 0),.v (.int .i64 0)]) true true (ke z R 6),.box (bxC lx ly ux uy),.box [int .i64 (hx z R i),int .i64 (hy z R i)],.box [int .i64 (hx z R J),int .i64 (hy z R J)]])
      (fun vs _ _=>match vs with | .r (.v (.int _ j))::_=>(4-j).toNat | _=>0) rfl ?_ ?_
     ·push_cast [fu,jh]
      refine ⟨0,by omega,?_⟩;rw [decide_eq_true (show ∀j,j<0→crP (hx z R i) (hy z R i) (hx z R J) (hy z R J) (cnx (3*lx) (3*ux) j) (cny (3*ly) (3*uy) j)<0 from fun j hj=>by omega)]
      rfl
     ·rintro vs pos los ⟨k,hk4,rfl,rfl,rfl⟩
      push_cast
      refine b6 (fun h=>?_) (fun h=>?_)
      ·have hk:k<4:=by simp at h; omega
       push_cast [zaf,zad,Nat.add_zero,bgy,bl5 _ _ _ _ k hk,bl4 _ _ _ _ k hk,fu,jh,zaa]
       repeat refine And.intro (by first | decide | omega | kernel_rfl) ?_
       have hcx:ah (cnx (3*lx) (3*ux) k):=by unfold cnx ah; split<;>omega
       have hcy:ah (cny (3*ly) (3*uy) k):=by unfold cny ah; split<;>omega
       refine i7 (as':=[pv (hx z R i) (hy z R i),pv (hx z R J) (hy z R J),int .i64 (cnx (3*lx) (3*ux) k),int .i64 (cny (3*ly) (3*uy) k)]) rfl ?_;refine b9 (asl _ _ _ _ _ _ (hb i hi).1 (hb i hi).2 (hb J hJ6).1 (hb J hJ6).2 hcx hcy) rfl trivial ?_
       push_cast [fu,jh]
       repeat refine And.intro (by first | decide | omega | kernel_rfl) ?_
       rw [show IntKind.i64.wrap ((k:Int)+1)=((k+1:Nat):Int) by rw [a5 (by omega)]; omega]
       repeat refine And.intro (by first | decide | exact fun _=>by decide | (simp +contextual; done) | kernel_rfl) ?_
       refine ⟨⟨k+1,by omega,?_⟩,by omega⟩;rw [a91,bcu (fun j=>crP (hx z R i) (hy z R i) (hx z R J) (hy z R J) (cnx (3*lx) (3*ux) j) (cny (3*ly) (3*uy) j)) k]
      ·have hk:k=4:=by simp at h; omega
       subst hk
       push_cast
       have hio:=a0l z R i J (3*lx) (3*ly) (3*ux) (3*uy) hJ;refine b6 (fun h'=>?_) (fun h'=>?_)
       ·have ho:ajr z R (3*lx) (3*ly) (3*ux) (3*uy) i:=hio.1 (of_decide_eq_true h')
        push_cast
        have:mt z R (3*lx) (3*ly) (3*ux) (3*uy)=false:=by
         simp only [mt,hn,decide_false,zba,Bool.true_and];rw [List.all_eq_false];exact ⟨i,zbh.2 hi,by simp [ho]⟩
        rw [this]
       ·have ho:¬ajr z R (3*lx) (3*ly) (3*ux) (3*uy) i:=fun c=>by
         have:=hio.2 c;unfold asr at this;rw [decide_eq_true this] at h';cases h'
        push_cast [fu,jh]
        rw [show IntKind.i64.wrap ((i:Int)+1)=((i+1:Nat):Int) by rw [a5 (by omega)]; omega];refine ⟨⟨i+1,by omega,fun j hj'=>?_,rfl⟩,by omega⟩;by_cases hji:j=i
        ·subst hji; exact ho
        ·exact hj j (by omega)
    ·have hi:i=6:=by simp at h; omega
     subst hi
     push_cast
     have:mt z R (3*lx) (3*ly) (3*ux) (3*uy)=true:=by
      simp only [mt,hn,decide_false,zba,Bool.true_and,List.all_eq_true,zbh,Bool.not_eq_true',decide_eq_false_iff_not];exact hj
     rw [this]

theorem kj (r:Nat) (z:Ei) (h:okc r z):acx (s9 r z)=true∧u7 (s9 r z)=r∧o7 (s9 r z) r=z∧s9 r z<18446744073709551616:=by
 refine ⟨ayq h,(arz r z h).2,?_,ap2 r z h⟩;rw [a6j r r z h (zas _),Nat.sub_self]
 rfl
theorem aty {t:Til} (h:tis t=true):t.ok:=by
 have hb:0≤t.z∧t.z≤18∧0≤t.r∧t.r≤12∧0≤t.x∧t.x<2^t.z.toNat∧0≤t.y∧t.y<2^t.z.toNat:=by simpa [tis] using h
 have hp:=p2 t.z.toNat (by omega);unfold Til.ok in64;omega
theorem asm (r:Int) (z:Ei) (h0:0≤r) (hk:okc r.toNat z):a8 P0 82 [uw (s9 r.toNat z)] [] (.tup [cel r z,int .i64 0]) []:=by
 obtain ⟨w1,w2,w3,w4⟩:=kj r.toNat z hk;have h:=bfo (s9 r.toNat z) w4;rw [w1,w2,w3,Int.toNat_of_nonneg h0] at h;exact h
theorem bdk (t:Til) (h:tis t=true) (hf:fine t=false) (z:Ei) (hk:okc t.r.toNat z) (hb:na z t.r.toNat) :
  a8 P0 52 [t.v,uw (s9 t.r.toNat z)] [] (bl (tch z t.r.toNat (2^(30-t.z).toNat) t.x t.y)) []:=by
 refine alr rfl (by decide) ?_;have hi:=yk h;have hz:0≤t.z∧t.z≤18∧0≤t.r:=by simp only [tis,decide_eq_true_eq] at h; omega
 have hs:=uf ⟨hz.1,hz.2.1⟩;have ho:=aty h
 push_cast [afh,Til.v,uw,zab]
 refine b5 (as':=[uw (s9 t.r.toNat z)]) rfl ?_;refine a6 (asm t.r z hz.2.2 hk) rfl trivial ?_
 push_cast [cel]
 refine b5 (as':=[t.v]) rfl ?_;refine a6 (ax7 t h) rfl trivial ?_
 push_cast
 refine b5 (as':=[t.v]) rfl ?_;refine a6 (ax4 t ho) rfl trivial ?_;rw [h,hf];have e1:(t.r == t.r)=true:=by simp
 push_cast [e1]
 rw [zal,zap,zal,zap] at hi;have ex:IntKind.i64.wrap (t.x*2^(30-t.z).toNat+2^(30-t.z).toNat)=(t.x+1)*2^(30-t.z).toNat:=by rw [zal,zap]; exact a5 (by omega)
 have ey:IntKind.i64.wrap (t.y*2^(30-t.z).toNat+2^(30-t.z).toNat)=(t.y+1)*2^(30-t.z).toNat:=by rw [zal,zap]; exact a5 (by omega)
 rw [ex,ey]
 repeat refine And.intro (by first | decide | exact fun _=>by decide | (simp +contextual; done) | kernel_rfl) ?_
 refine b5 (as':=[cel t.r z,pv (t.x*2^(30-t.z).toNat) (t.y*2^(30-t.z).toNat),pv ((t.x+1)*2^(30-t.z).toNat) ((t.y+1)*2^(30-t.z).toNat)]) rfl ?_;refine a6 (a40 z t.r hz.2.2 hk _ _ _ _ hb (by rw [zal,zap]; omega) (by rw [zal,zap]; omega)) rfl trivial ?_
 push_cast
 repeat refine And.intro (by first | decide | exact fun _=>by decide | (simp +contextual; done) | kernel_rfl) ?_
 rfl
theorem oq {x y:Int} {z:Ei} {r:Nat} (hr:r≤12) (hw:inW x y) (h:wh x y z r):na z r:=fun i hi=>by
 have h1:=h.1;have h2:=as1 r i hr hi;unfold inW at hw;rw [cg,cd];omega
structure TilF (x y:Int) (t:Til) (Z:Ei) (s last:Int):Prop where
 b:0≤t.z∧t.z≤18∧0≤t.r∧t.r≤12
 w:inW x y
 k:okc t.r.toNat Z
 l:wh x y Z t.r.toNat
 h:na Z t.r.toNat
 s1:4096≤s∧s≤1073741824
 l1:0≤last∧last≤262143
 same:bmh Z t.r.toNat s last=bde Z t.r.toNat s last
 own:(t.x,t.y)∈bde Z t.r.toNat s last

section
variable (X Y A B C:Nat→Int)
variable {X Y A B C}
end

def eA (r i:Nat):Int:=kx r ((i+1)%6)-kx r i
def eB (r i:Nat):Int:=ky r ((i+1)%6)-ky r i
def eC (z:Ei) (r i:Nat):Int:=eA r i*hy z r i-eB r i*hx z r i

def ag8:Mk P0 f120:={ x:=_ }
theorem amu:b8 120 2 ag8:=b7 func120
def anl:Mk P0 f70:={ x:=_ }
theorem aqw:b8 70 1 anl:=b7 func70
theorem blz (w i:Nat) (hw:w<18446744073709551616) (hi:1≤i∧i≤12):a8 P0 120 [uw w,int .i64 i] [] (uw (dgt w i)) []:=by
 refine amu rfl (by decide) ?_;have w1:IntKind.i64.wrap ((i:Int)-1)=(i:Int)-1:=a5 (by omega);have w2:IntKind.i64.wrap (3*((i:Int)-1))=3*((i:Int)-1):=a5 (by omega);have w3:IntKind.i64.wrap (33-3*((i:Int)-1))=36-3*(i:Int):=by rw [a5 (by omega)]; omega
 have w4:IntKind.u64.wrap (36-3*(i:Int))=36-3*(i:Int):=by simp [IntKind.wrap,IntKind.bits,IntKind.signed]; omega
 have e5:IntKind.u64.wrap (zae IntKind.u64.bits ((w:Int).fdiv (2^min (36-3*(i:Int)).toNat IntKind.u64.bits)) &&& zae IntKind.u64.bits 7).toNat=(dgt w i:Int):=by
  rw [yo (k:=36-3*i) (n:=3) (by omega) (by omega) (by decide) (by decide) hw];rw [show 2^(36-3*i)=8^(12-i) by rw [show (8:Nat)=2^3 from rfl,← Nat.pow_mul]; congr 1; omega]
  rfl
 push_cast [ag8,uw,w1,w2,w3,w4,e5,zab]
 omega
set_option maxHeartbeats 1000000 in
theorem aw5 (w:Nat) (hw:w<18446744073709551616) (hB:acx w=true):a8 P0 70 [uw w] [] (.tup [cel (u7 w) (o7 w (u7 w)),int .i64 0]) []:=by
 refine aqw rfl (by decide) ?_;obtain ⟨m1,m2,m3⟩:=(amp w).1 hB
 have e1:(w:Int).fdiv (2^min (zaj 60) IntKind.u64.bits)=1:=by
  have:(w:Int).fdiv (2^min (zaj 60) IntKind.u64.bits)=((w/1152921504606846976:Nat):Int):=ban (k:=60) rfl (by decide);rw [this,m1]; rfl
 have e2:IntKind.i64.wrap (IntKind.u64.wrap (zae IntKind.u64.bits ((w:Int).fdiv (2^min (zaj 56) IntKind.u64.bits)) &&& zae IntKind.u64.bits 15).toNat)=(u7 w:Int):=by
  rw [yo (k:=56) (n:=4) rfl (by decide) (by decide) (by decide) hw];exact a5 (by omega)
 have e3:IntKind.i64.wrap (IntKind.i64.wrap (IntKind.u64.wrap (zae IntKind.u64.bits ((w:Int).fdiv (2^min (zaj 46) IntKind.u64.bits)) &&& zae IntKind.u64.bits 1023).toNat)-512)=(o7 w 0).a:=by
  rw [yo (k:=46) (n:=10) rfl (by decide) (by decide) (by decide) hw,show ∀x:Nat,x<1024→IntKind.i64.wrap (IntKind.i64.wrap (x:Int)-512)=x-512 from fun x hx=>by rw [a5 (x:=(x:Int)) (by omega),a5 (by omega)]]
  ·rfl
  ·omega
 have e4:IntKind.i64.wrap (IntKind.i64.wrap (IntKind.u64.wrap (zae IntKind.u64.bits ((w:Int).fdiv (2^min (zaj 36) IntKind.u64.bits)) &&& zae IntKind.u64.bits 1023).toNat)-512)=(o7 w 0).b:=by
  rw [yo (k:=36) (n:=10) rfl (by decide) (by decide) (by decide) hw,show ∀x:Nat,x<1024→IntKind.i64.wrap (IntKind.i64.wrap (x:Int)-512)=x-512 from fun x hx=>by rw [a5 (x:=(x:Int)) (by omega),a5 (by omega)]]
  ·rfl
  ·omega
 have g1:((1:Int) != 1)=false:=rfl;have g2:decide ((u7 w:Int)>12)=false:=by simp; omega
 simp only [anl,uw,e1,e2,e3,e4,g1,g2,push_cast,↓reduceIte,reduceCtorEq,zE,zA,zD]
 repeat refine And.intro (by first | decide | omega | exact fun _=>by decide | (simp +contextual; done) | kernel_rfl) ?_
 clear e1 e2 e3 e4
 refine run_loop [(6,false),(0,false),(4,false),(5,false),(2,false)] (fun vs pos los=>∃i:Nat,(1≤i∧i≤13)∧vs=[int .i64 i,int .u64 w,int .i64 (u7 w),.ptr 2000000 0 0,.ptr 2000001 0 0]∧pos=[]∧los=[.box [int .i64 (min (i-1) (u7 w):Nat),int .i64 (o7 w (min (i-1) (u7 w))).a,int .i64 (o7 w (min (i-1) (u7 w))).b],.box [int .i64 0,int .i64 0,int .i64 0]])
  (fun vs _ _=>match vs with | .r (.v (.int _ j))::_=>(13-j).toNat | _=>0) rfl ?_ ?_
 ·simp only [push_cast,↓reduceIte,reduceCtorEq,zB,zE,zA,zL,zD];refine ⟨1,by omega,rfl,?_⟩;rw [show min (1-1) (u7 w)=0 by omega]
  rfl
 ·rintro vs pos los ⟨i,i6,rfl,rfl,rfl⟩;obtain ⟨mi,hmi⟩:∃mi,min (i-1) (u7 w)=mi:=⟨_,rfl⟩
  rw [hmi];simp only [push_cast,↓reduceIte,zA];refine b6 (fun hi=>?_) (fun hi=>?_)
  ·have hi:i≤12:=by simp at hi; omega
   have hD8:dgt w i<8:=zav _ (by decide);have wi:IntKind.i64.wrap ((i:Int)+1)=(i:Int)+1:=a5 (by omega);simp only [push_cast,↓reduceIte,reduceCtorEq,zE];refine b5 (as':=[uw w,int .i64 i]) rfl ?_;refine a6 (blz w i hw ⟨i6.1,hi⟩) rfl trivial ?_;by_cases hc:u7 w<i
   ·have hd7:=(m3 i i6.1 hi).2 hc;have f1:(((7:Nat):Int) == 7)=true:=rfl;have f1':((7:Int) == 7)=true:=rfl;have f2:decide ((i:Int)>(u7 w:Int))=true:=by simp; omega
    have f3:(true != true)=false:=rfl;rw [hd7];simp only [uw,f1',f2,wi,push_cast,↓reduceIte,reduceCtorEq,zB,zE,zA,zL,zD];refine ⟨⟨i+1,by omega,rfl,?_⟩,by omega⟩;rw [show min (i+1-1) (u7 w)=mi by omega]
   ·have hd7:dgt w i≠7:=fun e=>hc ((m3 i i6.1 hi).1 e);obtain rfl:mi=i-1:=by omega
    have f1:((dgt w i:Int) == 7)=false:=by simp; omega
    have f2:decide ((i:Int)>(u7 w:Int))=false:=by simp; omega
    have f3:(false != false)=false:=rfl;have hz:=aqg w (i-1) (by omega);have hz2:=aqg w i hi;have hzm:((o7 w (i-1)).mul y9).In 10000000000000:=(sa hz (show y9.In 2 by unfold Ei.In; decide)).mono (by decide)
    have hdn:o7 w i=rf (o7 w (i-1)) (dgt w i):=by
     conv=>lhs; rw [show i=i-1+1 by omega]
     rw [o7,show i-1+1=i by omega]
    simp only [uw,f1,f2,push_cast,↓reduceIte,reduceCtorEq,zE,zA,zD];refine b5 (as':=[(o7 w (i-1)).v,y9.v]) rfl ?_;refine a6 (ahd _ _ (hz.mono (by decide)) (show y9.In _ by unfold Ei.In; decide) (hzm.mono (by decide))) rfl trivial ?_;simp only [Ei.v,Ei.rv,push_cast,↓reduceIte,zE,zA,zL,zD];refine b6 (fun hp=>?_) (fun hp=>?_)
    ·have hp':0<dgt w i:=by simp at hp; omega
     have wd:IntKind.i64.wrap (dgt w i:Int)=(dgt w i:Int):=a5 (by omega);have wd1:IntKind.i64.wrap ((dgt w i:Int)-1)=(dgt w i:Int)-1:=a5 (by omega)
     have hch:rf (o7 w (i-1)) (dgt w i)=((o7 w (i-1)).mul y9).add (uni (dgt w i-1)):=by
      unfold rf;rw [if_neg (by omega)]
     rw [hch] at hdn;simp only [wd,wd1,push_cast,↓reduceIte,zE,zA,zD];refine b9 (a35 ((dgt w i:Int)-1) (by omega)) rfl trivial ?_;rw [show ((dgt w i:Int)-1).toNat=dgt w i-1 by omega];have hu:(uni (dgt w i-1)).In 1:=by unfold uni; split<;>unfold Ei.In<;>decide
     simp only [Ei.v,Ei.rv,push_cast,↓reduceIte,zE];refine i7 (as':=[((o7 w (i-1)).mul y9).v,(uni (dgt w i-1)).v]) rfl ?_;refine b9 (a9c _ _ (hzm.mono (by decide)) (hu.mono (by decide)) (by rw [← hdn]; exact hz2.mono (by decide))) rfl trivial ?_;rw [← hdn];simp only [wi,Ei.v,Ei.rv,push_cast,↓reduceIte,reduceCtorEq,zB,zE,zA,zL,zD]
     repeat refine And.intro (by first | decide | omega | exact fun _=>by decide | (simp +contextual; done) | kernel_rfl) ?_
     refine ⟨⟨i+1,by omega,rfl,?_⟩,by omega⟩;rw [show min (i+1-1) (u7 w)=i by omega]
    ·have hp':dgt w i=0:=by simp at hp; omega
     have hch:rf (o7 w (i-1)) (dgt w i)=(o7 w (i-1)).mul y9:=by
      unfold rf;rw [if_pos (by omega)]
     rw [hch] at hdn;simp only [wi,push_cast,↓reduceIte,reduceCtorEq,zB,zE,zA,zL,zD];refine ⟨⟨i+1,by omega,rfl,?_⟩,by omega⟩;rw [show min (i+1-1) (u7 w)=i by omega,hdn]
  ·have hi:i=13:=by simp at hi; omega
   subst hi;obtain rfl:mi=u7 w:=by omega
   simp only [cel,push_cast,↓reduceIte,reduceCtorEq,zE,zA,zD]

def ad7:Mk P0 f216:={ x:=_ }
theorem aj3:b8 216 2 ad7:=b7 func216
def aa5:Mk P0 f217:={ x:=_ }
theorem ahn:b8 217 3 aa5:=b7 func217
def sk:Mk P0 f218:={ x:=_ }
theorem aj4:b8 218 3 sk:=b7 func218
abbrev P2:=Int×Int
def pv2 (p:P2):AV:=.r (pnt p.1 p.2)
structure Lin where
 axis:Int
 at':Int
 above:Bool
def Lin.v (l:Lin):AV:=.r (.agg [.v (.int .i64 l.axis),.v (.int .i64 l.at'),.v (.bool l.above)])
def Lin.ok (l:Lin):Prop:=l.axis=0∨l.axis=1
def sel (a:Int) (p:P2):Int:=if a=0 then p.1 else p.2
def bg (l:Lin) (p:P2):Bool:=if l.above then decide (sel l.axis p≥l.at') else decide (sel l.axis p≤l.at')
def fi (l:Lin) (p q:P2):Bool:=(decide (sel l.axis p<l.at')&&decide (l.at'<sel l.axis q))||(decide (sel l.axis q<l.at')&&decide (l.at'<sel l.axis p))
def t9 (l:Lin) (p q:P2):P2:=
 let d:=sel l.axis q-sel l.axis p
 let e:=(sel (1-l.axis) q-sel (1-l.axis) p)*(l.at'-sel l.axis p)
 let n:=if d<0 then (-e)/(-d) else if 0<d then e/d else 0
 if l.axis=0 then (l.at',p.2+n) else (p.1+n,l.at')
theorem agb (a b c d:Bool):(bif bif a then b else false then true else bif c then d else false)=(a&&b||c&&d):=by cases a<;>cases b<;>cases c<;>cases d<;>rfl
theorem a3q (l:Lin) (hl:l.ok) (p:P2):a8 P0 216 [l.v,pv2 p] [] (bl (bg l p)) []:=by
 refine aj3 rfl (by decide) ?_;obtain ⟨a,c,b⟩:=l;have d:decide ((0:Nat)<2)=true:=rfl;rcases hl with rfl | rfl<;>cases b<;>push_cast [ad7,Lin.v,pv2,pnt,bg,sel,zah,zaa,Int.reduceEq,zad,if_true,if_false,zbb,zab]
 all_goals (repeat refine And.intro (by first | decide | omega | exact fun _=>by decide | (simp +contextual; done) | kernel_rfl) ?_)
 all_goals first | done | kernel_rfl | rfl
theorem ay8 (l:Lin) (hl:l.ok) (p q:P2):a8 P0 217 [l.v,pv2 p,pv2 q] [] (bl (fi l p q)) []:=by
 refine ahn rfl (by decide) ?_;obtain ⟨a,c,b⟩:=l;rcases hl with rfl | rfl<;>push_cast [aa5,Lin.v,pv2,pnt,fi,sel,zah,zaa,Int.reduceEq,zad,if_true,if_false,zbb,zab]
 all_goals (repeat refine And.intro (by first | decide | omega | exact fun _=>by decide | (simp +contextual; done) | kernel_rfl) ?_)
 all_goals exact ⟨fun h=>by rw [h]; rfl,by rw [agb]⟩
set_option maxHeartbeats 1000000 in
theorem a4a (l:Lin) (hl:l.ok) (p q:P2) (hc:-9007199254740992≤l.at'∧l.at'≤9007199254740992) (hp:(-1099511627776≤p.1∧p.1≤1099511627776)∧(-1099511627776≤p.2∧p.2≤1099511627776))
  (hq:(-1073741824≤q.1-p.1∧q.1-p.1≤1073741824)∧(-1073741824≤q.2-p.2∧q.2-p.2≤1073741824)) (hb:fi l p q=true) :
  a8 P0 218 [l.v,pv2 p,pv2 q] [] (pv2 (t9 l p q)) []:=by
 refine aj4 rfl (by decide) ?_;obtain ⟨a,c,b⟩:=l;obtain ⟨px,py⟩:=p;obtain ⟨qx,qy⟩:=q;simp only at hc hp hq;rcases hl with h | h<;>simp only at h<;>subst h
 ·have hbt:(px<c∧c<qx)∨(qx<c∧c<px):=by simpa [fi,sel] using hb
  have w1:IntKind.i64.wrap (1-0)=1:=rfl;obtain ⟨d,hD⟩:∃d,qx-px=d:=⟨_,rfl⟩
  have w2:IntKind.i64.wrap (qx-px)=d:=by rw [a5 (by omega)]; exact hD
  have w3:IntKind.i64.wrap (qy-py)=qy-py:=a5 (by omega);have w4:IntKind.i64.wrap (c-px)=c-px:=a5 (by omega);have hm:=bf (x:=qy-py) (y:=c-px) (n:=1073741824) (m:=1073741824) (by omega) (by omega);obtain ⟨e,hE⟩:∃e,(qy-py)*(c-px)=e:=⟨_,rfl⟩
  rw [hE] at hm;have w5:IntKind.i64.wrap ((qy-py)*(c-px))=e:=by rw [hE]; exact a5 (by omega)
  have hcr:t9 ⟨0,c,b⟩ (px,py) (qx,qy)=(c,py+(if qx-px<0 then (-((qy-py)*(c-px)))/(-(qx-px)) else if 0<qx-px then ((qy-py)*(c-px))/(qx-px) else 0)):=rfl;rw [hcr,hE,hD];have wn:IntKind.i64.wrap (0-e)=-e:=by rw [a5 (by omega)]; omega
  have wd:IntKind.i64.wrap (0-d)=-d:=by rw [a5 (by omega)]; omega
  simp only [sk,Lin.v,pv2,pnt,w1,w2,w3,w4,w5,zah,zaa,zad,push_cast,↓reduceIte,reduceCtorEq,zE,zA,zL,zM]
  repeat refine And.intro (by first | decide | omega | exact fun _=>by decide | (simp +contextual; done) | kernel_rfl) ?_
  refine b6 (fun hn=>?_) (fun hn=>?_)
  ·have hn':d<0:=by simpa using hn
   have hf:=qn (-e) (-d) (by unfold in64; omega) (by unfold in64; omega);rw [if_pos (by omega),if_pos (by omega)] at hf;rw [if_pos hn'];have hb1:=zbl (-e) (-d);have w6:IntKind.i64.wrap (py+(-e)/(-d))=py+(-e)/(-d):=a5 (by omega);simp only [wn,wd,push_cast,↓reduceIte,zE];refine a6 hf rfl trivial ?_;simp only [w6,zah,zaa,zad,push_cast,↓reduceIte,zE,zA,zL,zD,zM]
   repeat refine And.intro (by first | decide | omega | exact fun _=>by decide | (simp +contextual; done) | kernel_rfl) ?_
   first | done | rfl | kernel_rfl
  ·have hn':¬d<0:=by simpa using hn
   have hd0:0<d:=by omega
   have hf:=qn e d (by unfold in64; omega) (by unfold in64; omega);rw [if_pos hd0,if_pos hd0] at hf;rw [if_neg hn',if_pos hd0];have hb1:=zbl e d;have w6:IntKind.i64.wrap (py+e/d)=py+e/d:=a5 (by omega);simp only [push_cast,↓reduceIte,zE];refine a6 hf rfl trivial ?_;simp only [w6,zah,zaa,zad,push_cast,↓reduceIte,zE,zA,zL,zD,zM]
   repeat refine And.intro (by first | decide | omega | exact fun _=>by decide | (simp +contextual; done) | kernel_rfl) ?_
   first | done | rfl | kernel_rfl
 ·have hbt:(py<c∧c<qy)∨(qy<c∧c<py):=by simpa [fi,sel] using hb
  have w1:IntKind.i64.wrap (1-1)=0:=rfl;obtain ⟨d,hD⟩:∃d,qy-py=d:=⟨_,rfl⟩
  have w2:IntKind.i64.wrap (qy-py)=d:=by rw [a5 (by omega)]; exact hD
  have w3:IntKind.i64.wrap (qx-px)=qx-px:=a5 (by omega);have w4:IntKind.i64.wrap (c-py)=c-py:=a5 (by omega);have hm:=bf (x:=qx-px) (y:=c-py) (n:=1073741824) (m:=1073741824) (by omega) (by omega);obtain ⟨e,hE⟩:∃e,(qx-px)*(c-py)=e:=⟨_,rfl⟩
  rw [hE] at hm;have w5:IntKind.i64.wrap ((qx-px)*(c-py))=e:=by rw [hE]; exact a5 (by omega)
  have hcr:t9 ⟨1,c,b⟩ (px,py) (qx,qy)=(px+(if qy-py<0 then (-((qx-px)*(c-py)))/(-(qy-py)) else if 0<qy-py then ((qx-px)*(c-py))/(qy-py) else 0),c):=rfl;rw [hcr,hE,hD];have wn:IntKind.i64.wrap (0-e)=-e:=by rw [a5 (by omega)]; omega
  have wd:IntKind.i64.wrap (0-d)=-d:=by rw [a5 (by omega)]; omega
  simp only [sk,Lin.v,pv2,pnt,w1,w2,w3,w4,w5,zah,zaa,zad,push_cast,↓reduceIte,reduceCtorEq,zE,zA,zL,zM]
  repeat refine And.intro (by first | decide | omega | exact fun _=>by decide | (simp +contextual; done) | kernel_rfl) ?_
  refine b6 (fun hn=>?_) (fun hn=>?_)
  ·have hn':d<0:=by simpa using hn
   have hf:=qn (-e) (-d) (by unfold in64; omega) (by unfold in64; omega);rw [if_pos (by omega),if_pos (by omega)] at hf;rw [if_pos hn'];have hb1:=zbl (-e) (-d);have w6:IntKind.i64.wrap (px+(-e)/(-d))=px+(-e)/(-d):=a5 (by omega);simp only [wn,wd,push_cast,↓reduceIte,zE];refine a6 hf rfl trivial ?_;simp only [w6,zah,zaa,zad,push_cast,↓reduceIte,zE,zA,zL,zD,zM]
   repeat refine And.intro (by first | decide | omega | exact fun _=>by decide | (simp +contextual; done) | kernel_rfl) ?_
   first | done | rfl | kernel_rfl
  ·have hn':¬d<0:=by simpa using hn
   have hd0:0<d:=by omega
   have hf:=qn e d (by unfold in64; omega) (by unfold in64; omega);rw [if_pos hd0,if_pos hd0] at hf;rw [if_neg hn',if_pos hd0];have hb1:=zbl e d;have w6:IntKind.i64.wrap (px+e/d)=px+e/d:=a5 (by omega);simp only [push_cast,↓reduceIte,zE];refine a6 hf rfl trivial ?_;simp only [w6,zah,zaa,zad,push_cast,↓reduceIte,zE,zA,zL,zD,zM]
   repeat refine And.intro (by first | decide | omega | exact fun _=>by decide | (simp +contextual; done) | kernel_rfl) ?_
   first | done | rfl | kernel_rfl

def avr:Mk P0 f134:={ x:=_ }
theorem axg:b8 134 1 avr:=b7 func134
def ahm:Mk P0 f180:={ x:=_ }
theorem am5:b8 180 2 ahm:=b7 func180
def ptR (p:P2):RV:=pnt p.1 p.2
def a9 (l:List P2):AV:=.r (.sl 2 (l.map ptR))
def RgOk (l:List P2):Prop:=l.length≤100∧(∀p∈l,(-1099511627776≤p.1∧p.1≤1099511627776)∧(-1099511627776≤p.2∧p.2≤1099511627776)) ∧
 ∀p∈l,∀q∈l,(-1073741824≤q.1-p.1∧q.1-p.1≤1073741824)∧(-1073741824≤q.2-p.2∧q.2-p.2≤1073741824)
theorem dw {l:List P2} {i:Nat} {p:P2} (h:l[i]?=some p) (z:RV):(l.map ptR).getD ((i:Int)).toNat z=.agg [.v (.int .i64 p.1),.v (.int .i64 p.2)]:=by
 simp [List.getD,h,ptR,pnt]
theorem cw {l:List P2} {i:Nat} {p:P2} (h:l[i]?=some p) (z:RV):(l.map ptR).getD (0+((i:Int)).toNat) z=.agg [.v (.int .i64 p.1),.v (.int .i64 p.2)]:=by rw [zad]; exact dw h z
set_option maxHeartbeats 2000000 in
theorem bdc (l:List P2) (h:RgOk l):a8 P0 134 [a9 l] [] (bl true) []:=by
 obtain ⟨h1,h2,h3⟩:=h;refine axg rfl (by decide) ?_;have e1:decide ((l.length:Int)>100)=false:=by simp; omega
 push_cast [avr,a9,zac,e1,zab]
 refine run_loop [(11,false),(0,false)] (fun vs pos los=>∃a:Nat,a≤2∧vs=[int .i64 a,a9 l]∧pos=[]∧los=[])
  (fun vs _ _=>match vs with | .r (.v (.int _ a))::_=>(2-a).toNat | _=>0) rfl ?_ ?_
 ·push_cast [a9]
  exact ⟨0,by omega,rfl⟩
 ·rintro vs pos los ⟨a,ha,rfl,rfl,rfl⟩
  push_cast [a9,zac]
  refine b6 (fun hc=>?_) (fun hc=>?_)
  ·have ha2:a<2:=by simp at hc; omega
   have wa:IntKind.i64.wrap ((a:Int)+1)=(a:Int)+1:=a5 (by omega)
   push_cast [a9,zac]
   refine run_loop [(16,false),(14,false),(15,false),(3,false),(11,false),(0,false)] (fun vs pos los=>∃k:Nat,k≤l.length∧vs=[int .i64 k,a9 l,int .i64 l.length,int .i64 a,int .i64 a,a9 l]∧pos=[]∧los=[])
    (fun vs _ _=>match vs with | .r (.v (.int _ a))::_=>(l.length-a).toNat | _=>0) rfl ?_ ?_
   ·push_cast [a9]
    exact ⟨0,by omega,rfl⟩
   ·rintro vs pos los ⟨k,hk,rfl,rfl,rfl⟩
    push_cast [a9,zac]
    refine b6 (fun hd=>?_) (fun hd=>?_)
    ·have hk2:k<l.length:=by simpa using hd
     obtain ⟨p,hp⟩:∃p,l[k]?=some p:=⟨l[k],by simp [hk2]⟩
     have hpm:=zam hp;have hpb:=h2 p hpm;have wk:IntKind.i64.wrap ((k:Int)+1)=(k:Int)+1:=a5 (by omega)
     have hsp:∀(x y:Int) (z:AV),[AV.r (.v (.int .i64 x)),AV.r (.v (.int .i64 y))].getD (0+((a:Int)).toNat*1) z=.r (.v (.int .i64 (if a=0 then x else y))):=fun x y z=>by
      rcases (show a=0∨a=1 by omega) with rfl | rfl<;>rfl
     have hsp1:∀(x y:Int) (z:AV),[AV.r (.v (.int .i64 x)),AV.r (.v (.int .i64 y))].getD ((a:Int)).toNat z=.r (.v (.int .i64 (if a=0 then x else y))):=fun x y z=>by
      rcases (show a=0∨a=1 by omega) with rfl | rfl<;>rfl
     obtain ⟨P,hP⟩:∃P,(if a=0 then p.1 else p.2)=P:=⟨_,rfl⟩
     have hPb:-1099511627776≤P∧P≤1099511627776:=by rw [← hP]; split; exact hpb.1; exact hpb.2
     have d1:decide (P < -1099511627776)=false:=by simp; omega
     have d2:decide (P>1099511627776)=false:=by simp; omega
     have wz:((k:Int)-0).toNat=k:=by omega
     push_cast [a9,zac,dw hp,cw hp,hsp,hsp1,hP,d1,d2]
     repeat refine And.intro (by first | decide | omega | exact fun _=>by decide | (simp +contextual; done) | kernel_rfl) ?_
     refine run_loop [(35,false),(33,false),(34,false),(5,false),(16,false),(14,false),(15,false),(3,false),(11,false),(0,false)] (fun vs pos los=>∃j:Nat,j≤k∧vs=[int .i64 j,a9 (l.take k),int .i64 k,.ptr 2000000 0 0,int .i64 k,a9 l,int .i64 l.length,int .i64 a,int .i64 a,a9 l]∧pos=[]∧los=[.box [int .i64 p.1,int .i64 p.2]])
      (fun vs _ _=>match vs with | .r (.v (.int _ a))::_=>(k-a).toNat | _=>0) rfl ?_ ?_
     ·push_cast [a9,List.length_take,zac,List.map_take,zaf,zah,List.drop_zero,zbg (Nat.le_of_lt hk2)]
      exact ⟨0,by omega,by simp⟩
     ·rintro vs pos los ⟨j,hj,rfl,rfl,rfl⟩
      push_cast [a9,zac]
      refine b6 (fun he=>?_) (fun he=>?_)
      ·have hj2:j<k:=by simpa using he
       have hjl:j<(l.take k).length:=by simp; omega
       obtain ⟨q,hq⟩:∃q,(l.take k)[j]?=some q:=⟨(l.take k)[j],by simp [hj2,show j<l.length by omega]⟩
       have hqm:=List.mem_of_mem_take (zam hq);have hpq:=h3 p hpm q hqm;have wj:IntKind.i64.wrap ((j:Int)+1)=(j:Int)+1:=a5 (by omega);obtain ⟨Q,hQ⟩:∃Q,(if a=0 then q.1 else q.2)=Q:=⟨_,rfl⟩
       have hQb:-1073741824≤Q-P∧Q-P≤1073741824:=by rw [← hQ,← hP]; split; exact hpq.1; exact hpq.2
       have u1:IntKind.i64.wrap (P-Q)=P-Q:=a5 (by omega);have u2:IntKind.i64.wrap (Q-P)=Q-P:=a5 (by omega);have d3:decide (P-Q>1073741824)=false:=by simp; omega
       have d4:decide (Q-P>1073741824)=false:=by simp; omega
       push_cast [a9,zac,List.length_take,zbg (Nat.le_of_lt hk2),dw hq,cw hq,hsp,hsp1,hP,hQ,u1,u2,d3,d4,wj]
       repeat refine And.intro (by first | decide | omega | exact fun _=>by decide | (simp +contextual; done) | kernel_rfl) ?_
       exact ⟨⟨j+1,by omega,by simp⟩,by omega⟩
      ·push_cast [a9,zac,wk]
       exact ⟨⟨k+1,by omega,by simp⟩,by omega⟩
    ·push_cast [a9,zac,wa]
     exact ⟨⟨a+1,by omega,rfl⟩,by omega⟩
  ·push_cast [a9,zac]

def z6 (l:Lin) (p q:P2):List P2:=(if bg l p then [p] else [])++(if fi l p q then [t9 l p q] else [])
def ngh (rg:List P2) (i:Nat):P2:=rg.getD ((i+1)%rg.length) (0,0)
def i8 (l:Lin) (rg:List P2):Nat→List P2
 | 0=>[]
 | i+1=>i8 l rg i++z6 l (rg.getD i (0,0)) (ngh rg i)
def u9 (l:Lin) (rg:List P2):List P2:=i8 l rg rg.length
theorem ac2 (l:Lin) (rg:List P2):∀i,(i8 l rg i).length≤2*i
 | 0=>by simp [i8]
 | i+1=>by
  have:=ac2 l rg i;rw [i8,zaq];unfold z6;rw [zaq];split<;>split<;>simp<;>omega
abbrev d6 (o:List P2):Ob:=.row 2 (pnt 0 0) true true (o.map ptR)
theorem d5 (o:List P2):List.take o.length (o.map ptR)=o.map ptR:=zbp (by simp)
set_option maxHeartbeats 4000000 in
theorem cut_t (l : Lin) (hl : l.ok) (hc : -9007199254740992 ≤ l.at' ∧ l.at' ≤ 9007199254740992) (rg : List P2) (h : RgOk rg) {res : AV} {ro : List Ob}
    (hres:(u9 l rg=[]∧res=.nils 2 (pnt 0 0)∧ro=[])∨(u9 l rg≠[]∧res=.own 1000000 0 0 (u9 l rg).length∧ro=[d6 (u9 l rg)])) :
    a8 P0 180 [l.v,a9 rg] [] res ro:=by
  obtain ⟨h1,h2,h3⟩:=h;refine am5 rfl (by decide) ?_;have hmx:=d7
  push_cast [ahm,a9,Lin.v,zac,zab]
  refine run_loop [(11, false), (9, false), (10, false), (2, false), (1, false), (5, false)] (fun vs pos los => ∃ i : Nat, i ≤ rg.length ∧ pos = [] ∧
      (i8 l rg i=[]∧vs=[int .i64 i,a9 rg,int .i64 rg.length,.ptr 2000000 0 0,a9 rg,.nils 2 (pnt 0 0)]∧los=[.box [int .i64 l.axis,int .i64 l.at',bl l.above]] ∨
       i8 l rg i≠[]∧vs=[int .i64 i,a9 rg,int .i64 rg.length,.ptr 2000000 0 0,a9 rg,.own 2000001 0 0 (i8 l rg i).length]∧los=[.box [int .i64 l.axis,int .i64 l.at',bl l.above],d6 (i8 l rg i)]))
    (fun vs _ _=>match vs with | .r (.v (.int _ a))::_=>(rg.length-a).toNat | _=>0) rfl ?_ ?_
  · push_cast [a9,pnt]
    exact ⟨0,by omega,.inl ⟨rfl,by simp⟩⟩
  · rintro vs pos los ⟨i,hi,rfl,⟨h0,rfl,rfl⟩ | ⟨h0,rfl,rfl⟩⟩
    · have hlen:=ac2 l rg i
      push_cast [a9,pnt,zac]
      refine b6 (fun hd=>?_) (fun hd=>?_)
      · have hi2:i<rg.length:=by simpa using hd
        obtain ⟨p,hp⟩:∃p,rg[i]?=some p:=⟨rg[i],by simp [hi2]⟩
        obtain ⟨J,hJ⟩:∃J,(i+1)%rg.length=J:=⟨_,rfl⟩
        have hJl:J<rg.length:=by rw [← hJ]; exact zav _ (by omega)
        obtain ⟨q,hq⟩:∃q,rg[J]?=some q:=⟨rg[J],by simp [hJl]⟩
        have hgi:rg.getD i (0,0)=p:=by rw [zak,hp]; rfl
        have hgn:ngh rg i=q:=by unfold ngh; rw [hJ,zak,hq]; rfl
        have hpm:=zam hp;have hqm:=zam hq;have wi:IntKind.i64.wrap ((i:Int)+1)=(i:Int)+1:=a5 (by omega);have wJ:((i:Int)+1).tmod (rg.length:Int)=(J:Int):=by rw [zaw (by omega),← hJ,Int.natCast_emod,Int.natCast_add]; rfl
        have hn0:¬((rg.length:Int)=0):=by omega
        push_cast [a9,zac,dw hp,cw hp,dw hq,cw hq,wi,wJ,hn0]
        repeat refine And.intro (by first | decide | omega | exact fun _=>by decide | (simp +contextual; done) | kernel_rfl) ?_
        refine b5 (as':=[l.v,pv2 p]) rfl ?_;refine a6 (a3q l hl p) rfl trivial ?_;have hbt:=ay8 l hl p q;have hcr:=fun hb=>a4a l hl p q hc (h2 p hpm) (h3 p hpm q hqm) hb;generalize hcx:t9 l p q=cx at *
        push_cast
        refine b6 (fun hk=>?_) (fun hk=>?_)
        · push_cast [a9,zac,d5]
          repeat refine And.intro (by first | decide | omega | exact fun _=>by decide | (simp +contextual; done) | kernel_rfl) ?_
          refine b5 (as':=[l.v,pv2 p,pv2 q]) rfl ?_;refine a6 hbt rfl trivial ?_
          push_cast
          refine b6 (fun hb=>?_) (fun hb=>?_)
          · push_cast [a9,zac,d5]
            refine b5 (as':=[l.v,pv2 p,pv2 q]) rfl ?_;refine a6 (hcr hb) rfl trivial ?_
            push_cast [pv2,pnt,wi,a9,zac,d5]
            repeat refine And.intro (by first | decide | omega | exact fun _=>by decide | (simp +contextual; done) | kernel_rfl) ?_
            have hN:i8 l rg (i+1)=[p,cx]:=by
              rw [i8,hgi,hgn,h0,zbi];unfold z6;rw [if_pos hk,if_pos hb,hcx]
              rfl
            exact ⟨⟨i+1,by omega,.inr ⟨by rw [hN]; simp,by rw [hN]; simp,by rw [hN]; rfl⟩⟩,by omega⟩
          · push_cast [a9,zac,d5,wi]
            have hN:i8 l rg (i+1)=[p]:=by
              rw [i8,hgi,hgn,h0,zbi];unfold z6;rw [if_pos hk,if_neg (by rw [hb]; simp)]
              rfl
            exact ⟨⟨i+1,by omega,.inr ⟨by rw [hN]; simp,by rw [hN]; simp,by rw [hN]; rfl⟩⟩,by omega⟩
        · push_cast [a9,zac,d5]
          repeat refine And.intro (by first | decide | omega | exact fun _=>by decide | (simp +contextual; done) | kernel_rfl) ?_
          refine b5 (as':=[l.v,pv2 p,pv2 q]) rfl ?_;refine a6 hbt rfl trivial ?_
          push_cast
          refine b6 (fun hb=>?_) (fun hb=>?_)
          · push_cast [a9,zac,d5]
            refine b5 (as':=[l.v,pv2 p,pv2 q]) rfl ?_;refine a6 (hcr hb) rfl trivial ?_
            push_cast [pv2,pnt,wi,a9,zac,d5]
            repeat refine And.intro (by first | decide | omega | exact fun _=>by decide | (simp +contextual; done) | kernel_rfl) ?_
            have hN:i8 l rg (i+1)=[cx]:=by
              rw [i8,hgi,hgn,h0,zbi];unfold z6;rw [if_neg (by rw [hk]; simp),if_pos hb,hcx]
              rfl
            exact ⟨⟨i+1,by omega,.inr ⟨by rw [hN]; simp,by rw [hN]; simp,by rw [hN]; rfl⟩⟩,by omega⟩
          · push_cast [a9,zac,d5,wi]
            have hN:i8 l rg (i+1)=[]:=by
              rw [i8,hgi,hgn,h0,zbi];unfold z6;rw [if_neg (by rw [hk]; simp),if_neg (by rw [hb]; simp)]
              rfl
            exact ⟨⟨i+1,by omega,.inl ⟨hN,by simp⟩⟩,by omega⟩
      · have hi2:i=rg.length:=by
          have:¬i<rg.length:=by simpa using hd
          omega
        rw [hi2] at h0;rcases hres with ⟨g0,rfl,rfl⟩ | ⟨g0,rfl,rfl⟩
        · push_cast [pnt]
        · exact absurd h0 g0
    · have hlen:=ac2 l rg i
      push_cast [a9,pnt,zac]
      refine b6 (fun hd=>?_) (fun hd=>?_)
      · have hi2:i<rg.length:=by simpa using hd
        obtain ⟨p,hp⟩:∃p,rg[i]?=some p:=⟨rg[i],by simp [hi2]⟩
        obtain ⟨J,hJ⟩:∃J,(i+1)%rg.length=J:=⟨_,rfl⟩
        have hJl:J<rg.length:=by rw [← hJ]; exact zav _ (by omega)
        obtain ⟨q,hq⟩:∃q,rg[J]?=some q:=⟨rg[J],by simp [hJl]⟩
        have hgi:rg.getD i (0,0)=p:=by rw [zak,hp]; rfl
        have hgn:ngh rg i=q:=by unfold ngh; rw [hJ,zak,hq]; rfl
        have hpm:=zam hp;have hqm:=zam hq;have wi:IntKind.i64.wrap ((i:Int)+1)=(i:Int)+1:=a5 (by omega);have wJ:((i:Int)+1).tmod (rg.length:Int)=(J:Int):=by rw [zaw (by omega),← hJ,Int.natCast_emod,Int.natCast_add]; rfl
        have hn0:¬((rg.length:Int)=0):=by omega
        push_cast [a9,zac,dw hp,cw hp,dw hq,cw hq,wi,wJ,hn0]
        repeat refine And.intro (by first | decide | omega | exact fun _=>by decide | (simp +contextual; done) | kernel_rfl) ?_
        refine b5 (as':=[l.v,pv2 p]) rfl ?_;refine a6 (a3q l hl p) rfl trivial ?_;have hbt:=ay8 l hl p q;have hcr:=fun hb=>a4a l hl p q hc (h2 p hpm) (h3 p hpm q hqm) hb;generalize hcx:t9 l p q=cx at *
        push_cast
        refine b6 (fun hk=>?_) (fun hk=>?_)
        · push_cast [a9,zac,d5]
          repeat refine And.intro (by first | decide | omega | exact fun _=>by decide | (simp +contextual; done) | kernel_rfl) ?_
          refine b5 (as':=[l.v,pv2 p,pv2 q]) rfl ?_;refine a6 hbt rfl trivial ?_
          push_cast
          refine b6 (fun hb=>?_) (fun hb=>?_)
          · push_cast [a9,zac,d5]
            refine b5 (as':=[l.v,pv2 p,pv2 q]) rfl ?_;refine a6 (hcr hb) rfl trivial ?_
            push_cast [pv2,pnt,wi,a9,zac,d5]
            repeat refine And.intro (by first | decide | omega | exact fun _=>by decide | (simp +contextual; done) | kernel_rfl) ?_
            have hN:i8 l rg (i+1)=i8 l rg i++[p,cx]:=by
              rw [i8,hgi,hgn];unfold z6;rw [if_pos hk,if_pos hb,hcx]
              rfl
            exact ⟨⟨i+1,by omega,.inr ⟨by rw [hN]; simp [h0],by rw [hN]; simp,by rw [hN]; simp [ptR,pnt]; rw [zbp (by simp)]; simp⟩⟩,by omega⟩
          · push_cast [a9,zac,d5,wi]
            have hN:i8 l rg (i+1)=i8 l rg i++[p]:=by
              rw [i8,hgi,hgn];unfold z6;rw [if_pos hk,if_neg (by rw [hb]; simp)]
              rfl
            exact ⟨⟨i+1,by omega,.inr ⟨by rw [hN]; simp [h0],by rw [hN]; simp,by rw [hN]; simp [ptR,pnt]⟩⟩,by omega⟩
        · push_cast [a9,zac,d5]
          repeat refine And.intro (by first | decide | omega | exact fun _=>by decide | (simp +contextual; done) | kernel_rfl) ?_
          refine b5 (as':=[l.v,pv2 p,pv2 q]) rfl ?_;refine a6 hbt rfl trivial ?_
          push_cast
          refine b6 (fun hb=>?_) (fun hb=>?_)
          · push_cast [a9,zac,d5]
            refine b5 (as':=[l.v,pv2 p,pv2 q]) rfl ?_;refine a6 (hcr hb) rfl trivial ?_
            push_cast [pv2,pnt,wi,a9,zac,d5]
            repeat refine And.intro (by first | decide | omega | exact fun _=>by decide | (simp +contextual; done) | kernel_rfl) ?_
            have hN:i8 l rg (i+1)=i8 l rg i++[cx]:=by
              rw [i8,hgi,hgn];unfold z6;rw [if_neg (by rw [hk]; simp),if_pos hb,hcx]
              rfl
            exact ⟨⟨i+1,by omega,.inr ⟨by rw [hN]; simp [h0],by rw [hN]; simp,by rw [hN]; simp [ptR,pnt]⟩⟩,by omega⟩
          · push_cast [a9,zac,d5,wi]
            have hN:i8 l rg (i+1)=i8 l rg i++[]:=by
              rw [i8,hgi,hgn];unfold z6;rw [if_neg (by rw [hk]; simp),if_neg (by rw [hb]; simp)]
              rfl
            exact ⟨⟨i+1,by omega,.inr ⟨by rw [hN]; simp [h0],by rw [hN]; simp,by rw [hN]; simp [pnt]⟩⟩,by omega⟩
      · have hi2:i=rg.length:=by
          have:¬i<rg.length:=by simpa using hd
          omega
        rw [hi2] at h0 ⊢;rcases hres with ⟨g0,rfl,rfl⟩ | ⟨g0,rfl,rfl⟩
        · exact absurd g0 h0
        · push_cast [pnt,u9]; rfl

def aps:Mk P0 f127:={ x:=_ }
theorem ati:b8 127 4 aps:=b7 func127
def arw:Mk P0 f76:={ x:=_ }
theorem avs:b8 76 3 arw:=b7 func76
theorem bl1 (l:Lin) (hl:l.ok) (hc:-9007199254740992≤l.at'∧l.at'≤9007199254740992) (rg:List P2) (h:RgOk rg) :
  a8 P0 180 [l.v,a9 rg] [] (.own 1000000 0 0 (u9 l rg).length) [d6 (u9 l rg)]:=by
 by_cases h0:u9 l rg=[]
 ·have:=yx (cut_t l hl hc rg h (.inl ⟨h0,rfl,rfl⟩));rw [h0];exact this
 ·exact cut_t l hl hc rg h (.inr ⟨h0,rfl,rfl⟩)
theorem acz (l:List P2):∀x∈l.map ptR,ka x:=fun x hx=>by
 obtain ⟨p,_,rfl⟩:=List.mem_map.1 hx;simp [ptR,pnt,ka,qg]
theorem at4 (l:Lin) (hl:l.ok) (hc:-9007199254740992≤l.at'∧l.at'≤9007199254740992) (rg:List P2) (h:RgOk rg) :
  a8 P0 127 [a9 rg,int .i64 l.axis,int .i64 l.at',bl l.above] [] (.own 1000000 0 0 (u9 l rg).length) [d6 (u9 l rg)]:=by
 refine ati rfl (by decide) ?_;have d1:decide (l.axis<0)=false:=by rcases hl with e | e<;>rw [e]<;>rfl
 have d2:decide (l.axis>1)=false:=by rcases hl with e | e<;>rw [e]<;>rfl
 push_cast [aps,a9,d1,d2,zab]
 refine b5 (as':=[a9 rg]) rfl ?_;refine a6 (bdc rg h) rfl trivial ?_
 push_cast
 refine b5 (as':=[l.v,a9 rg]) rfl ?_;refine a6 (bl1 l hl hc rg h) rfl trivial ?_
 push_cast
def jp (lo hi:P2):List Lin:=[⟨0,lo.1,true⟩,⟨0,hi.1,false⟩,⟨1,lo.2,true⟩,⟨1,hi.2,false⟩]
def bk (lo hi:P2) (rg:List P2) (i:Nat):List P2:=((jp lo hi).take i).foldl (fun r l=>u9 l r) rg
def nu (lo hi:P2) (rg:List P2):List P2:=bk lo hi rg 4
def qf (lo hi:P2):Ob:=.row 3 (.agg [.v (.int .i64 0),.v (.int .i64 0),.v (.bool false)]) true true [.agg [.v (.int .i64 0),.v (.int .i64 lo.1),.v (.bool true)],.agg [.v (.int .i64 0),.v (.int .i64 hi.1),.v (.bool false)],.agg [.v (.int .i64 1),.v (.int .i64 lo.2),.v (.bool true)],.agg [.v (.int .i64 1),.v (.int .i64 hi.2),.v (.bool false)]]
set_option maxHeartbeats 4000000 in
theorem cbox_t (lo hi : P2) (hlo : (-9007199254740992 ≤ lo.1 ∧ lo.1 ≤ 9007199254740992) ∧ (-9007199254740992 ≤ lo.2 ∧ lo.2 ≤ 9007199254740992)) (hhi : (-9007199254740992 ≤ hi.1 ∧ hi.1 ≤ 9007199254740992) ∧ (-9007199254740992 ≤ hi.2 ∧ hi.2 ≤ 9007199254740992))
    (rg:List P2) (h:∀i,i<4→RgOk (bk lo hi rg i)):a8 P0 76 [a9 rg,pv2 lo,pv2 hi] [] (.own 1000000 0 0 (nu lo hi rg).length) [d6 (nu lo hi rg)]:=by
  refine avs rfl (by decide) ?_;simp only [arw,a9,pv2,pnt,zah,zaa,zad,push_cast,↓reduceIte,reduceCtorEq,zE,zA,zL,zD,zM]
  repeat refine And.intro (by first | decide | omega | exact fun _=>by decide | (simp +contextual; done) | kernel_rfl) ?_
  refine run_loop [(23, false), (21, false), (22, false), (0, false)] (fun vs pos los => ∃ i : Nat, i ≤ 4 ∧ pos = [] ∧
      (i=0∧vs=[int .i64 i,.own 2000000 0 0 4,int .i64 4,a9 rg]∧los=[qf lo hi] ∨
       i≠0∧vs=[int .i64 i,.own 2000000 0 0 4,int .i64 4,.own 2000001 0 0 (bk lo hi rg i).length]∧los=[qf lo hi,d6 (bk lo hi rg i)]))
    (fun vs _ _=>match vs with | .r (.v (.int _ a))::_=>(4-a).toNat | _=>0) rfl ?_ ?_
  · simp only [a9,qf,push_cast,↓reduceIte,reduceCtorEq,zE,zA,zL,zD];exact ⟨0,by omega,.inl ⟨rfl,by simp⟩⟩
  · have hs:∀(k:Nat) (l:Lin),k<4→(jp lo hi)[k]?=some l→bk lo hi rg (k+1)=u9 l (bk lo hi rg k):=fun k l hk hl=>by
      unfold bk;rw [zbc,hl,List.foldl_append]
      rfl
    have hline:∀(k:Nat) (l:Lin),(jp lo hi)[k]?=some l→l.ok∧(-9007199254740992≤l.at'∧l.at'≤9007199254740992):=fun k l hl=>by
      have:=zam hl;simp only [jp,zau,List.not_mem_nil,or_false] at this;rcases this with rfl | rfl | rfl | rfl
      · exact ⟨.inl rfl,hlo.1⟩
      · exact ⟨.inl rfl,hhi.1⟩
      · exact ⟨.inr rfl,hlo.2⟩
      · exact ⟨.inr rfl,hhi.2⟩
    rintro vs pos los ⟨i,hile,rfl,⟨h0,rfl,rfl⟩ | ⟨h0,rfl,rfl⟩⟩
    · subst h0;have hN:bk lo hi rg 0=rg:=rfl;have d0:decide ((0:Int)<4)=true:=rfl;have hl0:=hline 0 _ rfl;have hS:=at4 _ hl0.1 hl0.2 rg (by have:=h 0 (by decide); rwa [hN] at this);have hs0:=hs 0 _ (by decide) rfl;rw [hN] at hs0;have wi:IntKind.i64.wrap ((0:Int)+1)=1:=rfl;simp only [a9,qf,d0,zah,zad,push_cast,↓reduceIte,reduceCtorEq,zE,zA,zL,zD]
      repeat refine And.intro (by first | decide | omega | exact fun _=>by decide | (simp +contextual; done) | kernel_rfl) ?_
      rw [← hs0] at hS;refine a6 hS rfl trivial ?_;simp only [wi,zad,push_cast,↓reduceIte,reduceCtorEq,zB,zE,zA,zS,zL,zD,zM];exact ⟨⟨1,by omega,.inr ⟨by omega,by simp⟩⟩,by decide⟩
    · rcases (show i=1∨i=2∨i=3∨i=4 by omega) with rfl | rfl | rfl | rfl
      · have d0:decide ((1:Int)<4)=true:=rfl;have hl0:=hline 1 _ rfl;have hS:=at4 _ hl0.1 hl0.2 (bk lo hi rg 1) (h 1 (by decide));have hs0:=hs 1 _ (by decide) rfl;rw [← hs0] at hS;have wi:IntKind.i64.wrap ((1:Int)+1)=2:=rfl;simp only [a9,qf,d0,zaa,zad,push_cast,↓reduceIte,reduceCtorEq,zE,zA,zL,zD]
        repeat refine And.intro (by first | decide | omega | exact fun _=>by decide | (simp +contextual; done) | kernel_rfl) ?_
        refine pj ?_;simp only [push_cast]
        refine sp hS rfl trivial (by simp [ba]) (by
          intro o ho;simp only [zan] at ho;subst ho
          exact acz _) ?_
        simp only [wi,zad,push_cast,↓reduceIte,reduceCtorEq,zB,zE,zA,zS,zL,zD,zM];exact ⟨⟨2,by omega,.inr ⟨by omega,by simp⟩⟩,by decide⟩
      · have d0:decide ((2:Int)<4)=true:=rfl;have hl0:=hline 2 _ rfl;have hS:=at4 _ hl0.1 hl0.2 (bk lo hi rg 2) (h 2 (by decide));have hs0:=hs 2 _ (by decide) rfl;rw [← hs0] at hS;have wi:IntKind.i64.wrap ((2:Int)+1)=3:=rfl;simp only [a9,qf,d0,zaa,zad,push_cast,↓reduceIte,reduceCtorEq,zE,zA,zL,zD]
        repeat refine And.intro (by first | decide | omega | exact fun _=>by decide | (simp +contextual; done) | kernel_rfl) ?_
        refine pj ?_;simp only [push_cast]
        refine sp hS rfl trivial (by simp [ba]) (by
          intro o ho;simp only [zan] at ho;subst ho
          exact acz _) ?_
        simp only [wi,zad,push_cast,↓reduceIte,reduceCtorEq,zB,zE,zA,zS,zL,zD,zM];exact ⟨⟨3,by omega,.inr ⟨by omega,by simp⟩⟩,by decide⟩
      · have d0:decide ((3:Int)<4)=true:=rfl;have hl0:=hline 3 _ rfl;have hS:=at4 _ hl0.1 hl0.2 (bk lo hi rg 3) (h 3 (by decide));have hs0:=hs 3 _ (by decide) rfl;rw [← hs0] at hS;have wi:IntKind.i64.wrap ((3:Int)+1)=4:=rfl;simp only [a9,qf,d0,zaa,zad,push_cast,↓reduceIte,reduceCtorEq,zE,zA,zL,zD]
        repeat refine And.intro (by first | decide | omega | exact fun _=>by decide | (simp +contextual; done) | kernel_rfl) ?_
        refine pj ?_;simp only [push_cast]
        refine sp hS rfl trivial (by simp [ba]) (by
          intro o ho;simp only [zan] at ho;subst ho
          exact acz _) ?_
        simp only [wi,zad,push_cast,↓reduceIte,reduceCtorEq,zB,zE,zA,zS,zL,zD,zM];exact ⟨⟨4,by omega,.inr ⟨by omega,by simp⟩⟩,by decide⟩
      · have d0:decide ((4:Int)<4)=false:=rfl;have e4:bk lo hi rg 4=nu lo hi rg:=rfl;simp only [a9,qf,d0,e4,pnt,push_cast,↓reduceIte,reduceCtorEq,zE,zA,zL,zD]
        rfl

def anr:Mk P0 f78:={ x:=_ }
theorem aq2:b8 78 2 anr:=b7 func78
def x7 (b:Int) (rg:List P2):List P2:=rg.map fun p=>(p.1/b,p.2/b)
set_option maxHeartbeats 4000000 in
theorem cfloor_r (b : Int) (hb : 1 ≤ b ∧ b ≤ 9007199254740992) (rg : List P2) (h : RgOk rg) {res : AV} {ro : List Ob}
    (hres:(rg=[]∧res=.nils 2 (pnt 0 0)∧ro=[])∨(rg≠[]∧res=.own 1000000 0 0 (x7 b rg).length∧ro=[d6 (x7 b rg)])) :
    a8 P0 78 [a9 rg,int .i64 b] [] res ro:=by
  refine aq2 rfl (by decide) ?_;have hmx:=d7;have hok:=bdc rg h;obtain ⟨h1,h2,h3⟩:=h;have d1:decide (b<1)=false:=by simp; omega
  push_cast [anr,a9,d1,zab]
  refine b5 (as':=[a9 rg]) rfl ?_;refine a6 hok rfl trivial ?_
  push_cast [zac]
  have hlt:∀i,(x7 b (rg.take i)).length≤i:=fun i=>by unfold x7; simp; omega
  refine run_loop [(23, false), (21, false), (22, false), (1, false), (5, false)] (fun vs pos los => ∃ i : Nat, i ≤ rg.length ∧ pos = [] ∧
      (i=0∧vs=[int .i64 i,a9 rg,int .i64 rg.length,int .i64 b,.nils 2 (pnt 0 0)]∧los=[] ∨
       i≠0∧vs=[int .i64 i,a9 rg,int .i64 rg.length,int .i64 b,.own 2000000 0 0 (x7 b (rg.take i)).length]∧los=[d6 (x7 b (rg.take i))]))
    (fun vs _ _=>match vs with | .r (.v (.int _ a))::_=>(rg.length-a).toNat | _=>0) rfl ?_ ?_
  · push_cast [a9,pnt]
    exact ⟨0,by omega,.inl ⟨rfl,by simp⟩⟩
  · rintro vs pos los ⟨i,hi,rfl,⟨h0,rfl,rfl⟩ | ⟨h0,rfl,rfl⟩⟩
    · have hlen:=hlt i
      push_cast [a9,pnt,zac]
      refine b6 (fun hd=>?_) (fun hd=>?_)
      · have hi2:i<rg.length:=by simpa using hd
        obtain ⟨p,hp⟩:∃p,rg[i]?=some p:=⟨rg[i],by simp [hi2]⟩
        have hpb:=h2 p (zam hp);have wi:IntKind.i64.wrap ((i:Int)+1)=(i:Int)+1:=a5 (by omega);have hf1:=qn p.1 b (by unfold in64; omega) (by unfold in64; omega);have hf2:=qn p.2 b (by unfold in64; omega) (by unfold in64; omega);rw [if_pos (by omega),if_pos (by omega)] at hf1 hf2
        have hN:x7 b (rg.take (i+1))=[(p.1/b,p.2/b)]:=by
          unfold x7;rw [zbc,hp,zbm];rw [h0]; rfl
        push_cast [a9,zac,dw hp,cw hp,wi,zah,zaa,zad]
        repeat refine And.intro (by first | decide | omega | exact fun _=>by decide | (simp +contextual; done) | kernel_rfl) ?_
        refine a6 hf1 rfl trivial ?_
        push_cast [a9,zac,wi,zah,zaa,zad]
        repeat refine And.intro (by first | decide | omega | exact fun _=>by decide | (simp +contextual; done) | kernel_rfl) ?_
        refine a6 hf2 rfl trivial ?_
        push_cast [a9,zac,d5,wi,zah,zaa,zad]
        repeat refine And.intro (by first | decide | omega | exact fun _=>by decide | (simp +contextual; done) | kernel_rfl) ?_
        exact ⟨⟨i+1,by omega,.inr ⟨by omega,by rw [hN]; simp,by rw [hN]; simp [ptR,pnt]⟩⟩,by omega⟩
      · have hi2:i=rg.length:=by
          have:¬i<rg.length:=by simpa using hd
          omega
        rcases hres with ⟨g0,rfl,rfl⟩ | ⟨g0,rfl,rfl⟩
        · push_cast [pnt]
        · exact absurd (List.length_eq_zero_iff.1 (by omega)) g0
    · have hlen:=hlt i
      push_cast [a9,pnt,zac]
      refine b6 (fun hd=>?_) (fun hd=>?_)
      · have hi2:i<rg.length:=by simpa using hd
        obtain ⟨p,hp⟩:∃p,rg[i]?=some p:=⟨rg[i],by simp [hi2]⟩
        have hpb:=h2 p (zam hp);have wi:IntKind.i64.wrap ((i:Int)+1)=(i:Int)+1:=a5 (by omega);have hf1:=qn p.1 b (by unfold in64; omega) (by unfold in64; omega);have hf2:=qn p.2 b (by unfold in64; omega) (by unfold in64; omega);rw [if_pos (by omega),if_pos (by omega)] at hf1 hf2
        have hN:x7 b (rg.take (i+1))=x7 b (rg.take i)++[(p.1/b,p.2/b)]:=by
          unfold x7;rw [zbc,hp,zbm]
          rfl
        push_cast [a9,zac,dw hp,cw hp,wi,zah,zaa,zad]
        repeat refine And.intro (by first | decide | omega | exact fun _=>by decide | (simp +contextual; done) | kernel_rfl) ?_
        refine a6 hf1 rfl trivial ?_
        push_cast [a9,zac,wi,zah,zaa,zad]
        repeat refine And.intro (by first | decide | omega | exact fun _=>by decide | (simp +contextual; done) | kernel_rfl) ?_
        refine a6 hf2 rfl trivial ?_
        push_cast [a9,zac,d5,wi,zah,zaa,zad]
        repeat refine And.intro (by first | decide | omega | exact fun _=>by decide | (simp +contextual; done) | kernel_rfl) ?_
        exact ⟨⟨i+1,by omega,.inr ⟨by omega,by rw [hN]; simp,by rw [hN]; simp [ptR,pnt]⟩⟩,by omega⟩
      · have hi2:i=rg.length:=by
          have:¬i<rg.length:=by simpa using hd
          omega
        rcases hres with ⟨g0,rfl,rfl⟩ | ⟨g0,rfl,rfl⟩
        · exfalso; rw [g0] at hi2; exact h0 hi2
        · rw [hi2,List.take_length]; push_cast [pnt]; rfl

theorem ayy {u t D:Int} (h0:0<t) (h1:t<D):(0≤u→0≤u*t/D∧u*t/D≤u)∧(u≤0→u≤u*t/D∧u*t/D≤0):=by
 have hD:0<D:=by omega
 constructor
 ·intro hu;have a:=Int.mul_nonneg hu (zaz h0);have b:=Int.mul_le_mul_of_nonneg_left (zaz h1) hu;exact ⟨Int.ediv_nonneg a (zaz hD),Int.ediv_le_of_le_mul hD b⟩
 ·intro hu;have a:=Int.mul_le_mul_of_nonpos_left hu (zaz h1);have b:=zbo hu (zaz h0);rw [Int.zero_mul] at b;exact ⟨Int.le_ediv_of_mul_le hD a,Int.ediv_le_of_le_mul hD (by rw [Int.zero_mul]; exact b)⟩
def Btw (x a b:Int):Prop:=(a≤x∧x≤b)∨(b≤x∧x≤a)
theorem ze {l:Lin} (hl:l.ok) {p q:P2} (hb:fi l p q=true):Btw (t9 l p q).1 p.1 q.1∧Btw (t9 l p q).2 p.2 q.2:=by
 obtain ⟨a,c,b⟩:=l;obtain ⟨px,py⟩:=p;obtain ⟨qx,qy⟩:=q
 have key:∀(u P Q:Int),(P<c∧c<Q)∨(Q<c∧c<P)→∃n:Int,(if Q-P<0 then (-(u*(c-P)))/(-(Q-P)) else if 0<Q-P then (u*(c-P))/(Q-P) else 0)=n∧((0≤u→0≤n∧n≤u)∧(u≤0→u≤n∧n≤0)):=fun u P Q h=>by
  refine ⟨_,rfl,?_⟩;rcases h with h | h
  ·rw [if_neg (by omega),if_pos (by omega)];exact ayy (by omega) (by omega)
  ·rw [if_pos (by omega)];have:=ayy (u:=u) (t:=P-c) (D:=P-Q) (by omega) (by omega);rw [show -(u*(c-P))=u*(P-c) by rw [← Int.mul_neg]; congr 1; omega,show -(Q-P)=P-Q by omega];exact this
 rcases hl with h | h<;>simp only at h<;>subst h
 ·have hbt:(px<c∧c<qx)∨(qx<c∧c<px):=by simpa [fi,sel] using hb
  obtain ⟨n,hn,h1,h2⟩:=key (qy-py) px qx hbt;have e:t9 ⟨0,c,b⟩ (px,py) (qx,qy)=(c,py+n):=by rw [← hn]; rfl
  rw [e];unfold Btw;simp only;refine ⟨by omega,?_⟩;rcases Int.le_total 0 (qy-py) with h | h
  ·have:=h1 h; omega
  ·have:=h2 h; omega
 ·have hbt:(py<c∧c<qy)∨(qy<c∧c<py):=by simpa [fi,sel] using hb
  obtain ⟨n,hn,h1,h2⟩:=key (qx-px) py qy hbt;have e:t9 ⟨1,c,b⟩ (px,py) (qx,qy)=(px+n,c):=by rw [← hn]; rfl
  rw [e];unfold Btw;simp only;refine ⟨?_,by omega⟩;rcases Int.le_total 0 (qx-px) with h | h
  ·have:=h1 h; omega
  ·have:=h2 h; omega
def qv (lo hi:P2) (rg:List P2):Prop:=∀p∈rg,(lo.1≤p.1∧p.1≤hi.1)∧(lo.2≤p.2∧p.2≤hi.2)
theorem a39 {l:Lin} (hl:l.ok) {lo hi:P2} {rg:List P2} (h:qv lo hi rg):∀i,i≤rg.length→qv lo hi (i8 l rg i)
 | 0,_=>by intro p hp; simp [i8] at hp
 | i+1,hi'=>by
  have ih:=a39 hl h i (by omega)
  have hp0:rg.getD i (0,0)∈rg:=by
   rw [zak,zbj (show i<rg.length by omega)];exact List.getElem_mem _
  have hq0:ngh rg i∈rg:=by
   have:(i+1)%rg.length<rg.length:=zav _ (by omega);unfold ngh;rw [zak,zbj this];exact List.getElem_mem _
  intro p hp;rw [i8] at hp;rcases zar.1 hp with hp | hp
  ·exact ih p hp
  ·unfold z6 at hp;rcases zar.1 hp with hp | hp
   ·split at hp
    ·simp only [zan] at hp;subst hp;exact h _ hp0
    ·cases hp
   ·split at hp
    ·rename_i hb;simp only [zan] at hp;subst hp;obtain ⟨b1,b2⟩:=ze hl hb;have a1:=h _ hp0;have a2:=h _ hq0;unfold Btw at b1 b2;omega
    ·cases hp
theorem ali {l:Lin} (hl:l.ok) {lo hi:P2} {rg:List P2} (h:qv lo hi rg):qv lo hi (u9 l rg):=a39 hl h _ (zas _)
theorem bcf (l:Lin) (rg:List P2):(u9 l rg).length≤2*rg.length:=ac2 l rg _
theorem alp {lo hi:P2} {a b:P2} {rg:List P2} (h:qv a b rg):∀i,i≤4→qv a b (bk lo hi rg i)∧(bk lo hi rg i).length≤2^i*rg.length
 | 0,_=>⟨h,by simp [bk]⟩
 | i+1,hi'=>by
  obtain ⟨h1,h2⟩:=alp (lo:=lo) (hi:=hi) h i (by omega);obtain ⟨l,hl⟩:∃l,(jp lo hi)[i]?=some l:=⟨(jp lo hi)[i]'(by simp [jp]; omega),by simp [jp,show i<4 by omega]⟩
  have hok:l.ok:=by
   have:=zam hl;simp only [jp,zau,List.not_mem_nil,or_false] at this;rcases this with rfl | rfl | rfl | rfl
   ·exact .inl rfl
   ·exact .inl rfl
   ·exact .inr rfl
   ·exact .inr rfl
  have e:bk lo hi rg (i+1)=u9 l (bk lo hi rg i):=by
   unfold bk;rw [zbc,hl,List.foldl_append]
   rfl
  rw [e];refine ⟨ali hok h1,Nat.le_trans (bcf _ _) ?_⟩;rw [Nat.pow_succ,Nat.mul_assoc,Nat.mul_left_comm];omega
theorem a25 {a b:P2} {rg:List P2} (h:qv a b rg) (hl:rg.length≤100) (h1:-1099511627776≤a.1∧b.1≤1099511627776∧b.1-a.1≤1073741824) (h2:-1099511627776≤a.2∧b.2≤1099511627776∧b.2-a.2≤1073741824):RgOk rg:=by
 refine ⟨hl,fun p hp=>?_,fun p hp q hq=>?_⟩
 ·have:=h p hp;omega
 ·have:=h p hp;have:=h q hq;omega
theorem bkf (lo hi:P2) (hlo:(-9007199254740992≤lo.1∧lo.1≤9007199254740992)∧(-9007199254740992≤lo.2∧lo.2≤9007199254740992)) (hhi:(-9007199254740992≤hi.1∧hi.1≤9007199254740992)∧(-9007199254740992≤hi.2∧hi.2≤9007199254740992))
  {a b:P2} {rg:List P2} (h:qv a b rg) (hl:rg.length≤6) (h1:-1099511627776≤a.1∧b.1≤1099511627776∧b.1-a.1≤1073741824) (h2:-1099511627776≤a.2∧b.2≤1099511627776∧b.2-a.2≤1073741824) :
  a8 P0 76 [a9 rg,pv2 lo,pv2 hi] [] (.own 1000000 0 0 (nu lo hi rg).length) [d6 (nu lo hi rg)]∧qv a b (nu lo hi rg)∧RgOk (nu lo hi rg):=by
 have key:∀i,i≤4→RgOk (bk lo hi rg i):=fun i hi'=>by
  obtain ⟨g1,g2⟩:=alp (lo:=lo) (hi:=hi) h i hi';have:2^i≤2^4:=zay (by decide) hi';have:=Nat.mul_le_mul this hl;exact a25 g1 (by omega) h1 h2
 exact ⟨cbox_t lo hi hlo hhi rg fun i hi'=>key i (by omega),(alp h 4 (zas _)).1,key 4 (zas _)⟩

def ao5:Mk P0 f185:={ x:=_ }
theorem as5:b8 185 3 ao5:=b7 func185
def ao6:Mk P0 f181:={ x:=_ }
theorem as6:b8 181 1 ao6:=b7 func181
def gt:Mk P0 f219:={ x:=_ }
theorem qc:b8 219 2 gt:=b7 func219
def fj:Mk P0 f182:={ x:=_ }
theorem nh:b8 182 2 fj:=b7 func182
def avc:Mk P0 f128:={ x:=_ }
theorem aw6:b8 128 1 avc:=b7 func128
def eu (a b c:P2):Int:=(b.1-a.1)*(c.2-a.2)-(b.2-a.2)*(c.1-a.1)
def near29 (p:P2):Prop:=(-536870912≤p.1∧p.1≤536870912)∧(-536870912≤p.2∧p.2≤536870912)
theorem bhs (a b c:P2) (ha:near29 a) (hb:near29 b) (hc:near29 c):a8 P0 185 [pv2 a,pv2 b,pv2 c] [] (int .i64 (eu a b c)) []:=by
 refine as5 rfl (by decide) ?_;unfold near29 at ha hb hc;have w1:IntKind.i64.wrap (b.1-a.1)=b.1-a.1:=a5 (by omega);have w2:IntKind.i64.wrap (c.2-a.2)=c.2-a.2:=a5 (by omega);have w3:IntKind.i64.wrap (b.2-a.2)=b.2-a.2:=a5 (by omega);have w4:IntKind.i64.wrap (c.1-a.1)=c.1-a.1:=a5 (by omega);have m1:=bf (x:=b.1-a.1) (y:=c.2-a.2) (n:=1073741824) (m:=1073741824) (by omega) (by omega);have m2:=bf (x:=b.2-a.2) (y:=c.1-a.1) (n:=1073741824) (m:=1073741824) (by omega) (by omega);have w5:IntKind.i64.wrap ((b.1-a.1)*(c.2-a.2))=(b.1-a.1)*(c.2-a.2):=a5 (by omega);have w6:IntKind.i64.wrap ((b.2-a.2)*(c.1-a.1))=(b.2-a.2)*(c.1-a.1):=a5 (by omega)
 have w7:IntKind.i64.wrap ((b.1-a.1)*(c.2-a.2)-(b.2-a.2)*(c.1-a.1))=eu a b c:=a5 (by omega);simp only [ao5,pv2,pnt,w1,w2,w3,w4,w5,w6,w7,zah,zaa,zad,push_cast,↓reduceIte,reduceCtorEq,zE,zA,zL,zM]
 decide
theorem bji (p:P2) (h:near29 p):a8 P0 181 [pv2 p] [] (bl false) []:=by
 refine as6 rfl (by decide) ?_;unfold near29 at h;have d1:decide (p.1 < -536870912)=false:=by simp; omega
 have d2:decide (p.1>536870912)=false:=by simp; omega
 have d3:decide (p.2 < -536870912)=false:=by simp; omega
 have d4:decide (p.2>536870912)=false:=by simp; omega
 simp only [ao6,pv2,pnt,d1,d2,d3,d4,zah,zaa,zad,push_cast,↓reduceIte,zE,zA,zL,zM]
 decide
def ae1:AV:=.fn (.func 181) [] 0
theorem bjh (l:List P2) (hl:l.length≤1000) (h:∀p∈l,near29 p):a8 P0 219 [a9 l,ae1] [] (int .i64 (-1)) []:=by
 refine qc rfl (by decide) ?_
 push_cast [gt,a9,ae1,zac,zab]
 have hfn:aar P0 181=true:=rfl
 refine run_loop [(8,false),(0,false),(1,false),(7,false)] (fun vs pos los=>∃i:Nat,i≤l.length∧vs=[int .i64 i,a9 l,ae1,int .i64 l.length]∧pos=[]∧los=[])
  (fun vs _ _=>match vs with | .r (.v (.int _ a))::_=>(l.length-a).toNat | _=>0) rfl ?_ ?_
 ·push_cast [a9,ae1]
  exact ⟨0,by omega,rfl⟩
 ·rintro vs pos los ⟨i,hi,rfl,rfl,rfl⟩
  push_cast [a9,ae1,zac]
  refine b6 (fun hd=>?_) (fun hd=>?_)
  ·have hi2:i<l.length:=by simpa using hd
   obtain ⟨p,hp⟩:∃p,l[i]?=some p:=⟨l[i],by simp [hi2]⟩
   have wi:IntKind.i64.wrap ((i:Int)+1)=(i:Int)+1:=a5 (by omega)
   push_cast [a9,ae1,zac,dw hp,cw hp,hfn,wi]
   repeat refine And.intro (by first | decide | omega | exact fun _=>by decide | (simp +contextual; done) | kernel_rfl) ?_
   refine b5 (as':=[pv2 p]) rfl ?_;refine a6 (bji p (h p (zam hp))) rfl trivial ?_
   push_cast [a9,ae1,zac,wi]
   exact ⟨⟨i+1,by omega,rfl⟩,by omega⟩
  ·push_cast [a9,ae1,zac]
theorem bjj (l:List P2) (hl:l.length≤1000) (h:∀p∈l,near29 p):a8 P0 182 [a9 l,ae1] [] (bl false) []:=by
 refine nh rfl (by decide) ?_;have d:decide ((-1:Int)≥0)=false:=rfl
 push_cast [fj,a9,ae1,zab]
 refine b5 (as':=[a9 l,ae1]) rfl ?_;refine a6 (bjh l hl h) rfl trivial ?_
 push_cast [d]
theorem bdr (l:List P2) (hl:l.length≤1000) (h:∀p∈l,near29 p):a8 P0 128 [a9 l] [] (bl true) []:=by
 refine aw6 rfl (by decide) ?_;have d:decide ((l.length:Int)≤1000)=true:=by simp; omega
 push_cast [avc,a9,zac,d,zab]
 refine b5 (as':=[a9 l,ae1]) rfl ?_;refine a6 (bjj l hl h) rfl trivial ?_
 push_cast

def anm:Mk P0 f132:={ x:=_ }
theorem aqx:b8 132 1 anm:=b7 func132
def xq (p:P2):List P2→List P2
 | b::a::r=>if eu a b p≤0 then xq p (a::r) else b::a::r
 | s=>s
def jl (l:List P2):List P2:=l.foldl (fun s p=>p::xq p s) []
def jt (l:List P2):List P2:=(jl l).reverse.dropLast
theorem aso (p:P2):∀s,∃k,xq p s=s.drop k∧(s≠[]→xq p s≠[])
 | []=>⟨0,rfl,fun h=>h⟩
 | [a]=>⟨0,rfl,fun h=>h⟩
 | b::a::r=>by
  rw [xq];split
  ·obtain ⟨k,h1,h2⟩:=aso p (a::r);exact ⟨k+1,by rw [h1]; rfl,fun _=>h2 (by simp)⟩
  ·exact ⟨0,rfl,fun h=>h⟩
theorem bba {p q:P2} {s:List P2} (h:q∈xq p s):q∈s:=by
 obtain ⟨k,h1,_⟩:=aso p s;rw [h1] at h;exact List.mem_of_mem_drop h
theorem bbb (p:P2) (s:List P2):(xq p s).length≤s.length:=by
 obtain ⟨k,h1,_⟩:=aso p s;rw [h1,List.length_drop];omega
theorem aiv (l:List P2) (p:P2):jl (l++[p])=p::xq p (jl l):=by simp [jl]
theorem amb {α:Type} {P:List α→Prop} (h0:P []) (h1:∀l p,P l→P (l++[p])) (l:List α):P l:=by
 have key:∀r:List α,P r.reverse:=fun r=>by
  induction r with
  | nil=>simpa using h0
  | cons a r ih=>rw [List.reverse_cons]; exact h1 _ _ ih
 have:=key l.reverse
 rwa [List.reverse_reverse] at this
theorem az3 (l:List P2):∀{q:P2},q∈jl l→q∈l:=by
 refine amb (P:=fun l=>∀{q:P2},q∈jl l→q∈l) (fun h=>h) (fun l p ih=>?_) l;intro q h;rw [aiv] at h;rcases zau.1 h with rfl | h
 ·simp
 ·exact List.mem_append_left _ (ih (bba h))
theorem agz (l:List P2):(jl l).length≤l.length:=by
 refine amb (P:=fun l=>(jl l).length≤l.length) (by simp [jl]) (fun l p ih=>?_) l;rw [aiv,zai,zaq];have:=bbb p (jl l);simp;omega

def Uni (f:P2→Bool) (l:List P2):Prop:=∃(v:Bool) (A B C:List P2),l=A++(B++C)∧(∀a∈A,f a=v)∧(∀b∈B,f b=!v)∧(∀c∈C,f c=v)
def prs (nx:P2):List P2→List (P2×P2)
 | []=>[]
 | [p]=>[(p,nx)]
 | p::q::r=>(p,q)::prs nx (q::r)
theorem a3b (nx:P2):∀l,(prs nx l).length=l.length
 | []=>rfl
 | [_]=>rfl
 | p::q::r=>by rw [prs,zai,a3b nx (q::r)]; rfl
theorem acp (nx:P2):∀(A:List P2) (b:P2) (B:List P2),prs nx (A++b::B)=prs b A++prs nx (b::B)
 | [],b,B=>rfl
 | [a],b,B=>rfl
 | a::a'::A,b,B=>by
  have:=acp nx (a'::A) b B;simp only [List.cons_append,prs] at this ⊢;rw [this]
theorem a3c (nx:P2):∀(l:List P2) (i:Nat),(prs nx l)[i]?=(l[i]?).map fun p=>(p,(l[i+1]?).getD nx)
 | [],i=>by simp [prs]
 | [p],0=>by simp [prs]
 | [p],i+1=>by simp [prs]
 | p::q::r,0=>by simp [prs]
 | p::q::r,i+1=>by
  rw [prs,List.getElem?_cons_succ,a3c nx (q::r) i];simp
def vy (l:Lin) (p q:P2):List P2:=if fi l p q then [t9 l p q] else []
def ij (l:Lin) (x:List (P2×P2)):List P2:=x.flatMap fun p=>p.1::vy l p.1 p.2
theorem aco (l:Lin) (x y:List (P2×P2)):ij l (x++y)=ij l x++ij l y:=by simp [ij]
theorem avo (l:Lin) (rg:List P2) (h:P2) (hh:rg.head?=some h):∀i,i≤rg.length→i8 l rg i=((prs h rg).take i).flatMap fun p=>z6 l p.1 p.2
 | 0,_=>by simp [i8]
 | i+1,hi=>by
  have hlt:i<rg.length:=by omega
  have hg:=a3c h rg i;rw [zbj hlt,Option.map_some] at hg
  have hq:(rg[i+1]?).getD h=ngh rg i:=by
   unfold ngh;rw [zak];by_cases h1:i+1<rg.length
   ·rw [Nat.mod_eq_of_lt h1,zbj h1]
    rfl
   ·have h2:i+1=rg.length:=by omega
    rw [List.getElem?_eq_none (by omega),h2,Nat.mod_self];cases rg with
    | nil=>simp at hlt
    | cons a r=>simp at hh; subst hh; rfl
  rw [hq] at hg;have hp:rg.getD i (0,0)=rg[i]:=by rw [zak,zbj hlt]; rfl
  rw [i8,avo l rg h hh i (by omega),hp,zbc,hg,List.flatMap_append];simp
theorem aru (l:Lin) (hl:l.ok) (p q:P2):bg l (t9 l p q)=true:=by
 obtain ⟨a,c,b⟩:=l;rcases hl with h | h<;>simp only at h<;>subst h<;>cases b<;>simp [bg,t9,sel]
theorem ajy (l:Lin) (hl:l.ok) (rg:List P2) (h:P2) (hh:rg.head?=some h):u9 l rg=(ij l (prs h rg)).filter (bg l):=by
 unfold u9;rw [avo l rg h hh _ (zas _),zbp (by rw [a3b]; exact zas _)];unfold ij;generalize prs h rg=x
 induction x with
 | nil=>rfl
 | cons p x ih=>
  rw [List.flatMap_cons,List.flatMap_cons,zbd,ih];congr 1;unfold z6 vy;rw [List.filter_cons];by_cases hk:bg l p.1=true
  ·rw [if_pos hk,if_pos hk];split
   ·simp [aru l hl]
   ·simp
  ·rw [if_neg hk,if_neg hk];split
   ·simp [aru l hl]
   ·simp
def thr (a c:Int) (p:P2):Bool:=decide (sel a p≤c)
theorem beb {x p q:P2} {a c:Int} (h:Btw (sel a x) (sel a p) (sel a q)):(thr a c x=thr a c p∨thr a c x=thr a c q):=by
 unfold Btw at h;unfold thr;by_cases h1:sel a p≤c<;>by_cases h2:sel a q≤c
 ·left; rw [decide_eq_true h1,decide_eq_true (by omega)]
 ·by_cases h3:sel a x≤c
  ·left; rw [decide_eq_true h1,decide_eq_true h3]
  ·right; rw [decide_eq_false h2,decide_eq_false h3]
 ·by_cases h3:sel a x≤c
  ·right; rw [decide_eq_true h2,decide_eq_true h3]
  ·left; rw [decide_eq_false h1,decide_eq_false h3]
 ·left; rw [decide_eq_false h1,decide_eq_false (by omega)]
theorem a9j {l:Lin} (hl:l.ok) {p q:P2} (hb:fi l p q=true) (a:Int):Btw (sel a (t9 l p q)) (sel a p) (sel a q):=by
 obtain ⟨h1,h2⟩:=ze hl hb;unfold sel;split
 ·exact h1
 ·exact h2
theorem a3t {l:Lin} (hl:l.ok) {p q x:P2} (hx:x∈vy l p q) (a c:Int):thr a c x=thr a c p∨thr a c x=thr a c q:=by
 unfold vy at hx;split at hx
 ·rename_i hb;simp only [zan] at hx;subst hx;exact beb (a9j hl hb a)
 ·cases hx
theorem acm {l:Lin} (hl:l.ok) (a c:Int) (v:Bool) (nx:P2):∀(A:List P2),(∀p∈A,thr a c p=v)→∃A' T,ij l (prs nx A)=A'++T∧(∀p∈A',thr a c p=v)∧(T=[]∨∃x,T=[x]∧(thr a c x=v∨thr a c x=thr a c nx))
 | [],_=>⟨[],[],rfl,by simp,.inl rfl⟩
 | [p],h=>by
  have hp:=h p (by simp);refine ⟨[p],vy l p nx,by simp [ij,prs],by simpa using hp,?_⟩;have hi:=fun x (hx:x∈vy l p nx)=>a3t hl hx a c;unfold vy at hi ⊢;split
  ·rename_i hb;rw [if_pos hb] at hi;have:=hi (t9 l p nx) (by simp);rw [hp] at this;exact .inr ⟨_,rfl,this⟩
  ·exact .inl rfl
 | p::q::r,h=>by
  obtain ⟨A',T,h1,h2,h3⟩:=acm hl a c v nx (q::r) fun x hx=>h x (by simp at hx ⊢; exact .inr hx);have hp:=h p (by simp);have hq:=h q (by simp);refine ⟨p::(vy l p q++A'),T,?_,?_,h3⟩
  ·rw [prs,show ij l ((p,q)::prs nx (q::r))=p::(vy l p q++ij l (prs nx (q::r))) by simp [ij],h1];simp
  ·intro x hx;rcases zau.1 hx with rfl | hx
   ·exact hp
   ·rcases zar.1 hx with hx | hx
    ·rcases a3t hl hx a c with e | e
     ·rw [e,hp]
     ·rw [e,hq]
    ·exact h2 x hx
theorem akw {f:P2→Bool} {v:Bool} {A B C:List P2} (hA:∀a∈A,f a=v) (hB:∀b∈B,f b=!v) (hC:∀c∈C,f c=v):Uni f (A++(B++C)):=⟨v,A,B,C,rfl,hA,hB,hC⟩
theorem aqk {a b:Bool} (h:a≠b):a=!b:=by cases a<;>cases b<;>simp_all
theorem a2r {f:P2→Bool} {v:Bool} {A' T B' S:List P2} (hA:∀p∈A',f p=v) (hT:T=[]∨∃x,T=[x]) (hB:∀p∈B',f p=!v) (hS:S=[]∨∃x,S=[x]):Uni f ((A'++T)++(B'++S)):=by
 have put:∀(A'' B'':List P2),(∀p∈A'',f p=v)→(∀p∈B'',f p=!v)→Uni f (A''++(B''++S)):=fun A'' B'' h1 h2=>by
  rcases hS with rfl | ⟨x,rfl⟩
  ·exact akw (v:=v) h1 h2 (C:=[]) (by simp)
  ·by_cases hx:f x=v
   ·exact akw (v:=v) h1 h2 (C:=[x]) (by simpa using hx)
   ·have:=akw (v:=v) (f:=f) (A:=A'') (B:=B''++[x]) (C:=[]) h1 (fun p hp=>by
     rcases zar.1 hp with hp | hp
     ·exact h2 p hp
     ·simp only [zan] at hp; subst hp; exact aqk hx) (by simp)
    simpa using this
 rcases hT with rfl | ⟨x,rfl⟩
 ·rw [zat]; exact put A' B' hA hB
 ·by_cases hx:f x=v
  ·exact put (A'++[x]) B' (fun p hp=>by
    rcases zar.1 hp with hp | hp
    ·exact hA p hp
    ·simp only [zan] at hp; subst hp; exact hx) hB
  ·have:=put A' (x::B') hA (fun p hp=>by
    rcases zau.1 hp with rfl | hp
    ·exact aqk hx
    ·exact hB p hp)
   simpa using this
theorem aox {T:List P2} {P:P2→Prop} (h:T=[]∨∃x,T=[x]∧P x):T=[]∨∃x,T=[x]:=h.imp id fun ⟨x,e,_⟩=>⟨x,e⟩
theorem bd7 {l:Lin} (hl:l.ok) (a c:Int) {rg:List P2} {h:P2} (hh:rg.head?=some h) (hu:Uni (thr a c) rg):Uni (thr a c) (ij l (prs h rg)):=by
 obtain ⟨v,A,B,C,rfl,hA,hB,hC⟩:=hu
 have two:∀(v:Bool) (A B:List P2),(∀p∈A,thr a c p=v)→(∀p∈B,thr a c p=!v)→(A++B).head?=some h→Uni (thr a c) (ij l (prs h (A++B))):=fun v A B hA hB hh=>by
  cases B with
  | nil=>
   rw [zat] at hh ⊢;obtain ⟨A',T,e,g1,g2⟩:=acm hl a c v h A hA;rw [e];have:=a2r (f:=thr a c) (v:=v) (A':=A') (T:=T) (B':=[]) (S:=[]) g1 (aox g2) (by simp) (.inl rfl);simpa using this
  | cons b B=>
   rw [acp,aco];obtain ⟨A',T,e1,g1,g2⟩:=acm hl a c v b A hA;obtain ⟨B',S,e2,k1,k2⟩:=acm hl a c (!v) h (b::B) hB;rw [e1,e2];exact a2r g1 (aox g2) k1 (aox k2)
 cases C with
 | nil=>rw [zat] at hh ⊢; exact two v A B hA hB hh
 | cons c0 C=>
  cases B with
  | nil=>
   have hAC:∀p∈A++(c0::C),thr a c p=v:=fun p hp=>(zar.1 hp).elim (hA p) (hC p);have:=two v (A++(c0::C)) [] hAC (by simp) (by simpa using hh);simpa using this
  | cons b B=>
   cases A with
   | nil=>
    have:=two (!v) (b::B) (c0::C) hB (by rw [Bool.not_not]; exact hC) (by simpa using hh);simpa using this
   | cons a0 A=>
    have h0:h=a0:=by simpa using hh.symm
    subst h0;have hhv:thr a c h=v:=hA h (by simp);rw [show (b::B)++(c0::C)=b::(B++c0::C) from rfl,acp,aco];rw [show b::(B++c0::C)=(b::B)++c0::C from rfl,acp,aco];obtain ⟨A',T,e1,g1,g2⟩:=acm hl a c v b (h::A) hA;obtain ⟨B',S,e2,k1,k2⟩:=acm hl a c (!v) c0 (b::B) hB;obtain ⟨C',Q,e3,q1,q2⟩:=acm hl a c v h (c0::C) hC;rw [e1,e2,e3]
    have hCQ:∀p∈C'++Q,thr a c p=v:=fun p hp=>by
     rcases zar.1 hp with hp | hp
     ·exact q1 p hp
     ·rcases q2 with rfl | ⟨x,rfl,hx⟩
      ·cases hp
      ·simp only [zan] at hp;subst hp;rcases hx with hx | hx
       ·exact hx
       ·rw [hx,hhv]
    obtain ⟨A2,B2,hab,hA2,hB2⟩:∃A2 B2,A'++T++B'=A2++B2∧(∀p∈A2,thr a c p=v)∧(∀p∈B2,thr a c p=!v):=by
     rcases aox g2 with rfl | ⟨x,rfl⟩
     ·exact ⟨A',B',by simp,g1,k1⟩
     ·by_cases hx:thr a c x=v
      ·exact ⟨A'++[x],B',rfl,fun p hp=>by
        rcases zar.1 hp with hp | hp
        ·exact g1 p hp
        ·simp only [zan] at hp; subst hp; exact hx,k1⟩
      ·exact ⟨A',x::B',by simp,g1,fun p hp=>by
        rcases zau.1 hp with rfl | hp
        ·exact aqk hx
        ·exact k1 p hp⟩
    obtain ⟨B3,C3,hbc,hB3,hC3⟩:∃B3 C3,B2++S++(C'++Q)=B3++C3∧(∀p∈B3,thr a c p=!v)∧(∀p∈C3,thr a c p=v):=by
     rcases aox k2 with rfl | ⟨x,rfl⟩
     ·exact ⟨B2,C'++Q,by simp,hB2,hCQ⟩
     ·by_cases hx:thr a c x=v
      ·exact ⟨B2,x::(C'++Q),by simp,hB2,fun p hp=>by
        rcases zau.1 hp with rfl | hp
        ·exact hx
        ·exact hCQ p hp⟩
      ·exact ⟨B2++[x],C'++Q,rfl,fun p hp=>by
        rcases zar.1 hp with hp | hp
        ·exact hB2 p hp
        ·simp only [zan] at hp; subst hp; exact aqk hx,hCQ⟩
    have:A'++T++(B'++S++(C'++Q))=A2++(B3++C3):=by
     rw [← hbc,← zbe,← zbe,← zbe,← zbe,hab];simp
    rw [this];exact akw hA2 hB3 hC3
theorem a4q {f g:P2→Bool} {l:List P2} (h:Uni f l):Uni f (l.filter g):=by
 obtain ⟨v,A,B,C,rfl,hA,hB,hC⟩:=h;rw [zbd,zbd];exact akw (fun p hp=>hA p (List.mem_filter.1 hp).1) (fun p hp=>hB p (List.mem_filter.1 hp).1) fun p hp=>hC p (List.mem_filter.1 hp).1
def ap0 (rg:List P2):Prop:=∀a c,Uni (thr a c) rg
theorem bby {l:Lin} (hl:l.ok) {rg:List P2} (h:ap0 rg):ap0 (u9 l rg):=fun a c=>by
 cases hr:rg.head? with
 | none=>
  have:rg=[]:=by cases rg with
   | nil=>rfl
   | cons=>simp at hr
  subst this;exact akw (v:=true) (A:=[]) (B:=[]) (C:=[]) (by simp) (by simp) (by simp)
 | some p=>
  rw [ajy l hl rg p hr];exact a4q (bd7 hl a c hr (h a c))
theorem yp {l:Lin} (nx:P2) (K:P2→Bool) (hK:∀p q,fi l p q=true→K p≠K q) (v:Bool):∀(A:List P2),(∀p∈A,K p=v)→((ij l (prs nx A)).filter K).length≤(if v=true then A.length else 0)+(if K nx=v then 0 else 1)∧(A=[]→(ij l (prs nx A)).filter K=[])
 | [],_=>by simp [ij,prs]
 | [p],h=>by
  have hp:=h p (by simp);refine ⟨?_,by simp⟩;rw [show ij l (prs nx [p])=p::vy l p nx by simp [ij,prs],List.filter_cons,hp]
  have hi:(vy l p nx).length≤if K nx=v then 0 else 1:=by
   unfold vy;split
   ·rename_i hb;have:=hK p nx hb;rw [if_neg (fun e=>this (by rw [hp,e]))];simp
   ·simp
  have hf:=List.length_filter_le K (vy l p nx);cases v with
  | true=>simp only [if_true,zai,zab]; omega
  | false=>simp only [zbb,if_false]; omega
 | p::q::r,h=>by
  have hp:=h p (by simp);have hq:=h q (by simp);obtain ⟨ih,_⟩:=yp nx K hK v (q::r) fun x hx=>h x (by simp at hx ⊢; exact .inr hx);refine ⟨?_,by simp⟩
  have hi:vy l p q=[]:=by
   unfold vy;split
   ·rename_i hb;exact absurd (hp.trans hq.symm) (hK p q hb)
   ·rfl
  rw [prs,show ij l ((p,q)::prs nx (q::r))=p::(vy l p q++ij l (prs nx (q::r))) by simp [ij],hi,zbi,List.filter_cons,hp];cases v with
  | true=>simp only [if_true,zai] at ih ⊢; omega
  | false=>simp only [zbb,if_false] at ih ⊢; exact ih
theorem bgl {l:Lin} (hl:l.ok) {rg:List P2} (h:ap0 rg):(u9 l rg).length≤rg.length+1:=by
 have hKd:∀p q,fi l p q=true→bg l p≠bg l q:=fun p q hb=>by
  unfold fi at hb;unfold bg;simp only [Bool.or_eq_true,Bool.and_eq_true,decide_eq_true_eq] at hb;split
  ·rcases hb with hb | hb
   ·rw [decide_eq_false (by omega),decide_eq_true (by omega)]; simp
   ·rw [decide_eq_true (by omega),decide_eq_false (by omega)]; simp
  ·rcases hb with hb | hb
   ·rw [decide_eq_true (by omega),decide_eq_false (by omega)]; simp
   ·rw [decide_eq_false (by omega),decide_eq_true (by omega)]; simp
 have hu:Uni (bg l) rg:=by
  unfold bg;cases ha:l.above with
  | true=>
   obtain ⟨v,A,B,C,e,h1,h2,h3⟩:=h l.axis (l.at'-1)
   have key:∀p,(if true=true then decide (sel l.axis p≥l.at') else decide (sel l.axis p≤l.at'))=!thr l.axis (l.at'-1) p:=fun p=>by
    unfold thr;rw [if_pos rfl];by_cases hq:sel l.axis p≥l.at'
    ·rw [decide_eq_true hq,decide_eq_false (by omega)]; rfl
    ·rw [decide_eq_false hq,decide_eq_true (by omega)]; rfl
   exact ⟨!v,A,B,C,e,fun p hp=>(key p).trans (by rw [h1 p hp]),fun p hp=>(key p).trans (by rw [h2 p hp]),fun p hp=>(key p).trans (by rw [h3 p hp])⟩
  | false=>
   have:=h l.axis l.at';exact this
 cases hr:rg.head? with
 | none=>
  have:rg=[]:=by cases rg with
   | nil=>rfl
   | cons=>simp at hr
  subst this;simp [u9,i8]
 | some h0=>
  rw [ajy l hl rg h0 hr];generalize bg l=K at hKd hu ⊢;obtain ⟨v,A,B,C,rfl,hA,hB,hC⟩:=hu
  have two:∀(v:Bool) (A B:List P2),(∀p∈A,K p=v)→(∀p∈B,K p=!v)→(A++B).head?=some h0→((ij l (prs h0 (A++B))).filter K).length≤(A++B).length+1:=fun v A B hA hB hh=>by
   cases B with
   | nil=>
    rw [zat] at hh ⊢;have:=(yp h0 K hKd v A hA).1;have hv:K h0=v:=hA h0 (List.mem_of_mem_head? hh);rw [if_pos hv] at this;split at this<;>omega
   | cons b B=>
    rw [acp,aco,zbd,zaq,zaq];cases A with
    | nil=>
     have h1:h0=b:=by simpa using hh.symm
     subst h1;have k2:=(yp h0 K hKd (!v) (h0::B) hB).1;rw [if_pos (hB h0 (by simp))] at k2;simp only [prs,ij,List.flatMap_nil,List.filter_nil,zab];have:((ij l (prs h0 (h0::B))).filter K).length≤(h0::B).length+1:=by split at k2<;>omega
     simp only [ij] at this;omega
    | cons a0 A=>
     have h1:h0=a0:=by simpa using hh.symm
     subst h1;have k1:=(yp b K hKd v (h0::A) hA).1;have k2:=(yp h0 K hKd (!v) (b::B) hB).1;simp only [zai] at k1 k2 ⊢;cases v<;>simp only [if_true,zba,Bool.not_true,zbb,if_false] at k1 k2<;>(split at k1<;>split at k2<;>omega)
  cases C with
  | nil=>rw [zat] at hr ⊢; exact two v A B hA hB hr
  | cons c0 C=>
   cases B with
   | nil=>
    have:=two v (A++(c0::C)) [] (fun p hp=>(zar.1 hp).elim (hA p) (hC p)) (by simp) (by simpa using hr);simpa using this
   | cons b B=>
    cases A with
    | nil=>
     have:=two (!v) (b::B) (c0::C) hB (by rw [Bool.not_not]; exact hC) (by simpa using hr);simpa using this
    | cons a0 A=>
     have h1:h0=a0:=by simpa using hr.symm
     subst h1;rw [show (b::B)++(c0::C)=b::(B++c0::C) from rfl,acp,aco,zbd];rw [show b::(B++c0::C)=(b::B)++c0::C from rfl,acp,aco,zbd];have k1:=(yp b K hKd v (h0::A) hA).1;have k2:=(yp c0 K hKd (!v) (b::B) hB).1;have k3:=(yp h0 K hKd v (c0::C) hC).1;rw [if_pos (hA h0 (by simp))] at k3;simp only [zaq,zai] at k1 k2 k3 ⊢;cases v<;>simp only [if_true,zba,Bool.not_true,zbb,if_false] at k1 k2 k3<;>(split at k1<;>split at k2<;>omega)
theorem aln {lo hi:P2} {rg:List P2} (h:ap0 rg):∀i,i≤4→ap0 (bk lo hi rg i)∧(bk lo hi rg i).length≤rg.length+i
 | 0,_=>⟨h,by simp [bk]⟩
 | i+1,hi'=>by
  obtain ⟨h1,h2⟩:=aln (lo:=lo) (hi:=hi) h i (by omega);obtain ⟨l,hl⟩:∃l,(jp lo hi)[i]?=some l:=⟨(jp lo hi)[i]'(by simp [jp]; omega),by simp [jp,show i<4 by omega]⟩
  have hok:l.ok:=by
   have:=zam hl;simp only [jp,zau,List.not_mem_nil,or_false] at this;rcases this with rfl | rfl | rfl | rfl
   ·exact .inl rfl
   ·exact .inl rfl
   ·exact .inr rfl
   ·exact .inr rfl
  have e:bk lo hi rg (i+1)=u9 l (bk lo hi rg i):=by
   unfold bk;rw [zbc,hl,List.foldl_append]
   rfl
  rw [e];have:=bgl hok h1;exact ⟨bby hok h1,by omega⟩

def ad5:Mk P0 f245:={ x:=_ }
theorem ajz:b8 245 1 ad5:=b7 func245
def aa4:Mk P0 f228:={ x:=_ }
theorem ahk:b8 228 2 aa4:=b7 func228
def mq:Mk P0 f184:={ x:=_ }
theorem wt:b8 184 2 mq:=b7 func184
def zb:Mk P0 f130:={ x:=_ }
theorem af2:b8 130 2 zb:=b7 func130
def ahl (x y:Int):Int:=if x<y then -1 else if y<x then 1 else 0
theorem a8x (x:Int):a8 P0 245 [int .i64 x] [] (bl false) []:=by
 refine ajz rfl (by decide) ?_;have h:(x != x)=false:=by simp
 push_cast [ad5,h,zab]
theorem a9l (x y:Int):a8 P0 228 [int .i64 x,int .i64 y] [] (int .i64 (ahl x y)) []:=by
 refine ahk rfl (by decide) ?_;unfold ahl
 push_cast [aa4,zab]
 refine a6 (a8x x) rfl trivial ?_
 push_cast
 refine a6 (a8x y) rfl trivial ?_
 push_cast
 refine b6 (fun h1=>?_) (fun h1=>?_)
 ·rw [if_pos (of_decide_eq_true h1)]
  push_cast
 ·have h1:=of_decide_eq_false h1;rw [if_neg h1]
  push_cast
  refine b6 (fun h2=>?_) (fun h2=>?_)
  ·rw [if_pos (of_decide_eq_true h2)]
   push_cast
  ·rw [if_neg (of_decide_eq_false h2)]
   push_cast
def axf (p q:P2):Int:=if ahl p.1 q.1≠0 then ahl p.1 q.1 else ahl p.2 q.2
theorem bid (p q:P2):a8 P0 184 [.own 1000000 0 0 2,.own 1000001 0 0 2] [.box [int .i64 p.1,int .i64 p.2],.box [int .i64 q.1,int .i64 q.2]] (int .i64 (axf p q)) [.box [int .i64 p.1,int .i64 p.2],.box [int .i64 q.1,int .i64 q.2]]:=by
 refine wt rfl (by simp) ?_;simp only [mq,push_cast,↓reduceIte,reduceCtorEq,zA]
 refine run_loop [(0,false),(1,false),(9,false),(10,false),(11,false)] (fun vs pos los=>∃i:Nat,i≤2∧(1≤i→ahl p.1 q.1=0)∧(2≤i→ahl p.2 q.2=0)∧vs=[.own 1000000 0 0 2,.own 1000001 0 0 2,.own 1000000 0 0 2,int .i64 2,int .i64 i]∧pos=[.box [int .i64 p.1,int .i64 p.2],.box [int .i64 q.1,int .i64 q.2]]∧los=[])
  (fun vs _ _=>match vs with | [_,_,_,_,.r (.v (.int _ a))]=>(2-a).toNat | _=>0) rfl ?_ ?_
 ·simp only [push_cast,↓reduceIte,reduceCtorEq,zB,zE,zA,zS,zL,zD];exact ⟨0,by omega,by omega,by omega,rfl⟩
 ·rintro vs pos los ⟨i,hi,k1,k2,rfl,rfl,rfl⟩;have d:∀k:Nat,k<2→decide (((k:Nat):Int)<2)=true∧decide (((k:Nat):Int)≥2)=false:=fun k hk=>⟨decide_eq_true (by omega),decide_eq_false (by omega)⟩
  rcases (show i=0∨i=1∨i=2 by omega) with rfl | rfl | rfl
  ·have d1:=(d 0 (by omega)).1;have d2:=(d 0 (by omega)).2;have t0:zaj ((0:Nat):Int)=0:=rfl;have w1:IntKind.i64.wrap (((0:Nat):Int)+1)=((1:Nat):Int):=rfl;have z1:decide ((0:Int)<2)=true:=rfl;have z2:decide ((0:Int)≥2)=false:=rfl;have z0:zaj (0:Int)=0:=rfl;have zw:IntKind.i64.wrap ((0:Int)+1)=1:=rfl;simp only [z1,z2,z0,push_cast,↓reduceIte,reduceCtorEq,zE,zA,zL]
   repeat refine And.intro (by first | decide | omega | exact fun _=>by decide | (simp +contextual; done) | kernel_rfl) ?_
   refine a6 (a9l p.1 q.1) rfl trivial ?_;simp only [push_cast,↓reduceIte];refine b6 (fun hc=>?_) (fun hc=>?_)
   ·have hc:ahl p.1 q.1≠0:=by simpa using hc
    simp only [push_cast,↓reduceIte,zB,zE,zA,zS,zL,zD];unfold axf;rw [if_pos hc]
   ·have hc:ahl p.1 q.1=0:=by simpa using hc
    simp only [zw,push_cast,↓reduceIte,reduceCtorEq,zB,zE,zA,zS,zL,zD];exact ⟨⟨1,by omega,fun _=>hc,by omega,rfl⟩,by omega⟩
  ·have z1:decide ((1:Int)<2)=true:=rfl;have z2:decide ((1:Int)≥2)=false:=rfl;have z0:zaj (1:Int)=1:=rfl;have zw:IntKind.i64.wrap ((1:Int)+1)=2:=rfl;simp only [z1,z2,z0,push_cast,↓reduceIte,reduceCtorEq,zE,zA,zL]
   repeat refine And.intro (by first | decide | omega | exact fun _=>by decide | (simp +contextual; done) | kernel_rfl) ?_
   refine a6 (a9l p.2 q.2) rfl trivial ?_;simp only [push_cast,↓reduceIte];refine b6 (fun hc=>?_) (fun hc=>?_)
   ·have hc:ahl p.2 q.2≠0:=by simpa using hc
    simp only [push_cast,↓reduceIte,zB,zE,zA,zS,zL,zD];unfold axf;rw [if_neg (by rw [k1 (by omega)]; simp)]
   ·have hc:ahl p.2 q.2=0:=by simpa using hc
    simp only [zw,push_cast,↓reduceIte,reduceCtorEq,zB,zE,zA,zS,zL,zD];exact ⟨⟨2,by omega,fun _=>k1 (by omega),fun _=>hc,rfl⟩,by omega⟩
  ·have z1:decide ((2:Int)<2)=false:=rfl;simp only [z1,push_cast,↓reduceIte,reduceCtorEq,zB,zE,zA,zS,zL,zD];unfold axf;rw [if_neg (by rw [k1 (by omega)]; simp),k2 (by omega)]
theorem a94 (p q:P2):a8 P0 130 [pv2 p,pv2 q] [] (int .i64 (axf p q)) []:=by
 have hmax:=d7;refine af2 rfl (by decide) ?_
 push_cast [zb,pv2,pnt,zab]
 refine ⟨by omega,by omega,?_⟩;refine b9 (bid p q) rfl ⟨rfl,rfl,trivial⟩ ?_
 push_cast
 kernel_rfl

def qt:Mk P0 f220:={ x:=_ }
theorem vk:b8 220 4 qt:=b7 func220
def ltP (p q:P2):Bool:=decide (axf p q<0)
def aas (x:P2):List P2→List P2
 | []=>[x]
 | e::r=>if ltP x e=true then e::aas x r else x::e::r
def ama (l:List P2):List P2:=l.foldl (fun s x=>aas x s) []
def di (l:List P2):List P2:=(ama l).reverse
theorem a08 (x:P2):∀s,(aas x s).length=s.length+1
 | []=>rfl
 | e::r=>by
  rw [aas];split
  ·simp [a08 x r]
  ·simp
theorem aog (l:List P2) (p:P2):ama (l++[p])=aas p (ama l):=by simp [ama]
theorem az4 (l:List P2):(ama l).length=l.length:=by
 refine amb (P:=fun l=>(ama l).length=l.length) rfl (fun l p ih=>?_) l;rw [aog,a08,ih,zaq]
 rfl
theorem adu (l:List P2):(di l).length=l.length:=by rw [di,List.length_reverse,az4]
def agF:AV:=.fn (.func 130) [] 0
def r6 (l:List P2):Ob:=.row 2 (pnt 0 0) false true (l.map ptR)
theorem ben (A T:List P2) (e x:P2):(((A++e::x::T).map ptR).set (A.length+1) (ptR e)).set A.length (ptR x)=(A++x::e::T).map ptR:=by
 have h1:(A++e::x::T).set (A.length+1) e=A++e::e::T:=by simp
 have h2:(A++e::e::T).set A.length x=A++x::e::T:=by simp
 rw [← zbk,h1,← zbk,h2]
theorem aat (A T:List P2) (e:P2) (z:RV):((A++e::T).map ptR).getD A.length z=ptR e:=by
 rw [zak]; simp
theorem azj (A T:List P2) (e x:P2) (z:RV):((A++e::x::T).map ptR).getD (A.length+1) z=ptR x:=by
 rw [zak]; simp
set_option maxHeartbeats 4000000 in
theorem bjc (l:List P2) (hl:1≤l.length∧l.length≤1000):a8 P0 220 [.own 1000000 0 0 l.length,int .i64 0,int .i64 l.length,agF] [r6 l] (.tup []) [r6 (di l)]:=by
 refine vk rfl (by simp) ?_;have hfn:aar P0 130=true:=rfl;have w0:IntKind.i64.wrap ((0:Int)+1)=1:=rfl
 push_cast [qt,agF,r6,w0,zab,zai]
 refine run_loop [(0,false),(1,false),(2,false),(3,false),(8,false)] (fun vs pos los=>∃i:Nat,1≤i∧i≤l.length∧vs=[.own 1000000 0 0 l.length,int .i64 0,int .i64 l.length,agF,int .i64 i]∧pos=[r6 (di (l.take i)++l.drop i)]∧los=[])
  (fun vs _ _=>match vs with | [_,_,_,_,.r (.v (.int _ a))]=>(l.length-a).toNat | _=>0) rfl ?_ ?_
 ·push_cast
  obtain ⟨p,r,rfl⟩:∃p r,l=p::r:=by
   cases l with
   | nil=>simp at hl
   | cons p r=>exact ⟨p,r,rfl⟩
  exact ⟨1,by omega,by omega,rfl,rfl⟩
 ·rintro vs pos los ⟨i,i1,i2,rfl,rfl,rfl⟩
  push_cast [agF,r6]
  refine b6 (fun hi=>?_) (fun hi=>?_)
  ·have hi:i<l.length:=by have:=of_decide_eq_true hi; omega
   have wi:IntKind.i64.wrap ((i:Int)+1)=(i:Int)+1:=a5 (by omega);obtain ⟨x,hx⟩:∃x,l[i]=x:=⟨_,rfl⟩
   have htk:l.take (i+1)=l.take i++[x]:=by rw [List.take_succ_eq_append_getElem hi,hx]
   have hdr:l.drop i=x::l.drop (i+1):=by rw [List.drop_eq_getElem_cons hi,hx]
   obtain ⟨s,hs⟩:∃s,ama (l.take i)=s:=⟨_,rfl⟩
   have hsl:s.length=i:=by rw [← hs,az4,List.length_take]; omega
   have hsort:di (l.take i)=s.reverse:=by rw [di,hs]
   have hsort2:di (l.take (i+1))=(aas x s).reverse:=by rw [di,htk,aog,hs]
   obtain ⟨D,hD⟩:∃D,l.drop (i+1)=D:=⟨_,rfl⟩
   rw [hsort,hdr,hD]
   push_cast
   refine run_loop [(0,false),(1,false),(2,false),(3,false),(8,false),(9,false)] (fun vs pos los=>∃(m r:List P2),s=m++r∧aas x s=m++aas x r∧vs=[.own 1000000 0 0 l.length,int .i64 0,int .i64 l.length,agF,int .i64 i,int .i64 r.length]∧pos=[r6 (r.reverse++x::(m.reverse++D))]∧los=[])
    (fun vs _ _=>match vs with | [_,_,_,_,_,.r (.v (.int _ a))]=>a.toNat | _=>0) rfl ?_ ?_
   ·push_cast [agF,r6]
    exact ⟨[],s,rfl,rfl,by rw [hsl],rfl⟩
   ·rintro vs pos los ⟨m,r,hm,hins,rfl,rfl,rfl⟩
    have hend:∀T,T=r.reverse++x::(m.reverse++D)→aas x r=x::r→T=di (l.take (i+1))++D:=fun T hT hr=>by
     rw [hT,hsort2,hins,hr];simp
    cases r with
    | nil=>
     have z0:decide ((0:Int)>0)=false:=rfl
     push_cast [agF,r6,z0,wi,zab]
     refine And.intro (by kernel_rfl) ⟨⟨i+1,by omega,by omega,by simp,?_⟩,by omega⟩;rw [hend _ rfl rfl,hD]
    | cons e r=>
     have hrl:r.length<i:=by rw [← hsl,hm]; simp; omega
     have z1:decide (((r.length:Nat):Int)+1>0)=true:=decide_eq_true (by omega);have wj:IntKind.i64.wrap (((r.length:Nat):Int)+1-1)=(r.length:Int):=by rw [a5 (by omega)]; omega
     have hag:=a94 x e;have hR:(e::r).reverse++x::(m.reverse++D)=r.reverse++e::x::(m.reverse++D):=by simp
     obtain ⟨T,hT⟩:∃T,m.reverse++D=T:=⟨_,rfl⟩
     obtain ⟨A,hA⟩:∃A,r.reverse=A:=⟨_,rfl⟩
     have hAl:A.length=r.length:=by rw [← hA]; simp
     rw [hR,hT,hA];have ge:=aat A (x::T) e;have gx:=azj A T e x;rw [hAl] at ge gx;have hpe:ptR e=.agg [.v (.int .i64 e.1),.v (.int .i64 e.2)]:=rfl;have hpx:ptR x=.agg [.v (.int .i64 x.1),.v (.int .i64 x.2)]:=rfl
     push_cast [agF,r6,z1,wj,ge,gx,hpe,hpx,hfn,zai,zaf,zao,zad]
     refine ⟨⟨by omega,by omega⟩,⟨by omega,by omega⟩,?_⟩;refine i7 (as':=[pv2 x,pv2 e]) rfl ?_;refine b9 hag rfl trivial ?_
     push_cast [agF,r6,z1,wj,ge,gx,hpe,hpx,hfn,zai,zaf,zao,zad]
     refine And.intro (by kernel_rfl) ?_;refine b6 (fun hc=>?_) (fun hc=>?_)
     ·have hlt:ltP x e=true:=hc;have hset:=ben A T e x;rw [hAl,hpe,hpx] at hset
      have ge2:∀z,(((A++e::x::T).map ptR).set (r.length+1) (.agg [.v (.int .i64 e.1),.v (.int .i64 e.2)])).getD r.length z=.agg [.v (.int .i64 e.1),.v (.int .i64 e.2)]:=fun z=>by
       rw [zak,List.getElem?_set_ne (by omega),← zak,ge];exact hpe
      push_cast [agF,r6,wj,ge,gx,ge2,hpe,hpx,hset,c9,zai,zaf,zao,zad]
      repeat refine And.intro (by first | exact ⟨by omega,by omega⟩ | kernel_rfl) ?_
      refine ⟨⟨m++[e],r,by rw [hm]; simp,by rw [hins,aas,if_pos hlt]; simp,by simp,?_⟩,by omega⟩;rw [← hA,← hT];simp
     ·have hlt:ltP x e=false:=hc
      push_cast [wi]
      refine ⟨⟨i+1,by omega,by omega,by simp,?_⟩,by omega⟩;have:=hend (A++e::x::T) (by rw [← hA,← hT]; simp) (by rw [aas,hlt]; rfl);rw [this,hD]
  ·have hi:i=l.length:=by have:=of_decide_eq_false hi; omega
   subst hi
   push_cast
   rw [List.take_length,List.drop_length,zat]

def ry:Mk P0 f183:={ x:=_ }
theorem ww:b8 183 5 ry:=b7 func183
def rm:Mk P0 f129:={ x:=_ }
theorem wo:b8 129 2 rm:=b7 func129
def afc:Mk P0 f133:={ x:=_ }
theorem ak2:b8 133 1 afc:=b7 func133
def a56 (n:Nat):Nat:=if n=0 then 0 else Nat.log2 n+1
theorem bb0 (n:Nat) (hn:n<16):a8 P0 214 [int .u64 n] [] (int .i64 (a56 n)) []:=by
 refine aff rfl (by decide) ?_;have g1:decide ((n:Int)≥4294967296)=false:=by simp; omega
 have g2:decide ((n:Int)≥65536)=false:=by simp; omega
 have g3:decide ((n:Int)≥256)=false:=by simp; omega
 have w:IntKind.u8.wrap (n:Int)=n:=by simp [IntKind.wrap,IntKind.bits,IntKind.signed]; omega
 push_cast [ae4,g1,g2,g3,w,zaf,zab]
 refine ⟨⟨by omega,(show (n:Int)<((256:Nat):Int) by omega)⟩,?_⟩;refine congrArg (fun z=>AV.r (.v (.int .i64 z))) ?_;clear g1 g2 g3 w
 revert n
 decide +kernel
theorem a8y (n:Nat) (hn:n<16):a8 P0 169 [int .u64 n] [] (int .i64 (a56 n)) []:=by
 refine ajh rfl (by decide) ?_;have w:IntKind.u64.wrap (n:Int)=n:=by rw [IntKind.wrap_u64]; omega
 push_cast [aj6,w,zab]
 refine a6 (bb0 n hn) rfl trivial ?_
 push_cast
theorem bir (l:List P2) (hl:1≤l.length∧l.length≤12) (lim:Int):a8 P0 183 [.own 1000000 0 0 l.length,int .i64 0,int .i64 l.length,int .i64 lim,agF] [r6 l] (.tup []) [r6 (di l)]:=by
 refine ww rfl (by simp) ?_
 push_cast [ry,agF,r6,zab,zai]
 refine run_loop [(0,false),(1,false),(2,false),(3,false),(4,false),(10,false),(11,false)] (fun vs pos los=>vs=[.own 1000000 0 0 l.length,int .i64 0,int .i64 l.length,int .i64 lim,agF,bl true,bl true]∧pos=[r6 l]∧los=[])
  (fun _ _ _=>0) rfl ?_ ?_
 ·push_cast [agF,r6]
 ·rintro vs pos los ⟨rfl,rfl,rfl⟩;have w0:IntKind.i64.wrap ((l.length:Int)-0)=(l.length:Int):=by rw [a5 (by omega)]; omega
  have d0:decide ((l.length:Int)≤12)=true:=decide_eq_true (by omega)
  push_cast [agF,r6,w0,d0]
  refine aje ?_
  push_cast
  refine b5 (as':=[.own 1000000 0 0 l.length,int .i64 0,int .i64 l.length,agF]) rfl ?_;refine a6 (po:=[r6 l]) (bjc l (by omega)) rfl ⟨⟨rfl,by simp [adu]⟩,trivial⟩ ?_
  push_cast [r6,zai,zab]
theorem bh0 (l:List P2) (hl:1≤l.length∧l.length≤12):a8 P0 129 [.own 1000000 0 0 l.length,agF] [r6 l] (.tup []) [r6 (di l)]:=by
 refine wo rfl (by simp) ?_;have w:IntKind.u64.wrap ((l.length:Nat):Int)=(l.length:Int):=by rw [IntKind.wrap_u64]; omega
 push_cast [rm,agF,r6,w,zab,zai]
 refine a6 (a8y l.length (by omega)) rfl trivial ?_
 push_cast
 refine aje ?_
 push_cast
 refine b5 (as':=[.own 1000000 0 0 l.length,int .i64 0,int .i64 l.length,int .i64 (a56 l.length),agF]) rfl ?_;refine a6 (po:=[r6 l]) (bir l hl _) rfl ⟨⟨rfl,by simp [adu]⟩,trivial⟩ ?_
 push_cast [r6,zai,zab]
set_option maxHeartbeats 2000000 in
theorem bjg (l G:List P2) (hl:l.length≤1000):a8 P0 133 [.own 1000000 0 0 l.length] [r6 (l++G)] (.tup []) [r6 (l.reverse++G)]:=by
 refine ak2 rfl (by simp) ?_;have w0:IntKind.i64.wrap ((l.length:Int)-1)=(l.length:Int)-1:=a5 (by omega)
 push_cast [afc,r6,w0,zab,zai]
 refine run_loop [(0,false),(2,false),(3,false)] (fun vs pos los=>∃(A M B:List P2),A.length=B.length∧l.reverse=A++(M.reverse++B)∧vs=[.own 1000000 0 0 l.length,int .i64 A.length,int .i64 ((l.length:Int)-1-A.length)]∧pos=[r6 (A++(M++(B++G)))]∧los=[])
  (fun vs _ _=>match vs with | [_,_,.r (.v (.int _ a))]=>a.toNat | _=>0) rfl ?_ ?_
 ·push_cast [r6]
  refine ⟨[],l,[],rfl,by simp,?_,?_⟩
  ·simp
  ·simp
 ·rintro vs pos los ⟨A,M,B,hAB,hrev,rfl,rfl,rfl⟩
  have hlen:l.length=A.length+(M.length+B.length):=by
   have:=congrArg List.length hrev;simpa using this
  push_cast [r6]
  refine b6 (fun hc=>?_) (fun hc=>?_)
  ·have hc:=of_decide_eq_true hc
   obtain ⟨p,M',q,rfl⟩:∃p M' q,M=p::(M'++[q]):=by
    cases M with
    | nil=>simp at hlen; omega
    | cons p M=>
     rcases List.eq_nil_or_concat M with rfl | ⟨M',q,rfl⟩
     ·simp at hlen; omega
     ·exact ⟨p,M',q,by simp⟩
   obtain ⟨J,hJ⟩:∃J:Nat,J=A.length+M'.length+1:=⟨_,rfl⟩
   simp only [zai,zaq,zab] at hlen;have hj:((l.length:Nat):Int)-1-(A.length:Int)=(J:Int):=by omega
   obtain ⟨T,hT⟩:∃T,B++G=T:=⟨_,rfl⟩
   have hrow:A++(p::(M'++[q])++(B++G))=A++p::(M'++q::T):=by rw [hT]; simp
   have gp:∀z,((A++p::(M'++q::T)).map ptR).getD A.length z=.agg [.v (.int .i64 p.1),.v (.int .i64 p.2)]:=fun z=>aat A _ p z
   have gq:∀z,((A++p::(M'++q::T)).map ptR).getD J z=.agg [.v (.int .i64 q.1),.v (.int .i64 q.2)]:=fun z=>by
    have:=aat (A++p::M') T q z;rw [show A++p::(M'++q::T)=(A++p::M')++q::T by simp,hJ];simp only [zaq,zai] at this;rw [show A.length+M'.length+1=A.length+(M'.length+1) by omega];exact this
   have s1:((A++p::(M'++q::T)).map ptR).set A.length (.agg [.v (.int .i64 q.1),.v (.int .i64 q.2)])=(A++q::(M'++q::T)).map ptR:=by
    rw [show (RV.agg [.v (.int .i64 q.1),.v (.int .i64 q.2)])=ptR q from rfl,← zbk];congr 1;simp
   have gq2:∀z,((A++q::(M'++q::T)).map ptR).getD J z=.agg [.v (.int .i64 q.1),.v (.int .i64 q.2)]:=fun z=>by
    have:=aat (A++q::M') T q z;rw [show A++q::(M'++q::T)=(A++q::M')++q::T by simp,hJ];simp only [zaq,zai] at this;rw [show A.length+M'.length+1=A.length+(M'.length+1) by omega];exact this
   have s2:((A++q::(M'++q::T)).map ptR).set J (.agg [.v (.int .i64 p.1),.v (.int .i64 p.2)])=(A++q::(M'++p::T)).map ptR:=by
    rw [show (RV.agg [.v (.int .i64 p.1),.v (.int .i64 p.2)])=ptR p from rfl,← zbk];congr 1
    have h1:((A++q::M')++q::T).set J p=(A++q::M')++p::T:=by
     rw [show J=(A++q::M').length by simp; omega];simp
    rw [show A++q::(M'++q::T)=(A++q::M')++q::T by simp,h1];simp
   have wi:IntKind.i64.wrap ((A.length:Int)+1)=(A.length:Int)+1:=a5 (by omega);have wj:IntKind.i64.wrap ((J:Int)-1)=(J:Int)-1:=a5 (by omega);rw [hj,hrow]
   push_cast [r6,gp,gq,gq2,s1,s2,wi,wj,c9,zaf,zao,zad]
   repeat refine And.intro (by first | exact ⟨by omega,by omega⟩ | kernel_rfl) ?_
   refine ⟨⟨A++[q],M',p::B,by simp; omega,by rw [hrev]; simp,?_,?_⟩,by omega⟩
   ·simp;omega
   ·rw [← hT]; simp
  ·have hc:=of_decide_eq_false hc
   push_cast
   rw [hrev]
   have hM:M.reverse=M:=by
    rcases M with _ | ⟨p,_ | ⟨q,M⟩⟩
    ·rfl
    ·rfl
    ·simp at hlen; omega
   rw [hM];simp

def sj:Mk P0 f131:={ x:=_ }
theorem xb:b8 131 1 sj:=b7 func131
def ye (u:P2):List P2→List P2
 | []=>[]
 | q::r=>if q=u then ye u r else q::ye q r
def ic:List P2→List P2
 | []=>[]
 | p::r=>p::ye p r
theorem ath:∀(u:P2) (l:List P2),(ye u l).length≤l.length
 | u,[]=>zas _
 | u,q::r=>by
  rw [ye];split
  ·have:=ath u r; simp; omega
  ·have:=ath q r; simp; omega
theorem apq (l:List P2):(ic l).length≤l.length:=by
 cases l with
 | nil=>exact zas _
 | cons p r=>have:=ath p r; simp [ic]; exact this
theorem af5 (p q:P2):(p.1 == q.1&&p.2 == q.2)=decide (p=q):=by
 rw [Bool.eq_iff_iff];simp [Prod.ext_iff]
theorem bek (o W:List P2) (k n:Nat) (hk:k=o.length) (hn:n=W.length):spl ((o++W).map ptR) k (List.replicate n (.agg [.v (.int .i64 0),.v (.int .i64 0)]))=(o++List.replicate n (0,0)).map ptR:=by
 subst hk; subst hn;unfold spl c9;rw [zbm,List.take_left' (by simp),List.drop_of_length_le (by simp),zat,zbm,List.map_replicate]
 rfl
set_option maxHeartbeats 4000000 in
theorem bjv (l:List P2) (hl:1≤l.length∧l.length≤1000):a8 P0 131 [.own 1000000 0 0 l.length] [r6 l] (.own 1000000 0 0 (ic l).length) [r6 (ic l++List.replicate (l.length-(ic l).length) (0,0))]:=by
 refine xb rfl (by simp) ?_;simp only [sj,r6,push_cast,↓reduceIte,reduceCtorEq,zA];refine b6 (fun h2=>?_) (fun h2=>?_)
 ·have h2:=of_decide_eq_true h2
  obtain ⟨p,rfl⟩:∃p,l=[p]:=by
   rcases l with _ | ⟨p,_ | ⟨q,r⟩⟩
   ·simp at hl
   ·exact ⟨p,rfl⟩
   ·simp at h2; omega
  simp only [push_cast,↓reduceIte,reduceCtorEq,zA,zS,zL,zD];exact ⟨rfl,rfl⟩
 ·have h2:=of_decide_eq_false h2;simp only [push_cast]
  refine run_loop [(0,false),(3,false)] (fun vs pos los=>∃(A:List P2) (x:P2) (T:List P2),l=A++x::T∧ic l=A++x::ye x T∧vs=[.own 1000000 0 0 l.length,int .i64 ((A.length:Int)+1)]∧pos=[r6 (A++x::T)]∧los=[])
   (fun vs _ _=>match vs with | [_,.r (.v (.int _ a))]=>(l.length-a).toNat | _=>0) rfl ?_ ?_
  ·simp only [r6,push_cast,↓reduceIte,reduceCtorEq,zA,zS,zL,zD]
   obtain ⟨p,r,rfl⟩:∃p r,l=p::r:=by
    cases l with
    | nil=>simp at hl
    | cons p r=>exact ⟨p,r,rfl⟩
   exact ⟨[],p,r,rfl,rfl,rfl,rfl⟩
  ·rintro vs pos los ⟨A,x,T,hlA,hcA,rfl,rfl,rfl⟩;have hlen:l.length=A.length+1+T.length:=by rw [hlA]; simp; omega
   simp only [r6,push_cast,↓reduceIte,reduceCtorEq,zE];cases T with
   | nil=>
    have z0:decide (((A.length:Nat):Int)+1<((l.length:Nat):Int))=false:=decide_eq_false (by simp at hlen; omega);simp only [z0,push_cast,↓reduceIte,reduceCtorEq,zA,zS,zL,zD];rw [hcA];have h1:(A++x::ye x []).length=l.length:=by rw [hlA]; rfl
    rw [h1,Nat.sub_self];simp [ye]
   | cons y T=>
    simp only [zai] at hlen;have z0:decide (((A.length:Nat):Int)+1<((l.length:Nat):Int))=true:=decide_eq_true (by omega);have wk:IntKind.i64.wrap (((A.length:Nat):Int)+1-1)=(A.length:Int):=by rw [a5 (by omega)]; omega
    have wk2:IntKind.i64.wrap (((A.length:Nat):Int)+1+1)=(A.length:Int)+2:=by
     have:A.length<1000:=by omega
     rw [a5 (by omega)]; omega
    have gx:∀z,((A++x::y::T).map ptR).getD A.length z=.agg [.v (.int .i64 x.1),.v (.int .i64 x.2)]:=fun z=>aat A _ x z;have gy:∀z,((A++x::y::T).map ptR).getD (A.length+1) z=.agg [.v (.int .i64 y.1),.v (.int .i64 y.2)]:=fun z=>azj A _ x y z;have heq:=af5 y x;simp only [z0,wk,gx,gy,zaf,zao,zad,push_cast,↓reduceIte,reduceCtorEq,zE,zD];refine And.intro ⟨by omega,by omega⟩ ?_;refine And.intro ⟨by omega,by omega⟩ ?_;refine And.intro (by kernel_rfl) ?_;refine b6 (fun hyx=>?_) (fun hyx=>?_)
    ·have hyx:y=x:=of_decide_eq_true (heq.symm.trans hyx);subst hyx;obtain ⟨k0,hk0⟩:∃k0,A.length+1=k0:=⟨_,rfl⟩
     have hk1:((A.length:Nat):Int)+1=(k0:Int):=by omega
     have hk2:((A.length:Nat):Int)+2=(k0:Int)+1:=by omega
     simp only [hk0,hk1,zaf,zad,push_cast,↓reduceIte,reduceCtorEq,zE];obtain ⟨n0,hn0⟩:∃n0:Nat,((l.length:Int)-(k0:Int)).toNat=n0:=⟨_,rfl⟩
     have hnn:n0=T.length+1:=by omega
     refine And.intro ⟨by omega,by omega,by omega⟩ ?_;simp only [hn0]
     refine run_loop [(0,false),(3,false),(4,false),(5,false)] (fun vs pos los=>∃(C W T2:List P2) (u:P2) (k k2:Nat),k=C.length+1∧k0+k2=C.length+1+W.length+1∧1≤k2∧C.length+1+W.length+1+T2.length=l.length∧ic l=C++u::ye u T2∧vs=[.own 1000000 0 0 l.length,int .i64 k,.own 1000000 0 k0 n0,int .i64 k2]∧pos=[r6 ((C++[u])++(W++u::T2))]∧los=[])
      (fun vs _ _=>match vs with | [_,_,_,.r (.v (.int _ a))]=>(l.length-a).toNat | _=>0) rfl ?_ ?_
     ·simp only [r6,push_cast,↓reduceIte,reduceCtorEq,zE,zA,zS,zL,zD];refine ⟨A,[],T,y,k0,1,by omega,by simp; omega,by omega,by simp; omega,?_,rfl,?_⟩
      ·rw [hcA,ye,if_pos rfl]
      ·simp
     ·rintro vs pos los ⟨C,W,T2,u,k,k2,hk,hkk,hk21,hL,hcC,rfl,rfl,rfl⟩;simp only [r6,push_cast,↓reduceIte,reduceCtorEq,zE];cases T2 with
      | nil=>
       simp only [zab] at hL;have z1:decide (((k2:Nat):Int)<((n0:Nat):Int))=false:=decide_eq_false (by omega);simp only [z1,zaf,zad,push_cast,↓reduceIte,reduceCtorEq,zE,zA,zS,zL,zD];have hcC2:ic l=C++[u]:=hcC;have hcl:(ic l).length=C.length+1:=by rw [hcC2]; simp
       refine ⟨⟨by omega,by omega,by omega⟩,⟨by omega,by omega,by omega,by omega⟩,?_,?_⟩
       ·rw [hcl,show (zaj 0)=0 from rfl,show ((k:Int)-0).toNat=C.length+1 by omega]
       ·rw [bek (C++[u]) (W++[u]) k _ (by simp; omega) (by simp; omega),hcl,hcC2,show ((l.length:Int)-(k:Int)).toNat=l.length-(C.length+1) by omega]
      | cons v T3=>
       simp only [zai] at hL;have z1:decide (((k2:Nat):Int)<((n0:Nat):Int))=true:=decide_eq_true (by omega);have wk4:IntKind.i64.wrap (((k2:Nat):Int)-1)=((k2-1:Nat):Int):=by rw [a5 (by omega)]; omega
       have wk5:IntKind.i64.wrap (((k2:Nat):Int)+1)=((k2+1:Nat):Int):=by rw [a5 (by omega)]; omega
       have wk6:IntKind.i64.wrap (((k:Nat):Int)+1)=((k+1:Nat):Int):=by rw [a5 (by omega)]; omega
       have gu:∀z,(((C++[u])++(W++u::v::T3)).map ptR).getD (k0+(k2-1)) z=.agg [.v (.int .i64 u.1),.v (.int .i64 u.2)]:=fun z=>by
        rw [← zbe,show k0+(k2-1)=((C++[u])++W).length by simp; omega];exact aat _ _ u z
       have gv:∀z,(((C++[u])++(W++u::v::T3)).map ptR).getD (k0+k2) z=.agg [.v (.int .i64 v.1),.v (.int .i64 v.2)]:=fun z=>by
        rw [← zbe,show k0+k2=((C++[u])++W).length+1 by simp; omega];exact azj _ _ u v z
       simp only [z1,wk4,gu,gv,zaf,zad,push_cast,↓reduceIte,reduceCtorEq,zE,zD];refine And.intro ⟨by omega,by omega⟩ ?_;refine And.intro ⟨by omega,by omega⟩ ?_;refine And.intro (by kernel_rfl) ?_;have heq2:=af5 v u;refine b6 (fun hvu=>?_) (fun hvu=>?_)
       ·have hvu:v≠u:=by
         have h3:(v.1 == u.1&&v.2 == u.2)=false:=by
          generalize (v.1 == u.1&&v.2 == u.2)=q at hvu;cases q
          ·rfl
          ·cases hvu
         exact of_decide_eq_false (heq2.symm.trans h3)
        obtain ⟨W',hW',hset⟩:∃W':List P2,W'.length=W.length∧(((C++[u])++(W++u::v::T3)).map ptR).set k (.agg [.v (.int .i64 v.1),.v (.int .i64 v.2)])=(((C++[u])++[v])++(W'++v::T3)).map ptR:=by
         subst hk;rw [show (RV.agg [.v (.int .i64 v.1),.v (.int .i64 v.2)])=ptR v from rfl,← zbk];cases W with
         | nil=>exact ⟨[],rfl,by congr 1; simp⟩
         | cons w W2=>exact ⟨W2++[u],by simp,by congr 1; simp⟩
        obtain ⟨q,hq⟩:∃q:P2,∀z,(((C++[u])++(W++u::v::T3)).map ptR).getD k z=.agg [.v (.int .i64 q.1),.v (.int .i64 q.2)]:=by
         rw [show k=(C++[u]).length by simp; omega];cases W with
         | nil=>exact ⟨u,aat _ _ u⟩
         | cons w W2=>exact ⟨w,aat _ _ w⟩
        simp only [wk5,wk6,gv,hq,hset,zaf,zad,push_cast,↓reduceIte,reduceCtorEq,zE,zA,zS,zL,zD]
        repeat refine And.intro (by first | exact ⟨by omega,by omega⟩ | kernel_rfl) ?_
        refine ⟨⟨C++[u],W',T3,v,k+1,k2+1,by simp; omega,by simp; omega,by omega,by simp; omega,?_,by simp,rfl⟩,by omega⟩;rw [hcC,ye,if_neg hvu];simp
       ·have hvu:v=u:=by
         have h3:(v.1 == u.1&&v.2 == u.2)=true:=by
          generalize (v.1 == u.1&&v.2 == u.2)=q at hvu;cases q
          ·cases hvu
          ·rfl
         exact of_decide_eq_true (heq2.symm.trans h3)
        subst hvu;simp only [wk5,zad,push_cast,↓reduceIte,reduceCtorEq,zE,zA,zS,zL,zD];refine ⟨⟨C,W++[v],T3,v,k,k2+1,by omega,by simp; omega,by omega,by simp; omega,?_,by simp,by simp⟩,by omega⟩;rw [hcC,ye,if_pos rfl]
    ·have hyx:y≠x:=of_decide_eq_false (heq.symm.trans hyx);have wk3:IntKind.i64.wrap (((A.length:Nat):Int)+1+1)=(A.length:Int)+1+1:=by rw [wk2]; omega
     simp only [wk3,zad,push_cast,↓reduceIte,reduceCtorEq,zE,zA,zS,zL,zD];refine ⟨⟨A++[x],y,T,by rw [hlA]; simp,?_,by simp,by simp⟩,by omega⟩;rw [hcA,ye,if_neg hyx];simp

end
end Go.Ev

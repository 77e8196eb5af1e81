import Derived.Test.YtpibfnekkfhkmaaGreatM6
open Nat renaming reduceBEq → zB, reduceEqDiff → zE, reduceAdd → zA, reduceSub → zS, reduceLT → zL, reduceLeDiff → zD, reduceMul → zM
open Go.Proofs.Tryz renaming prog → P0
open Go.Proofs.Tryz
open Int renaming reduceToNat → zaa, toNat_zero → zaf, toNat_natCast → zah, toNat → zaj, add_mul → zal, neg_mul → zan, one_mul → zap, le_of_lt → zas, mul_le_mul_of_nonneg_left → zat, tmod_eq_emod_of_nonneg → zay, mul_add → zaz, mul_comm → zbd, mul_assoc → zbk, mul_nonneg → zbl, le_total → zbm, mul_le_mul_of_nonneg_right → zbs, mul_lt_mul_of_pos_right → zbt, mul_le_mul_of_nonpos_left → zbu, natAbs_ediv_le_natAbs → zbv, toNat_natCast_add_one → zbx, fdiv_eq_ediv_of_nonneg → zby
open List renaming length_nil → zab, length_map → zac, length_cons → zai, getD_eq_getElem?_getD → zak, mem_of_getElem? → zam, mem_singleton → zao, length_append → zaq, mem_append → zar, mem_cons → zau, append_nil → zaw, mem_range → zbc, take_add_one → zbg, filter_append → zbh, nil_append → zbn, getElem?_eq_getElem → zbo, all_eq_true → zbq, append_assoc → zbw, take_of_length_le → zbz
open Nat renaming zero_add → zad, mod_lt → zav, le_refl → zax, or_lt_two_pow → zba, pow_le_pow_right → zbb, lt_of_le_of_lt → zbi, min_eq_left → zbj
open BitVec renaming ofInt → zae
open Bool renaming not_false → zbe, false_eq_true → zbf, and_eq_true → zbp, not_eq_true' → zbr
namespace Go.Ev
set_option maxHeartbeats 8000000
set_option maxRecDepth 100000
noncomputable section
open Go
set_option linter.unusedSectionVars false
set_option linter.unnecessarySimpa false
set_option linter.unusedVariables false
def af2:Mk P0 f54:={ x:=_ }
def af6:Mk P0 f82:={ x:=_ }
variable {a:Nat}
theorem adx (h:a<18446744073709551616):IntKind.u64.wrap (a:Int)=a:=by rw [IntKind.wrap_u64]; omega
theorem ofI (a:Nat) (h:a<18446744073709551616):(zae IntKind.u64.bits (a:Int)).toNat=a:=by
 rw [show IntKind.u64.bits=64 from rfl,BitVec.toNat_ofInt];omega
variable {b:Nat}
theorem alg (c:a<18446744073709551616) (d:b<18446744073709551616):IntKind.u64.wrap (zae IntKind.u64.bits (a:Int) ||| zae IntKind.u64.bits (b:Int)).toNat=((a ||| b:Nat):Int):=by
 rw [BitVec.toNat_or,ofI a c,ofI b d];exact adx (zba (n:=64) c d)
theorem a7w (x:BitVec 64):(~~~ x).toNat=2^64-1-x.toNat:=BitVec.toNat_not
theorem bc7 (c:a<18446744073709551616) (d:b<18446744073709551616):IntKind.u64.wrap (zae IntKind.u64.bits (a:Int) &&& ~~~ zae IntKind.u64.bits (b:Int)).toNat=((a &&& (2^64-1-b):Nat):Int):=by
 rw [BitVec.toNat_and,ofI a c,show (~~~ zae IntKind.u64.bits (b:Int)).toNat=2^64-1-(zae IntKind.u64.bits (b:Int)).toNat from a7w _,ofI b d];exact adx (zbi Nat.and_le_left c)
variable {n:Nat}
theorem bnv (m:Int) (d:m=2^n-1) (c:n<=62) (b:a<18446744073709551616):IntKind.u64.wrap (zae IntKind.u64.bits (a:Int) &&& zae IntKind.u64.bits m).toNat=((a%2^n:Nat):Int):=by
 have h:2^n<=2^62:=zbb (by decide) c;have g:=Nat.two_pow_pos n;have e:((2^n:Nat):Int)=(2:Int)^n:=by simp
 have f:m=((2^n-1:Nat):Int):=by rw [d,<- e]; omega
 rw [f,BitVec.toNat_and,ofI a b,ofI _ (by omega),Nat.and_two_pow_sub_one_eq_mod];exact adx (zbi (Nat.mod_le _ _) b)
variable {k:Nat} {s:Int}
theorem ahb (b:s.toNat=k) (c:k<=63) (h:a*2^k<18446744073709551616):IntKind.u64.wrap ((a:Int)*2^min s.toNat IntKind.u64.bits)=((a*2^k:Nat):Int):=by
 rw [b,show min k IntKind.u64.bits=k from zbj (by simp [IntKind.bits]; omega),show (a:Int)*2^k=((a*2^k:Nat):Int) by simp];exact adx h
def uw (n:Nat):AV:=int .u64 n
theorem bf5 (r:Int) (z:Ei) (D:0<=r) (g:okc r.toNat z):a8 P0 54 [cel r z] [] (.tup [uw (y6 r.toNat z),int .i64 0]) []:=by
 refine af2.t func54 ?_;have E:=g;obtain ⟨c,x,J,K⟩:=E;simp only [af2,cel,push_cast,↓reduceIte,zE,zA,zD];refine b5 (as':=[cel r z]) rfl ?_;refine a6 (a6r r z D g) rfl trivial ?_;simp only [push_cast,↓reduceIte,zE,zA,zL,zD];have l:=beo r.toNat z (by omega)
 refine b9 [(6,false),(1,false),(4,false),(5,false)] (λ vs pos d=>∃i:Int,(0<=i/\i<=r)/\vs=[int .i64 i,.ptr 2000000 0 0,.ptr 2000001 0 0,int .u64 (qz r.toNat z i.toNat)]/\pos=[]/\d=[.box [int .i64 r,int .i64 z.a,int .i64 z.b],.box [int .i64 (anc (r-i).toNat z).a,int .i64 (anc (r-i).toNat z).b]])
  (λ vs _ _=>match vs with | .r (.v (.int _ j))::_=>j.toNat | _=>0) rfl ?_ ?_
 ·simp only [push_cast,↓reduceIte,zB,zE,zA,zL,zD];refine ⟨r,by omega,?_⟩;rw [l,Int.sub_self];exact ⟨rfl,rfl⟩
 rintro vs pos d ⟨i,H,rfl,rfl,rfl⟩;simp only [push_cast,↓reduceIte,zA];refine b7 (λ h=>?_) (λ h=>?_)
 ·simp only [decide_eq_true_eq] at h;have F:=at4 (r-i).toNat x (by decide);simp only [push_cast,↓reduceIte,zE,zA,zD];refine b5 (as':=[(anc (r-i).toNat z).v]) rfl ?_;refine a6 (avt _ F) rfl trivial ?_;simp only [Ei.v,Ei.rv,push_cast,↓reduceIte,zB,zE,zA,zL,zD];rw [show IntKind.i64.wrap (3*i)=3*i from a5 (by omega),show IntKind.i64.wrap (36-3*i)=36-3*i from a5 (by omega),show IntKind.i64.wrap (i-1)=i-1 from a5 (by omega)];have u:=ak0 r.toNat z i.toNat (by omega) c;have f:=a28 r.toNat z i.toNat (by omega) (by omega) c;have I:=alz (anc (r-i).toNat z);have e:(36-3*i).toNat=36-3*i.toNat:=by omega
  have w:2^(36-3*i.toNat)<=2^33:=zbb (by decide) (by omega);have G:dg (anc (r-i).toNat z)*2^(36-3*i.toNat)<=6*2^(36-3*i.toNat):=Nat.mul_le_mul_right _ (by omega);rw [adx (show dg (anc (r-i).toNat z)<18446744073709551616 by omega),show (7:Int)=((7:Nat):Int) from rfl,ahb e (by omega) (by omega),ahb e (by omega) (by omega),bc7 (by omega) (by omega),alg (zbi Nat.and_le_left (by omega)) (by omega)];rw [show (r-i).toNat=r.toNat-i.toNat by omega] at *;rw [f];refine ⟨by omega,by omega,by kernel_rfl,⟨i-1,by omega,?_,?_⟩,by omega⟩
  ·rw [show (i-1).toNat=i.toNat-1 by omega]
  rw [show (r-(i-1)).toNat=r.toNat-i.toNat+1 by omega,al7]
 have hi:i=0:=by simp at h; omega
 subst hi;simp only [push_cast,↓reduceIte,zE,zA,zL];refine ⟨by decide,by decide,by decide,?_⟩;have u:=ak0 r.toNat z 0 (by omega) c;rw [show (r-0).toNat=r.toNat by omega];obtain ⟨A,m⟩:∃A:Nat,(anc r.toNat z).a+512=A:=⟨((anc r.toNat z).a+512).toNat,by omega⟩
 obtain ⟨B,q⟩:∃B:Nat,(anc r.toNat z).b+512=B:=⟨((anc r.toNat z).b+512).toNat,by omega⟩
 have s:=ben r.toNat z c A B (by omega) (by omega) m q;have C:=aou r.toNat z g;obtain ⟨R,rfl⟩:∃R:Nat,r=R:=⟨r.toNat,by omega⟩
 rw [zah] at *;rw [m,q,show IntKind.i64.wrap (A:Int)=A from a5 (by omega),show IntKind.i64.wrap (B:Int)=B from a5 (by omega),adx (show A<18446744073709551616 by omega),adx (show B<18446744073709551616 by omega),adx (show R<18446744073709551616 by omega)];rw [ahb (k:=56) rfl (by decide) (by omega),ahb (k:=46) rfl (by decide) (by omega),ahb (k:=36) rfl (by decide) (by omega),show (1152921504606846976:Int)=((1152921504606846976:Nat):Int) from rfl,zaf];have p:qz R z 0 ||| 1152921504606846976<18446744073709551616:=zba (n:=64) (by omega) (by omega);have o:qz R z 0 ||| 1152921504606846976 ||| R*2^56<18446744073709551616:=zba (n:=64) p (by omega)
 have y:qz R z 0 ||| 1152921504606846976 ||| R*2^56 ||| A*2^46<18446744073709551616:=zba (n:=64) o (by omega);rw [alg (by omega) (by omega),alg p (by omega),alg o (by omega),alg y (by omega),s]
 rfl
def aei (w:Nat):Bool:=decide (w/1152921504606846976=1)&&decide (z9 w<=12)&&(List.range 13).all λ i=>decide (i=0)||(decide (dgt w i=7) == decide (z9 w<i))
theorem alm (w:Nat):aei w=true↔isW w:=by
 simp only [aei,isW,zbp,decide_eq_true_eq,zbq,zbc,Bool.or_eq_true,beq_iff_eq,decide_eq_decide];constructor
 ·rintro ⟨⟨c,a⟩,b⟩;refine ⟨c,a,λ i e f=>?_⟩;rcases b i (by omega) with h | h
  ·omega
  exact h
 rintro ⟨c,a,b⟩;refine ⟨⟨c,a⟩,λ i hi=>?_⟩;by_cases d:i=0
 ·exact .inl d
 exact .inr (b i (by omega) (by omega))
variable {r:Nat} {z:Ei}
theorem awc (h:okc r z):aei (y6 r z)=true:=(alm _).2 (aqh r z h).1
variable {w:Nat}
theorem aur (h:¬isW w):aei w=false:=by
 cases hb:aei w with
 | false=>rfl
 | true=>exact absurd ((alm w).1 hb) h
theorem bam (b:s.toNat=k) (c:k<=63):(a:Int).fdiv (2^min s.toNat IntKind.u64.bits)=((a/2^k:Nat):Int):=by
 rw [b,show min k IntKind.u64.bits=k from zbj (by simp [IntKind.bits]; omega)];rw [zby _ (by have:=Int.pow_pos (n:=2) (m:=k) (by decide); omega)];simp
variable {m:Int}
theorem aay (b:s.toNat=k) (e:k<=63) (f:m=2^n-1) (c:n<=62) (d:a<18446744073709551616) :
 IntKind.u64.wrap (zae IntKind.u64.bits ((a:Int).fdiv (2^min s.toNat IntKind.u64.bits)) &&& zae IntKind.u64.bits m).toNat=((a/2^k%2^n:Nat):Int):=by
 rw [bam b e,bnv m f c (zbi (Nat.div_le_self _ _) d)]
theorem api (w:Nat) (i:Nat) (hi:i<=12):(s7 w i).In 1000000000000:=by
 have h:∀i:Nat,∀n:Int,(s7 w i).In n->1<=n->(s7 w (i+1)).In (5*n):=λ i n t e=>by
  have s:∀d,(uni d).In 1:=λ d=>by unfold uni; split<;>unfold Ei.In<;>decide
  have r:=s (dgt w (i+1)-1);unfold Ei.In at t r |-;rw [s7,vg];split<;>simp only [Ei.mul,aw,Ei.add]<;>omega
 have m:(s7 w 0).In 512:=by
  unfold Ei.In s7 a48;dsimp only;omega
 have e:=h 0 _ m (by decide);have p:=h 1 _ e (by decide);have g:=h 2 _ p (by decide);have q:=h 3 _ g (by decide);have o:=h 4 _ q (by decide);have j:=h 5 _ o (by decide);have k:=h 6 _ j (by decide);have l:=h 7 _ k (by decide);have f:=h 8 _ l (by decide);have a:=h 9 _ f (by decide);have b:=h 10 _ a (by decide);have c:=h 11 _ b (by decide);rcases (show i=0\/i=1\/i=2\/i=3\/i=4\/i=5\/i=6\/i=7\/i=8\/i=9\/i=10\/i=11\/i=12 by omega) with rfl | rfl | rfl | rfl | rfl | rfl | rfl | rfl | rfl | rfl | rfl | rfl | rfl
 ·exact m.mono (by decide)
 ·exact e.mono (by decide)
 ·exact p.mono (by decide)
 ·exact g.mono (by decide)
 ·exact q.mono (by decide)
 ·exact o.mono (by decide)
 ·exact j.mono (by decide)
 ·exact k.mono (by decide)
 ·exact l.mono (by decide)
 ·exact f.mono (by decide)
 ·exact a.mono (by decide)
 ·exact b.mono (by decide)
 exact c.mono (by decide)
theorem bgh (w:Nat) (z:w<18446744073709551616):a8 P0 82 [uw w] [] (.tup (if aei w then [cel (z9 w) (s7 w (z9 w)),int .i64 0] else [cel 0 ⟨0,0⟩,int .i64 5])) []:=by
 refine af6.t func82 ?_;simp only [af6,cel,uw,push_cast,↓reduceIte,reduceCtorEq,zE];have S:(w:Int).fdiv (2^min (zaj 60) IntKind.u64.bits)=((w/1152921504606846976:Nat):Int):=bam (k:=60) rfl (by decide)
 have V:IntKind.i64.wrap (IntKind.u64.wrap (zae IntKind.u64.bits ((w:Int).fdiv (2^min (zaj 56) IntKind.u64.bits)) &&& zae IntKind.u64.bits 15).toNat)=(z9 w:Int):=by
  rw [aay (k:=56) (n:=4) rfl (by decide) (by decide) (by decide) z];exact a5 (by omega)
 have X:IntKind.i64.wrap (IntKind.i64.wrap (IntKind.u64.wrap (zae IntKind.u64.bits ((w:Int).fdiv (2^min (zaj 46) IntKind.u64.bits)) &&& zae IntKind.u64.bits 1023).toNat)-512)=(s7 w 0).a:=by
  rw [aay (k:=46) (n:=10) rfl (by decide) (by decide) (by decide) z,show ∀x:Nat,x<1024->IntKind.i64.wrap (IntKind.i64.wrap (x:Int)-512)=x-512 from λ x hx=>by rw [a5 (x:=(x:Int)) (by omega),a5 (by omega)]]
  ·rfl
  omega
 have U:IntKind.i64.wrap (IntKind.i64.wrap (IntKind.u64.wrap (zae IntKind.u64.bits ((w:Int).fdiv (2^min (zaj 36) IntKind.u64.bits)) &&& zae IntKind.u64.bits 1023).toNat)-512)=(s7 w 0).b:=by
  rw [aay (k:=36) (n:=10) rfl (by decide) (by decide) (by decide) z,show ∀x:Nat,x<1024->IntKind.i64.wrap (IntKind.i64.wrap (x:Int)-512)=x-512 from λ x hx=>by rw [a5 (x:=(x:Int)) (by omega),a5 (by omega)]]
  ·rfl
  omega
 rw [S,V];obtain ⟨T,M⟩:∃T:Int,((w/1152921504606846976:Nat):Int)=T:=⟨_,rfl⟩
 obtain ⟨R,O⟩:∃R:Int,(z9 w:Int)=R:=⟨_,rfl⟩
 have J:z9 w<16:=by unfold z9; omega
 rw [M,O];refine ⟨by decide,by decide,λ h=>by simp [h],?_⟩;refine b7 (λ h=>?_) (λ h=>?_)
 ·have d:aei w=false:=aur λ q=>by
   obtain ⟨Z,Y,_⟩:=q;have:¬R>12:=by omega
   have m:T=1:=by omega
   rw [m] at h;simp [this] at h
  rw [d];simp only [push_cast,↓reduceIte,zE,zA,zD]
 have m:T=1:=by
  by_cases hc:T=1
  ·exact hc
  have:(T != 1)=true:=by simp [hc]
  rw [this] at h;cases h
 rw [m] at h;have K:R<=12:=by simpa using h
 simp only [push_cast,↓reduceIte,reduceCtorEq,zE,zA,zD];rw [X,U];refine ⟨by decide,by decide,?_⟩
 refine b9 [(6,false),(0,false),(4,false),(5,false),(2,false)] (λ vs pos s=>∃i:Nat,(1<=i/\i<=13)/\(∀j,1<=j->j<i->(dgt w j=7↔z9 w<j))/\vs=[int .i64 i,int .u64 w,int .i64 R,.ptr 2000000 0 0,.ptr 2000001 0 0]/\pos=[]/\s=[.box [int .i64 (s7 w (min (i-1) (z9 w))).a,int .i64 (s7 w (min (i-1) (z9 w))).b],.box [int .i64 0,int .i64 0,int .i64 0]])
  (λ vs _ _=>match vs with | .r (.v (.int _ j))::_=>(13-j).toNat | _=>0) rfl ?_ ?_
 ·simp only [push_cast,↓reduceIte,reduceCtorEq,zB,zE,zA,zL,zD];refine ⟨1,by omega,λ j p F=>by omega,rfl,?_⟩;rw [show min (1-1) (z9 w)=0 by omega]
 rintro vs pos s ⟨i,H,A,rfl,rfl,rfl⟩;simp only [push_cast,↓reduceIte,zA];refine b7 (λ hi=>?_) (λ hi=>?_)
 ·have hi:i<=12:=by simp at hi; omega
  have L:IntKind.i64.wrap (IntKind.u64.wrap (zae IntKind.u64.bits ((w:Int).fdiv (2^min (36-3*(i:Int)).toNat IntKind.u64.bits)) &&& zae IntKind.u64.bits 7).toNat)=(dgt w i:Int):=by
   rw [aay (k:=36-3*i) (n:=3) (by omega) (by omega) (by decide) (by decide) z];rw [show 2^(36-3*i)=8^(12-i) by rw [show (8:Nat)=2^3 from rfl,<- Nat.pow_mul]; congr 1; omega];have:w/8^(12-i)%2^3=dgt w i:=rfl;rw [this];have:dgt w i<8:=zav _ (by decide);exact a5 (by omega)
  have P:dgt w i<8:=zav _ (by decide);simp only [push_cast,↓reduceIte,reduceCtorEq,zE];rw [show IntKind.i64.wrap (3*(i:Int))=3*i from a5 (by omega),show IntKind.i64.wrap (36-3*(i:Int))=36-3*i from a5 (by omega),L];obtain ⟨D,W⟩:∃D:Int,(dgt w i:Int)=D:=⟨_,rfl⟩
  rw [W];refine ⟨by omega,?_⟩;refine b7 (λ hc=>?_) (λ hc=>?_)
  ·have l:z9 w<i:=by simp at hc; omega
   simp only [push_cast,↓reduceIte,zE];refine b7 (λ e=>?_) (λ e=>?_)
   ·have d:aei w=false:=aur λ q=>by
     have:=(q.2.2 i H.1 hi).2 l;have:D=7:=by omega
     rw [this] at e;cases e
    rw [d];simp only [push_cast,↓reduceIte,reduceCtorEq,zE,zA,zD]
   have y:D=7:=by simpa using e
   simp only [push_cast,↓reduceIte,reduceCtorEq,zB,zE,zA,zL,zD];rw [show IntKind.i64.wrap ((i:Int)+1)=((i+1:Nat):Int) by rw [a5 (by omega)]; omega];refine ⟨⟨i+1,by omega,λ j p F=>?_,rfl,?_⟩,by omega⟩
   ·by_cases g:j=i
    ·subst g;constructor
     ·intro _; exact l
     intro _; omega
    exact A j p (by omega)
   rw [show min (i+1-1) (z9 w)=min (i-1) (z9 w) by omega]
  have l:i<=z9 w:=by simp at hc; omega
  simp only [push_cast,↓reduceIte,zE];refine b7 (λ e=>?_) (λ e=>?_)
  ·have d:aei w=false:=aur λ q=>by
    have y:D=7:=by simpa using e
    have:=(q.2.2 i H.1 hi).1 (by omega);omega
   rw [d];simp only [push_cast,↓reduceIte,reduceCtorEq,zE,zA,zD]
  have y:D≠7:=by simpa using e
  have I:=api w (i-1) (by omega);have B:=api w i hi;have C:((s7 w (i-1)).mul aw).In 10000000000000:=(vp I (show aw.In 2 by unfold Ei.In; decide)).mono (by decide)
  have c:s7 w i=vg (s7 w (i-1)) (dgt w i):=by
   conv=>lhs; rw [show i=i-1+1 by omega]
   rw [s7,show i-1+1=i by omega]
  rw [show min (i-1) (z9 w)=i-1 by omega];simp only [push_cast,↓reduceIte,reduceCtorEq,zE,zA,zD];refine b5 (as':=[(s7 w (i-1)).v,aw.v]) rfl ?_;refine a6 (afc _ _ (I.mono (by decide)) (show aw.In _ by unfold Ei.In; decide) (C.mono (by decide))) rfl trivial ?_;simp only [Ei.v,Ei.rv,push_cast,↓reduceIte,reduceCtorEq,zE,zA,zL,zD]
  have f:∀j,1<=j->j<i+1->(dgt w j=7↔z9 w<j):=λ j p F=>by
   by_cases g:j=i
   ·subst g;constructor
    ·intro h; omega
    intro h; omega
   exact A j p (by omega)
  refine b7 (λ G=>?_) (λ G=>?_)
  ·have E:0<D:=by simpa using G
   simp only [push_cast,↓reduceIte,zE];rw [show IntKind.i64.wrap (D-1)=D-1 from a5 (by omega)];refine a6 (a1f (D-1) (by omega)) rfl trivial ?_;simp only [Ei.v,Ei.rv,push_cast,↓reduceIte,reduceCtorEq,zB,zE,zA,zL,zD];rw [show IntKind.i64.wrap ((i:Int)+1)=((i+1:Nat):Int) by rw [a5 (by omega)]; omega];rw [show (D-1).toNat=dgt w i-1 by omega]
   have o:vg (s7 w (i-1)) (dgt w i)=((s7 w (i-1)).mul aw).add (uni (dgt w i-1)):=by
    unfold vg;rw [if_neg (by omega)]
   rw [o] at c;have N:((s7 w (i-1)).mul aw).a+(uni (dgt w i-1)).a=(s7 w i).a:=by rw [c]; rfl
   have Q:((s7 w (i-1)).mul aw).b+(uni (dgt w i-1)).b=(s7 w i).b:=by rw [c]; rfl
   unfold Ei.In at B;rw [N,Q,a5 (by omega),a5 (by omega)];refine ⟨⟨i+1,by omega,f,rfl,?_⟩,by omega⟩;rw [show min (i+1-1) (z9 w)=i by omega]
  have E:D=0:=by simp at G; omega
  simp only [push_cast,↓reduceIte,reduceCtorEq,zB,zE,zA,zL,zD];rw [show IntKind.i64.wrap ((i:Int)+1)=((i+1:Nat):Int) by rw [a5 (by omega)]; omega]
  have o:vg (s7 w (i-1)) (dgt w i)=(s7 w (i-1)).mul aw:=by
   unfold vg;rw [if_pos (by omega)]
  rw [o] at c;refine ⟨⟨i+1,by omega,f,rfl,?_⟩,by omega⟩;rw [show min (i+1-1) (z9 w)=i by omega,c]
 have hi:i=13:=by simp at hi; omega
 subst hi;have u:aei w=true:=(alm w).2 ⟨by omega,by omega,λ j p F=>A j p (by omega)⟩;rw [u];simp only [push_cast,↓reduceIte,reduceCtorEq,zE,zA,zS,zD];rw [show min (13-1) (z9 w)=z9 w by omega]

def acr:Mk P0 f27:={ x:=_ }
def ac8:Mk P0 f163:={ x:=_ }
def ap8:Mk P0 f115:={ x:=_ }
def arw (x y:Int) (r:Nat):Nat:=y6 r (g8 x y r)
theorem avp (x y r:Int) (h:inW x y) (a:0<=r/\r<=12):a8 P0 27 [int .i64 x,int .i64 y,int .i64 r] [] (uw (arw x y r.toNat)) []:=by
 refine acr.t func27 ?_
 push_cast [acr,zab]
 refine a6 (bga x y r h a) rfl trivial ?_
 push_cast [Ei.v,Ei.rv]
 refine b5 (as':=[cel r (g8 x y r.toNat)]) rfl ?_;refine a6 (bf5 r (g8 x y r.toNat) a.1 (mf x y r.toNat h.1 h.2 (by omega))) rfl trivial ?_
 push_cast [uw]
 rfl
def abg (w i:Nat):Nat:=w/8^(13-i)*8^(13-i)
theorem a27 (w i:Nat) (f:1<=i) (hi:i<=12):abg w i ||| dgt w i*2^(36-3*i)=abg w (i+1):=by
 unfold abg dgt;have d:13-(i+1)=12-i:=by omega
 have b:13-i=12-i+1:=by omega
 have c:2^(36-3*i)=8^(12-i):=by rw [show (8:Nat)=2^3 from rfl,<- Nat.pow_mul]; congr 1; omega
 have a:(8:Nat)^(12-i+1)=2^(3*(12-i+1)):=by rw [show (8:Nat)=2^3 from rfl,<- Nat.pow_mul]
 rw [d,b,c,Nat.or_comm,show w/8^(12-i+1)*8^(12-i+1)=w/8^(12-i+1)*2^(3*(12-i+1)) by rw [a],aa4]
 ·rw [<- a,Nat.pow_succ,<- Nat.div_div_eq_div_mul];have e:=Nat.div_add_mod (w/8^(12-i)) 8;generalize w/8^(12-i)=q at *;generalize 8^(12-i)=m at *;rw [Nat.mul_comm m 8,<- Nat.mul_assoc,<- Nat.add_mul,Nat.mul_comm (q/8) 8,e]
 rw [<- a,Nat.pow_succ,Nat.mul_comm];exact Nat.mul_lt_mul_of_pos_left (zav _ (by decide)) (p8 _)
theorem a5o (w:Nat):abg w 13=w:=by simp [abg]
theorem a5n (r:Nat) (z:Ei) (h:r<=12) (A B:Nat) (i:A<1024) (j:B<1024) (d:(anc r z).a+512=A) (c:(anc r z).b+512=B) :
 (((1152921504606846976 ||| r*2^56) ||| A*2^46) ||| B*2^36)=abg (y6 r z) 1:=by
 unfold abg;rw [show 13-1=12 by rfl,show (8:Nat)^12=68719476736 by decide,akz r z h,si,d,c,zah,zah]
 have g:1152921504606846976 ||| r*2^56=(16+r)*2^56:=by
  rw [Nat.or_comm,show (1152921504606846976:Nat)=1*2^60 by decide,aa4 (show r*2^56<2^60 by omega)];omega
 have e:(16+r)*2^56 ||| A*2^46=((16+r)*1024+A)*2^46:=by
  rw [Nat.or_comm,aa4 (show A*2^46<2^56 by omega)];omega
 have f:((16+r)*1024+A)*2^46 ||| B*2^36=(((16+r)*1024+A)*1024+B)*2^36:=by
  rw [Nat.or_comm,aa4 (show B*2^36<2^46 by omega)];omega
 rw [g,e,f]
theorem a93 (h:w<18446744073709551616) (i:Nat):abg w i<18446744073709551616:=zbi (Nat.div_mul_le_self _ _) h
theorem bdt (w d r:Nat) (a:w<18446744073709551616) (i:d<8) (g:1<=r) (h:r<=12):a8 P0 163 [.ptr 1000000 0 0,int .i64 r,int .u64 d] [.box [uw w]] (.tup []) [.box [uw (w ||| d*2^(36-3*r))]]:=by
 refine ac8.t func163 ?_
 push_cast [ac8,uw,zai,zab]
 have e:IntKind.i64.wrap ((r:Int)-1)=(r:Int)-1:=a5 (by omega);have b:IntKind.i64.wrap (3*((r:Int)-1))=3*((r:Int)-1):=a5 (by omega);have c:IntKind.i64.wrap (33-3*((r:Int)-1))=((36-3*r:Nat):Int):=by rw [a5 (by omega)]; omega
 have f:2^(36-3*r)<=2^33:=zbb (by decide) (by omega);have j:d*2^(36-3*r)<=7*2^(36-3*r):=Nat.mul_le_mul_right _ (by omega);rw [e,b,c,show IntKind.u64.wrap ((36-3*r:Nat):Int)=((36-3*r:Nat):Int) from adx (by omega),ahb (zah _) (by omega) (by omega),alg a (by omega)]
 repeat refine sI ?_
 rfl
theorem bcn (r:Nat) (z:Ei) (l:List AV) (h:l.length<=13):List.map AV.r (ahl r z 0)++List.drop (0+(ahl r z 0).length) l=fu r z 0:=by
 rw [List.drop_of_length_le (by simp [ahl]; omega),zaw];simp [ahl,fu]
theorem bcm (r:Nat) (z:Ei) (j:Nat) (b:1<=j) (a:j<=r) (c:r<=12):(fu r z 0).getD j AV.undef=int .i64 (dg (anc (r-j) z)):=by
 rw [zak];unfold fu;rw [List.getElem?_map,List.getElem?_range (by omega)];simp only [Option.map_some,Option.getD_some];rw [if_pos (by omega)]
theorem biq (r:Int) (z:Ei) (D:0<=r) (u:okc r.toNat z):a8 P0 115 [cel r z] [] (.tup [uw (y6 r.toNat z),int .i64 0]) []:=by
 refine ap8.t func115 ?_;obtain ⟨E,s⟩:=a33 D u;have p:=aou r.toNat z u;obtain ⟨f,F,H,I⟩:=id u;simp only [ap8,cel,push_cast,↓reduceIte,zE,zA,zD];refine b5 (as':=[cel r z]) rfl ?_;refine a6 (bdf r z E) rfl trivial ?_;rw [s];simp only [Ei.v,Ei.rv,push_cast,↓reduceIte,zE,zA,zL,zD];obtain ⟨A,w⟩:∃A:Nat,(anc r.toNat z).a+512=A:=⟨((anc r.toNat z).a+512).toNat,by omega⟩
 obtain ⟨B,y⟩:∃B:Nat,(anc r.toNat z).b+512=B:=⟨((anc r.toNat z).b+512).toNat,by omega⟩
 have o:=a5n r.toNat z f A B (by omega) (by omega) w y;obtain ⟨R,rfl⟩:∃R:Nat,r=R:=⟨r.toNat,by omega⟩
 rw [zah] at *;rw [w,y,show IntKind.i64.wrap (A:Int)=A from a5 (by omega),show IntKind.i64.wrap (B:Int)=B from a5 (by omega),adx (show A<18446744073709551616 by omega),adx (show B<18446744073709551616 by omega),adx (show R<18446744073709551616 by omega)];rw [ahb (k:=56) rfl (by decide) (by omega),ahb (k:=46) rfl (by decide) (by omega),ahb (k:=36) rfl (by decide) (by omega),show (1152921504606846976:Int)=((1152921504606846976:Nat):Int) from rfl];have x:1152921504606846976 ||| R*2^56<18446744073709551616:=zba (n:=64) (by omega) (by omega);have C:1152921504606846976 ||| R*2^56 ||| A*2^46<18446744073709551616:=zba (n:=64) x (by omega)
 rw [alg (by omega) (by omega),alg x (by omega),alg C (by omega),o];have q:=aak R z 0;simp only [bcn R z [AV.r (RV.v (Value.int IntKind.i64 0)),AV.r (RV.v (Value.int IntKind.i64 0)),AV.r (RV.v (Value.int IntKind.i64 0)),AV.r (RV.v (Value.int IntKind.i64 0)),AV.r (RV.v (Value.int IntKind.i64 0)),AV.r (RV.v (Value.int IntKind.i64 0)),AV.r (RV.v (Value.int IntKind.i64 0)),AV.r (RV.v (Value.int IntKind.i64 0)),AV.r (RV.v (Value.int IntKind.i64 0)),AV.r (RV.v (Value.int IntKind.i64 0)),AV.r (RV.v (Value.int IntKind.i64 0)),AV.r (RV.v (Value.int IntKind.i64 0)),AV.r (RV.v (Value.int IntKind.i64 0))] (by simp)]
 repeat refine And.intro (by first | decide | (simp [ahl]; done) | kernel_rfl) ?_
 refine b9 [(9,false),(1,false),(5,false),(7,false),(8,false)] (λ vs pos m=>∃i:Nat,(1<=i/\i<=13)/\vs=[int .i64 i,.ptr 2000000 0 0,.ptr 2000001 0 0,.ptr 2000002 0 0,.fn (.func 163) [.ptr 2000002 0 0] 1]/\pos=[] /\
  m=[.box [int .i64 R,int .i64 z.a,int .i64 z.b],.box (fu R z 0),.box [uw (abg (y6 R z) i)]])
  (λ vs _ _=>match vs with | .r (.v (.int _ j))::_=>(13-j).toNat | _=>0) rfl ?_ ?_
 ·simp only [ajb,alq,uw,push_cast,↓reduceIte,zB,zE,zA,zL,zD];exact ⟨1,by omega,rfl,rfl⟩
 rintro vs pos m ⟨i,hi,rfl,rfl,rfl⟩;simp only [uw,push_cast,↓reduceIte,zA];refine b7 (λ h=>?_) (λ h=>?_)
 ·have c:i<=12:=by simp at h; omega
  have g:=a93 p i;have d:=a27 (y6 R z) i hi.1 c;simp only [push_cast,↓reduceIte,zE,zA,zL];refine b7 (λ hc=>?_) (λ hc=>?_)
  ·have e:R<i:=by simp at hc; omega
   simp only [push_cast,↓reduceIte,zE,zA];refine ⟨by kernel_rfl,?_⟩;refine b5 (as':=[.ptr 1000000 0 0,int .i64 i,int .u64 (7:Nat)]) rfl ?_;refine a6 (bdt (abg (y6 R z) i) 7 i g (by decide) hi.1 c) rfl ⟨rfl,trivial⟩ ?_;rw [arv R i z e c] at d;rw [d];simp only [ajb,alq,uw,push_cast,↓reduceIte,zB,zE,zA,zL,zD];rw [show IntKind.i64.wrap ((i:Int)+1)=((i+1:Nat):Int) by rw [a5 (by omega)]; omega];exact ⟨⟨i+1,by omega,rfl,rfl⟩,by omega⟩
  have e:i<=R:=by simp at hc; omega
  have G:=alz (anc (R-i) z);simp only [zah,zad,Nat.mul_one,bcm R z i hi.1 e f,push_cast,↓reduceIte,zE,zA];rw [adx (show dg (anc (R-i) z)<18446744073709551616 by omega)]
  repeat refine sI ?_
  refine a6 (bdt (abg (y6 R z) i) (dg (anc (R-i) z)) i g (by omega) hi.1 c) rfl ⟨rfl,trivial⟩ ?_;rw [aqi R i z f hi.1 e] at d;rw [d];simp only [ajb,alq,uw,push_cast,↓reduceIte,zB,zE,zA,zL,zD];rw [show IntKind.i64.wrap ((i:Int)+1)=((i+1:Nat):Int) by rw [a5 (by omega)]; omega];exact ⟨⟨i+1,by omega,rfl,rfl⟩,by omega⟩
 have l:i=13:=by simp at h; omega
 subst l;simp only [a5o,push_cast,↓reduceIte,zE,zA,zL]


theorem aud (t:Til):a8 P0 41 [t.v] [] (bl (tis t)) []:=by
 refine dh.t func41 ?_;by_cases h:0<=t.z/\t.z<=18
 ·have b:decide (t.z>=0)=true:=by simp [h.1]
  have c:decide (t.z<=18)=true:=by simp [h.2]
  have f:=ao4 t.z h.1 (by omega);by_cases i:0<=t.x
  ·have e:decide (t.x>=0)=true:=by simp [i]
   by_cases j:t.x<2^t.z.toNat
   ·have d:decide (t.x<2^t.z.toNat)=true:=by simp [j]
    by_cases k:0<=t.y
    ·have g:decide (t.y>=0)=true:=by simp [k]
     push_cast [dh,Til.v,zab,b,c,e]
     refine d5 f rfl trivial ?_
     push_cast [d,g]
     refine d5 f rfl trivial ?_
     push_cast [d,g]
     refine ⟨by kernel_rfl,?_⟩;refine ic ?_;simp [tis];omega
    have g:decide (t.y>=0)=false:=by simp; omega
    have a:tis t=false:=by simp [tis]; omega
    push_cast [dh,Til.v,zab,b,c,e]
    refine d5 f rfl trivial ?_
    push_cast [d,g,a]
    (show _=true); kernel_rfl
   have d:decide (t.x<2^t.z.toNat)=false:=by simp; omega
   have a:tis t=false:=by simp [tis]; omega
   push_cast [dh,Til.v,zab,b,c,e]
   refine d5 f rfl trivial ?_
   push_cast [d,a]
   (show _=true); kernel_rfl
  have e:decide (t.x>=0)=false:=by simp; omega
  have a:tis t=false:=by simp [tis]; omega
  push_cast [dh,Til.v,zab,b,c,e,a]
  (show _=true); kernel_rfl
 have a:tis t=false:=by simp [tis]; omega
 by_cases l:0<=t.z
 ·have b:decide (t.z>=0)=true:=by simp [l]
  have c:decide (t.z<=18)=false:=by simp; omega
  push_cast [dh,Til.v,zab,b,c,a]
  (show _=true); kernel_rfl
 have b:decide (t.z>=0)=false:=by simp; omega
 push_cast [dh,Til.v,zab,b,a]
 (show _=true); kernel_rfl

theorem a1l (t:Til) (f:t.ok):a8 P0 42 [t.v] [] (bl (cn t)) []:=by
 refine afu.t func42 ?_
 push_cast [afu,Til.v,zab]
 refine i5 (as':=[t.v]) rfl ?_;refine d5 (aud t) rfl trivial ?_;cases hti:tis t with
 | false=>
   push_cast
   exact ⟨by kernel_rfl,by simp [cn,hti]⟩
 | true=>
   have g:0<=t.z/\t.z<=18/\0<=t.r/\t.r<=12:=by simp [tis] at hti; omega
   have c:IntKind.i64.wrap (12-t.r)=12-t.r:=a5 (by omega);have a:IntKind.i64.wrap (18-t.z)=18-t.z:=a5 (by omega);have b:IntKind.i64.wrap (2*(18-t.z))=2*(18-t.z):=a5 (by omega);have h:=p7 (12-t.r).toNat (by omega);have e:=p2 (2*(18-t.z)).toNat (by omega)
   have d:(2:Int)^(2*(18-t.z)).toNat=2^(18-t.z).toNat*2^(18-t.z).toNat:=by
    rw [<- Int.pow_add]; congr 1; omega
   push_cast [c,a,b]
   refine d5 (a1a (12-t.r) (by omega) (by omega)) rfl trivial ?_
   push_cast [c,a,b]
   refine d5 (ao4 (2*(18-t.z)) (by omega) (by omega)) rfl trivial ?_
   push_cast [c,a,b]
   refine ⟨by kernel_rfl,?_⟩;rw [a5 (by omega),a5 (by omega)];refine ic ?_;rw [d,<- zbk];simp [cn,hti]
theorem aoz (a n:Int) (b:0<n):-n<a.tmod n/\a.tmod n<n/\(a.tmod n+n)%n=a%n:=by
 have f:=Int.emod_nonneg a (show n≠0 by omega);have e:=Int.emod_lt_of_pos a b;rw [Int.tmod_eq_emod];split
 ·refine ⟨by omega,by omega,?_⟩;rw [show a%n-((0:Nat):Int)+n=a%n+n by omega,Int.add_emod_right,Int.emod_emod]
 rename_i h;have d:a%n≠0:=λ c=>h (.inr (Int.dvd_of_emod_eq_zero c));refine ⟨by omega,by omega,?_⟩;rw [show a%n-(n.natAbs:Int)+n=a%n by omega,Int.emod_emod]
def qn (z:Int):Nat->Nat
 | 0=>0
 | n+1=>if cn ⟨z,0,0,(n+1:Nat)⟩ then qn z n else n+1
def zd (x y z r:Int):Til:=⟨z%19,(x%1073741824)/2^(30-z%19).toNat,(y%1073741824)/2^(30-z%19).toNat,qn (z%19) (r%13).toNat⟩
theorem awm (z:Int):∀n,qn z n<=n
 | 0=>zax _
 | n+1=>by
   have:=awm z n;unfold qn;split<;>omega
theorem aj8 (x y z r:Int):tis (zd x y z r)=true:=by
 have f:=awm (z%19) (r%13).toNat;have d:0<=z%19/\z%19<=18:=by omega
 have e:=p2 (30-z%19).toNat (by omega);have g:=p2 (z%19).toNat (by omega)
 have c:(2:Int)^(30-z%19).toNat*2^(z%19).toNat=1073741824:=by
  rw [<- Int.pow_add,show (30-z%19).toNat+(z%19).toNat=30 by omega]; rfl
 have b:∀a:Int,0<=(a%1073741824)/2^(30-z%19).toNat/\(a%1073741824)/2^(30-z%19).toNat<2^(z%19).toNat:=λ a=>by
  refine ⟨Int.ediv_nonneg (by omega) (by omega),?_⟩;rw [Int.ediv_lt_iff_lt_mul (by omega),zbd,c];omega
 have kx:=b x;have ky:=b y;have hc:(0:Int)<=(qn (z%19) (r%13).toNat:Nat)/\((qn (z%19) (r%13).toNat:Nat):Int)<=12:=by omega
 exact decide_eq_true ⟨d.1,d.2,hc.1,hc.2,kx.1,kx.2,ky.1,ky.2⟩
theorem aw9 (x:Int) (hx:c7 x):IntKind.i64.wrap ((zae IntKind.i64.bits x &&& zae IntKind.i64.bits 1073741823).toNat)=x%1073741824:=by
 have e:(zae 64 1073741823).toNat=2^30-1:=by decide
 rw [show IntKind.i64.bits=64 from rfl,BitVec.toNat_and,e,Nat.and_two_pow_sub_one_eq_mod,BitVec.toNat_ofInt];rw [a5 (by unfold c7 at hx; omega)];omega
theorem aj9 (x y z r:Int) (hx:c7 x) (hy:c7 y) (u:c7 z) (B:c7 r):a8 P0 26 [int .i64 x,int .i64 y,int .i64 z,int .i64 r] [] (zd x y z r).v []:=by
 refine adu.t func26 ?_;have l:IntKind.i64.wrap (z.tmod 19+19)=z.tmod 19+19:=a5 (by have:=aoz z 19 (by decide); omega)
 have m2:(z.tmod 19+19).tmod 19=z%19:=by
  have:=aoz z 19 (by decide);rw [zay (by omega),this.2.2]
 have o:IntKind.i64.wrap (r.tmod 13+13)=r.tmod 13+13:=a5 (by have:=aoz r 13 (by decide); omega)
 have q:(r.tmod 13+13).tmod 13=r%13:=by
  have:=aoz r 13 (by decide);rw [zay (by omega),this.2.2]
 simp only [adu,l,m2,o,q,push_cast,↓reduceIte,reduceCtorEq,zE,zA];refine ⟨by decide,by decide,by decide,by decide,?_⟩;generalize f:z%19=b;have p:0<=b/\b<=18:=by omega
 have A:=p2 b.toNat (by omega)
 refine b9 [(0,false),(1,false),(2,false),(3,false),(8,false)] (λ vs pos d=>∃n:Nat,n<=12/\qn b n=qn b (r%13).toNat /\
  vs=[int .i64 x,int .i64 y,int .i64 b,int .i64 n,.ptr 2000000 0 0]/\pos=[]/\d=[.box [int .i64 0,int .i64 0,int .i64 0,int .i64 0]])
  (λ vs _ _=>match vs with | _::_::_ :: .r (.v (.int _ j))::_=>j.toNat | _=>0) rfl ?_ ?_
 ·simp only [push_cast,↓reduceIte,reduceCtorEq,zE,zA,zL,zD];exact ⟨(r%13).toNat,by omega,rfl,by rw [Int.toNat_of_nonneg (by omega)]⟩
 rintro vs pos d ⟨n,w,hc,rfl,rfl,rfl⟩
 have c:zd x y z r=⟨b,(x%1073741824)/2^(30-b).toNat,(y%1073741824)/2^(30-b).toNat,(qn b n:Nat)⟩:=by
  simp only [zd,f,hc]
 have k:IntKind.i64.wrap (30-b)=30-b:=a5 (by omega)
 have i:∀a:Int,a.fdiv (2^min (30-b).toNat IntKind.i64.bits)=a/2^(30-b).toNat:=λ a=>by
  rw [show min (30-b).toNat IntKind.i64.bits=(30-b).toNat from zbj (by simp [IntKind.bits]; omega)];exact zby _ (zas (Int.pow_pos (by decide)))
 cases n with
 | zero=>
   simp only [gt_iff_lt,Int.lt_irrefl,aw9 x hx,aw9 y hy,k,i,c,Til.v,qn,push_cast,↓reduceIte,reduceCtorEq,zE,zA,zD];refine ⟨by omega,by omega,?_⟩
   (show _=true); kernel_rfl
 | succ n=>
   have h:decide (((n+1:Nat):Int)>0)=true:=by simp
   have g:IntKind.i64.wrap (((n+1:Nat):Int)-1)=n:=by rw [a5 (by omega)]; omega
   generalize e:((n+1:Nat):Int)=m;rw [e] at h g;simp only [h,push_cast,↓reduceIte,reduceCtorEq,zE,zA,zD];refine b5 (as':=[Til.v ⟨b,0,0,m⟩]) rfl ?_;refine a6 (a1l ⟨b,0,0,m⟩ ⟨by unfold c7; dsimp; omega,by show c7 0; decide,by show c7 0; decide,by unfold c7; dsimp; omega⟩) rfl trivial ?_;cases hf:cn ⟨b,0,0,m⟩ with
   | true=>
     simp only [g,push_cast,↓reduceIte,reduceCtorEq,zE,zA,zL,zD];refine ⟨⟨n,by omega,?_,rfl⟩,by omega⟩;rw [<- hc];simp only [qn,e,hf,if_true]
   | false=>
     have s:qn b (n+1)=n+1:=by simp [qn,e,hf]
     rw [s,e] at c;simp only [aw9 x hx,aw9 y hy,k,i,c,Til.v,push_cast,↓reduceIte,reduceCtorEq,zE,zA,zD];refine ⟨by omega,by omega,?_⟩
     (show _=true); kernel_rfl


def mnN (f:Nat->Int):Nat->Int
 | 0=>f 0
 | k+1=>min (mnN f k) (f k)
def mxN (f:Nat->Int):Nat->Int
 | 0=>f 0
 | k+1=>max (mxN f k) (f k)
theorem a72 (f:Nat->Int) (k i:Nat) (h:i<k):mnN f k<=f i:=by
 induction k with
 | zero=>omega
 | succ k ih=>
   rw [mnN];by_cases hi:i=k
   ·subst hi; omega
   have:=ih (by omega); omega
theorem a71 (f:Nat->Int) (k i:Nat) (h:i<k):f i<=mxN f k:=by
 induction k with
 | zero=>omega
 | succ k ih=>
   rw [mxN];by_cases hi:i=k
   ·subst hi; omega
   have:=ih (by omega); omega
def ub (z:Ei) (r:Nat) (lx ly ux uy:Int):Prop:=(mxN (hx z r) 6<lx\/ux<mnN (hx z r) 6)\/(mxN (hy z r) 6<ly\/uy<mnN (hy z r) 6)
instance (z:Ei) (r:Nat) (lx ly ux uy:Int):Decidable (ub z r lx ly ux uy):=inferInstanceAs (Decidable (_\/_))
def aia (z:Ei) (r:Nat) (lx ly ux uy:Int) (i:Nat):Prop:=crs z r i ((i+1)%6) lx ly<0/\crs z r i ((i+1)%6) ux ly<0/\crs z r i ((i+1)%6) ux uy<0/\crs z r i ((i+1)%6) lx uy<0
instance (z:Ei) (r:Nat) (lx ly ux uy:Int) (i:Nat):Decidable (aia z r lx ly ux uy i):=inferInstanceAs (Decidable (_/\_))
def ca (z:Ei) (r:Nat) (lx ly ux uy:Int):Bool:=!decide (ub z r lx ly ux uy)&&(List.range 6).all λ i=>!decide (aia z r lx ly ux uy i)
variable {lx ly ux uy:Int}
theorem aoo (h:ub z r lx ly ux uy):ca z r lx ly ux uy=false:=by simp [ca,h]
theorem blc (z:Ei) (r i j:Nat) (x y:Int):crs z r i j x y=((kx r j-kx r i)*y-(ky r j-ky r i)*x)-((kx r j-kx r i)*hy z r i-(ky r j-ky r i)*hx z r i):=by
 unfold crs;rw [Int.mul_sub,Int.mul_sub];omega
def rng (a b:Int):List Int:=(List.range (b+1-a).toNat).map λ i:Nat=>a+(i:Int)
def bn3 (p:Int->Int->Bool) (a b k:Int):List (Int×Int):=((rng a b).filter λ i=>p i k).map λ i=>(i,k)
def bdr (p:Int->Int->Bool) (a b c d:Int):List (Int×Int):=(rng c d).flatMap (bn3 p a b)
def tlo (m s a:Int):Int:=min (max (m.tdiv (3*s)-1) 0) a
def thi (m s a:Int):Int:=min (max (m.tdiv (3*s)+1) 0) a
def dlo (m s:Int):Int:=max (m.tdiv (3*s)-2) 0
def dhi (m s a:Int):Int:=min (m.tdiv (3*s)+2) a
def tch (z:Ei) (r:Nat) (s i k:Int):Bool:=ca z r (3*(i*s)) (3*(k*s)) (3*((i+1)*s)) (3*((k+1)*s))
def bdu (z:Ei) (r:Nat) (s a:Int):List (Int×Int):=bdr (tch z r s) (tlo (mnN (hx z r) 6) s a) (thi (mxN (hx z r) 6) s a) (tlo (mnN (hy z r) 6) s a) (thi (mxN (hy z r) 6) s a)
def bn6 (z:Ei) (r:Nat) (s a:Int):List (Int×Int):=bdr (tch z r s) (dlo (mnN (hx z r) 6) s) (dhi (mxN (hx z r) 6) s a) (dlo (mnN (hy z r) 6) s) (dhi (mxN (hy z r) 6) s a)

def agt:Mk P0 f165:={ x:=_ }
def acm:Mk P0 f235:={ x:=_ }
def adb:Mk P0 f202:={ x:=_ }
def acl:Mk P0 f203:={ x:=_ }
def ack:Mk P0 f167:={ x:=_ }
def aik:Mk P0 f118:={ x:=_ }
def pv (x y:Int):AV:=.r (pnt x y)
def bxv (lx ly ux uy:Int):AV:=.r (.agg [.v (.int .i64 lx),.v (.int .i64 ly),.v (.int .i64 ux),.v (.int .i64 uy)])
def yy (x:Int):Prop:=-2147483648<=x/\x<=2147483648
def ibx (lx ly ux uy i:Int):List AV:=if i=0 then [int .i64 0,int .i64 0,int .i64 0,int .i64 0] else if i=1 then [int .i64 (3*lx),int .i64 0,int .i64 (3*ux),int .i64 0] else [int .i64 (3*lx),int .i64 (3*ly),int .i64 (3*ux),int .i64 (3*uy)]
theorem bnk (lx ly ux uy:Int):ibx lx ly ux uy 0=[int .i64 0,int .i64 0,int .i64 0,int .i64 0]:=rfl
theorem bnj (lx ly ux uy:Int):ibx lx ly ux uy 1=[int .i64 (3*lx),int .i64 0,int .i64 (3*ux),int .i64 0]:=rfl
theorem bni (lx ly ux uy:Int):ibx lx ly ux uy 2=[int .i64 (3*lx),int .i64 (3*ly),int .i64 (3*ux),int .i64 (3*uy)]:=rfl
theorem a4k (lx ly ux uy:Int) (l:yy lx) (m:yy ly) (k:yy ux) (n:yy uy) (hx:lx<=ux) (hy:ly<=uy):a8 P0 165 [pv lx ly,pv ux uy] [] (.tup [bxv (3*lx) (3*ly) (3*ux) (3*uy),bl true]) []:=by
 refine agt.t func165 ?_
 push_cast [agt,pv,pnt,bxv,zab]
 unfold yy at l m k n
 refine b9 [(8,false),(6,false),(4,false),(3,false),(2,false)] (λ vs pos a=>∃i:Int,(i=0\/i=1\/i=2)/\vs=[int .i64 i,.ptr 2000000 0 0,.ptr 2000001 0 0,.ptr 2000002 0 0,.ptr 2000003 0 0]/\pos=[] /\
  a=[.box (ibx lx ly ux uy i),.box [int .i64 0,int .i64 0,int .i64 0,int .i64 0],.box [int .i64 ux,int .i64 uy],.box [int .i64 lx,int .i64 ly]])
  (λ vs _ _=>match vs with | .r (.v (.int _ j))::_=>(2-j).toNat | _=>0) rfl ?_ ?_
 ·push_cast
  exact ⟨0,by omega,rfl,rfl⟩
 rintro vs pos a ⟨i,rfl | rfl | rfl,rfl,rfl,rfl⟩
 ·have d:decide (lx < -2147483648)=false:=by simp; omega
  have e:decide (ux>2147483648)=false:=by simp; omega
  have c:decide (ux<lx)=false:=by simp; omega
  have b:decide ((0:Int)<2)=true:=rfl;have f:IntKind.i64.wrap (3*lx)=3*lx:=a5 (by omega);have g:IntKind.i64.wrap (3*ux)=3*ux:=a5 (by omega);have h:IntKind.i64.wrap (0+1)=1:=by decide
  push_cast [bnk,b,d,e,c,f,g,h,zaa]
  repeat refine And.intro (by first | decide | kernel_rfl) ?_
  exact ⟨⟨1,by omega,rfl,rfl⟩,by decide⟩
 ·have d:decide (ly < -2147483648)=false:=by simp; omega
  have e:decide (uy>2147483648)=false:=by simp; omega
  have c:decide (uy<ly)=false:=by simp; omega
  have b:decide ((1:Int)<2)=true:=rfl;have f:IntKind.i64.wrap (3*ly)=3*ly:=a5 (by omega);have g:IntKind.i64.wrap (3*uy)=3*uy:=a5 (by omega);have h:IntKind.i64.wrap (1+1)=2:=by decide
  push_cast [bnj,b,d,e,c,f,g,h,zaa]
  repeat refine And.intro (by first | decide | kernel_rfl) ?_
  exact ⟨⟨2,by omega,rfl,rfl⟩,by decide⟩
 have b:decide ((2:Int)<2)=false:=rfl
 push_cast [bni,b,zaa]
theorem a9b (lx ly ux uy:Int):a8 P0 235 [bxv lx ly ux uy] [] (.own 1000000 0 0 4) [.row 2 (pnt 0 0) true true [pnt lx ly,pnt ux ly,pnt ux uy,pnt lx uy]]:=by
 refine acm.t func235 ?_
 push_cast [acm,pnt,bxv,zab,zaa]
 decide
theorem aa9 (z:Ei) (r:Nat):((nc z r 6).length:Int)=6:=by rw [arf]; rfl
theorem lz (z:Ei) (r n i:Nat) (h:i<n) (d:RV):(nc z r n).getD i d=.agg [.v (.int .i64 (hx z r i)),.v (.int .i64 (hy z r i))]:=by
 rw [zak];simp [nc,h,a4m,pnt]
def qg (z:Ei) (r:Nat):Prop:=∀i,i<6->(-4294967296<=hx z r i/\hx z r i<=4294967296)/\(-4294967296<=hy z r i/\hy z r i<=4294967296)
abbrev aif (z:Ei) (r:Nat):AV:=.r (.sl 2 (nc z r 6))
theorem bc1 (z:Ei) (r:Nat) (lx ly ux uy:Int) (g:qg z r):a8 P0 202 [bxv lx ly ux uy,aif z r] [] (bl (decide (ub z r lx ly ux uy))) []:=by
 refine adb.t func202 ?_;simp only [adb,bxv,push_cast,↓reduceIte,zA]
 refine b9 [(10,false),(2,false),(1,false)] (λ vs pos a=>∃i:Int,(i=0\/(i=1/\¬(mxN (hx z r) 6<lx\/ux<mnN (hx z r) 6))\/(i=2/\¬ub z r lx ly ux uy))/\vs=[int .i64 i,.ptr 2000000 0 0,aif z r]/\pos=[] /\
  a=[.box [int .i64 lx,int .i64 ly,int .i64 ux,int .i64 uy]])
  (λ vs _ _=>match vs with | .r (.v (.int _ j))::_=>(2-j).toNat | _=>0) rfl ?_ ?_
 ·simp only [push_cast,↓reduceIte,reduceCtorEq,zE,zA,zL,zD];exact ⟨0,by omega,rfl⟩
 rintro vs pos a ⟨i,hi | hi | hi,rfl,rfl,rfl⟩
 ·obtain rfl:=hi;have d:decide ((0:Int)<2)=true:=rfl;simp only [d,aa9,lz z r 6 0 (by decide),zaa,push_cast,↓reduceIte,zE,zA,zL,zM]
  repeat refine And.intro (by first | decide | kernel_rfl) ?_
  refine b9 [(25,false),(24,false),(23,false),(6,false),(7,false),(5,false),(2,false),(1,false),(10,false)] (λ vs pos a=>∃k:Nat,k<=6/\vs=[int .i64 k,int .i64 6,aif z r,int .i64 (mnN (hx z r) k),int .i64 (mxN (hx z r) k),int .i64 0,.ptr 2000000 0 0,aif z r,int .i64 0]/\pos=[] /\
   a=[.box [int .i64 lx,int .i64 ly,int .i64 ux,int .i64 uy]])
   (λ vs _ _=>match vs with | .r (.v (.int _ j))::_=>(6-j).toNat | _=>0) rfl ?_ ?_
  ·simp only [push_cast,↓reduceIte,zE,zA,zL,zD];exact ⟨0,by omega,rfl⟩
  rintro vs pos a ⟨k,f,rfl,rfl,rfl⟩;simp only [push_cast,↓reduceIte,zE];refine b7 (λ h=>?_) (λ h=>?_)
  ·have hi:k<6:=by simp at h; omega
   simp only [aa9,zah,lz z r 6 k hi,zaa,push_cast,↓reduceIte,zE,zA,zL,zD,zM];rw [show IntKind.i64.wrap ((k:Int)+1)=((k+1:Nat):Int) by rw [a5 (by omega)]; omega];refine ⟨by omega,by decide,by decide,by kernel_rfl,⟨k+1,by omega,rfl⟩,by omega⟩
  have hi:k=6:=by simp at h; omega
  subst hi;simp only [zaa,push_cast,↓reduceIte,zE,zA,zL,zM]
  repeat refine And.intro (by first | decide | exact λ _=>by decide | (simp +contextual; done) | kernel_rfl) ?_
  refine b7 (λ h=>?_) (λ h=>?_)
  ·have b:mxN (hx z r) 6<lx\/ux<mnN (hx z r) 6:=by simpa using h
   simp only [push_cast,↓reduceIte,zA];rw [decide_eq_true (show ub z r lx ly ux uy from .inl b)]
  have c:¬(mxN (hx z r) 6<lx\/ux<mnN (hx z r) 6):=by
   have:=h;simp at this;omega
  simp only [push_cast,↓reduceIte,zE,zA,zL,zD];refine ⟨⟨1,.inr (.inl ⟨rfl,c⟩),rfl⟩,by decide⟩
 ·obtain ⟨rfl,e⟩:=hi;have d:decide ((1:Int)<2)=true:=rfl;simp only [d,aa9,lz z r 6 0 (by decide),zaa,push_cast,↓reduceIte,zE,zA,zL,zM]
  repeat refine And.intro (by first | decide | kernel_rfl) ?_
  refine b9 [(25,false),(24,false),(23,false),(6,false),(7,false),(5,false),(2,false),(1,false),(10,false)] (λ vs pos a=>∃k:Nat,k<=6/\vs=[int .i64 k,int .i64 6,aif z r,int .i64 (mnN (hy z r) k),int .i64 (mxN (hy z r) k),int .i64 1,.ptr 2000000 0 0,aif z r,int .i64 1]/\pos=[] /\
   a=[.box [int .i64 lx,int .i64 ly,int .i64 ux,int .i64 uy]])
   (λ vs _ _=>match vs with | .r (.v (.int _ j))::_=>(6-j).toNat | _=>0) rfl ?_ ?_
  ·simp only [push_cast,↓reduceIte,zE,zA,zL,zD];exact ⟨0,by omega,rfl⟩
  rintro vs pos a ⟨k,f,rfl,rfl,rfl⟩;simp only [push_cast,↓reduceIte,zE];refine b7 (λ h=>?_) (λ h=>?_)
  ·have hi:k<6:=by simp at h; omega
   simp only [aa9,zah,lz z r 6 k hi,zaa,push_cast,↓reduceIte,zE,zA,zL,zD,zM];rw [show IntKind.i64.wrap ((k:Int)+1)=((k+1:Nat):Int) by rw [a5 (by omega)]; omega];refine ⟨by omega,by decide,by decide,by kernel_rfl,⟨k+1,by omega,rfl⟩,by omega⟩
  have hi:k=6:=by simp at h; omega
  subst hi;simp only [zaa,push_cast,↓reduceIte,zE,zA,zL,zM]
  repeat refine And.intro (by first | decide | exact λ _=>by decide | (simp +contextual; done) | kernel_rfl) ?_
  refine b7 (λ h=>?_) (λ h=>?_)
  ·have b:mxN (hy z r) 6<ly\/uy<mnN (hy z r) 6:=by simpa using h
   simp only [push_cast,↓reduceIte,zA];rw [decide_eq_true (show ub z r lx ly ux uy from .inr b)]
  have c:¬(mxN (hy z r) 6<ly\/uy<mnN (hy z r) 6):=by
   have:=h;simp at this;omega
  simp only [push_cast,↓reduceIte,zE,zA,zL,zD];refine ⟨⟨2,.inr (.inr ⟨rfl,λ hc=>hc.elim e c⟩),rfl⟩,by decide⟩
 obtain ⟨rfl,e⟩:=hi;have d:decide ((2:Int)<2)=false:=rfl;simp only [d,push_cast,↓reduceIte,zA];rw [decide_eq_false e]
def bw (x:Int):Prop:=-4294967296<=x/\x<=4294967296
def are (x:Int):Prop:=-268435456<=x/\x<=268435456
def crP (b a c d x y:Int):Int:=(c-b)*(y-a)-(d-a)*(x-b)
variable {x y:Int}
theorem bld {b a c d:Int} (h:bw b) (g:bw a) (e:are (c-b)) (f:are (d-a)) (hx:bw x) (hy:bw y) :
 IntKind.i64.wrap (IntKind.i64.wrap (IntKind.i64.wrap (c-b)*IntKind.i64.wrap (y-a))-IntKind.i64.wrap (IntKind.i64.wrap (d-a)*IntKind.i64.wrap (x-b)))=crP b a c d x y:=by
 unfold bw at h g hx hy;unfold are at e f;have i:=gm (n:=268435456) (m:=8589934592) e (y:=y-a) (by omega);have m2:=gm (n:=268435456) (m:=8589934592) f (y:=x-b) (by omega);unfold crP;rw [show IntKind.i64.wrap (c-b)=c-b from a5 (by omega),show IntKind.i64.wrap (d-a)=d-a from a5 (by omega),show IntKind.i64.wrap (y-a)=y-a from a5 (by omega),show IntKind.i64.wrap (x-b)=x-b from a5 (by omega)];generalize (c-b)*(y-a)=A at *;generalize (d-a)*(x-b)=B at *;rw [show IntKind.i64.wrap A=A from a5 (by omega),show IntKind.i64.wrap B=B from a5 (by omega),a5 (by omega)]
def cnx (lx ux:Int) (i:Nat):Int:=if i=0\/i=3 then lx else ux
def cny (ly uy:Int) (i:Nat):Int:=if i=0\/i=1 then ly else uy
def cnL (lx ly ux uy:Int):List RV:=[pnt lx ly,pnt ux ly,pnt ux uy,pnt lx uy]
theorem blh (lx ly ux uy:Int) (i:Nat) (h:i<4) (d:RV):(cnL lx ly ux uy).getD i d=.agg [.v (.int .i64 (cnx lx ux i)),.v (.int .i64 (cny ly uy i))]:=by
 rcases (show i=0\/i=1\/i=2\/i=3 by omega) with rfl | rfl | rfl | rfl<;>rfl
def aqx (c b a d lx ly ux uy:Int):Prop:=∀i,i<4->crP c b a d (cnx lx ux i) (cny ly uy i)<0
instance (p0 p1 q0 q1 lx ly ux uy:Int):Decidable (aqx p0 p1 q0 q1 lx ly ux uy):=inferInstanceAs (Decidable (∀i,i<4->_))
theorem a7q (lx ly ux uy b a d e:Int) (x:bw lx) (z:bw ly) (w:bw ux) (A:bw uy) (u:bw b) (o:bw a) (q:are (d-b)) (s:are (e-a)) :
 a8 P0 203 [bxv lx ly ux uy,pv b a,pv d e] [] (bl (decide (aqx b a d e lx ly ux uy))) []:=by
 refine acl.t func203 ?_
 push_cast [acl,bxv,pv,pnt,zab]
 refine b5 (as':=[bxv lx ly ux uy]) rfl ?_;refine a6 (a9b lx ly ux uy) rfl trivial ?_
 push_cast [pnt]
 refine b9 [(12,false),(11,false),(10,false),(5,false),(4,false)] (λ vs pos f=>∃i:Nat,i<=4/\(∀j,j<i->crP b a d e (cnx lx ux j) (cny ly uy j)<0)/\vs=[int .i64 i,int .i64 4,.own 2000000 0 0 4,.ptr 2000001 0 0,.ptr 2000002 0 0]/\pos=[] /\
  f=[.row 2 (.agg [.v (.int .i64 0),.v (.int .i64 0)]) true true (cnL lx ly ux uy),.box [int .i64 d,int .i64 e],.box [int .i64 b,int .i64 a]])
  (λ vs _ _=>match vs with | .r (.v (.int _ j))::_=>(4-j).toNat | _=>0) rfl ?_ ?_
 ·push_cast
  exact ⟨0,by omega,λ j k=>by omega,rfl,rfl⟩
 rintro vs pos f ⟨i,y,k,rfl,rfl,rfl⟩
 push_cast
 refine b7 (λ h=>?_) (λ h=>?_)
 ·have hi:i<4:=by simp at h; omega
  have n:bw (cnx lx ux i):=by unfold cnx; split<;>assumption
  have g:bw (cny ly uy i):=by unfold cny; split<;>assumption
  push_cast [zah,zad,blh lx ly ux uy i hi,bld u o q s n g,zaa]
  refine ⟨by omega,?_⟩
  repeat refine sM ?_
  refine b7 (λ m=>?_) (λ m=>?_)
  ·have hc:¬crP b a d e (cnx lx ux i) (cny ly uy i)<0:=by simp at m; omega
   push_cast
   rw [decide_eq_false (show ¬aqx b a d e lx ly ux uy from λ c=>hc (c i hi))]
  have hc:crP b a d e (cnx lx ux i) (cny ly uy i)<0:=by simp at m; omega
  push_cast
  rw [show IntKind.i64.wrap ((i:Int)+1)=((i+1:Nat):Int) by rw [a5 (by omega)]; omega];refine ⟨⟨i+1,by omega,λ j p=>?_,rfl⟩,by omega⟩;by_cases l:j=i
  ·subst l; exact hc
  exact k j (by omega)
 have hi:i=4:=by simp at h; omega
 subst hi
 push_cast
 rw [decide_eq_true (show aqx b a d e lx ly ux uy from k)]
theorem ayk (z:Ei) (r i j:Nat) (lx ly ux uy:Int) (c:j=(i+1)%6):aqx (hx z r i) (hy z r i) (hx z r j) (hy z r j) lx ly ux uy↔aia z r lx ly ux uy i:=by
 subst c
 have e:∀x y,crP (hx z r i) (hy z r i) (hx z r ((i+1)%6)) (hy z r ((i+1)%6)) x y=crs z r i ((i+1)%6) x y:=λ x y=>by
  simp only [crP,crs];rw [show hx z r ((i+1)%6)-hx z r i=kx r ((i+1)%6)-kx r i by rw [bq,bq]; omega,show hy z r ((i+1)%6)-hy z r i=ky r ((i+1)%6)-ky r i by rw [bp,bp]; omega]
 simp only [aqx,aia,e];constructor
 ·intro h;exact ⟨h 0 (by decide),h 1 (by decide),h 2 (by decide),h 3 (by decide)⟩
 rintro ⟨d,b,f,a⟩ k g;rcases (show k=0\/k=1\/k=2\/k=3 by omega) with rfl | rfl | rfl | rfl
 ·exact d
 ·exact b
 ·exact f
 exact a
theorem a45 (z:Ei) (r:Nat) (n:r<=12) (lx ly ux uy:Int) (m:qg z r) (p:bw lx) (w:bw ly) (o:bw ux) (x:bw uy):a8 P0 167 [bxv lx ly ux uy,aif z r] [] (bl (ca z r lx ly ux uy)) []:=by
 refine ack.t func167 ?_
 push_cast [ack,bxv,zab]
 refine b5 (as':=[bxv lx ly ux uy,aif z r]) rfl ?_;refine a6 (bc1 z r lx ly ux uy m) rfl trivial ?_;by_cases a:ub z r lx ly ux uy
 ·rw [decide_eq_true a]
  push_cast
  rw [aoo a]
 rw [decide_eq_false a]
 push_cast [aa9]
 refine b9 [(12,false),(11,false),(10,false),(2,false),(1,false)] (λ vs pos d=>∃i:Nat,i<=6/\(∀j,j<i->¬aia z r lx ly ux uy j)/\vs=[int .i64 i,int .i64 6,aif z r,.ptr 2000000 0 0,aif z r]/\pos=[] /\
  d=[.box [int .i64 lx,int .i64 ly,int .i64 ux,int .i64 uy]])
  (λ vs _ _=>match vs with | .r (.v (.int _ j))::_=>(6-j).toNat | _=>0) rfl ?_ ?_
 ·push_cast
  exact ⟨0,by omega,λ j g=>by omega,rfl⟩
 rintro vs pos d ⟨i,y,g,rfl,rfl,rfl⟩
 push_cast
 refine b7 (λ h=>?_) (λ h=>?_)
 ·have hi:i<6:=by simp at h; omega
  obtain ⟨J,u⟩:∃J,J=(i+1)%6:=⟨_,rfl⟩
  have b:J<6:=by omega
  have q:(IntKind.i64.wrap ((i:Int)+1)).tmod 6=(J:Int):=by
   rw [a5 (by omega),zay (by omega)]; omega
  push_cast [aa9,q,zah,lz z r 6 i hi,lz z r 6 J b,zaa]
  refine ⟨by omega,?_⟩
  repeat refine sM ?_
  refine i5 (as':=[bxv lx ly ux uy,pv (hx z r i) (hy z r i),pv (hx z r J) (hy z r J)]) rfl ?_;have B:=aq9 r i n hi;have A:=aq9 r J n b;refine d5 (a7q lx ly ux uy _ _ _ _ p w o x (m i hi).1 (m i hi).2 (by rw [bq,bq]; unfold are; omega) (by rw [bp,bp]; unfold are; omega)) rfl trivial ?_
  push_cast
  repeat refine sM ?_
  have e:=ayk z r i J lx ly ux uy u;refine b7 (λ l=>?_) (λ l=>?_)
  ·have f:aia z r lx ly ux uy i:=e.1 (by simpa using l)
   push_cast
   have:ca z r lx ly ux uy=false:=by
    simp only [ca,a,decide_false,zbe,Bool.true_and];rw [List.all_eq_false];exact ⟨i,zbc.2 hi,by simp [f]⟩
   rw [this]
  have f:¬aia z r lx ly ux uy i:=λ c=>by
   have:=e.2 c;simp [this] at l
  push_cast
  rw [show IntKind.i64.wrap ((i:Int)+1)=((i+1:Nat):Int) by rw [a5 (by omega)]; omega];refine ⟨⟨i+1,by omega,λ j s=>?_,rfl⟩,by omega⟩;by_cases k:j=i
  ·subst k; exact f
  exact g j (by omega)
 have hi:i=6:=by simp at h; omega
 subst hi
 push_cast
 have:ca z r lx ly ux uy=true:=by
  simp only [ca,a,decide_false,zbe,Bool.true_and,zbq,zbc,zbr,decide_eq_false_iff_not];exact g
 rw [this]
theorem a50 (z:Ei) (r:Nat):List.take 6 (nc z r 6)=nc z r 6:=rfl
attribute [push_cast high] a50
theorem a4s (z:Ei) (r:Int) (b:0<=r) (a:okc r.toNat z) (lx ly ux uy:Int) (e:qg z r.toNat) (d:0<=lx/\lx<=ux/\ux<=1073741824) (c:0<=ly/\ly<=uy/\uy<=1073741824) :
 a8 P0 118 [cel r z,pv lx ly,pv ux uy] [] (bl (ca z r.toNat (3*lx) (3*ly) (3*ux) (3*uy))) []:=by
 refine aik.t func118 ?_
 push_cast [aik,cel,pv,pnt,zab]
 refine b5 (as':=[pv lx ly,pv ux uy]) rfl ?_;refine a6 (a4k lx ly ux uy (by unfold yy; omega) (by unfold yy; omega) (by unfold yy; omega) (by unfold yy; omega) d.2.1 c.2.1) rfl trivial ?_
 push_cast [bxv]
 refine b5 (as':=[cel r z]) rfl ?_;refine a6 (bnp r z b a) rfl trivial ?_
 push_cast
 have f:r<=12:=by have:=a.1; omega
 refine b5 (as':=[z.v,int .i64 r]) rfl ?_;refine a6 (bea z r a.2.1 ⟨b,f⟩) rfl trivial ?_
 push_cast [pnt]
 refine j9 ?_
 push_cast
 refine b5 (as':=[bxv (3*lx) (3*ly) (3*ux) (3*uy),aif z r.toNat]) rfl ?_;refine a6 (a45 z r.toNat a.1 _ _ _ _ e (by unfold bw; omega) (by unfold bw; omega) (by unfold bw; omega) (by unfold bw; omega)) rfl trivial ?_
 push_cast

def aj4:Mk P0 f67:={ x:=_ }
def aap:Mk P0 f68:={ x:=_ }
def ais:Mk P0 f72:={ x:=_ }
theorem xk {z:Int} (h:0<=z/\z<=18):4096<=(2:Int)^(30-z).toNat/\(2:Int)^(30-z).toNat<=1073741824:=by
 have c:2^(30-z).toNat<=2^30:=zbb (by decide) (by omega);have a:2^12<=2^(30-z).toNat:=zbb (by decide) (by omega);have b:((2^(30-z).toNat:Nat):Int)=(2:Int)^(30-z).toNat:=by simp
 omega
variable {t:Til}
theorem aav (h:tis t=true):(0<=t.x*2^(30-t.z).toNat/\(t.x+1)*2^(30-t.z).toNat<=1073741824)/\(0<=t.y*2^(30-t.z).toNat/\(t.y+1)*2^(30-t.z).toNat<=1073741824):=by
 simp only [tis,decide_eq_true_eq] at h;obtain ⟨b,e,i,g,d,x1,c,y1⟩:=h;have f:=xk ⟨b,e⟩
 have a:(2:Int)^t.z.toNat*2^(30-t.z).toNat=1073741824:=by
  rw [<- Int.pow_add,show t.z.toNat+(30-t.z).toNat=30 by omega]; rfl
 have hx:(t.x+1)*2^(30-t.z).toNat<=1073741824:=by rw [<- a]; exact zbs (by omega) (by omega)
 have hy:(t.y+1)*2^(30-t.z).toNat<=1073741824:=by rw [<- a]; exact zbs (by omega) (by omega)
 exact ⟨⟨zbl d (by omega),hx⟩,zbl c (by omega),hy⟩
theorem azg (t:Til) (h:tis t=true):a8 P0 67 [t.v] [] (bxv (t.x*2^(30-t.z).toNat) (t.y*2^(30-t.z).toNat) ((t.x+1)*2^(30-t.z).toNat) ((t.y+1)*2^(30-t.z).toNat)) []:=by
 refine aj4.t func67 ?_;have hi:=aav h;have a:=xk (show 0<=t.z/\t.z<=18 by simp only [tis,decide_eq_true_eq] at h; omega)
 push_cast [aj4,Til.v,bxv,zab]
 refine b5 (as':=[t.v]) rfl ?_;refine a6 (aym t h) rfl trivial ?_
 push_cast
 rw [zal,zap,zal,zap] at *;rw [a5 (by omega),a5 (by omega)]
theorem ate (z:Ei) (r:Int) (e:0<=r) (d:okc r.toNat z) (lx ly ux uy:Int) (c:qg z r.toNat) (b:0<=lx/\lx<=ux/\ux<=1073741824) (a:0<=ly/\ly<=uy/\uy<=1073741824) :
 a8 P0 68 [bxv lx ly ux uy,cel r z] [] (bl (ca z r.toNat (3*lx) (3*ly) (3*ux) (3*uy))) []:=by
 refine aap.t func68 ?_
 push_cast [aap,cel,bxv,zab]
 refine b5 (as':=[cel r z,pv lx ly,pv ux uy]) rfl ?_;refine a6 (a4s z r e d lx ly ux uy c b a) rfl trivial ?_
 push_cast
theorem a29 (t:Til) (h:tis t=true) (z:Ei) (r:Int) (d:0<=r) (c:okc r.toNat z) (b:qg z r.toNat) :
 a8 P0 72 [t.v,cel r z] [] (bl (tch z r.toNat (2^(30-t.z).toNat) t.x t.y)) []:=by
 refine ais.t func72 ?_;have hi:=aav h;have a:0<=t.z/\t.z<=18:=by simp only [tis,decide_eq_true_eq] at h; omega
 have e:=xk a
 push_cast [ais,Til.v,cel,zab]
 refine i5 (as':=[t.v]) rfl ?_;refine d5 (a4i t) rfl trivial ?_;rw [h]
 push_cast
 refine i5 (as':=[t.v]) rfl ?_;refine d5 (azg t h) rfl trivial ?_
 push_cast [bxv]
 refine i5 (as':=[bxv (t.x*2^(30-t.z).toNat) (t.y*2^(30-t.z).toNat) ((t.x+1)*2^(30-t.z).toNat) ((t.y+1)*2^(30-t.z).toNat),cel r z]) rfl ?_;refine d5 (ate z r d c _ _ _ _ b ⟨hi.1.1,by rw [zal]; omega,hi.1.2⟩ ⟨hi.2.1,by rw [zal]; omega,hi.2.2⟩) rfl trivial ?_
 push_cast
 exact ⟨by kernel_rfl,rfl⟩

def agv:Mk P0 f149:={ x:=_ }
def adf:Mk P0 f150:={ x:=_ }
def yr:Mk P0 f190:={ x:=_ }
def wh:Mk P0 f230:={ x:=_ }
def acu:Mk P0 f83:={ x:=_ }
def acs:Mk P0 f20:={ x:=_ }
theorem a6v (x y:Int) (c:yy x) (a:yy y):a8 P0 149 [int .i64 x,int .i64 y] [] (bl false) []:=by
 refine agv.t func149 ?_;unfold yy at c a;have d:decide (x < -2147483648)=false:=by simp; omega
 have c2:decide (x>2147483648)=false:=by simp; omega
 have b:decide (y < -2147483648)=false:=by simp; omega
 have e:decide (y>2147483648)=false:=by simp; omega
 push_cast [agv,zab,d,c2,b,e]
def aln (x:Int):Prop:=-42535295865117307932921825928971026432<=x/\x<=42535295865117307932921825928971026432
theorem bh4 (a:Int) (h:-170141183460469231731687303715884105728<=a/\a<170141183460469231731687303715884105728):a8 P0 230 [o7 a] [] (bl (decide (a<0))) []:=by
 refine wh.t func230 ?_;simp only [wh,o7,push_cast,↓reduceIte,zE,zA,zL]
 have e:Int.fdiv (a/18446744073709551616%18446744073709551616) (2^min (zaj 63) IntKind.u64.bits)=a/18446744073709551616%18446744073709551616/9223372036854775808:=by
  rw [show min (zaj 63) IntKind.u64.bits=63 from rfl,zby _ (by decide)]
  rfl
 rw [e];refine ⟨by decide,ic ?_⟩;simp only [beq_iff_eq,decide_eq_true_eq];omega
theorem a01 (a b:Int) (c:aln a) (d:aln b):a8 P0 190 [o7 a,o7 b] [] (bl (decide (a<b))) []:=by
 refine yr.t func190 ?_;unfold aln at c d
 push_cast [yr,o7,zab]
 refine i5 (as':=[o7 b]) rfl ?_;refine d5 (ak3 b) rfl trivial ?_
 push_cast [o7]
 refine i5 (as':=[o7 a,o7 (-b)]) rfl ?_;refine d5 (am8 a (-b)) rfl trivial ?_
 push_cast [o7]
 refine i5 (as':=[o7 (a + -b)]) rfl ?_;refine d5 (bh4 (a + -b) (by omega)) rfl trivial ?_
 push_cast
 refine ⟨by kernel_rfl,ic ?_⟩;simp only [decide_eq_true_eq];omega
def sg (x:Int):Int:=if x<0 then -1 else if 0<x then 1 else 0
theorem aqu (b a c d x y:Int) (i:bw b) (g:bw a) (k:bw c) (f:bw d) (l:bw x) (j:bw y) :
 a8 P0 150 [pv b a,pv c d,int .i64 x,int .i64 y] [] (int .i64 (sg (crP b a c d x y))) []:=by
 refine adf.t func150 ?_;unfold bw at i g k f l j;have o:=gm (n:=8589934592) (m:=8589934592) (x:=c-b) (y:=y-a) (by omega) (by omega);have m2:=gm (n:=8589934592) (m:=8589934592) (x:=d-a) (y:=x-b) (by omega) (by omega)
 push_cast [adf,pv,pnt,zab,zaa]
 rw [show IntKind.i64.wrap (c-b)=c-b from a5 (by omega),show IntKind.i64.wrap (y-a)=y-a from a5 (by omega)]
 repeat refine And.intro (by first | decide | omega) ?_
 refine a6 (ad0 (c-b) (y-a) (by unfold c7; omega) (by unfold c7; omega)) rfl trivial ?_
 push_cast [o7,zaa]
 rw [show IntKind.i64.wrap (d-a)=d-a from a5 (by omega),show IntKind.i64.wrap (x-b)=x-b from a5 (by omega)]
 repeat refine And.intro (by first | decide | omega) ?_
 refine a6 (ad0 (d-a) (x-b) (by unfold c7; omega) (by unfold c7; omega)) rfl trivial ?_;have hc:crP b a c d x y=(c-b)*(y-a)-(d-a)*(x-b):=rfl;rw [hc];generalize (c-b)*(y-a)=A at *;generalize (d-a)*(x-b)=B at *
 push_cast [o7]
 refine b5 (as':=[o7 A,o7 B]) rfl ?_;refine a6 (a01 A B (by unfold aln; omega) (by unfold aln; omega)) rfl trivial ?_
 push_cast [o7]
 refine b7 (λ h=>?_) (λ h=>?_)
 ·simp at h
  push_cast
  rw [sg,if_pos (by omega)]
 simp at h
 push_cast
 refine b5 (as':=[o7 B,o7 A]) rfl ?_;refine a6 (a01 B A (by unfold aln; omega) (by unfold aln; omega)) rfl trivial ?_
 push_cast [o7]
 refine b7 (λ e=>?_) (λ e=>?_)
 ·simp at e
  push_cast
  rw [sg,if_neg (by omega),if_pos (by omega)]
 simp at e
 push_cast
 rw [sg,if_neg (by omega),if_neg (by omega)]
theorem avu (t:Til) (h:tis t=true):a8 P0 83 [t.v] [] (.tup [int .i64 (t.x*2^(30-t.z).toNat),int .i64 (t.y*2^(30-t.z).toNat),int .i64 (2^(30-t.z).toNat)]) []:=by
 refine acu.t func83 ?_;have hi:=aav h;have a:0<=t.z/\t.z<=18:=by simp only [tis,decide_eq_true_eq] at h; omega
 have b:=xk a
 push_cast [acu,Til.v,zab]
 refine b5 (as':=[t.v]) rfl ?_;refine a6 (aud t) rfl trivial ?_;rw [h]
 push_cast
 rw [show IntKind.i64.wrap (30-t.z)=30-t.z from a5 (by omega)];refine a6 (ao4 (30-t.z) (by omega) (by omega)) rfl trivial ?_
 push_cast
 rw [zal,zap,zal,zap] at hi;rw [a5 (by omega),a5 (by omega)];exact ⟨by kernel_rfl,rfl⟩
theorem avr (t:Til) (a:t.ok):a8 P0 20 [t.v] [] (int .i64 (if tis t then (if cn t then 14 else 0) else 1)) []:=by
 refine acs.t func20 ?_
 push_cast [acs,Til.v,zab]
 refine b5 (as':=[t.v]) rfl ?_;refine a6 (aud t) rfl trivial ?_;cases hti:tis t with
 | false=>push_cast
 | true=>
   push_cast
   refine b5 (as':=[t.v]) rfl ?_;refine a6 (a1l t a) rfl trivial ?_;cases hf:cn t<;>push_cast

def abd:Mk P0 f94:={ x:=_ }
def agw:Mk P0 f52:={ x:=_ }
def bxC (lx ly ux uy:Int):List AV:=[int .i64 (3*lx),int .i64 (3*ly),int .i64 (3*ux),int .i64 (3*ly),int .i64 (3*ux),int .i64 (3*uy),int .i64 (3*lx),int .i64 (3*uy)]
theorem jh (lx ly ux uy:Int):o6 (bxC lx ly ux uy)=[]:=rfl
theorem lv (F:Ren) (lx ly ux uy:Int):imL F (bxC lx ly ux uy)=bxC lx ly ux uy:=rfl
theorem bhz (lx ly ux uy:Int):(bxC lx ly ux uy).length=8:=rfl
theorem bns (lx ly ux uy:Int) (k:Nat) (h:k<4):(bxC lx ly ux uy).getD (k*2) AV.undef=int .i64 (cnx (3*lx) (3*ux) k):=by
 rcases (show k=0\/k=1\/k=2\/k=3 by omega) with rfl | rfl | rfl | rfl<;>rfl
theorem bnr (lx ly ux uy:Int) (k:Nat) (h:k<4):(bxC lx ly ux uy).getD (k*2+1) AV.undef=int .i64 (cny (3*ly) (3*uy) k):=by
 rcases (show k=0\/k=1\/k=2\/k=3 by omega) with rfl | rfl | rfl | rfl<;>rfl
theorem bal (z:Ei) (r i j l:Nat) (d:r<=12) (hi:i<6) (f:j=(i+1)%6) (c:l=(i+3)%6):sg (crP (hx z r i) (hy z r i) (hx z r j) (hy z r j) (hx z r l) (hy z r l))=1:=by
 have h:=bng r i d hi;have e:∀a b,hx z r a-hx z r b=kx r a-kx r b:=λ a b=>by rw [bq,bq]; omega
 have e':∀a b,hy z r a-hy z r b=ky r a-ky r b:=λ a b=>by rw [bp,bp]; omega
 rw [<- f,<- c] at h;rw [crP,e,e,e',e',sg,if_neg (by omega),if_pos h]
theorem bmp (c:Int):((sg c != 0)&&(sg c != 1))=decide (c<0):=by
 unfold sg;by_cases a:c<0
 ·rw [if_pos a,decide_eq_true a]; rfl
 rw [if_neg a,decide_eq_false a];by_cases b:0<c
 ·rw [if_pos b]; rfl
 rw [if_neg b]; rfl
theorem a9u (D:Bool) (c:Int):(bif (bif D then sg c != 0 else false) then sg c != 1 else false)=(D&&decide (c<0)):=by
 rw [<- bmp];cases D<;>cases (sg c != 0)<;>rfl
theorem bc8 (p:Nat->Int) (k:Nat):decide (∀j,j<k+1->p j<0)=(decide (∀j,j<k->p j<0)&&decide (p k<0)):=by
 rw [Bool.eq_iff_iff];simp only [decide_eq_true_eq,zbp];constructor
 ·intro h; exact ⟨λ j d=>h j (by omega),h k (by omega)⟩
 rintro ⟨c,b⟩ j d;by_cases a:j=k
 ·subst a; exact b
 exact c j (by omega)
theorem a3t (z:Ei) (r:Int) (B:0<=r) (d:okc r.toNat z) (lx ly ux uy:Int) (e:qg z r.toNat) (K:0<=lx/\lx<=ux/\ux<=1073741824) (M:0<=ly/\ly<=uy/\uy<=1073741824) :
 a8 P0 94 [cel r z,pv lx ly,pv ux uy] [] (bl (ca z r.toNat (3*lx) (3*ly) (3*ux) (3*uy))) []:=by
 refine abd.t func94 ?_;have H:r.toNat<=12:=d.1
 push_cast [abd,cel,pv,pnt,zab]
 refine b5 (as':=[cel r z]) rfl ?_;refine a6 (a6r r z B d) rfl trivial ?_
 push_cast [zaa]
 repeat refine And.intro (by first | decide | exact λ _=>by decide | (simp +contextual; done) | kernel_rfl) ?_
 refine a6 (a6v lx ly (by unfold yy; omega) (by unfold yy; omega)) rfl trivial ?_
 push_cast [zaa]
 repeat refine And.intro (by first | decide | exact λ _=>by decide | (simp +contextual; done) | kernel_rfl) ?_
 refine a6 (a6v ux uy (by unfold yy; omega) (by unfold yy; omega)) rfl trivial ?_;have F:decide (ux<lx)=false:=by simp; omega
 have c2:decide (uy<ly)=false:=by simp; omega
 push_cast [zaa,F,c2]
 repeat refine And.intro (by first | decide | exact λ _=>by decide | (simp +contextual; done) | kernel_rfl) ?_
 refine b5 (as':=[z.v,int .i64 r]) rfl ?_;refine a6 (a6t z r d.2.1 ⟨B,by omega⟩) rfl trivial ?_
 push_cast [pnt,zaa]
 repeat refine And.intro (by first | decide | exact λ _=>by decide | (simp +contextual; done) | kernel_rfl) ?_
 rw [show IntKind.i64.wrap (3*lx)=3*lx from a5 (by omega),show IntKind.i64.wrap (3*ly)=3*ly from a5 (by omega),show IntKind.i64.wrap (3*ux)=3*ux from a5 (by omega),show IntKind.i64.wrap (3*uy)=3*uy from a5 (by omega)];generalize r.toNat=R at *
 refine b9 [(9,false),(7,false),(4,false),(5,false),(8,false)] (λ vs pos a=>∃i:Int,(i=0\/(i=1/\¬(mxN (hx z R) 6<3*lx\/3*ux<mnN (hx z R) 6))\/(i=2/\¬ub z R (3*lx) (3*ly) (3*ux) (3*uy)))/\vs=[int .i64 i,.own 2000000 0 0 6,.ptr 2000001 0 0,.ptr 2000002 0 0,.ptr 2000003 0 0]/\pos=[] /\
  a=[.row 2 (.agg [.v (.int .i64 0),.v (.int .i64 0)]) true true (nc z R 6),.box [int .i64 lx,int .i64 ly],.box [int .i64 ux,int .i64 uy],.box (bxC lx ly ux uy)])
  (λ vs _ _=>match vs with | .r (.v (.int _ j))::_=>(2-j).toNat | _=>0) rfl ?_ ?_
 ·push_cast
  exact ⟨0,by omega,rfl,rfl⟩
 rintro vs pos a ⟨i,hi | hi | hi,rfl,rfl,rfl⟩
 ·obtain rfl:=hi;have n:decide ((0:Int)<2)=true:=rfl
  push_cast [n,lz z R 6 0 (by decide),zaa]
  repeat refine And.intro (by first | decide | kernel_rfl) ?_
  refine b9 [(12,false),(10,false),(11,false),(9,false),(7,false),(4,false),(5,false),(8,false)] (λ vs pos a=>∃k:Nat,k<=6/\vs=[int .i64 k,int .i64 (mnN (hx z R) k),int .i64 (mxN (hx z R) k),int .i64 0,.own 2000000 0 0 6,.ptr 2000001 0 0,.ptr 2000002 0 0,.ptr 2000003 0 0]/\pos=[] /\
   a=[.row 2 (.agg [.v (.int .i64 0),.v (.int .i64 0)]) true true (nc z R 6),.box [int .i64 lx,int .i64 ly],.box [int .i64 ux,int .i64 uy],.box (bxC lx ly ux uy)])
   (λ vs _ _=>match vs with | .r (.v (.int _ j))::_=>(6-j).toNat | _=>0) rfl ?_ ?_
  ·push_cast [jh,lv]
   exact ⟨0,by omega,rfl⟩
  rintro vs pos a ⟨k,d,rfl,rfl,rfl⟩
  push_cast
  refine b7 (λ h=>?_) (λ h=>?_)
  ·have hi:k<6:=by simp at h; omega
   push_cast [zah,zad,lz z R 6 k hi,jh,lv,zaa]
   rw [show IntKind.i64.wrap ((k:Int)+1)=((k+1:Nat):Int) by rw [a5 (by omega)]; omega]
   repeat refine sM ?_
   exact ⟨⟨k+1,by omega,rfl⟩,by omega⟩
  have hi:k=6:=by simp at h; omega
  subst hi
  push_cast [zaa]
  rw [show IntKind.i64.wrap (3*lx)=3*lx from a5 (by omega),show IntKind.i64.wrap (3*ux)=3*ux from a5 (by omega)]
  repeat refine And.intro (by first | decide | exact λ _=>by decide | (simp +contextual; done) | kernel_rfl) ?_
  refine b7 (λ h=>?_) (λ h=>?_)
  ·have f:mxN (hx z R) 6<3*lx\/3*ux<mnN (hx z R) 6:=by simpa using h
   push_cast
   rw [aoo (show ub z R (3*lx) (3*ly) (3*ux) (3*uy) from .inl f)]
  have l:¬(mxN (hx z R) 6<3*lx\/3*ux<mnN (hx z R) 6):=by
   have:=h;simp at this;omega
  push_cast [jh,lv]
  exact ⟨⟨1,.inr (.inl ⟨rfl,l⟩),rfl⟩,by decide⟩
 ·obtain ⟨rfl,p⟩:=hi;have n:decide ((1:Int)<2)=true:=rfl
  push_cast [n,lz z R 6 0 (by decide),zaa]
  repeat refine And.intro (by first | decide | kernel_rfl) ?_
  refine b9 [(12,false),(10,false),(11,false),(9,false),(7,false),(4,false),(5,false),(8,false)] (λ vs pos a=>∃k:Nat,k<=6/\vs=[int .i64 k,int .i64 (mnN (hy z R) k),int .i64 (mxN (hy z R) k),int .i64 1,.own 2000000 0 0 6,.ptr 2000001 0 0,.ptr 2000002 0 0,.ptr 2000003 0 0]/\pos=[] /\
   a=[.row 2 (.agg [.v (.int .i64 0),.v (.int .i64 0)]) true true (nc z R 6),.box [int .i64 lx,int .i64 ly],.box [int .i64 ux,int .i64 uy],.box (bxC lx ly ux uy)])
   (λ vs _ _=>match vs with | .r (.v (.int _ j))::_=>(6-j).toNat | _=>0) rfl ?_ ?_
  ·push_cast [jh,lv]
   exact ⟨0,by omega,rfl⟩
  rintro vs pos a ⟨k,d,rfl,rfl,rfl⟩
  push_cast
  refine b7 (λ h=>?_) (λ h=>?_)
  ·have hi:k<6:=by simp at h; omega
   push_cast [zah,zad,lz z R 6 k hi,jh,lv,zaa]
   rw [show IntKind.i64.wrap ((k:Int)+1)=((k+1:Nat):Int) by rw [a5 (by omega)]; omega]
   repeat refine sM ?_
   exact ⟨⟨k+1,by omega,rfl⟩,by omega⟩
  have hi:k=6:=by simp at h; omega
  subst hi
  push_cast [zaa]
  rw [show IntKind.i64.wrap (3*ly)=3*ly from a5 (by omega),show IntKind.i64.wrap (3*uy)=3*uy from a5 (by omega)]
  repeat refine And.intro (by first | decide | exact λ _=>by decide | (simp +contextual; done) | kernel_rfl) ?_
  refine b7 (λ h=>?_) (λ h=>?_)
  ·have f:mxN (hy z R) 6<3*ly\/3*uy<mnN (hy z R) 6:=by simpa using h
   push_cast
   rw [aoo (show ub z R (3*lx) (3*ly) (3*ux) (3*uy) from .inr f)]
  have l:¬(mxN (hy z R) 6<3*ly\/3*uy<mnN (hy z R) 6):=by
   have:=h;simp at this;omega
  push_cast [jh,lv]
  exact ⟨⟨2,.inr (.inr ⟨rfl,λ hc=>hc.elim p l⟩),rfl⟩,by decide⟩
 obtain ⟨rfl,p⟩:=hi;have n:decide ((2:Int)<2)=false:=rfl
 push_cast [n]
 refine b9 [(13,false),(7,false),(8,false)] (λ vs pos a=>∃i:Nat,i<=6/\(∀j,j<i->¬aia z R (3*lx) (3*ly) (3*ux) (3*uy) j)/\vs=[int .i64 i,.own 2000000 0 0 6,.ptr 2000001 0 0]/\pos=[] /\
  a=[.row 2 (.agg [.v (.int .i64 0),.v (.int .i64 0)]) true true (nc z R 6),.box (bxC lx ly ux uy)])
  (λ vs _ _=>match vs with | .r (.v (.int _ j))::_=>(6-j).toNat | _=>0) rfl ?_ ?_
 ·push_cast [jh,lv]
  exact ⟨0,by omega,λ j o=>by omega,rfl⟩
 rintro vs pos a ⟨i,I,o,rfl,rfl,rfl⟩
 push_cast
 refine b7 (λ h=>?_) (λ h=>?_)
 ·have hi:i<6:=by simp at h; omega
  obtain ⟨J,A⟩:∃J,J=(i+1)%6:=⟨_,rfl⟩
  have b:J<6:=by omega
  obtain ⟨L,C⟩:∃L,L=(i+3)%6:=⟨_,rfl⟩
  have g:L<6:=by omega
  have D:(IntKind.i64.wrap ((i:Int)+1)).tmod 6=(J:Int):=by
   rw [a5 (by omega),zay (by omega)]; omega
  have w:(IntKind.i64.wrap ((i:Int)+3)).tmod 6=(L:Int):=by
   rw [a5 (by omega),zay (by omega)]; omega
  push_cast [D,w,zah,zad,lz z R 6 i hi,lz z R 6 J b,lz z R 6 L g,jh,lv,zaa]
  repeat refine sM ?_
  refine i5 (as':=[pv (hx z R i) (hy z R i),pv (hx z R J) (hy z R J),int .i64 (hx z R L),int .i64 (hy z R L)]) rfl ?_;refine d5 (aqu _ _ _ _ _ _ (e i hi).1 (e i hi).2 (e J b).1 (e J b).2 (e L g).1 (e L g).2) rfl trivial ?_;rw [show sg (crP (hx z R i) (hy z R i) (hx z R J) (hy z R J) (hx z R L) (hy z R L))=1 from bal z R i J L H hi A C]
  push_cast [jh,lv]
  repeat refine sM ?_
  refine b9 [(18,false),(17,false),(16,false),(13,false),(7,false),(8,false),(14,false),(15,false)] (λ vs pos a=>∃k:Nat,k<=4/\vs=[int .i64 k,bl (decide (∀j,j<k->crP (hx z R i) (hy z R i) (hx z R J) (hy z R J) (cnx (3*lx) (3*ux) j) (cny (3*ly) (3*uy) j)<0)),int .i64 1,int .i64 i,.own 2000000 0 0 6,.ptr 2000001 0 0,.ptr 2000002 0 0,.ptr 2000003 0 0]/\pos=[] /\
   a=[.row 2 (.agg [.v (.int .i64 0),.v (.int .i64 0)]) true true (nc z R 6),.box (bxC lx ly ux uy),.box [int .i64 (hx z R i),int .i64 (hy z R i)],.box [int .i64 (hx z R J),int .i64 (hy z R J)]])
   (λ vs _ _=>match vs with | .r (.v (.int _ j))::_=>(4-j).toNat | _=>0) rfl ?_ ?_
  ·push_cast [jh,lv]
   refine ⟨0,by omega,?_⟩;rw [decide_eq_true (show ∀j,j<0->crP (hx z R i) (hy z R i) (hx z R J) (hy z R J) (cnx (3*lx) (3*ux) j) (cny (3*ly) (3*uy) j)<0 from λ j o=>by omega)]
   rfl
  rintro vs pos a ⟨k,G,rfl,rfl,rfl⟩
  push_cast
  refine b7 (λ h=>?_) (λ h=>?_)
  ·have d:k<4:=by simp at h; omega
   push_cast [zah,zad,Nat.add_zero,bhz,bns _ _ _ _ k d,bnr _ _ _ _ k d,jh,lv,zaa]
   repeat refine sM ?_
   have y:bw (cnx (3*lx) (3*ux) k):=by unfold cnx bw; split<;>omega
   have s:bw (cny (3*ly) (3*uy) k):=by unfold cny bw; split<;>omega
   refine i5 (as':=[pv (hx z R i) (hy z R i),pv (hx z R J) (hy z R J),int .i64 (cnx (3*lx) (3*ux) k),int .i64 (cny (3*ly) (3*uy) k)]) rfl ?_;refine d5 (aqu _ _ _ _ _ _ (e i hi).1 (e i hi).2 (e J b).1 (e J b).2 y s) rfl trivial ?_
   push_cast [jh,lv]
   repeat refine sM ?_
   rw [show IntKind.i64.wrap ((k:Int)+1)=((k+1:Nat):Int) by rw [a5 (by omega)]; omega]
   repeat refine And.intro (by first | decide | exact λ _=>by decide | (simp +contextual; done) | kernel_rfl) ?_
   refine ⟨⟨k+1,by omega,?_⟩,by omega⟩;rw [a9u,bc8 (λ j=>crP (hx z R i) (hy z R i) (hx z R J) (hy z R J) (cnx (3*lx) (3*ux) j) (cny (3*ly) (3*uy) j)) k]
  have d:k=4:=by simp at h; omega
  subst d
  push_cast
  have m:=ayk z R i J (3*lx) (3*ly) (3*ux) (3*uy) A;refine b7 (λ q=>?_) (λ q=>?_)
  ·have u:aia z R (3*lx) (3*ly) (3*ux) (3*uy) i:=m.1 (of_decide_eq_true q)
   push_cast
   have:ca z R (3*lx) (3*ly) (3*ux) (3*uy)=false:=by
    simp only [ca,p,decide_false,zbe,Bool.true_and];rw [List.all_eq_false];exact ⟨i,zbc.2 hi,by simp [u]⟩
   rw [this]
  have u:¬aia z R (3*lx) (3*ly) (3*ux) (3*uy) i:=λ c=>by
   have:=m.2 c;unfold aqx at this;rw [decide_eq_true this] at q;cases q
  push_cast [jh,lv]
  rw [show IntKind.i64.wrap ((i:Int)+1)=((i+1:Nat):Int) by rw [a5 (by omega)]; omega];refine ⟨⟨i+1,by omega,λ j E=>?_,rfl⟩,by omega⟩;by_cases x:j=i
  ·subst x; exact u
  exact o j (by omega)
 have hi:i=6:=by simp at h; omega
 subst hi
 push_cast
 have:ca z R (3*lx) (3*ly) (3*ux) (3*uy)=true:=by
  simp only [ca,p,decide_false,zbe,Bool.true_and,zbq,zbc,zbr,decide_eq_false_iff_not];exact o
 rw [this]

theorem nh (r:Nat) (z:Ei) (h:okc r z):aei (y6 r z)=true/\z9 (y6 r z)=r/\s7 (y6 r z) r=z/\y6 r z<18446744073709551616:=by
 refine ⟨awc h,(aqh r z h).2,?_,aou r z h⟩;rw [a5m r r z h (zax _),Nat.sub_self]
 rfl
theorem abn (h:tis t=true):t.ok:=by
 have a:0<=t.z/\t.z<=18/\0<=t.r/\t.r<=12/\0<=t.x/\t.x<2^t.z.toNat/\0<=t.y/\t.y<2^t.z.toNat:=by simpa [tis] using h
 have b:=p2 t.z.toNat (by omega);unfold Til.ok c7;omega
theorem aqv (r:Int) (z:Ei) (f:0<=r) (e:okc r.toNat z):a8 P0 82 [uw (y6 r.toNat z)] [] (.tup [cel r z,int .i64 0]) []:=by
 obtain ⟨d,a,b,c⟩:=nh r.toNat z e;have h:=bgh (y6 r.toNat z) c;rw [d,a,b,Int.toNat_of_nonneg f] at h;exact h
theorem bd0 (t:Til) (h:tis t=true) (c:cn t=false) (z:Ei) (b:okc t.r.toNat z) (g:qg z t.r.toNat) :
 a8 P0 52 [t.v,uw (y6 t.r.toNat z)] [] (bl (tch z t.r.toNat (2^(30-t.z).toNat) t.x t.y)) []:=by
 refine agw.t func52 ?_;have hi:=aav h;have a:0<=t.z/\t.z<=18/\0<=t.r:=by simp only [tis,decide_eq_true_eq] at h; omega
 have i:=xk ⟨a.1,a.2.1⟩;have e:=abn h
 push_cast [agw,Til.v,uw,zab]
 refine b5 (as':=[uw (y6 t.r.toNat z)]) rfl ?_;refine a6 (aqv t.r z a.2.2 b) rfl trivial ?_
 push_cast [cel]
 refine b5 (as':=[t.v]) rfl ?_;refine a6 (avu t h) rfl trivial ?_
 push_cast
 refine b5 (as':=[t.v]) rfl ?_;refine a6 (avr t e) rfl trivial ?_;rw [h,c];have f:(t.r == t.r)=true:=by simp
 push_cast [f]
 rw [zal,zap,zal,zap] at hi;have ex:IntKind.i64.wrap (t.x*2^(30-t.z).toNat+2^(30-t.z).toNat)=(t.x+1)*2^(30-t.z).toNat:=by rw [zal,zap]; exact a5 (by omega)
 have d:IntKind.i64.wrap (t.y*2^(30-t.z).toNat+2^(30-t.z).toNat)=(t.y+1)*2^(30-t.z).toNat:=by rw [zal,zap]; exact a5 (by omega)
 rw [ex,d]
 repeat refine And.intro (by first | decide | exact λ _=>by decide | (simp +contextual; done) | kernel_rfl) ?_
 refine b5 (as':=[cel t.r z,pv (t.x*2^(30-t.z).toNat) (t.y*2^(30-t.z).toNat),pv ((t.x+1)*2^(30-t.z).toNat) ((t.y+1)*2^(30-t.z).toNat)]) rfl ?_;refine a6 (a3t z t.r a.2.2 b _ _ _ _ g (by rw [zal,zap]; omega) (by rw [zal,zap]; omega)) rfl trivial ?_
 push_cast
 repeat refine And.intro (by first | decide | exact λ _=>by decide | (simp +contextual; done) | kernel_rfl) ?_
 rfl
theorem rz (b:r<=12) (a:inW x y) (h:zc x y z r):qg z r:=λ i hi=>by
 have d:=h.1;have c:=aq9 r i b hi;unfold inW at a;rw [bq,bp];omega
structure TilF (x y:Int) (t:Til) (Z:Ei) (s last:Int):Prop where
 b:0<=t.z/\t.z<=18/\0<=t.r/\t.r<=12
 w:inW x y
 k:okc t.r.toNat Z
 l:zc x y Z t.r.toNat
 h:qg Z t.r.toNat
 s1:4096<=s/\s<=1073741824
 l1:0<=last/\last<=262143
 same:bn6 Z t.r.toNat s last=bdu Z t.r.toNat s last
 own:(t.x,t.y)∈bdu Z t.r.toNat s last

theorem as1 (f:Nat->Int):∀k,0<k->∃j,j<k/\mnN f k=f j
 | 0,h=>by omega
 | 1,_=>⟨0,by omega,by rw [mnN,mnN]; omega⟩
 | k+2,_=>by
   obtain ⟨j,a,e⟩:=as1 f (k+1) (by omega);rw [mnN];rcases zbm (mnN f (k+1)) (f (k+1)) with h | h
   ·exact ⟨j,by omega,by omega⟩
   exact ⟨k+1,by omega,by omega⟩
theorem as0 (f:Nat->Int):∀k,0<k->∃j,j<k/\mxN f k=f j
 | 0,h=>by omega
 | 1,_=>⟨0,by omega,by rw [mxN,mxN]; omega⟩
 | k+2,_=>by
   obtain ⟨j,a,e⟩:=as0 f (k+1) (by omega);rw [mxN];rcases zbm (mxN f (k+1)) (f (k+1)) with h | h
   ·exact ⟨k+1,by omega,by omega⟩
   exact ⟨j,by omega,by omega⟩
section
variable (X Y A B C:Nat->Int)
def sd (i:Nat) (x y:Int):Int:=A i*y-B i*x-C i
def Tch (lx ly ux uy:Int):Prop:=¬(mxN X 6<lx\/ux<mnN X 6)/\¬(mxN Y 6<ly\/uy<mnN Y 6) /\
 ∀i,i<6->¬(sd A B C i lx ly<0/\sd A B C i ux ly<0/\sd A B C i ux uy<0/\sd A B C i lx uy<0)
variable {X Y A B C}
theorem bi3 (hc:∀i,i<6->∀j,j<6->0<=sd A B C i (X j) (Y j)) (hy:ly<=uy) (h:¬(mxN Y 6<ly\/uy<mnN Y 6)) :
 ∃P Q W:Int,0<W/\(∀i,i<6->0<=A i*Q-B i*P-C i*W)/\mnN X 6*W<=P/\P<=mxN X 6*W/\ly*W<=Q/\Q<=uy*W:=by
 obtain ⟨a,c,r⟩:=as1 Y 6 (by decide);obtain ⟨b,d,w⟩:=as0 Y 6 (by decide);have m:=a72 X 6 a c;have n:=a72 X 6 b d;have o:=a71 X 6 a c;have p:=a71 X 6 b d;by_cases u:ly<=Y a
 ·refine ⟨X a,Y a,1,by omega,λ i hi=>?_,by omega,by omega,by omega,by omega⟩;have:=hc i hi a c;unfold sd at this;omega
 by_cases c2:Y b<=uy
 ·refine ⟨X b,Y b,1,by omega,λ i hi=>?_,by omega,by omega,by omega,by omega⟩;have:=hc i hi b d;unfold sd at this;omega
 obtain ⟨s,v⟩:∃s,Y b-ly=s:=⟨_,rfl⟩
 obtain ⟨t,q⟩:∃t,ly-Y a=t:=⟨_,rfl⟩
 have l:0<=s:=by omega
 have k:0<=t:=by omega
 refine ⟨s*X a+t*X b,ly*(s+t),s+t,by omega,λ i hi=>?_,?_,?_,by omega,?_⟩
 ·have f:=zbl l (hc i hi a c);have g:=zbl k (hc i hi b d);unfold sd at f g
  have e:A i*(ly*(s+t))-B i*(s*X a+t*X b)-C i*(s+t)=s*(A i*Y a-B i*X a-C i)+t*(A i*Y b-B i*X b-C i):=by
   rw [show Y a=ly-t by omega,show Y b=ly+s by omega];simp only [zaz,Int.mul_sub];simp only [zbd,Int.mul_left_comm];omega
  rw [e];omega
 ·have f:=zat m l;have g:=zat n k;rw [zaz,zbd _ s,zbd _ t];omega
 ·have f:=zat o l;have g:=zat p k;rw [zaz,zbd _ s,zbd _ t];omega
 exact zbs hy (by omega)
theorem azq {a k W Q:Int} (b:0<W) (d:ly*W<=Q) (c:Q<=uy*W) (e:a*ly+k<0) (g:a*uy+k<0):a*Q+k*W<0:=by
 have f:=zbt e b;have m2:=zbt g b;rw [Int.zero_mul,zal,zbk] at f m2;rcases zbm 0 a with h | h
 ·have:=zat c h;omega
 have:=zbu h d;omega
theorem avj (hc:∀i,i<6->∀j,j<6->0<=sd A B C i (X j) (Y j)) (v:lx<=m) (E:m<=ux) (hy:ly<=uy) (u:Tch X Y A B C lx ly ux uy) :
 Tch X Y A B C lx ly m uy\/Tch X Y A B C m ly ux uy:=by
 obtain ⟨H,g,p⟩:=u;obtain ⟨P,Q,W,e,s,x1,x2,y1,y2⟩:=bi3 hc hy g;apply Classical.byContradiction;intro t;rw [not_or] at t;obtain ⟨r,q⟩:=t
 have G:m*W<P:=by
  unfold Tch at r;by_cases c:mxN X 6<lx\/m<mnN X 6
  ·have c':m<mnN X 6:=by omega
   have:=zbt c' e;omega
  have:∃i,i<6/\(sd A B C i lx ly<0/\sd A B C i m ly<0/\sd A B C i m uy<0/\sd A B C i lx uy<0):=by
   apply Classical.byContradiction;intro f;exact r ⟨c,g,λ i hi l=>f ⟨i,hi,l⟩⟩
  obtain ⟨i,hi,z,D,F,x⟩:=this;have w:=p i hi;have h:=s i hi;unfold sd at *
  have n:B i<0:=by
   rcases Int.lt_or_le (B i) 0 with d | d
   ·exact d
   have:=zat E d;omega
  rcases Int.lt_or_le (m*W) P with b | b
  ·exact b
  have y:=zbu (zas n) b;have o:=azq (a:=A i) (k:=- B i*m-C i) e y1 y2 (by rw [zan]; omega) (by rw [zan]; omega);rw [Int.sub_mul,zan,zan,zbk] at o;omega
 have I:P<m*W:=by
  unfold Tch at q;by_cases c:mxN X 6<m\/ux<mnN X 6
  ·have c':mxN X 6<m:=by omega
   have:=zbt c' e;omega
  have:∃i,i<6/\(sd A B C i m ly<0/\sd A B C i ux ly<0/\sd A B C i ux uy<0/\sd A B C i m uy<0):=by
   apply Classical.byContradiction;intro f;exact q ⟨c,g,λ i hi l=>f ⟨i,hi,l⟩⟩
  obtain ⟨i,hi,z,D,F,x⟩:=this;have w:=p i hi;have h:=s i hi;unfold sd at *
  have n:0<B i:=by
   rcases Int.lt_or_le 0 (B i) with d | d
   ·exact d
   have:=zbu d v;omega
  rcases Int.lt_or_le P (m*W) with b | b
  ·exact b
  have y:=zat b (zas n);have o:=azq (a:=A i) (k:=- B i*m-C i) e y1 y2 (by rw [zan]; omega) (by rw [zan]; omega);rw [Int.sub_mul,zan,zan,zbk] at o;omega
 omega
end

def eA (r i:Nat):Int:=kx r ((i+1)%6)-kx r i
def eB (r i:Nat):Int:=ky r ((i+1)%6)-ky r i
def eC (z:Ei) (r i:Nat):Int:=eA r i*hy z r i-eB r i*hx z r i
theorem bho:∀r,r<13->∀i,i<6->∀j,j<6->0<=eA r i*(ky r j-ky r i)-eB r i*(kx r j-kx r i):=by decide +kernel
theorem a9c (a:r<13):∀i,i<6->∀j,j<6->0<=sd (eA r) (eB r) (eC z r) i (hx z r j) (hy z r j):=λ i hi j b=>by
 have:=bho r a i hi j b;unfold sd eC;rw [bq z r j,bq z r i,bp z r j,bp z r i,zaz,zaz,zaz,zaz];rw [Int.mul_sub,Int.mul_sub] at this;omega
theorem aau:ca z r lx ly ux uy=true↔Tch (hx z r) (hy z r) (eA r) (eB r) (eC z r) lx ly ux uy:=by
 unfold ca Tch;rw [zbp,zbr,decide_eq_false_iff_not,zbq];unfold ub;simp only [zbr,decide_eq_false_iff_not,zbc,aia,blc];unfold sd eC eA eB;rw [not_or,and_assoc]
theorem aqn {X Y A B C:Nat->Int}:Tch X Y A B C lx ly ux uy↔Tch Y X (λ i=>- B i) (λ i=>- A i) C ly lx uy ux:=by
 unfold Tch sd;simp only [zan];constructor
 ·rintro ⟨c,a,b⟩;exact ⟨a,c,λ i hi d=>b i hi (by omega)⟩
 rintro ⟨c,a,b⟩;exact ⟨a,c,λ i hi d=>b i hi (by omega)⟩
theorem be3 (c:r<13) (b:lx<=m) (a:m<=ux) (hy:ly<=uy) (h:ca z r lx ly ux uy=true):ca z r lx ly m uy=true\/ca z r m ly ux uy=true:=by
 rw [aau] at h |-;rw [aau];exact avj (a9c c) b a hy h
theorem be2 (d:r<13) (c:ly<=m) (b:m<=uy) (a:lx<=ux) (h:ca z r lx ly ux uy=true):ca z r lx ly ux m=true\/ca z r lx m ux uy=true:=by
 have hc:∀i,i<6->∀j,j<6->0<=sd (λ i=>- eB r i) (λ i=>- eA r i) (eC z r) i (hy z r j) (hx z r j):=λ i hi j e=>by
  have:=a9c (z:=z) d i hi j e;unfold sd at *;rw [zan,zan];omega
 rcases avj hc c b a (aqn.1 (aau.1 h)) with h | h
 ·exact .inl (aau.2 (aqn.2 h))
 exact .inr (aau.2 (aqn.2 h))

def aie:Mk P0 f120:={ x:=_ }
def amf:Mk P0 f70:={ x:=_ }
theorem bnm (w i:Nat) (a:w<18446744073709551616) (hi:1<=i/\i<=12):a8 P0 120 [uw w,int .i64 i] [] (uw (dgt w i)) []:=by
 refine aie.t func120 ?_;have f:IntKind.i64.wrap ((i:Int)-1)=(i:Int)-1:=a5 (by omega);have b:IntKind.i64.wrap (3*((i:Int)-1))=3*((i:Int)-1):=a5 (by omega);have d:IntKind.i64.wrap (33-3*((i:Int)-1))=36-3*(i:Int):=by rw [a5 (by omega)]; omega
 have e:IntKind.u64.wrap (36-3*(i:Int))=36-3*(i:Int):=by simp [IntKind.wrap,IntKind.bits,IntKind.signed]; omega
 have c:IntKind.u64.wrap (zae IntKind.u64.bits ((w:Int).fdiv (2^min (36-3*(i:Int)).toNat IntKind.u64.bits)) &&& zae IntKind.u64.bits 7).toNat=(dgt w i:Int):=by
  rw [aay (k:=36-3*i) (n:=3) (by omega) (by omega) (by decide) (by decide) a];rw [show 2^(36-3*i)=8^(12-i) by rw [show (8:Nat)=2^3 from rfl,<- Nat.pow_mul]; congr 1; omega]
  rfl
 push_cast [aie,uw,f,b,d,e,c,zab]
 omega
theorem auv (w:Nat) (o:w<18446744073709551616) (P:aei w=true):a8 P0 70 [uw w] [] (.tup [cel (z9 w) (s7 w (z9 w)),int .i64 0]) []:=by
 refine amf.t func70 ?_;obtain ⟨L,m2,G⟩:=(alm w).1 P
 have F:(w:Int).fdiv (2^min (zaj 60) IntKind.u64.bits)=1:=by
  have:(w:Int).fdiv (2^min (zaj 60) IntKind.u64.bits)=((w/1152921504606846976:Nat):Int):=bam (k:=60) rfl (by decide);rw [this,L]; rfl
 have I:IntKind.i64.wrap (IntKind.u64.wrap (zae IntKind.u64.bits ((w:Int).fdiv (2^min (zaj 56) IntKind.u64.bits)) &&& zae IntKind.u64.bits 15).toNat)=(z9 w:Int):=by
  rw [aay (k:=56) (n:=4) rfl (by decide) (by decide) (by decide) o];exact a5 (by omega)
 have J:IntKind.i64.wrap (IntKind.i64.wrap (IntKind.u64.wrap (zae IntKind.u64.bits ((w:Int).fdiv (2^min (zaj 46) IntKind.u64.bits)) &&& zae IntKind.u64.bits 1023).toNat)-512)=(s7 w 0).a:=by
  rw [aay (k:=46) (n:=10) rfl (by decide) (by decide) (by decide) o,show ∀x:Nat,x<1024->IntKind.i64.wrap (IntKind.i64.wrap (x:Int)-512)=x-512 from λ x hx=>by rw [a5 (x:=(x:Int)) (by omega),a5 (by omega)]]
  ·rfl
  omega
 have H:IntKind.i64.wrap (IntKind.i64.wrap (IntKind.u64.wrap (zae IntKind.u64.bits ((w:Int).fdiv (2^min (zaj 36) IntKind.u64.bits)) &&& zae IntKind.u64.bits 1023).toNat)-512)=(s7 w 0).b:=by
  rw [aay (k:=36) (n:=10) rfl (by decide) (by decide) (by decide) o,show ∀x:Nat,x<1024->IntKind.i64.wrap (IntKind.i64.wrap (x:Int)-512)=x-512 from λ x hx=>by rw [a5 (x:=(x:Int)) (by omega),a5 (by omega)]]
  ·rfl
  omega
 have K:((1:Int) != 1)=false:=rfl;have O:decide ((z9 w:Int)>12)=false:=by simp; omega
 simp only [amf,uw,F,I,J,H,K,O,push_cast,↓reduceIte,reduceCtorEq,zE,zA,zD]
 repeat refine sI ?_
 clear F I J H
 refine b9 [(6,false),(0,false),(4,false),(5,false),(2,false)] (λ vs pos f=>∃i:Nat,(1<=i/\i<=13)/\vs=[int .i64 i,int .u64 w,int .i64 (z9 w),.ptr 2000000 0 0,.ptr 2000001 0 0]/\pos=[]/\f=[.box [int .i64 (min (i-1) (z9 w):Nat),int .i64 (s7 w (min (i-1) (z9 w))).a,int .i64 (s7 w (min (i-1) (z9 w))).b],.box [int .i64 0,int .i64 0,int .i64 0]])
  (λ vs _ _=>match vs with | .r (.v (.int _ j))::_=>(13-j).toNat | _=>0) rfl ?_ ?_
 ·simp only [push_cast,↓reduceIte,reduceCtorEq,zB,zE,zA,zL,zD];refine ⟨1,by omega,rfl,?_⟩;rw [show min (1-1) (z9 w)=0 by omega]
  rfl
 rintro vs pos f ⟨i,p,rfl,rfl,rfl⟩;obtain ⟨g,z⟩:∃g,min (i-1) (z9 w)=g:=⟨_,rfl⟩
 rw [z];simp only [push_cast,↓reduceIte,zA];refine b7 (λ hi=>?_) (λ hi=>?_)
 ·have hi:i<=12:=by simp at hi; omega
  have N:dgt w i<8:=zav _ (by decide);have m:IntKind.i64.wrap ((i:Int)+1)=(i:Int)+1:=a5 (by omega);simp only [push_cast,↓reduceIte,reduceCtorEq,zE];refine b5 (as':=[uw w,int .i64 i]) rfl ?_;refine a6 (bnm w i o ⟨p.1,hi⟩) rfl trivial ?_;by_cases hc:z9 w<i
  ·have l:=(G i p.1 hi).2 hc;have C:(((7:Nat):Int) == 7)=true:=rfl;have u:((7:Int) == 7)=true:=rfl;have D:decide ((i:Int)>(z9 w:Int))=true:=by simp; omega
   have q:(true != true)=false:=rfl;rw [l];simp only [uw,u,D,m,push_cast,↓reduceIte,reduceCtorEq,zB,zE,zA,zL,zD];refine ⟨⟨i+1,by omega,rfl,?_⟩,by omega⟩;rw [show min (i+1-1) (z9 w)=g by omega]
  have l:dgt w i≠7:=λ e=>hc ((G i p.1 hi).1 e);obtain rfl:g=i-1:=by omega
  have C:((dgt w i:Int) == 7)=false:=by simp; omega
  have D:decide ((i:Int)>(z9 w:Int))=false:=by simp; omega
  have q:(false != false)=false:=rfl;have E:=api w (i-1) (by omega);have s:=api w i hi;have h:((s7 w (i-1)).mul aw).In 10000000000000:=(vp E (show aw.In 2 by unfold Ei.In; decide)).mono (by decide)
  have c:s7 w i=vg (s7 w (i-1)) (dgt w i):=by
   conv=>lhs; rw [show i=i-1+1 by omega]
   rw [s7,show i-1+1=i by omega]
  simp only [uw,C,D,push_cast,↓reduceIte,reduceCtorEq,zE,zA,zD];refine b5 (as':=[(s7 w (i-1)).v,aw.v]) rfl ?_;refine a6 (aih _ _ (E.mono (by decide)) (show aw.In _ by unfold Ei.In; decide) (h.mono (by decide))) rfl trivial ?_;simp only [Ei.v,Ei.rv,push_cast,↓reduceIte,zE,zA,zL,zD];refine b7 (λ B=>?_) (λ B=>?_)
  ·have A:0<dgt w i:=by simp at B; omega
   have Q:IntKind.i64.wrap (dgt w i:Int)=(dgt w i:Int):=a5 (by omega);have y:IntKind.i64.wrap ((dgt w i:Int)-1)=(dgt w i:Int)-1:=a5 (by omega)
   have d:vg (s7 w (i-1)) (dgt w i)=((s7 w (i-1)).mul aw).add (uni (dgt w i-1)):=by
    unfold vg;rw [if_neg (by omega)]
   rw [d] at c;simp only [Q,y,push_cast,↓reduceIte,zE,zA,zD];refine d5 (a2s ((dgt w i:Int)-1) (by omega)) rfl trivial ?_;rw [show ((dgt w i:Int)-1).toNat=dgt w i-1 by omega];have M:(uni (dgt w i-1)).In 1:=by unfold uni; split<;>unfold Ei.In<;>decide
   simp only [Ei.v,Ei.rv,push_cast,↓reduceIte,zE];refine i5 (as':=[((s7 w (i-1)).mul aw).v,(uni (dgt w i-1)).v]) rfl ?_;refine d5 (a82 _ _ (h.mono (by decide)) (M.mono (by decide)) (by rw [<- c]; exact s.mono (by decide))) rfl trivial ?_;rw [<- c];simp only [m,Ei.v,Ei.rv,push_cast,↓reduceIte,reduceCtorEq,zB,zE,zA,zL,zD]
   repeat refine sI ?_
   refine ⟨⟨i+1,by omega,rfl,?_⟩,by omega⟩;rw [show min (i+1-1) (z9 w)=i by omega]
  have A:dgt w i=0:=by simp at B; omega
  have d:vg (s7 w (i-1)) (dgt w i)=(s7 w (i-1)).mul aw:=by
   unfold vg;rw [if_pos (by omega)]
  rw [d] at c;simp only [m,push_cast,↓reduceIte,reduceCtorEq,zB,zE,zA,zL,zD];refine ⟨⟨i+1,by omega,rfl,?_⟩,by omega⟩;rw [show min (i+1-1) (z9 w)=i by omega,c]
 have hi:i=13:=by simp at hi; omega
 subst hi;obtain rfl:g=z9 w:=by omega
 simp only [cel,push_cast,↓reduceIte,reduceCtorEq,zE,zA,zD]

def afm:Mk P0 f216:={ x:=_ }
def aco:Mk P0 f217:={ x:=_ }
def wc:Mk P0 f218:={ x:=_ }
abbrev P2:=Int×Int
def pv2 (p:P2):AV:=.r (pnt p.1 p.2)
structure Lin where
 axis:Int
 at':Int
 above:Bool
def Lin.v (l:Lin):AV:=.r (.agg [.v (.int .i64 l.axis),.v (.int .i64 l.at'),.v (.bool l.above)])
def Lin.ok (l:Lin):Prop:=l.axis=0\/l.axis=1
def sel (a:Int) (p:P2):Int:=if a=0 then p.1 else p.2
def u6 (l:Lin) (p:P2):Bool:=if l.above then decide (sel l.axis p>=l.at') else decide (sel l.axis p<=l.at')
def jb (l:Lin) (p q:P2):Bool:=(decide (sel l.axis p<l.at')&&decide (l.at'<sel l.axis q))||(decide (sel l.axis q<l.at')&&decide (l.at'<sel l.axis p))
def t7 (l:Lin) (p q:P2):P2:=
 let d:=sel l.axis q-sel l.axis p
 let e:=(sel (1-l.axis) q-sel (1-l.axis) p)*(l.at'-sel l.axis p)
 let n:=if d<0 then (-e)/(-d) else if 0<d then e/d else 0
 if l.axis=0 then (l.at',p.2+n) else (p.1+n,l.at')
theorem a46 (a b c d:Bool):(bif bif a then b else false then true else bif c then d else false)=(a&&b||c&&d):=by cases a<;>cases b<;>cases c<;>cases d<;>rfl
theorem a2d (l:Lin) (e:l.ok) (p:P2):a8 P0 216 [l.v,pv2 p] [] (bl (u6 l p)) []:=by
 refine afm.t func216 ?_;obtain ⟨a,c,b⟩:=l;have d:decide ((0:Nat)<2)=true:=rfl;rcases e with rfl | rfl<;>cases b<;>push_cast [afm,Lin.v,pv2,pnt,u6,sel,zaf,zaa,Int.reduceEq,zad,if_true,if_false,zbf,zab]
 all_goals (repeat refine sI ?_)
 all_goals first | done | kernel_rfl | rfl
theorem awq (l:Lin) (d:l.ok) (p q:P2):a8 P0 217 [l.v,pv2 p,pv2 q] [] (bl (jb l p q)) []:=by
 refine aco.t func217 ?_;obtain ⟨a,c,b⟩:=l;rcases d with rfl | rfl<;>push_cast [aco,Lin.v,pv2,pnt,jb,sel,zaf,zaa,Int.reduceEq,zad,if_true,if_false,zbf,zab]
 all_goals (repeat refine sI ?_)
 all_goals exact ⟨λ h=>by rw [h]; rfl,by rw [a46]⟩
theorem a2y (l:Lin) (M:l.ok) (p q:P2) (hc:-9007199254740992<=l.at'/\l.at'<=9007199254740992) (O:(-1099511627776<=p.1/\p.1<=1099511627776)/\(-1099511627776<=p.2/\p.2<=1099511627776))
 (N:(-1073741824<=q.1-p.1/\q.1-p.1<=1073741824)/\(-1073741824<=q.2-p.2/\q.2-p.2<=1073741824)) (L:jb l p q=true) :
 a8 P0 218 [l.v,pv2 p,pv2 q] [] (pv2 (t7 l p q)) []:=by
 refine wc.t func218 ?_;obtain ⟨a,c,b⟩:=l;obtain ⟨g,f⟩:=p;obtain ⟨i,j⟩:=q;simp only at hc O N;rcases M with h | h<;>simp only at h<;>subst h
 ·have I:(g<c/\c<i)\/(i<c/\c<g):=by simpa [jb,sel] using L
  have A:IntKind.i64.wrap (1-0)=1:=rfl;obtain ⟨d,E⟩:∃d,i-g=d:=⟨_,rfl⟩
  have G:IntKind.i64.wrap (i-g)=d:=by rw [a5 (by omega)]; exact E
  have J:IntKind.i64.wrap (j-f)=j-f:=a5 (by omega);have K:IntKind.i64.wrap (c-g)=c-g:=a5 (by omega);have F:=gm (x:=j-f) (y:=c-g) (n:=1073741824) (m:=1073741824) (by omega) (by omega);obtain ⟨e,w⟩:∃e,(j-f)*(c-g)=e:=⟨_,rfl⟩
  rw [w] at F;have H:IntKind.i64.wrap ((j-f)*(c-g))=e:=by rw [w]; exact a5 (by omega)
  have s:t7 ⟨0,c,b⟩ (g,f) (i,j)=(c,f+(if i-g<0 then (-((j-f)*(c-g)))/(-(i-g)) else if 0<i-g then ((j-f)*(c-g))/(i-g) else 0)):=rfl;rw [s,w,E];have C:IntKind.i64.wrap (0-e)=-e:=by rw [a5 (by omega)]; omega
  have D:IntKind.i64.wrap (0-d)=-d:=by rw [a5 (by omega)]; omega
  simp only [wc,Lin.v,pv2,pnt,A,G,J,K,H,zaf,zaa,zad,push_cast,↓reduceIte,reduceCtorEq,zE,zA,zL,zM]
  repeat refine sI ?_
  refine b7 (λ z=>?_) (λ z=>?_)
  ·have k:d<0:=by simpa using z
   have r:=uj (-e) (-d) (by unfold c7; omega) (by unfold c7; omega);rw [if_pos (by omega),if_pos (by omega)] at r;rw [if_pos k];have u:=zbv (-e) (-d);have B:IntKind.i64.wrap (f+(-e)/(-d))=f+(-e)/(-d):=a5 (by omega);simp only [C,D,push_cast,↓reduceIte,zE];refine a6 r rfl trivial ?_;simp only [B,zaf,zaa,zad,push_cast,↓reduceIte,zE,zA,zL,zD,zM]
   repeat refine sI ?_
   first | done | rfl | kernel_rfl
  have k:¬d<0:=by simpa using z
  have o:0<d:=by omega
  have r:=uj e d (by unfold c7; omega) (by unfold c7; omega);rw [if_pos o,if_pos o] at r;rw [if_neg k,if_pos o];have u:=zbv e d;have B:IntKind.i64.wrap (f+e/d)=f+e/d:=a5 (by omega);simp only [push_cast,↓reduceIte,zE];refine a6 r rfl trivial ?_;simp only [B,zaf,zaa,zad,push_cast,↓reduceIte,zE,zA,zL,zD,zM]
  repeat refine sI ?_
  first | done | rfl | kernel_rfl
 have I:(f<c/\c<j)\/(j<c/\c<f):=by simpa [jb,sel] using L
 have A:IntKind.i64.wrap (1-1)=0:=rfl;obtain ⟨d,E⟩:∃d,j-f=d:=⟨_,rfl⟩
 have G:IntKind.i64.wrap (j-f)=d:=by rw [a5 (by omega)]; exact E
 have J:IntKind.i64.wrap (i-g)=i-g:=a5 (by omega);have K:IntKind.i64.wrap (c-f)=c-f:=a5 (by omega);have F:=gm (x:=i-g) (y:=c-f) (n:=1073741824) (m:=1073741824) (by omega) (by omega);obtain ⟨e,w⟩:∃e,(i-g)*(c-f)=e:=⟨_,rfl⟩
 rw [w] at F;have H:IntKind.i64.wrap ((i-g)*(c-f))=e:=by rw [w]; exact a5 (by omega)
 have s:t7 ⟨1,c,b⟩ (g,f) (i,j)=(g+(if j-f<0 then (-((i-g)*(c-f)))/(-(j-f)) else if 0<j-f then ((i-g)*(c-f))/(j-f) else 0),c):=rfl;rw [s,w,E];have C:IntKind.i64.wrap (0-e)=-e:=by rw [a5 (by omega)]; omega
 have D:IntKind.i64.wrap (0-d)=-d:=by rw [a5 (by omega)]; omega
 simp only [wc,Lin.v,pv2,pnt,A,G,J,K,H,zaf,zaa,zad,push_cast,↓reduceIte,reduceCtorEq,zE,zA,zL,zM]
 repeat refine sI ?_
 refine b7 (λ z=>?_) (λ z=>?_)
 ·have k:d<0:=by simpa using z
  have r:=uj (-e) (-d) (by unfold c7; omega) (by unfold c7; omega);rw [if_pos (by omega),if_pos (by omega)] at r;rw [if_pos k];have u:=zbv (-e) (-d);have B:IntKind.i64.wrap (g+(-e)/(-d))=g+(-e)/(-d):=a5 (by omega);simp only [C,D,push_cast,↓reduceIte,zE];refine a6 r rfl trivial ?_;simp only [B,zaf,zaa,zad,push_cast,↓reduceIte,zE,zA,zL,zD,zM]
  repeat refine sI ?_
  first | done | rfl | kernel_rfl
 have k:¬d<0:=by simpa using z
 have o:0<d:=by omega
 have r:=uj e d (by unfold c7; omega) (by unfold c7; omega);rw [if_pos o,if_pos o] at r;rw [if_neg k,if_pos o];have u:=zbv e d;have B:IntKind.i64.wrap (g+e/d)=g+e/d:=a5 (by omega);simp only [push_cast,↓reduceIte,zE];refine a6 r rfl trivial ?_;simp only [B,zaf,zaa,zad,push_cast,↓reduceIte,zE,zA,zL,zD,zM]
 repeat refine sI ?_
 first | done | rfl | kernel_rfl

def atq:Mk P0 f134:={ x:=_ }
def ail:Mk P0 f180:={ x:=_ }
def ptR (p:P2):RV:=pnt p.1 p.2
def a9 (l:List P2):AV:=.r (.sl 2 (l.map ptR))
def qv (l:List P2):Prop:=l.length<=100/\(∀p∈l,(-1099511627776<=p.1/\p.1<=1099511627776)/\(-1099511627776<=p.2/\p.2<=1099511627776)) /\
 ∀p∈l,∀q∈l,(-1073741824<=q.1-p.1/\q.1-p.1<=1073741824)/\(-1073741824<=q.2-p.2/\q.2-p.2<=1073741824)
variable {i:Nat} {p:P2}
theorem gi {l:List P2} (h:l[i]?=some p) (z:RV):(l.map ptR).getD ((i:Int)).toNat z=.agg [.v (.int .i64 p.1),.v (.int .i64 p.2)]:=by
 simp [List.getD,h,ptR,pnt]
theorem fi {l:List P2} (h:l[i]?=some p) (z:RV):(l.map ptR).getD (0+((i:Int)).toNat) z=.agg [.v (.int .i64 p.1),.v (.int .i64 p.2)]:=by rw [zad]; exact gi h z
theorem bds (l:List P2) (h:qv l):a8 P0 134 [a9 l] [] (bl true) []:=by
 obtain ⟨V,T,E⟩:=h;refine atq.t func134 ?_;have J:decide ((l.length:Int)>100)=false:=by simp; omega
 push_cast [atq,a9,zac,J,zab]
 refine b9 [(11,false),(0,false)] (λ vs pos b=>∃a:Nat,a<=2/\vs=[int .i64 a,a9 l]/\pos=[]/\b=[])
  (λ vs _ _=>match vs with | .r (.v (.int _ a))::_=>(2-a).toNat | _=>0) rfl ?_ ?_
 ·push_cast [a9]
  exact ⟨0,by omega,rfl⟩
 rintro vs pos b ⟨a,X,rfl,rfl,rfl⟩
 push_cast [a9,zac]
 refine b7 (λ hc=>?_) (λ hc=>?_)
 ·have S:a<2:=by simp at hc; omega
  have O:IntKind.i64.wrap ((a:Int)+1)=(a:Int)+1:=a5 (by omega)
  push_cast [a9,zac]
  refine b9 [(16,false),(14,false),(15,false),(3,false),(11,false),(0,false)] (λ vs pos b=>∃k:Nat,k<=l.length/\vs=[int .i64 k,a9 l,int .i64 l.length,int .i64 a,int .i64 a,a9 l]/\pos=[]/\b=[])
   (λ vs _ _=>match vs with | .r (.v (.int _ a))::_=>(l.length-a).toNat | _=>0) rfl ?_ ?_
  ·push_cast [a9]
   exact ⟨0,by omega,rfl⟩
  rintro vs pos b ⟨k,Y,rfl,rfl,rfl⟩
  push_cast [a9,zac]
  refine b7 (λ w=>?_) (λ w=>?_)
  ·have d:k<l.length:=by simpa using w
   obtain ⟨p,u⟩:∃p,l[k]?=some p:=⟨l[k],by simp [d]⟩
   have i:=zam u;have f:=T p i;have C:IntKind.i64.wrap ((k:Int)+1)=(k:Int)+1:=a5 (by omega)
   have g:∀(x y:Int) (z:AV),[AV.r (.v (.int .i64 x)),AV.r (.v (.int .i64 y))].getD (0+((a:Int)).toNat*1) z=.r (.v (.int .i64 (if a=0 then x else y))):=λ x y z=>by
    rcases (show a=0\/a=1 by omega) with rfl | rfl<;>rfl
   have c:∀(x y:Int) (z:AV),[AV.r (.v (.int .i64 x)),AV.r (.v (.int .i64 y))].getD ((a:Int)).toNat z=.r (.v (.int .i64 (if a=0 then x else y))):=λ x y z=>by
    rcases (show a=0\/a=1 by omega) with rfl | rfl<;>rfl
   obtain ⟨P,m⟩:∃P,(if a=0 then p.1 else p.2)=P:=⟨_,rfl⟩
   have F:-1099511627776<=P/\P<=1099511627776:=by rw [<- m]; split; exact f.1; exact f.2
   have R:decide (P < -1099511627776)=false:=by simp; omega
   have K:decide (P>1099511627776)=false:=by simp; omega
   have U:((k:Int)-0).toNat=k:=by omega
   push_cast [a9,zac,gi u,fi u,g,c,m,R,K]
   repeat refine sI ?_
   refine b9 [(35,false),(33,false),(34,false),(5,false),(16,false),(14,false),(15,false),(3,false),(11,false),(0,false)] (λ vs pos b=>∃j:Nat,j<=k/\vs=[int .i64 j,a9 (l.take k),int .i64 k,.ptr 2000000 0 0,int .i64 k,a9 l,int .i64 l.length,int .i64 a,int .i64 a,a9 l]/\pos=[]/\b=[.box [int .i64 p.1,int .i64 p.2]])
    (λ vs _ _=>match vs with | .r (.v (.int _ a))::_=>(k-a).toNat | _=>0) rfl ?_ ?_
   ·push_cast [a9,List.length_take,zac,List.map_take,zah,zaf,List.drop_zero,zbj (Nat.le_of_lt d)]
    exact ⟨0,by omega,by simp⟩
   rintro vs pos b ⟨j,W,rfl,rfl,rfl⟩
   push_cast [a9,zac]
   refine b7 (λ B=>?_) (λ B=>?_)
   ·have o:j<k:=by simpa using B
    have D:j<(l.take k).length:=by simp; omega
    obtain ⟨q,s⟩:∃q,(l.take k)[j]?=some q:=⟨(l.take k)[j],by simp [o,show j<l.length by omega]⟩
    have n:=List.mem_of_mem_take (zam s);have e:=E p i q n;have G:IntKind.i64.wrap ((j:Int)+1)=(j:Int)+1:=a5 (by omega);obtain ⟨Q,A⟩:∃Q,(if a=0 then q.1 else q.2)=Q:=⟨_,rfl⟩
    have L:-1073741824<=Q-P/\Q-P<=1073741824:=by rw [<- A,<- m]; split; exact e.1; exact e.2
    have N:IntKind.i64.wrap (P-Q)=P-Q:=a5 (by omega);have M:IntKind.i64.wrap (Q-P)=Q-P:=a5 (by omega);have H:decide (P-Q>1073741824)=false:=by simp; omega
    have I:decide (Q-P>1073741824)=false:=by simp; omega
    push_cast [a9,zac,List.length_take,zbj (Nat.le_of_lt d),gi s,fi s,g,c,m,A,N,M,H,I,G]
    repeat refine sI ?_
    exact ⟨⟨j+1,by omega,by simp⟩,by omega⟩
   push_cast [a9,zac,C]
   exact ⟨⟨k+1,by omega,by simp⟩,by omega⟩
  push_cast [a9,zac,O]
  exact ⟨⟨a+1,by omega,rfl⟩,by omega⟩
 push_cast [a9,zac]

def ss (l:Lin) (p q:P2):List P2:=(if u6 l p then [p] else [])++(if jb l p q then [t7 l p q] else [])
def ngh (rg:List P2) (i:Nat):P2:=rg.getD ((i+1)%rg.length) (0,0)
def al (l:Lin) (rg:List P2):Nat->List P2
 | 0=>[]
 | i+1=>al l rg i++ss l (rg.getD i (0,0)) (ngh rg i)
def af (l:Lin) (rg:List P2):List P2:=al l rg rg.length
theorem aij (l:Lin) (rg:List P2):∀i,(al l rg i).length<=2*i
 | 0=>by simp [al]
 | i+1=>by
   have:=aij l rg i;rw [al,zaq];unfold ss;rw [zaq];split<;>split<;>simp<;>omega
abbrev i7 (o:List P2):Ob:=.row 2 (pnt 0 0) true true (o.map ptR)
theorem m5 (o:List P2):List.take o.length (o.map ptR)=o.map ptR:=zbz (by simp)
variable {res:AV} {ro:List Ob}
theorem bef (l:Lin) (D:l.ok) (hc:-9007199254740992<=l.at'/\l.at'<=9007199254740992) (rg:List P2) (h:qv rg)
 (w:(af l rg=[]/\res=.nils 2 (pnt 0 0)/\ro=[])\/(af l rg≠[]/\res=.own 1000000 0 0 (af l rg).length/\ro=[i7 (af l rg)])) :
 a8 P0 180 [l.v,a9 rg] [] res ro:=by
 obtain ⟨L,I,H⟩:=h;refine ail.t func180 ?_;have K:=g7
 push_cast [ail,a9,Lin.v,zac,zab]
 refine b9 [(11,false),(9,false),(10,false),(2,false),(1,false),(5,false)] (λ vs pos y=>∃i:Nat,i<=rg.length/\pos=[] /\
  (al l rg i=[]/\vs=[int .i64 i,a9 rg,int .i64 rg.length,.ptr 2000000 0 0,a9 rg,.nils 2 (pnt 0 0)]/\y=[.box [int .i64 l.axis,int .i64 l.at',bl l.above]] \/
   al l rg i≠[]/\vs=[int .i64 i,a9 rg,int .i64 rg.length,.ptr 2000000 0 0,a9 rg,.own 2000001 0 0 (al l rg i).length]/\y=[.box [int .i64 l.axis,int .i64 l.at',bl l.above],i7 (al l rg i)]))
  (λ vs _ _=>match vs with | .r (.v (.int _ a))::_=>(rg.length-a).toNat | _=>0) rfl ?_ ?_
 ·push_cast [a9,pnt]
  exact ⟨0,by omega,.inl ⟨rfl,by simp⟩⟩
 rintro vs pos y ⟨i,hi,rfl,⟨f,rfl,rfl⟩ | ⟨f,rfl,rfl⟩⟩
 ·have E:=aij l rg i
  push_cast [a9,pnt,zac]
  refine b7 (λ z=>?_) (λ z=>?_)
  ·have e:i<rg.length:=by simpa using z
   obtain ⟨p,u⟩:∃p,rg[i]?=some p:=⟨rg[i],by simp [e]⟩
   obtain ⟨J,B⟩:∃J,(i+1)%rg.length=J:=⟨_,rfl⟩
   have A:J<rg.length:=by rw [<- B]; exact zav _ (by omega)
   obtain ⟨q,s⟩:∃q,rg[J]?=some q:=⟨rg[J],by simp [A]⟩
   have c:rg.getD i (0,0)=p:=by rw [zak,u]; rfl
   have d:ngh rg i=q:=by unfold ngh; rw [B,zak,s]; rfl
   have n:=zam u;have x:=zam s;have m:IntKind.i64.wrap ((i:Int)+1)=(i:Int)+1:=a5 (by omega);have G:((i:Int)+1).tmod (rg.length:Int)=(J:Int):=by rw [zay (by omega),<- B,Int.natCast_emod,Int.natCast_add]; rfl
   have C:¬((rg.length:Int)=0):=by omega
   push_cast [a9,zac,gi u,fi u,gi s,fi s,m,G,C]
   repeat refine sI ?_
   refine b5 (as':=[l.v,pv2 p]) rfl ?_;refine a6 (a2d l D p) rfl trivial ?_;have j:=awq l D p q;have g:=λ b=>a2y l D p q hc (I p n) (H p n q x) b;generalize k:t7 l p q=cx at *
   push_cast
   refine b7 (λ o=>?_) (λ o=>?_)
   ·push_cast [a9,zac,m5]
    repeat refine sI ?_
    refine b5 (as':=[l.v,pv2 p,pv2 q]) rfl ?_;refine a6 j rfl trivial ?_
    push_cast
    refine b7 (λ b=>?_) (λ b=>?_)
    ·push_cast [a9,zac,m5]
     refine b5 (as':=[l.v,pv2 p,pv2 q]) rfl ?_;refine a6 (g b) rfl trivial ?_
     push_cast [pv2,pnt,m,a9,zac,m5]
     repeat refine sI ?_
     have hN:al l rg (i+1)=[p,cx]:=by
      rw [al,c,d,f,zbn];unfold ss;rw [if_pos o,if_pos b,k]
      rfl
     exact ⟨⟨i+1,by omega,.inr ⟨by rw [hN]; simp,by rw [hN]; simp,by rw [hN]; rfl⟩⟩,by omega⟩
    push_cast [a9,zac,m5,m]
    have hN:al l rg (i+1)=[p]:=by
     rw [al,c,d,f,zbn];unfold ss;rw [if_pos o,if_neg (by rw [b]; simp)]
     rfl
    exact ⟨⟨i+1,by omega,.inr ⟨by rw [hN]; simp,by rw [hN]; simp,by rw [hN]; rfl⟩⟩,by omega⟩
   push_cast [a9,zac,m5]
   repeat refine sI ?_
   refine b5 (as':=[l.v,pv2 p,pv2 q]) rfl ?_;refine a6 j rfl trivial ?_
   push_cast
   refine b7 (λ b=>?_) (λ b=>?_)
   ·push_cast [a9,zac,m5]
    refine b5 (as':=[l.v,pv2 p,pv2 q]) rfl ?_;refine a6 (g b) rfl trivial ?_
    push_cast [pv2,pnt,m,a9,zac,m5]
    repeat refine sI ?_
    have hN:al l rg (i+1)=[cx]:=by
     rw [al,c,d,f,zbn];unfold ss;rw [if_neg (by rw [o]; simp),if_pos b,k]
     rfl
    exact ⟨⟨i+1,by omega,.inr ⟨by rw [hN]; simp,by rw [hN]; simp,by rw [hN]; rfl⟩⟩,by omega⟩
   push_cast [a9,zac,m5,m]
   have hN:al l rg (i+1)=[]:=by
    rw [al,c,d,f,zbn];unfold ss;rw [if_neg (by rw [o]; simp),if_neg (by rw [b]; simp)]
    rfl
   exact ⟨⟨i+1,by omega,.inl ⟨hN,by simp⟩⟩,by omega⟩
  have e:i=rg.length:=by
   have:¬i<rg.length:=by simpa using z
   omega
  rw [e] at f;rcases w with ⟨F,rfl,rfl⟩ | ⟨F,rfl,rfl⟩
  ·push_cast [pnt]
  exact absurd f F
 have E:=aij l rg i
 push_cast [a9,pnt,zac]
 refine b7 (λ z=>?_) (λ z=>?_)
 ·have e:i<rg.length:=by simpa using z
  obtain ⟨p,u⟩:∃p,rg[i]?=some p:=⟨rg[i],by simp [e]⟩
  obtain ⟨J,B⟩:∃J,(i+1)%rg.length=J:=⟨_,rfl⟩
  have A:J<rg.length:=by rw [<- B]; exact zav _ (by omega)
  obtain ⟨q,s⟩:∃q,rg[J]?=some q:=⟨rg[J],by simp [A]⟩
  have c:rg.getD i (0,0)=p:=by rw [zak,u]; rfl
  have d:ngh rg i=q:=by unfold ngh; rw [B,zak,s]; rfl
  have n:=zam u;have x:=zam s;have m:IntKind.i64.wrap ((i:Int)+1)=(i:Int)+1:=a5 (by omega);have G:((i:Int)+1).tmod (rg.length:Int)=(J:Int):=by rw [zay (by omega),<- B,Int.natCast_emod,Int.natCast_add]; rfl
  have C:¬((rg.length:Int)=0):=by omega
  push_cast [a9,zac,gi u,fi u,gi s,fi s,m,G,C]
  repeat refine sI ?_
  refine b5 (as':=[l.v,pv2 p]) rfl ?_;refine a6 (a2d l D p) rfl trivial ?_;have j:=awq l D p q;have g:=λ b=>a2y l D p q hc (I p n) (H p n q x) b;generalize k:t7 l p q=cx at *
  push_cast
  refine b7 (λ o=>?_) (λ o=>?_)
  ·push_cast [a9,zac,m5]
   repeat refine sI ?_
   refine b5 (as':=[l.v,pv2 p,pv2 q]) rfl ?_;refine a6 j rfl trivial ?_
   push_cast
   refine b7 (λ b=>?_) (λ b=>?_)
   ·push_cast [a9,zac,m5]
    refine b5 (as':=[l.v,pv2 p,pv2 q]) rfl ?_;refine a6 (g b) rfl trivial ?_
    push_cast [pv2,pnt,m,a9,zac,m5]
    repeat refine sI ?_
    have hN:al l rg (i+1)=al l rg i++[p,cx]:=by
     rw [al,c,d];unfold ss;rw [if_pos o,if_pos b,k]
     rfl
    exact ⟨⟨i+1,by omega,.inr ⟨by rw [hN]; simp [f],by rw [hN]; simp,by rw [hN]; simp [ptR,pnt]; rw [zbz (by simp)]; simp⟩⟩,by omega⟩
   push_cast [a9,zac,m5,m]
   have hN:al l rg (i+1)=al l rg i++[p]:=by
    rw [al,c,d];unfold ss;rw [if_pos o,if_neg (by rw [b]; simp)]
    rfl
   exact ⟨⟨i+1,by omega,.inr ⟨by rw [hN]; simp [f],by rw [hN]; simp,by rw [hN]; simp [ptR,pnt]⟩⟩,by omega⟩
  push_cast [a9,zac,m5]
  repeat refine sI ?_
  refine b5 (as':=[l.v,pv2 p,pv2 q]) rfl ?_;refine a6 j rfl trivial ?_
  push_cast
  refine b7 (λ b=>?_) (λ b=>?_)
  ·push_cast [a9,zac,m5]
   refine b5 (as':=[l.v,pv2 p,pv2 q]) rfl ?_;refine a6 (g b) rfl trivial ?_
   push_cast [pv2,pnt,m,a9,zac,m5]
   repeat refine sI ?_
   have hN:al l rg (i+1)=al l rg i++[cx]:=by
    rw [al,c,d];unfold ss;rw [if_neg (by rw [o]; simp),if_pos b,k]
    rfl
   exact ⟨⟨i+1,by omega,.inr ⟨by rw [hN]; simp [f],by rw [hN]; simp,by rw [hN]; simp [ptR,pnt]⟩⟩,by omega⟩
  push_cast [a9,zac,m5,m]
  have hN:al l rg (i+1)=al l rg i++[]:=by
   rw [al,c,d];unfold ss;rw [if_neg (by rw [o]; simp),if_neg (by rw [b]; simp)]
   rfl
  exact ⟨⟨i+1,by omega,.inr ⟨by rw [hN]; simp [f],by rw [hN]; simp,by rw [hN]; simp [pnt]⟩⟩,by omega⟩
 have e:i=rg.length:=by
  have:¬i<rg.length:=by simpa using z
  omega
 rw [e] at f |-;rcases w with ⟨F,rfl,rfl⟩ | ⟨F,rfl,rfl⟩
 ·exact absurd F f
 push_cast [pnt,af]; rfl

def aoh:Mk P0 f127:={ x:=_ }
def aqe:Mk P0 f76:={ x:=_ }
theorem bno (l:Lin) (b:l.ok) (hc:-9007199254740992<=l.at'/\l.at'<=9007199254740992) (rg:List P2) (h:qv rg) :
 a8 P0 180 [l.v,a9 rg] [] (.own 1000000 0 0 (af l rg).length) [i7 (af l rg)]:=by
 by_cases a:af l rg=[]
 ·have:=aed (bef l b hc rg h (.inl ⟨a,rfl,rfl⟩));rw [a];exact this
 exact bef l b hc rg h (.inr ⟨a,rfl,rfl⟩)
theorem ael (l:List P2):∀x∈l.map ptR,ft x:=λ x hx=>by
 obtain ⟨p,_,rfl⟩:=List.mem_map.1 hx;simp [ptR,pnt,ft,uc]
theorem ar6 (l:Lin) (a:l.ok) (hc:-9007199254740992<=l.at'/\l.at'<=9007199254740992) (rg:List P2) (h:qv rg) :
 a8 P0 127 [a9 rg,int .i64 l.axis,int .i64 l.at',bl l.above] [] (.own 1000000 0 0 (af l rg).length) [i7 (af l rg)]:=by
 refine aoh.t func127 ?_;have c:decide (l.axis<0)=false:=by rcases a with e | e<;>rw [e]<;>rfl
 have b:decide (l.axis>1)=false:=by rcases a with e | e<;>rw [e]<;>rfl
 push_cast [aoh,a9,c,b,zab]
 refine b5 (as':=[a9 rg]) rfl ?_;refine a6 (bds rg h) rfl trivial ?_
 push_cast
 refine b5 (as':=[l.v,a9 rg]) rfl ?_;refine a6 (bno l a hc rg h) rfl trivial ?_
 push_cast
def mg (lo hi:P2):List Lin:=[⟨0,lo.1,true⟩,⟨0,hi.1,false⟩,⟨1,lo.2,true⟩,⟨1,hi.2,false⟩]
def du (lo hi:P2) (rg:List P2) (i:Nat):List P2:=((mg lo hi).take i).foldl (λ r l=>af l r) rg
def ml (lo hi:P2) (rg:List P2):List P2:=du lo hi rg 4
def tu (lo hi:P2):Ob:=.row 3 (.agg [.v (.int .i64 0),.v (.int .i64 0),.v (.bool false)]) true true [.agg [.v (.int .i64 0),.v (.int .i64 lo.1),.v (.bool true)],.agg [.v (.int .i64 0),.v (.int .i64 hi.1),.v (.bool false)],.agg [.v (.int .i64 1),.v (.int .i64 lo.2),.v (.bool true)],.agg [.v (.int .i64 1),.v (.int .i64 hi.2),.v (.bool false)]]
theorem blz (lo hi:P2) (p:(-9007199254740992<=lo.1/\lo.1<=9007199254740992)/\(-9007199254740992<=lo.2/\lo.2<=9007199254740992)) (n:(-9007199254740992<=hi.1/\hi.1<=9007199254740992)/\(-9007199254740992<=hi.2/\hi.2<=9007199254740992))
 (rg:List P2) (h:∀i,i<4->qv (du lo hi rg i)):a8 P0 76 [a9 rg,pv2 lo,pv2 hi] [] (.own 1000000 0 0 (ml lo hi rg).length) [i7 (ml lo hi rg)]:=by
 refine aqe.t func76 ?_;simp only [aqe,a9,pv2,pnt,zaf,zaa,zad,push_cast,↓reduceIte,reduceCtorEq,zE,zA,zL,zD,zM]
 repeat refine sI ?_
 refine b9 [(23,false),(21,false),(22,false),(0,false)] (λ vs pos m=>∃i:Nat,i<=4/\pos=[] /\
  (i=0/\vs=[int .i64 i,.own 2000000 0 0 4,int .i64 4,a9 rg]/\m=[tu lo hi] \/
   i≠0/\vs=[int .i64 i,.own 2000000 0 0 4,int .i64 4,.own 2000001 0 0 (du lo hi rg i).length]/\m=[tu lo hi,i7 (du lo hi rg i)]))
  (λ vs _ _=>match vs with | .r (.v (.int _ a))::_=>(4-a).toNat | _=>0) rfl ?_ ?_
 ·simp only [a9,tu,push_cast,↓reduceIte,reduceCtorEq,zE,zA,zL,zD];exact ⟨0,by omega,.inl ⟨rfl,by simp⟩⟩
 have q:∀(k:Nat) (l:Lin),k<4->(mg lo hi)[k]?=some l->du lo hi rg (k+1)=af l (du lo hi rg k):=λ k l y s=>by
  unfold du;rw [zbg,s,List.foldl_append]
  rfl
 have c:∀(k:Nat) (l:Lin),(mg lo hi)[k]?=some l->l.ok/\(-9007199254740992<=l.at'/\l.at'<=9007199254740992):=λ k l s=>by
  have:=zam s;simp only [mg,zau,List.not_mem_nil,or_false] at this;rcases this with rfl | rfl | rfl | rfl
  ·exact ⟨.inl rfl,p.1⟩
  ·exact ⟨.inl rfl,n.1⟩
  ·exact ⟨.inr rfl,p.2⟩
  exact ⟨.inr rfl,n.2⟩
 rintro vs pos m ⟨i,u,rfl,⟨w,rfl,rfl⟩ | ⟨w,rfl,rfl⟩⟩
 ·subst w;have hN:du lo hi rg 0=rg:=rfl;have e:decide ((0:Int)<4)=true:=rfl;have b:=c 0 _ rfl;have f:=ar6 _ b.1 b.2 rg (by have:=h 0 (by decide); rwa [hN] at this);have d:=q 0 _ (by decide) rfl;rw [hN] at d;have g:IntKind.i64.wrap ((0:Int)+1)=1:=rfl;simp only [a9,tu,e,zaf,zad,push_cast,↓reduceIte,reduceCtorEq,zE,zA,zL,zD]
  repeat refine sI ?_
  rw [<- d] at f;refine a6 f rfl trivial ?_;simp only [g,zad,push_cast,↓reduceIte,reduceCtorEq,zB,zE,zA,zS,zL,zD,zM];exact ⟨⟨1,by omega,.inr ⟨by omega,by simp⟩⟩,by decide⟩
 rcases (show i=1\/i=2\/i=3\/i=4 by omega) with rfl | rfl | rfl | rfl
 ·have e:decide ((1:Int)<4)=true:=rfl;have b:=c 1 _ rfl;have f:=ar6 _ b.1 b.2 (du lo hi rg 1) (h 1 (by decide));have d:=q 1 _ (by decide) rfl;rw [<- d] at f;have g:IntKind.i64.wrap ((1:Int)+1)=2:=rfl;simp only [a9,tu,e,zaa,zad,push_cast,↓reduceIte,reduceCtorEq,zE,zA,zL,zD]
  repeat refine sI ?_
  refine jr ?_;simp only [push_cast]
  refine lq f rfl trivial (by simp [bj]) (by
   intro o j;simp only [zao] at j;subst j
   exact ael _) ?_
  simp only [g,zad,push_cast,↓reduceIte,reduceCtorEq,zB,zE,zA,zS,zL,zD,zM];exact ⟨⟨2,by omega,.inr ⟨by omega,by simp⟩⟩,by decide⟩
 ·have e:decide ((2:Int)<4)=true:=rfl;have b:=c 2 _ rfl;have f:=ar6 _ b.1 b.2 (du lo hi rg 2) (h 2 (by decide));have d:=q 2 _ (by decide) rfl;rw [<- d] at f;have g:IntKind.i64.wrap ((2:Int)+1)=3:=rfl;simp only [a9,tu,e,zaa,zad,push_cast,↓reduceIte,reduceCtorEq,zE,zA,zL,zD]
  repeat refine sI ?_
  refine jr ?_;simp only [push_cast]
  refine lq f rfl trivial (by simp [bj]) (by
   intro o j;simp only [zao] at j;subst j
   exact ael _) ?_
  simp only [g,zad,push_cast,↓reduceIte,reduceCtorEq,zB,zE,zA,zS,zL,zD,zM];exact ⟨⟨3,by omega,.inr ⟨by omega,by simp⟩⟩,by decide⟩
 ·have e:decide ((3:Int)<4)=true:=rfl;have b:=c 3 _ rfl;have f:=ar6 _ b.1 b.2 (du lo hi rg 3) (h 3 (by decide));have d:=q 3 _ (by decide) rfl;rw [<- d] at f;have g:IntKind.i64.wrap ((3:Int)+1)=4:=rfl;simp only [a9,tu,e,zaa,zad,push_cast,↓reduceIte,reduceCtorEq,zE,zA,zL,zD]
  repeat refine sI ?_
  refine jr ?_;simp only [push_cast]
  refine lq f rfl trivial (by simp [bj]) (by
   intro o j;simp only [zao] at j;subst j
   exact ael _) ?_
  simp only [g,zad,push_cast,↓reduceIte,reduceCtorEq,zB,zE,zA,zS,zL,zD,zM];exact ⟨⟨4,by omega,.inr ⟨by omega,by simp⟩⟩,by decide⟩
 have e:decide ((4:Int)<4)=false:=rfl;have x:du lo hi rg 4=ml lo hi rg:=rfl;simp only [a9,tu,e,x,pnt,push_cast,↓reduceIte,reduceCtorEq,zE,zA,zL,zD]
 rfl

def aml:Mk P0 f78:={ x:=_ }
def z6 (b:Int) (rg:List P2):List P2:=rg.map λ p=>(p.1/b,p.2/b)
theorem azw (b:Int) (B:1<=b/\b<=9007199254740992) (rg:List P2) (h:qv rg)
 (g:(rg=[]/\res=.nils 2 (pnt 0 0)/\ro=[])\/(rg≠[]/\res=.own 1000000 0 0 (z6 b rg).length/\ro=[i7 (z6 b rg)])) :
 a8 P0 78 [a9 rg,int .i64 b] [] res ro:=by
 refine aml.t func78 ?_;have x:=g7;have u:=bds rg h;obtain ⟨A,w,z⟩:=h;have y:decide (b<1)=false:=by simp; omega
 push_cast [aml,a9,y,zab]
 refine b5 (as':=[a9 rg]) rfl ?_;refine a6 u rfl trivial ?_
 push_cast [zac]
 have m:∀i,(z6 b (rg.take i)).length<=i:=λ i=>by unfold z6; simp; omega
 refine b9 [(23,false),(21,false),(22,false),(1,false),(5,false)] (λ vs pos j=>∃i:Nat,i<=rg.length/\pos=[] /\
  (i=0/\vs=[int .i64 i,a9 rg,int .i64 rg.length,int .i64 b,.nils 2 (pnt 0 0)]/\j=[] \/
   i≠0/\vs=[int .i64 i,a9 rg,int .i64 rg.length,int .i64 b,.own 2000000 0 0 (z6 b (rg.take i)).length]/\j=[i7 (z6 b (rg.take i))]))
  (λ vs _ _=>match vs with | .r (.v (.int _ a))::_=>(rg.length-a).toNat | _=>0) rfl ?_ ?_
 ·push_cast [a9,pnt]
  exact ⟨0,by omega,.inl ⟨rfl,by simp⟩⟩
 rintro vs pos j ⟨i,hi,rfl,⟨s,rfl,rfl⟩ | ⟨s,rfl,rfl⟩⟩
 ·have n:=m i
  push_cast [a9,pnt,zac]
  refine b7 (λ k=>?_) (λ k=>?_)
  ·have c:i<rg.length:=by simpa using k
   obtain ⟨p,f⟩:∃p,rg[i]?=some p:=⟨rg[i],by simp [c]⟩
   have q:=w p (zam f);have l:IntKind.i64.wrap ((i:Int)+1)=(i:Int)+1:=a5 (by omega);have e:=uj p.1 b (by unfold c7; omega) (by unfold c7; omega);have d:=uj p.2 b (by unfold c7; omega) (by unfold c7; omega);rw [if_pos (by omega),if_pos (by omega)] at e d
   have hN:z6 b (rg.take (i+1))=[(p.1/b,p.2/b)]:=by
    unfold z6;rw [zbg,f,List.map_append];rw [s]; rfl
   push_cast [a9,zac,gi f,fi f,l,zaf,zaa,zad]
   repeat refine sI ?_
   refine a6 e rfl trivial ?_
   push_cast [a9,zac,l,zaf,zaa,zad]
   repeat refine sI ?_
   refine a6 d rfl trivial ?_
   push_cast [a9,zac,m5,l,zaf,zaa,zad]
   repeat refine sI ?_
   exact ⟨⟨i+1,by omega,.inr ⟨by omega,by rw [hN]; simp,by rw [hN]; simp [ptR,pnt]⟩⟩,by omega⟩
  have c:i=rg.length:=by
   have:¬i<rg.length:=by simpa using k
   omega
  rcases g with ⟨o,rfl,rfl⟩ | ⟨o,rfl,rfl⟩
  ·push_cast [pnt]
  exact absurd (List.length_eq_zero_iff.1 (by omega)) o
 have n:=m i
 push_cast [a9,pnt,zac]
 refine b7 (λ k=>?_) (λ k=>?_)
 ·have c:i<rg.length:=by simpa using k
  obtain ⟨p,f⟩:∃p,rg[i]?=some p:=⟨rg[i],by simp [c]⟩
  have q:=w p (zam f);have l:IntKind.i64.wrap ((i:Int)+1)=(i:Int)+1:=a5 (by omega);have e:=uj p.1 b (by unfold c7; omega) (by unfold c7; omega);have d:=uj p.2 b (by unfold c7; omega) (by unfold c7; omega);rw [if_pos (by omega),if_pos (by omega)] at e d
  have hN:z6 b (rg.take (i+1))=z6 b (rg.take i)++[(p.1/b,p.2/b)]:=by
   unfold z6;rw [zbg,f,List.map_append]
   rfl
  push_cast [a9,zac,gi f,fi f,l,zaf,zaa,zad]
  repeat refine sI ?_
  refine a6 e rfl trivial ?_
  push_cast [a9,zac,l,zaf,zaa,zad]
  repeat refine sI ?_
  refine a6 d rfl trivial ?_
  push_cast [a9,zac,m5,l,zaf,zaa,zad]
  repeat refine sI ?_
  exact ⟨⟨i+1,by omega,.inr ⟨by omega,by rw [hN]; simp,by rw [hN]; simp [ptR,pnt]⟩⟩,by omega⟩
 have c:i=rg.length:=by
  have:¬i<rg.length:=by simpa using k
  omega
 rcases g with ⟨o,rfl,rfl⟩ | ⟨o,rfl,rfl⟩
 ·exfalso; rw [o] at c; exact s c
 rw [c,List.take_length]; push_cast [pnt]; rfl

theorem awh {u t D:Int} (f:0<t) (e:t<D):(0<=u->0<=u*t/D/\u*t/D<=u)/\(u<=0->u<=u*t/D/\u*t/D<=0):=by
 have d:0<D:=by omega
 constructor
 ·intro c;have a:=zbl c (zas f);have b:=zat (zas e) c;exact ⟨Int.ediv_nonneg a (zas d),Int.ediv_le_of_le_mul d b⟩
 intro c;have a:=zbu c (zas e);have b:=zbs c (zas f);rw [Int.zero_mul] at b;exact ⟨Int.le_ediv_of_mul_le d a,Int.ediv_le_of_le_mul d (by rw [Int.zero_mul]; exact b)⟩
def Btw (x a b:Int):Prop:=(a<=x/\x<=b)\/(b<=x/\x<=a)
variable {l:Lin} {q:P2}
theorem aob (v:l.ok) (s:jb l p q=true):Btw (t7 l p q).1 p.1 q.1/\Btw (t7 l p q).2 p.2 q.2:=by
 obtain ⟨a,c,b⟩:=l;obtain ⟨f,d⟩:=p;obtain ⟨g,i⟩:=q
 have k:∀(u P Q:Int),(P<c/\c<Q)\/(Q<c/\c<P)->∃n:Int,(if Q-P<0 then (-(u*(c-P)))/(-(Q-P)) else if 0<Q-P then (u*(c-P))/(Q-P) else 0)=n/\((0<=u->0<=n/\n<=u)/\(u<=0->u<=n/\n<=0)):=λ u P Q h=>by
  refine ⟨_,rfl,?_⟩;rcases h with h | h
  ·rw [if_neg (by omega),if_pos (by omega)];exact awh (by omega) (by omega)
  rw [if_pos (by omega)];have:=awh (u:=u) (t:=P-c) (D:=P-Q) (by omega) (by omega);rw [show -(u*(c-P))=u*(P-c) by rw [<- Int.mul_neg]; congr 1; omega,show -(Q-P)=P-Q by omega];exact this
 rcases v with h | h<;>simp only at h<;>subst h
 ·have j:(f<c/\c<g)\/(g<c/\c<f):=by simpa [jb,sel] using s
  obtain ⟨n,o,m,r⟩:=k (i-d) f g j;have e:t7 ⟨0,c,b⟩ (f,d) (g,i)=(c,d+n):=by rw [<- o]; rfl
  rw [e];unfold Btw;simp only;refine ⟨by omega,?_⟩;rcases zbm 0 (i-d) with h | h
  ·have:=m h; omega
  have:=r h; omega
 have j:(d<c/\c<i)\/(i<c/\c<d):=by simpa [jb,sel] using s
 obtain ⟨n,o,m,r⟩:=k (g-f) d i j;have e:t7 ⟨1,c,b⟩ (f,d) (g,i)=(f+n,c):=by rw [<- o]; rfl
 rw [e];unfold Btw;simp only;refine ⟨?_,by omega⟩;rcases zbm 0 (g-f) with h | h
 ·have:=m h; omega
 have:=r h; omega
def ut (lo hi:P2) (rg:List P2):Prop:=∀p∈rg,(lo.1<=p.1/\p.1<=hi.1)/\(lo.2<=p.2/\p.2<=hi.2)
theorem a2x {l:Lin} (d:l.ok) {lo hi:P2} {rg:List P2} (h:ut lo hi rg):∀i,i<=rg.length->ut lo hi (al l rg i)
 | 0,_=>by intro p a; simp [al] at a
 | i+1,hi'=>by
   have g:=a2x d h i (by omega)
   have b:rg.getD i (0,0)∈rg:=by
    rw [zak,zbo (show i<rg.length by omega)];exact List.getElem_mem _
   have c:ngh rg i∈rg:=by
    have:(i+1)%rg.length<rg.length:=zav _ (by omega);unfold ngh;rw [zak,zbo this];exact List.getElem_mem _
   intro p a;rw [al] at a;rcases zar.1 a with a | a
   ·exact g p a
   unfold ss at a;rcases zar.1 a with a | a
   ·split at a
    ·simp only [zao] at a;subst a;exact h _ b
    cases a
   split at a
   ·rename_i j;simp only [zao] at a;subst a;obtain ⟨e,f⟩:=aob d j;have m:=h _ b;have k:=h _ c;unfold Btw at e f;omega
   cases a
variable {rg:List P2}
theorem akr (a:l.ok) {lo hi:P2} (h:ut lo hi rg):ut lo hi (af l rg):=a2x a h _ (zax _)
theorem bco (l:Lin) (rg:List P2):(af l rg).length<=2*rg.length:=aij l rg _
theorem akv {lo hi:P2} {a b:P2} {rg:List P2} (h:ut a b rg):∀i,i<=4->ut a b (du lo hi rg i)/\(du lo hi rg i).length<=2^i*rg.length
 | 0,_=>⟨h,by simp [du]⟩
 | i+1,hi'=>by
   obtain ⟨f,g⟩:=akv (lo:=lo) (hi:=hi) h i (by omega);obtain ⟨l,d⟩:∃l,(mg lo hi)[i]?=some l:=⟨(mg lo hi)[i]'(by simp [mg]; omega),by simp [mg,show i<4 by omega]⟩
   have c:l.ok:=by
    have:=zam d;simp only [mg,zau,List.not_mem_nil,or_false] at this;rcases this with rfl | rfl | rfl | rfl
    ·exact .inl rfl
    ·exact .inl rfl
    ·exact .inr rfl
    exact .inr rfl
   have e:du lo hi rg (i+1)=af l (du lo hi rg i):=by
    unfold du;rw [zbg,d,List.foldl_append]
    rfl
   rw [e];refine ⟨akr c f,Nat.le_trans (bco _ _) ?_⟩;rw [Nat.pow_succ,Nat.mul_assoc,Nat.mul_left_comm];omega
theorem a1k {a b:P2} (h:ut a b rg) (d:rg.length<=100) (g:-1099511627776<=a.1/\b.1<=1099511627776/\b.1-a.1<=1073741824) (f:-1099511627776<=a.2/\b.2<=1099511627776/\b.2-a.2<=1073741824):qv rg:=by
 refine ⟨d,λ p c=>?_,λ p c q e=>?_⟩
 ·have:=h p c;omega
 have:=h p c;have:=h q e;omega
theorem bl0 (lo hi:P2) (e:(-9007199254740992<=lo.1/\lo.1<=9007199254740992)/\(-9007199254740992<=lo.2/\lo.2<=9007199254740992)) (f:(-9007199254740992<=hi.1/\hi.1<=9007199254740992)/\(-9007199254740992<=hi.2/\hi.2<=9007199254740992))
 {a b:P2} (h:ut a b rg) (g:rg.length<=6) (l:-1099511627776<=a.1/\b.1<=1099511627776/\b.1-a.1<=1073741824) (j:-1099511627776<=a.2/\b.2<=1099511627776/\b.2-a.2<=1073741824) :
 a8 P0 76 [a9 rg,pv2 lo,pv2 hi] [] (.own 1000000 0 0 (ml lo hi rg).length) [i7 (ml lo hi rg)]/\ut a b (ml lo hi rg)/\qv (ml lo hi rg):=by
 have d:∀i,i<=4->qv (du lo hi rg i):=λ i c=>by
  obtain ⟨k,m⟩:=akv (lo:=lo) (hi:=hi) h i c;have:2^i<=2^4:=zbb (by decide) c;have:=Nat.mul_le_mul this g;exact a1k k (by omega) l j
 exact ⟨blz lo hi e f rg λ i c=>d i (by omega),(akv h 4 (zax _)).1,d 4 (zax _)⟩

def ant:Mk P0 f185:={ x:=_ }
def anu:Mk P0 f181:={ x:=_ }
def jx:Mk P0 f219:={ x:=_ }
def je:Mk P0 f182:={ x:=_ }
def ata:Mk P0 f128:={ x:=_ }
def k7 (a b c:P2):Int:=(b.1-a.1)*(c.2-a.2)-(b.2-a.2)*(c.1-a.1)
def aa (p:P2):Prop:=(-536870912<=p.1/\p.1<=536870912)/\(-536870912<=p.2/\p.2<=536870912)
theorem biy (a b c:P2) (i:aa a) (j:aa b) (hc:aa c):a8 P0 185 [pv2 a,pv2 b,pv2 c] [] (int .i64 (k7 a b c)) []:=by
 refine ant.t func185 ?_;unfold aa at i j hc;have k:IntKind.i64.wrap (b.1-a.1)=b.1-a.1:=a5 (by omega);have f:IntKind.i64.wrap (c.2-a.2)=c.2-a.2:=a5 (by omega);have g:IntKind.i64.wrap (b.2-a.2)=b.2-a.2:=a5 (by omega);have h:IntKind.i64.wrap (c.1-a.1)=c.1-a.1:=a5 (by omega);have o:=gm (x:=b.1-a.1) (y:=c.2-a.2) (n:=1073741824) (m:=1073741824) (by omega) (by omega);have m2:=gm (x:=b.2-a.2) (y:=c.1-a.1) (n:=1073741824) (m:=1073741824) (by omega) (by omega);have d:IntKind.i64.wrap ((b.1-a.1)*(c.2-a.2))=(b.1-a.1)*(c.2-a.2):=a5 (by omega);have l:IntKind.i64.wrap ((b.2-a.2)*(c.1-a.1))=(b.2-a.2)*(c.1-a.1):=a5 (by omega)
 have e:IntKind.i64.wrap ((b.1-a.1)*(c.2-a.2)-(b.2-a.2)*(c.1-a.1))=k7 a b c:=a5 (by omega);simp only [ant,pv2,pnt,k,f,g,h,d,l,e,zaf,zaa,zad,push_cast,↓reduceIte,reduceCtorEq,zE,zA,zL,zM]
 decide
theorem bkz (p:P2) (h:aa p):a8 P0 181 [pv2 p] [] (bl false) []:=by
 refine anu.t func181 ?_;unfold aa at h;have b:decide (p.1 < -536870912)=false:=by simp; omega
 have c:decide (p.1>536870912)=false:=by simp; omega
 have d:decide (p.2 < -536870912)=false:=by simp; omega
 have a:decide (p.2>536870912)=false:=by simp; omega
 simp only [anu,pv2,pnt,b,c,d,a,zaf,zaa,zad,push_cast,↓reduceIte,zE,zA,zL,zM]
 decide
def agi:AV:=.fn (.func 181) [] 0
theorem bky (l:List P2) (j:l.length<=1000) (h:∀p∈l,aa p):a8 P0 219 [a9 l,agi] [] (int .i64 (-1)) []:=by
 refine jx.t func219 ?_
 push_cast [jx,a9,agi,zac,zab]
 have d:ab9 P0 181=true:=rfl
 refine b9 [(8,false),(0,false),(1,false),(7,false)] (λ vs pos b=>∃i:Nat,i<=l.length/\vs=[int .i64 i,a9 l,agi,int .i64 l.length]/\pos=[]/\b=[])
  (λ vs _ _=>match vs with | .r (.v (.int _ a))::_=>(l.length-a).toNat | _=>0) rfl ?_ ?_
 ·push_cast [a9,agi]
  exact ⟨0,by omega,rfl⟩
 rintro vs pos b ⟨i,hi,rfl,rfl,rfl⟩
 push_cast [a9,agi,zac]
 refine b7 (λ g=>?_) (λ g=>?_)
 ·have e:i<l.length:=by simpa using g
  obtain ⟨p,c⟩:∃p,l[i]?=some p:=⟨l[i],by simp [e]⟩
  have f:IntKind.i64.wrap ((i:Int)+1)=(i:Int)+1:=a5 (by omega)
  push_cast [a9,agi,zac,gi c,fi c,d,f]
  repeat refine sI ?_
  refine b5 (as':=[pv2 p]) rfl ?_;refine a6 (bkz p (h p (zam c))) rfl trivial ?_
  push_cast [a9,agi,zac,f]
  exact ⟨⟨i+1,by omega,rfl⟩,by omega⟩
 push_cast [a9,agi,zac]
theorem bk1 (l:List P2) (a:l.length<=1000) (h:∀p∈l,aa p):a8 P0 182 [a9 l,agi] [] (bl false) []:=by
 refine je.t func182 ?_;have d:decide ((-1:Int)>=0)=false:=rfl
 push_cast [je,a9,agi,zab]
 refine b5 (as':=[a9 l,agi]) rfl ?_;refine a6 (bky l a h) rfl trivial ?_
 push_cast [d]
theorem bd9 (l:List P2) (a:l.length<=1000) (h:∀p∈l,aa p):a8 P0 128 [a9 l] [] (bl true) []:=by
 refine ata.t func128 ?_;have d:decide ((l.length:Int)<=1000)=true:=by simp; omega
 push_cast [ata,a9,zac,d,zab]
 refine b5 (as':=[a9 l,agi]) rfl ?_;refine a6 (bk1 l a h) rfl trivial ?_
 push_cast

def amg:Mk P0 f132:={ x:=_ }
def dt (p:P2):List P2->List P2
 | b::a::r=>if k7 a b p<=0 then dt p (a::r) else b::a::r
 | s=>s
def p9 (l:List P2):List P2:=l.foldl (λ s p=>p::dt p s) []
def aq (l:List P2):List P2:=(p9 l).reverse.dropLast
theorem ah9 (p:P2):∀s,∃k,dt p s=s.drop k/\(s≠[]->dt p s≠[])
 | []=>⟨0,rfl,λ h=>h⟩
 | [a]=>⟨0,rfl,λ h=>h⟩
 | b::a::r=>by
   rw [dt];split
   ·obtain ⟨k,d,c⟩:=ah9 p (a::r);exact ⟨k+1,by rw [d]; rfl,λ _=>c (by simp)⟩
   exact ⟨0,rfl,λ h=>h⟩
theorem bbb {s:List P2} (h:q∈dt p s):q∈s:=by
 obtain ⟨k,a,_⟩:=ah9 p s;rw [a] at h;exact List.mem_of_mem_drop h
theorem bbc (p:P2) (s:List P2):(dt p s).length<=s.length:=by
 obtain ⟨k,a,_⟩:=ah9 p s;rw [a,List.length_drop];omega
theorem ff (l:List P2) (p:P2):p9 (l++[p])=p::dt p (p9 l):=by simp [p9]
theorem ke {c:Type} {P:List c->Prop} (e:P []) (d:∀l p,P l->P (l++[p])) (l:List c):P l:=by
 have b:∀r:List c,P r.reverse:=λ r=>by
  induction r with
  | nil=>simpa using e
  | cons a r ih=>rw [List.reverse_cons]; exact d _ _ ih
 have:=b l.reverse
 rwa [List.reverse_reverse] at this
theorem ak7 (l:List P2):∀{q:P2},q∈p9 l->q∈l:=by
 refine ke (P:=λ l=>∀{q:P2},q∈p9 l->q∈l) (λ h=>h) (λ l p a=>?_) l;intro q h;rw [ff] at h;rcases zau.1 h with rfl | h
 ·simp
 exact List.mem_append_left _ (a (bbb h))
theorem ah4 (l:List P2):(p9 l).length<=l.length:=by
 refine ke (P:=λ l=>(p9 l).length<=l.length) (by simp [p9]) (λ l p a=>?_) l;rw [ff,zai,zaq];have:=bbc p (p9 l);simp;omega

def Uni (f:P2->Bool) (l:List P2):Prop:=∃(v:Bool) (A B C:List P2),l=A++(B++C)/\(∀a∈A,f a=v)/\(∀b∈B,f b=!v)/\(∀c∈C,f c=v)
def prs (nx:P2):List P2->List (P2×P2)
 | []=>[]
 | [p]=>[(p,nx)]
 | p::q::r=>(p,q)::prs nx (q::r)
theorem a1p (nx:P2):∀l,(prs nx l).length=l.length
 | []=>rfl
 | [_]=>rfl
 | p::q::r=>by rw [prs,zai,a1p nx (q::r)]; rfl
theorem ad9 (nx:P2):∀(A:List P2) (b:P2) (B:List P2),prs nx (A++b::B)=prs b A++prs nx (b::B)
 | [],b,B=>rfl
 | [a],b,B=>rfl
 | a::a'::A,b,B=>by
   have:=ad9 nx (a'::A) b B;simp only [List.cons_append,prs] at this |-;rw [this]
theorem a1q (nx:P2):∀(l:List P2) (i:Nat),(prs nx l)[i]?=(l[i]?).map λ p=>(p,(l[i+1]?).getD nx)
 | [],i=>by simp [prs]
 | [p],0=>by simp [prs]
 | [p],i+1=>by simp [prs]
 | p::q::r,0=>by simp [prs]
 | p::q::r,i+1=>by
   rw [prs,List.getElem?_cons_succ,a1q nx (q::r) i];simp
def up (l:Lin) (p q:P2):List P2:=if jb l p q then [t7 l p q] else []
def gj (l:Lin) (x:List (P2×P2)):List P2:=x.flatMap λ p=>p.1::up l p.1 p.2
theorem ad8 (l:Lin) (x y:List (P2×P2)):gj l (x++y)=gj l x++gj l y:=by simp [gj]
theorem atm (l:Lin) (rg:List P2) (h:P2) (c:rg.head?=some h):∀i,i<=rg.length->al l rg i=((prs h rg).take i).flatMap λ p=>ss l p.1 p.2
 | 0,_=>by simp [al]
 | i+1,hi=>by
   have b:i<rg.length:=by omega
   have d:=a1q h rg i;rw [zbo b,Option.map_some] at d
   have j:(rg[i+1]?).getD h=ngh rg i:=by
    unfold ngh;rw [zak];by_cases e:i+1<rg.length
    ·rw [Nat.mod_eq_of_lt e,zbo e]
     rfl
    have f:i+1=rg.length:=by omega
    rw [List.getElem?_eq_none (by omega),f,Nat.mod_self];cases rg with
    | nil=>simp at b
    | cons a r=>simp at c; subst c; rfl
   rw [j] at d;have g:rg.getD i (0,0)=rg[i]:=by rw [zak,zbo b]; rfl
   rw [al,atm l rg h c i (by omega),g,zbg,d,List.flatMap_append];simp
theorem ajz (l:Lin) (d:l.ok) (p q:P2):u6 l (t7 l p q)=true:=by
 obtain ⟨a,c,b⟩:=l;rcases d with h | h<;>simp only at h<;>subst h<;>cases b<;>simp [u6,t7,sel]
theorem ae2 (l:Lin) (b:l.ok) (rg:List P2) (h:P2) (c:rg.head?=some h):af l rg=(gj l (prs h rg)).filter (u6 l):=by
 unfold af;rw [atm l rg h c _ (zax _),zbz (by rw [a1p]; exact zax _)];unfold gj;generalize prs h rg=x
 induction x with
 | nil=>rfl
 | cons p x ih=>
   rw [List.flatMap_cons,List.flatMap_cons,zbh,ih];congr 1;unfold ss up;rw [List.filter_cons];by_cases a:u6 l p.1=true
   ·rw [if_pos a,if_pos a];split
    ·simp [ajz l b]
    simp
   rw [if_neg a,if_neg a];split
   ·simp [ajz l b]
   simp
def thr (a c:Int) (p:P2):Bool:=decide (sel a p<=c)
theorem be5 {x:P2} {a c:Int} (h:Btw (sel a x) (sel a p) (sel a q)):(thr a c x=thr a c p\/thr a c x=thr a c q):=by
 unfold Btw at h;unfold thr;by_cases d:sel a p<=c<;>by_cases e:sel a q<=c
 ·left; rw [decide_eq_true d,decide_eq_true (by omega)]
 ·by_cases b:sel a x<=c
  ·left; rw [decide_eq_true d,decide_eq_true b]
  right; rw [decide_eq_false e,decide_eq_false b]
 ·by_cases b:sel a x<=c
  ·right; rw [decide_eq_true e,decide_eq_true b]
  left; rw [decide_eq_false d,decide_eq_false b]
 left; rw [decide_eq_false d,decide_eq_false (by omega)]
theorem a9a (b:l.ok) (e:jb l p q=true) (a:Int):Btw (sel a (t7 l p q)) (sel a p) (sel a q):=by
 obtain ⟨d,c⟩:=aob b e;unfold sel;split
 ·exact d
 exact c
theorem a2g (b:l.ok) {x:P2} (hx:x∈up l p q) (a c:Int):thr a c x=thr a c p\/thr a c x=thr a c q:=by
 unfold up at hx;split at hx
 ·rename_i d;simp only [zao] at hx;subst hx;exact be5 (a9a b d a)
 cases hx
theorem ad6 {l:Lin} (d:l.ok) (a c:Int) (v:Bool) (nx:P2):∀(A:List P2),(∀p∈A,thr a c p=v)->∃A' T,gj l (prs nx A)=A'++T/\(∀p∈A',thr a c p=v)/\(T=[]\/∃x,T=[x]/\(thr a c x=v\/thr a c x=thr a c nx))
 | [],_=>⟨[],[],rfl,by simp,.inl rfl⟩
 | [p],h=>by
   have b:=h p (by simp);refine ⟨[p],up l p nx,by simp [gj,prs],by simpa using b,?_⟩;have hi:=λ x (hx:x∈up l p nx)=>a2g d hx a c;unfold up at hi |-;split
   ·rename_i k;rw [if_pos k] at hi;have:=hi (t7 l p nx) (by simp);rw [b] at this;exact .inr ⟨_,rfl,this⟩
   exact .inl rfl
 | p::q::r,h=>by
   obtain ⟨A',T,g,j,f⟩:=ad6 d a c v nx (q::r) λ x hx=>h x (by simp at hx |-; exact .inr hx);have b:=h p (by simp);have i:=h q (by simp);refine ⟨p::(up l p q++A'),T,?_,?_,f⟩
   ·rw [prs,show gj l ((p,q)::prs nx (q::r))=p::(up l p q++gj l (prs nx (q::r))) by simp [gj],g];simp
   intro x hx;rcases zau.1 hx with rfl | hx
   ·exact b
   rcases zar.1 hx with hx | hx
   ·rcases a2g d hx a c with e | e
    ·rw [e,b]
    rw [e,i]
   exact j x hx
variable {f:P2->Bool} {v:Bool}
theorem aj6 {A B C:List P2} (d:∀a∈A,f a=v) (e:∀b∈B,f b=!v) (g:∀c∈C,f c=v):Uni f (A++(B++C)):=⟨v,A,B,C,rfl,d,e,g⟩
theorem apn {a b:Bool} (h:a≠b):a=!b:=by cases a<;>cases b<;>simp_all
variable {T:List P2}
theorem a03 {A' B' S:List P2} (e:∀p∈A',f p=v) (j:T=[]\/∃x,T=[x]) (h:∀p∈B',f p=!v) (i:S=[]\/∃x,S=[x]):Uni f ((A'++T)++(B'++S)):=by
 have put:∀(c b:List P2),(∀p∈c,f p=v)->(∀p∈b,f p=!v)->Uni f (c++(b++S)):=λ c b g d=>by
  rcases i with rfl | ⟨x,rfl⟩
  ·exact aj6 (v:=v) g d (C:=[]) (by simp)
  by_cases hx:f x=v
  ·exact aj6 (v:=v) g d (C:=[x]) (by simpa using hx)
  have:=aj6 (v:=v) (f:=f) (A:=c) (B:=b++[x]) (C:=[]) g (λ p a=>by
   rcases zar.1 a with a | a
   ·exact d p a
   simp only [zao] at a; subst a; exact apn hx) (by simp)
  simpa using this
 rcases j with rfl | ⟨x,rfl⟩
 ·rw [zaw]; exact put A' B' e h
 by_cases hx:f x=v
 ·exact put (A'++[x]) B' (λ p a=>by
   rcases zar.1 a with a | a
   ·exact e p a
   simp only [zao] at a; subst a; exact hx) h
 have:=put A' (x::B') e (λ p a=>by
  rcases zau.1 a with rfl | a
  ·exact apn hx
  exact h p a)
 simpa using this
theorem anf {P:P2->Prop} (h:T=[]\/∃x,T=[x]/\P x):T=[]\/∃x,T=[x]:=h.imp id λ ⟨x,e,_⟩=>⟨x,e⟩
theorem bex (q:l.ok) (a c:Int) {h:P2} (j:rg.head?=some h) (N:Uni (thr a c) rg):Uni (thr a c) (gj l (prs h rg)):=by
 obtain ⟨v,A,B,C,rfl,k,u,G⟩:=N
 have o:∀(v:Bool) (A B:List P2),(∀p∈A,thr a c p=v)->(∀p∈B,thr a c p=!v)->(A++B).head?=some h->Uni (thr a c) (gj l (prs h (A++B))):=λ v A B k u j=>by
  cases B with
  | nil=>
    rw [zaw] at j |-;obtain ⟨A',T,e,g,s⟩:=ad6 q a c v h A k;rw [e];have:=a03 (f:=thr a c) (v:=v) (A':=A') (T:=T) (B':=[]) (S:=[]) g (anf s) (by simp) (.inl rfl);simpa using this
  | cons b B=>
    rw [ad9,ad8];obtain ⟨A',T,F,g,s⟩:=ad6 q a c v b A k;obtain ⟨B',S,J,t,E⟩:=ad6 q a c (!v) h (b::B) u;rw [F,J];exact a03 g (anf s) t (anf E)
 cases C with
 | nil=>rw [zaw] at j |-; exact o v A B k u j
 | cons c0 C=>
   cases B with
   | nil=>
     have D:∀p∈A++(c0::C),thr a c p=v:=λ p d=>(zar.1 d).elim (k p) (G p);have:=o v (A++(c0::C)) [] D (by simp) (by simpa using j);simpa using this
   | cons b B=>
     cases A with
     | nil=>
       have:=o (!v) (b::B) (c0::C) u (by rw [Bool.not_not]; exact G) (by simpa using j);simpa using this
     | cons a0 A=>
       have R:h=a0:=by simpa using j.symm
       subst R;have I:thr a c h=v:=k h (by simp);rw [show (b::B)++(c0::C)=b::(B++c0::C) from rfl,ad9,ad8];rw [show b::(B++c0::C)=(b::B)++c0::C from rfl,ad9,ad8];obtain ⟨A',T,F,g,s⟩:=ad6 q a c v b (h::A) k;obtain ⟨B',S,J,t,E⟩:=ad6 q a c (!v) c0 (b::B) u;obtain ⟨r,Q,U,O,P⟩:=ad6 q a c v h (c0::C) G;rw [F,J,U]
       have m:∀p∈r++Q,thr a c p=v:=λ p d=>by
        rcases zar.1 d with d | d
        ·exact O p d
        rcases P with rfl | ⟨x,rfl,hx⟩
        ·cases d
        simp only [zao] at d;subst d;rcases hx with hx | hx
        ·exact hx
        rw [hx,I]
       obtain ⟨A2,i,L,K,n⟩:∃A2 i,A'++T++B'=A2++i/\(∀p∈A2,thr a c p=v)/\(∀p∈i,thr a c p=!v):=by
        rcases anf s with rfl | ⟨x,rfl⟩
        ·exact ⟨A',B',by simp,g,t⟩
        by_cases hx:thr a c x=v
        ·exact ⟨A'++[x],B',rfl,λ p d=>by
          rcases zar.1 d with d | d
          ·exact g p d
          simp only [zao] at d; subst d; exact hx,t⟩
        exact ⟨A',x::B',by simp,g,λ p d=>by
         rcases zau.1 d with rfl | d
         ·exact apn hx
         exact t p d⟩
       obtain ⟨y,w,M,H,z⟩:∃y w,i++S++(r++Q)=y++w/\(∀p∈y,thr a c p=!v)/\(∀p∈w,thr a c p=v):=by
        rcases anf E with rfl | ⟨x,rfl⟩
        ·exact ⟨i,r++Q,by simp,n,m⟩
        by_cases hx:thr a c x=v
        ·exact ⟨i,x::(r++Q),by simp,n,λ p d=>by
          rcases zau.1 d with rfl | d
          ·exact hx
          exact m p d⟩
        exact ⟨i++[x],r++Q,rfl,λ p d=>by
         rcases zar.1 d with d | d
         ·exact n p d
         simp only [zao] at d; subst d; exact apn hx,m⟩
       have:A'++T++(B'++S++(r++Q))=A2++(y++w):=by
        rw [<- M,<- zbw,<- zbw,<- zbw,<- zbw,L];simp
       rw [this];exact aj6 K H z
theorem a3e {g:P2->Bool} {l:List P2} (h:Uni f l):Uni f (l.filter g):=by
 obtain ⟨v,A,B,C,rfl,b,c,d⟩:=h;rw [zbh,zbh];exact aj6 (λ p a=>b p (List.mem_filter.1 a).1) (λ p a=>c p (List.mem_filter.1 a).1) λ p a=>d p (List.mem_filter.1 a).1
def aor (rg:List P2):Prop:=∀a c,Uni (thr a c) rg
theorem bb6 (b:l.ok) (h:aor rg):aor (af l rg):=λ a c=>by
 cases hr:rg.head? with
 | none=>
   have:rg=[]:=by cases rg with
    | nil=>rfl
    | cons=>simp at hr
   subst this;exact aj6 (v:=true) (A:=[]) (B:=[]) (C:=[]) (by simp) (by simp) (by simp)
 | some p=>
   rw [ae2 l b rg p hr];exact a3e (bex b a c hr (h a c))
theorem aaz {l:Lin} (nx:P2) (K:P2->Bool) (c:∀p q,jb l p q=true->K p≠K q) (v:Bool):∀(A:List P2),(∀p∈A,K p=v)->((gj l (prs nx A)).filter K).length<=(if v=true then A.length else 0)+(if K nx=v then 0 else 1)/\(A=[]->(gj l (prs nx A)).filter K=[])
 | [],_=>by simp [gj,prs]
 | [p],h=>by
   have a:=h p (by simp);refine ⟨?_,by simp⟩;rw [show gj l (prs nx [p])=p::up l p nx by simp [gj,prs],List.filter_cons,a]
   have hi:(up l p nx).length<=if K nx=v then 0 else 1:=by
    unfold up;split
    ·rename_i d;have:=c p nx d;rw [if_neg (λ e=>this (by rw [a,e]))];simp
    simp
   have g:=List.length_filter_le K (up l p nx);cases v with
   | true=>simp only [if_true,zai,zab]; omega
   | false=>simp only [zbf,if_false]; omega
 | p::q::r,h=>by
   have a:=h p (by simp);have f:=h q (by simp);obtain ⟨b,_⟩:=aaz nx K c v (q::r) λ x hx=>h x (by simp at hx |-; exact .inr hx);refine ⟨?_,by simp⟩
   have hi:up l p q=[]:=by
    unfold up;split
    ·rename_i d;exact absurd (a.trans f.symm) (c p q d)
    rfl
   rw [prs,show gj l ((p,q)::prs nx (q::r))=p::(up l p q++gj l (prs nx (q::r))) by simp [gj],hi,zbn,List.filter_cons,a];cases v with
   | true=>simp only [if_true,zai] at b |-; omega
   | false=>simp only [zbf,if_false] at b |-; exact b
theorem bhl (x:l.ok) (h:aor rg):(af l rg).length<=rg.length+1:=by
 have a:∀p q,jb l p q=true->u6 l p≠u6 l q:=λ p q f=>by
  unfold jb at f;unfold u6;simp only [Bool.or_eq_true,zbp,decide_eq_true_eq] at f;split
  ·rcases f with f | f
   ·rw [decide_eq_false (by omega),decide_eq_true (by omega)]; simp
   rw [decide_eq_true (by omega),decide_eq_false (by omega)]; simp
  rcases f with f | f
  ·rw [decide_eq_true (by omega),decide_eq_false (by omega)]; simp
  rw [decide_eq_false (by omega),decide_eq_true (by omega)]; simp
 have t:Uni (u6 l) rg:=by
  unfold u6;cases ha:l.above with
  | true=>
    obtain ⟨v,A,B,C,e,g,y,w⟩:=h l.axis (l.at'-1)
    have n:∀p,(if true=true then decide (sel l.axis p>=l.at') else decide (sel l.axis p<=l.at'))=!thr l.axis (l.at'-1) p:=λ p=>by
     unfold thr;rw [if_pos rfl];by_cases u:sel l.axis p>=l.at'
     ·rw [decide_eq_true u,decide_eq_false (by omega)]; rfl
     rw [decide_eq_false u,decide_eq_true (by omega)]; rfl
    exact ⟨!v,A,B,C,e,λ p m=>(n p).trans (by rw [g p m]),λ p m=>(n p).trans (by rw [y p m]),λ p m=>(n p).trans (by rw [w p m])⟩
  | false=>
    have:=h l.axis l.at';exact this
 cases hr:rg.head? with
 | none=>
   have:rg=[]:=by cases rg with
    | nil=>rfl
    | cons=>simp at hr
   subst this;simp [af,al]
 | some h0=>
   rw [ae2 l x rg h0 hr];generalize u6 l=K at a t |-;obtain ⟨v,A,B,C,rfl,d,j,r⟩:=t
   have k:∀(v:Bool) (A B:List P2),(∀p∈A,K p=v)->(∀p∈B,K p=!v)->(A++B).head?=some h0->((gj l (prs h0 (A++B))).filter K).length<=(A++B).length+1:=λ v A B d j o=>by
    cases B with
    | nil=>
      rw [zaw] at o |-;have:=(aaz h0 K a v A d).1;have hv:K h0=v:=d h0 (List.mem_of_mem_head? o);rw [if_pos hv] at this;split at this<;>omega
    | cons b B=>
      rw [ad9,ad8,zbh,zaq,zaq];cases A with
      | nil=>
        have g:h0=b:=by simpa using o.symm
        subst g;have c:=(aaz h0 K a (!v) (h0::B) j).1;rw [if_pos (j h0 (by simp))] at c;simp only [prs,gj,List.flatMap_nil,List.filter_nil,zab];have:((gj l (prs h0 (h0::B))).filter K).length<=(h0::B).length+1:=by split at c<;>omega
        simp only [gj] at this;omega
      | cons a0 A=>
        have g:h0=a0:=by simpa using o.symm
        subst g;have i:=(aaz b K a v (h0::A) d).1;have c:=(aaz h0 K a (!v) (b::B) j).1;simp only [zai] at i c |-;cases v<;>simp only [if_true,zbe,Bool.not_true,zbf,if_false] at i c<;>(split at i<;>split at c<;>omega)
   cases C with
   | nil=>rw [zaw] at hr |-; exact k v A B d j hr
   | cons c0 C=>
     cases B with
     | nil=>
       have:=k v (A++(c0::C)) [] (λ p m=>(zar.1 m).elim (d p) (r p)) (by simp) (by simpa using hr);simpa using this
     | cons b B=>
       cases A with
       | nil=>
         have:=k (!v) (b::B) (c0::C) j (by rw [Bool.not_not]; exact r) (by simpa using hr);simpa using this
       | cons a0 A=>
         have g:h0=a0:=by simpa using hr.symm
         subst g;rw [show (b::B)++(c0::C)=b::(B++c0::C) from rfl,ad9,ad8,zbh];rw [show b::(B++c0::C)=(b::B)++c0::C from rfl,ad9,ad8,zbh];have i:=(aaz b K a v (h0::A) d).1;have c:=(aaz c0 K a (!v) (b::B) j).1;have s:=(aaz h0 K a v (c0::C) r).1;rw [if_pos (d h0 (by simp))] at s;simp only [zaq,zai] at i c s |-;cases v<;>simp only [if_true,zbe,Bool.not_true,zbf,if_false] at i c s<;>(split at i<;>split at c<;>omega)
theorem aku {lo hi:P2} {rg:List P2} (h:aor rg):∀i,i<=4->aor (du lo hi rg i)/\(du lo hi rg i).length<=rg.length+i
 | 0,_=>⟨h,by simp [du]⟩
 | i+1,hi'=>by
   obtain ⟨c,d⟩:=aku (lo:=lo) (hi:=hi) h i (by omega);obtain ⟨l,b⟩:∃l,(mg lo hi)[i]?=some l:=⟨(mg lo hi)[i]'(by simp [mg]; omega),by simp [mg,show i<4 by omega]⟩
   have a:l.ok:=by
    have:=zam b;simp only [mg,zau,List.not_mem_nil,or_false] at this;rcases this with rfl | rfl | rfl | rfl
    ·exact .inl rfl
    ·exact .inl rfl
    ·exact .inr rfl
    exact .inr rfl
   have e:du lo hi rg (i+1)=af l (du lo hi rg i):=by
    unfold du;rw [zbg,b,List.foldl_append]
    rfl
   rw [e];have:=bhl a c;exact ⟨bb6 a c,by omega⟩

def afk:Mk P0 f245:={ x:=_ }
def acn:Mk P0 f228:={ x:=_ }
def pp:Mk P0 f184:={ x:=_ }
def aa8:Mk P0 f130:={ x:=_ }
def agm (x y:Int):Int:=if x<y then -1 else if y<x then 1 else 0
theorem a8k (x:Int):a8 P0 245 [int .i64 x] [] (bl false) []:=by
 refine afk.t func245 ?_;have h:(x != x)=false:=by simp
 push_cast [afk,h,zab]
theorem a9e (x y:Int):a8 P0 228 [int .i64 x,int .i64 y] [] (int .i64 (agm x y)) []:=by
 refine acn.t func228 ?_;unfold agm
 push_cast [acn,zab]
 refine a6 (a8k x) rfl trivial ?_
 push_cast
 refine a6 (a8k y) rfl trivial ?_
 push_cast
 refine b7 (λ a=>?_) (λ a=>?_)
 ·rw [if_pos (of_decide_eq_true a)]
  push_cast
 have a:=of_decide_eq_false a;rw [if_neg a]
 push_cast
 refine b7 (λ b=>?_) (λ b=>?_)
 ·rw [if_pos (of_decide_eq_true b)]
  push_cast
 rw [if_neg (of_decide_eq_false b)]
 push_cast
def aro (p q:P2):Int:=if agm p.1 q.1≠0 then agm p.1 q.1 else agm p.2 q.2
theorem bjk (p q:P2):a8 P0 184 [.own 1000000 0 0 2,.own 1000001 0 0 2] [.box [int .i64 p.1,int .i64 p.2],.box [int .i64 q.1,int .i64 q.2]] (int .i64 (aro p q)) [.box [int .i64 p.1,int .i64 p.2],.box [int .i64 q.1,int .i64 q.2]]:=by
 refine pp.t func184 ?_;simp only [pp,push_cast,↓reduceIte,reduceCtorEq,zA]
 refine b9 [(0,false),(1,false),(9,false),(10,false),(11,false)] (λ vs pos c=>∃i:Nat,i<=2/\(1<=i->agm p.1 q.1=0)/\(2<=i->agm p.2 q.2=0)/\vs=[.own 1000000 0 0 2,.own 1000001 0 0 2,.own 1000000 0 0 2,int .i64 2,int .i64 i]/\pos=[.box [int .i64 p.1,int .i64 p.2],.box [int .i64 q.1,int .i64 q.2]]/\c=[])
  (λ vs _ _=>match vs with | [_,_,_,_,.r (.v (.int _ a))]=>(2-a).toNat | _=>0) rfl ?_ ?_
 ·simp only [push_cast,↓reduceIte,reduceCtorEq,zB,zE,zA,zS,zL,zD];exact ⟨0,by omega,by omega,by omega,rfl⟩
 rintro vs pos c ⟨i,hi,g,j,rfl,rfl,rfl⟩;have d:∀k:Nat,k<2->decide (((k:Nat):Int)<2)=true/\decide (((k:Nat):Int)>=2)=false:=λ k s=>⟨decide_eq_true (by omega),decide_eq_false (by omega)⟩
 rcases (show i=0\/i=1\/i=2 by omega) with rfl | rfl | rfl
 ·have n:=(d 0 (by omega)).1;have l:=(d 0 (by omega)).2;have m:zaj ((0:Nat):Int)=0:=rfl;have o:IntKind.i64.wrap (((0:Nat):Int)+1)=((1:Nat):Int):=rfl;have b:decide ((0:Int)<2)=true:=rfl;have f:decide ((0:Int)>=2)=false:=rfl;have h:zaj (0:Int)=0:=rfl;have e:IntKind.i64.wrap ((0:Int)+1)=1:=rfl;simp only [b,f,h,push_cast,↓reduceIte,reduceCtorEq,zE,zA,zL]
  repeat refine sI ?_
  refine a6 (a9e p.1 q.1) rfl trivial ?_;simp only [push_cast,↓reduceIte];refine b7 (λ hc=>?_) (λ hc=>?_)
  ·have hc:agm p.1 q.1≠0:=by simpa using hc
   simp only [push_cast,↓reduceIte,zB,zE,zA,zS,zL,zD];unfold aro;rw [if_pos hc]
  have hc:agm p.1 q.1=0:=by simpa using hc
  simp only [e,push_cast,↓reduceIte,reduceCtorEq,zB,zE,zA,zS,zL,zD];exact ⟨⟨1,by omega,λ _=>hc,by omega,rfl⟩,by omega⟩
 ·have b:decide ((1:Int)<2)=true:=rfl;have f:decide ((1:Int)>=2)=false:=rfl;have h:zaj (1:Int)=1:=rfl;have e:IntKind.i64.wrap ((1:Int)+1)=2:=rfl;simp only [b,f,h,push_cast,↓reduceIte,reduceCtorEq,zE,zA,zL]
  repeat refine sI ?_
  refine a6 (a9e p.2 q.2) rfl trivial ?_;simp only [push_cast,↓reduceIte];refine b7 (λ hc=>?_) (λ hc=>?_)
  ·have hc:agm p.2 q.2≠0:=by simpa using hc
   simp only [push_cast,↓reduceIte,zB,zE,zA,zS,zL,zD];unfold aro;rw [if_neg (by rw [g (by omega)]; simp)]
  have hc:agm p.2 q.2=0:=by simpa using hc
  simp only [e,push_cast,↓reduceIte,reduceCtorEq,zB,zE,zA,zS,zL,zD];exact ⟨⟨2,by omega,λ _=>g (by omega),λ _=>hc,rfl⟩,by omega⟩
 have b:decide ((2:Int)<2)=false:=rfl;simp only [b,push_cast,↓reduceIte,reduceCtorEq,zB,zE,zA,zS,zL,zD];unfold aro;rw [if_neg (by rw [g (by omega)]; simp),j (by omega)]
theorem a9x (p q:P2):a8 P0 130 [pv2 p,pv2 q] [] (int .i64 (aro p q)) []:=by
 have a:=g7;refine aa8.t func130 ?_
 push_cast [aa8,pv2,pnt,zab]
 refine ⟨by omega,by omega,?_⟩;refine d5 (bjk p q) rfl ⟨rfl,rfl,trivial⟩ ?_
 push_cast
 kernel_rfl

def mu:Mk P0 f220:={ x:=_ }
def ltP (p q:P2):Bool:=decide (aro p q<0)
def qm (x:P2):List P2->List P2
 | []=>[x]
 | e::r=>if ltP x e=true then e::qm x r else x::e::r
def aga (l:List P2):List P2:=l.foldl (λ s x=>qm x s) []
def ah (l:List P2):List P2:=(aga l).reverse
theorem ay9 (x:P2):∀s,(qm x s).length=s.length+1
 | []=>rfl
 | e::r=>by
   rw [qm];split
   ·simp [ay9 x r]
   simp
theorem afa (l:List P2) (p:P2):aga (l++[p])=qm p (aga l):=by simp [aga]
theorem axw (l:List P2):(aga l).length=l.length:=by
 refine ke (P:=λ l=>(aga l).length=l.length) rfl (λ l p a=>?_) l;rw [afa,ay9,a,zaq]
 rfl
theorem aax (l:List P2):(ah l).length=l.length:=by rw [ah,List.length_reverse,axw]
def agF:AV:=.fn (.func 130) [] 0
def t9 (l:List P2):Ob:=.row 2 (pnt 0 0) false true (l.map ptR)
theorem bfi (A T:List P2) (e x:P2):(((A++e::x::T).map ptR).set (A.length+1) (ptR e)).set A.length (ptR x)=(A++x::e::T).map ptR:=by
 have b:(A++e::x::T).set (A.length+1) e=A++e::e::T:=by simp
 have a:(A++e::e::T).set A.length x=A++x::e::T:=by simp
 rw [<- List.map_set,b,<- List.map_set,a]
theorem acb (A T:List P2) (e:P2) (z:RV):((A++e::T).map ptR).getD A.length z=ptR e:=by
 rw [zak]; simp
theorem aw4 (A T:List P2) (e x:P2) (z:RV):((A++e::x::T).map ptR).getD (A.length+1) z=ptR x:=by
 rw [zak]; simp
theorem bkr (l:List P2) (O:1<=l.length/\l.length<=1000):a8 P0 220 [.own 1000000 0 0 l.length,int .i64 0,int .i64 l.length,agF] [t9 l] (.tup []) [t9 (ah l)]:=by
 refine mu.t func220 ?_;have q:ab9 P0 130=true:=rfl;have S:IntKind.i64.wrap ((0:Int)+1)=1:=rfl
 push_cast [mu,agF,t9,S,zab,zai]
 refine b9 [(0,false),(1,false),(2,false),(3,false),(8,false)] (λ vs pos c=>∃i:Nat,1<=i/\i<=l.length/\vs=[.own 1000000 0 0 l.length,int .i64 0,int .i64 l.length,agF,int .i64 i]/\pos=[t9 (ah (l.take i)++l.drop i)]/\c=[])
  (λ vs _ _=>match vs with | [_,_,_,_,.r (.v (.int _ a))]=>(l.length-a).toNat | _=>0) rfl ?_ ?_
 ·push_cast
  obtain ⟨p,r,rfl⟩:∃p r,l=p::r:=by
   cases l with
   | nil=>simp at O
   | cons p r=>exact ⟨p,r,rfl⟩
  exact ⟨1,by omega,by omega,rfl,rfl⟩
 rintro vs pos c ⟨i,V,W,rfl,rfl,rfl⟩
 push_cast [agF,t9]
 refine b7 (λ hi=>?_) (λ hi=>?_)
 ·have hi:i<l.length:=by have:=of_decide_eq_true hi; omega
  have N:IntKind.i64.wrap ((i:Int)+1)=(i:Int)+1:=a5 (by omega);obtain ⟨x,hx⟩:∃x,l[i]=x:=⟨_,rfl⟩
  have I:l.take (i+1)=l.take i++[x]:=by rw [List.take_succ_eq_append_getElem hi,hx]
  have F:l.drop i=x::l.drop (i+1):=by rw [List.drop_eq_getElem_cons hi,hx]
  obtain ⟨s,J⟩:∃s,aga (l.take i)=s:=⟨_,rfl⟩
  have w:s.length=i:=by rw [<- J,axw,List.length_take]; omega
  have n:ah (l.take i)=s.reverse:=by rw [ah,J]
  have f:ah (l.take (i+1))=(qm x s).reverse:=by rw [ah,I,afa,J]
  obtain ⟨D,K⟩:∃D,l.drop (i+1)=D:=⟨_,rfl⟩
  rw [n,F,K]
  push_cast
  refine b9 [(0,false),(1,false),(2,false),(3,false),(8,false),(9,false)] (λ vs pos c=>∃(m r:List P2),s=m++r/\qm x s=m++qm x r/\vs=[.own 1000000 0 0 l.length,int .i64 0,int .i64 l.length,agF,int .i64 i,int .i64 r.length]/\pos=[t9 (r.reverse++x::(m.reverse++D))]/\c=[])
   (λ vs _ _=>match vs with | [_,_,_,_,_,.r (.v (.int _ a))]=>a.toNat | _=>0) rfl ?_ ?_
  ·push_cast [agF,t9]
   exact ⟨[],s,rfl,rfl,by rw [w],rfl⟩
  rintro vs pos c ⟨m,r,L,j,rfl,rfl,rfl⟩
  have h:∀T,T=r.reverse++x::(m.reverse++D)->qm x r=x::r->T=ah (l.take (i+1))++D:=λ T o U=>by
   rw [o,f,j,U];simp
  cases r with
  | nil=>
    have R:decide ((0:Int)>0)=false:=rfl
    push_cast [agF,t9,R,N,zab]
    refine And.intro (by kernel_rfl) ⟨⟨i+1,by omega,by omega,by simp,?_⟩,by omega⟩;rw [h _ rfl rfl,K]
  | cons e r=>
    have Q:r.length<i:=by rw [<- w,L]; simp; omega
    have M:decide (((r.length:Nat):Int)+1>0)=true:=decide_eq_true (by omega);have E:IntKind.i64.wrap (((r.length:Nat):Int)+1-1)=(r.length:Int):=by rw [a5 (by omega)]; omega
    have G:=a9x x e;have P:(e::r).reverse++x::(m.reverse++D)=r.reverse++e::x::(m.reverse++D):=by simp
    obtain ⟨T,o⟩:∃T,m.reverse++D=T:=⟨_,rfl⟩
    obtain ⟨A,B⟩:∃A,r.reverse=A:=⟨_,rfl⟩
    have u:A.length=r.length:=by rw [<- B]; simp
    rw [P,o,B];have y:=acb A (x::T) e;have C:=aw4 A T e x;rw [u] at y C;have b:ptR e=.agg [.v (.int .i64 e.1),.v (.int .i64 e.2)]:=rfl;have d:ptR x=.agg [.v (.int .i64 x.1),.v (.int .i64 x.2)]:=rfl
    push_cast [agF,t9,M,E,y,C,b,d,q,zai,zah,zbx,zad]
    refine ⟨⟨by omega,by omega⟩,⟨by omega,by omega⟩,?_⟩;refine i5 (as':=[pv2 x,pv2 e]) rfl ?_;refine d5 G rfl trivial ?_
    push_cast [agF,t9,M,E,y,C,b,d,q,zai,zah,zbx,zad]
    refine And.intro (by kernel_rfl) ?_;refine b7 (λ hc=>?_) (λ hc=>?_)
    ·have k:ltP x e=true:=hc;have g:=bfi A T e x;rw [u,b,d] at g
     have H:∀z,(((A++e::x::T).map ptR).set (r.length+1) (.agg [.v (.int .i64 e.1),.v (.int .i64 e.2)])).getD r.length z=.agg [.v (.int .i64 e.1),.v (.int .i64 e.2)]:=λ z=>by
      rw [zak,List.getElem?_set_ne (by omega),<- zak,y];exact b
     push_cast [agF,t9,E,y,C,H,b,d,g,d9,zai,zah,zbx,zad]
     repeat refine And.intro (by first | exact ⟨by omega,by omega⟩ | kernel_rfl) ?_
     refine ⟨⟨m++[e],r,by rw [L]; simp,by rw [j,qm,if_pos k]; simp,by simp,?_⟩,by omega⟩;rw [<- B,<- o];simp
    have k:ltP x e=false:=hc
    push_cast [N]
    refine ⟨⟨i+1,by omega,by omega,by simp,?_⟩,by omega⟩;have:=h (A++e::x::T) (by rw [<- B,<- o]; simp) (by rw [qm,k]; rfl);rw [this,K]
 have hi:i=l.length:=by have:=of_decide_eq_false hi; omega
 subst hi
 push_cast
 rw [List.take_length,List.drop_length,zaw]

def od:Mk P0 f183:={ x:=_ }
def nl:Mk P0 f129:={ x:=_ }
def agr:Mk P0 f133:={ x:=_ }
def a47 (n:Nat):Nat:=if n=0 then 0 else Nat.log2 n+1
theorem bb8 (n:Nat) (d:n<16):a8 P0 214 [int .u64 n] [] (int .i64 (a47 n)) []:=by
 refine agu rfl (by decide) ?_;have b:decide ((n:Int)>=4294967296)=false:=by simp; omega
 have c:decide ((n:Int)>=65536)=false:=by simp; omega
 have a:decide ((n:Int)>=256)=false:=by simp; omega
 have w:IntKind.u8.wrap (n:Int)=n:=by simp [IntKind.wrap,IntKind.bits,IntKind.signed]; omega
 push_cast [agn,b,c,a,w,zah,zab]
 refine ⟨⟨by omega,(show (n:Int)<((256:Nat):Int) by omega)⟩,?_⟩;refine congrArg (λ z=>AV.r (.v (.int .i64 z))) ?_;clear b c a w
 revert n
 decide +kernel
theorem a8l (n:Nat) (a:n<16):a8 P0 169 [int .u64 n] [] (int .i64 (a47 n)) []:=by
 refine ae4.t func169 ?_;have w:IntKind.u64.wrap (n:Int)=n:=by rw [IntKind.wrap_u64]; omega
 push_cast [ae4,w,zab]
 refine a6 (bb8 n a) rfl trivial ?_
 push_cast
theorem bj2 (l:List P2) (e:1<=l.length/\l.length<=12) (a:Int):a8 P0 183 [.own 1000000 0 0 l.length,int .i64 0,int .i64 l.length,int .i64 a,agF] [t9 l] (.tup []) [t9 (ah l)]:=by
 refine od.t func183 ?_
 push_cast [od,agF,t9,zab,zai]
 refine b9 [(0,false),(1,false),(2,false),(3,false),(4,false),(10,false),(11,false)] (λ vs pos b=>vs=[.own 1000000 0 0 l.length,int .i64 0,int .i64 l.length,int .i64 a,agF,bl true,bl true]/\pos=[t9 l]/\b=[])
  (λ _ _ _=>0) rfl ?_ ?_
 ·push_cast [agF,t9]
 rintro vs pos b ⟨rfl,rfl,rfl⟩;have d:IntKind.i64.wrap ((l.length:Int)-0)=(l.length:Int):=by rw [a5 (by omega)]; omega
 have c:decide ((l.length:Int)<=12)=true:=decide_eq_true (by omega)
 push_cast [agF,t9,d,c]
 refine ajh ?_
 push_cast
 refine b5 (as':=[.own 1000000 0 0 l.length,int .i64 0,int .i64 l.length,agF]) rfl ?_;refine a6 (po:=[t9 l]) (bkr l (by omega)) rfl ⟨⟨rfl,by simp [aax]⟩,trivial⟩ ?_
 push_cast [t9,zai,zab]
theorem bi6 (l:List P2) (a:1<=l.length/\l.length<=12):a8 P0 129 [.own 1000000 0 0 l.length,agF] [t9 l] (.tup []) [t9 (ah l)]:=by
 refine nl.t func129 ?_;have w:IntKind.u64.wrap ((l.length:Nat):Int)=(l.length:Int):=by rw [IntKind.wrap_u64]; omega
 push_cast [nl,agF,t9,w,zab,zai]
 refine a6 (a8l l.length (by omega)) rfl trivial ?_
 push_cast
 refine ajh ?_
 push_cast
 refine b5 (as':=[.own 1000000 0 0 l.length,int .i64 0,int .i64 l.length,int .i64 (a47 l.length),agF]) rfl ?_;refine a6 (po:=[t9 l]) (bj2 l a _) rfl ⟨⟨rfl,by simp [aax]⟩,trivial⟩ ?_
 push_cast [t9,zai,zab]
theorem bkx (l G:List P2) (D:l.length<=1000):a8 P0 133 [.own 1000000 0 0 l.length] [t9 (l++G)] (.tup []) [t9 (l.reverse++G)]:=by
 refine agr.t func133 ?_;have y:IntKind.i64.wrap ((l.length:Int)-1)=(l.length:Int)-1:=a5 (by omega)
 push_cast [agr,t9,y,zab,zai]
 refine b9 [(0,false),(2,false),(3,false)] (λ vs pos e=>∃(A M B:List P2),A.length=B.length/\l.reverse=A++(M.reverse++B)/\vs=[.own 1000000 0 0 l.length,int .i64 A.length,int .i64 ((l.length:Int)-1-A.length)]/\pos=[t9 (A++(M++(B++G)))]/\e=[])
  (λ vs _ _=>match vs with | [_,_,.r (.v (.int _ a))]=>a.toNat | _=>0) rfl ?_ ?_
 ·push_cast [t9]
  refine ⟨[],l,[],rfl,by simp,?_,?_⟩
  ·simp
  simp
 rintro vs pos e ⟨A,M,B,s,d,rfl,rfl,rfl⟩
 have c:l.length=A.length+(M.length+B.length):=by
  have:=congrArg List.length d;simpa using this
 push_cast [t9]
 refine b7 (λ hc=>?_) (λ hc=>?_)
 ·have hc:=of_decide_eq_true hc
  obtain ⟨p,b,q,rfl⟩:∃p b q,M=p::(b++[q]):=by
   cases M with
   | nil=>simp at c; omega
   | cons p M=>
     rcases List.eq_nil_or_concat M with rfl | ⟨b,q,rfl⟩
     ·simp at c; omega
     exact ⟨p,b,q,by simp⟩
  obtain ⟨J,i⟩:∃J:Nat,J=A.length+b.length+1:=⟨_,rfl⟩
  simp only [zai,zaq,zab] at c;have n:((l.length:Nat):Int)-1-(A.length:Int)=(J:Int):=by omega
  obtain ⟨T,h⟩:∃T,B++G=T:=⟨_,rfl⟩
  have f:A++(p::(b++[q])++(B++G))=A++p::(b++q::T):=by rw [h]; simp
  have o:∀z,((A++p::(b++q::T)).map ptR).getD A.length z=.agg [.v (.int .i64 p.1),.v (.int .i64 p.2)]:=λ z=>acb A _ p z
  have u:∀z,((A++p::(b++q::T)).map ptR).getD J z=.agg [.v (.int .i64 q.1),.v (.int .i64 q.2)]:=λ z=>by
   have:=acb (A++p::b) T q z;rw [show A++p::(b++q::T)=(A++p::b)++q::T by simp,i];simp only [zaq,zai] at this;rw [show A.length+b.length+1=A.length+(b.length+1) by omega];exact this
  have x:((A++p::(b++q::T)).map ptR).set A.length (.agg [.v (.int .i64 q.1),.v (.int .i64 q.2)])=(A++q::(b++q::T)).map ptR:=by
   rw [show (RV.agg [.v (.int .i64 q.1),.v (.int .i64 q.2)])=ptR q from rfl,<- List.map_set];congr 1;simp
  have g:∀z,((A++q::(b++q::T)).map ptR).getD J z=.agg [.v (.int .i64 q.1),.v (.int .i64 q.2)]:=λ z=>by
   have:=acb (A++q::b) T q z;rw [show A++q::(b++q::T)=(A++q::b)++q::T by simp,i];simp only [zaq,zai] at this;rw [show A.length+b.length+1=A.length+(b.length+1) by omega];exact this
  have j:((A++q::(b++q::T)).map ptR).set J (.agg [.v (.int .i64 p.1),.v (.int .i64 p.2)])=(A++q::(b++p::T)).map ptR:=by
   rw [show (RV.agg [.v (.int .i64 p.1),.v (.int .i64 p.2)])=ptR p from rfl,<- List.map_set];congr 1
   have k:((A++q::b)++q::T).set J p=(A++q::b)++p::T:=by
    rw [show J=(A++q::b).length by simp; omega];simp
   rw [show A++q::(b++q::T)=(A++q::b)++q::T by simp,k];simp
  have w:IntKind.i64.wrap ((A.length:Int)+1)=(A.length:Int)+1:=a5 (by omega);have m:IntKind.i64.wrap ((J:Int)-1)=(J:Int)-1:=a5 (by omega);rw [n,f]
  push_cast [t9,o,u,g,x,j,w,m,d9,zah,zbx,zad]
  repeat refine And.intro (by first | exact ⟨by omega,by omega⟩ | kernel_rfl) ?_
  refine ⟨⟨A++[q],b,p::B,by simp; omega,by rw [d]; simp,?_,?_⟩,by omega⟩
  ·simp;omega
  rw [<- h]; simp
 have hc:=of_decide_eq_false hc
 push_cast
 rw [d]
 have C:M.reverse=M:=by
  rcases M with _ | ⟨p,_ | ⟨q,M⟩⟩
  ·rfl
  ·rfl
  simp at c; omega
 rw [C];simp

end
end Go.Ev

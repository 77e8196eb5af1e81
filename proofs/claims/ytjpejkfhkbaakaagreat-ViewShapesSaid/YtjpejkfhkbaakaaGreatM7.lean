import Derived.Test.YtjpejkfhkbaakaaGreatM6
open Nat renaming reduceBEq → zB, reduceEqDiff → zE, reduceAdd → zA, reduceSub → zS, reduceLT → zL, reduceLeDiff → zD, reduceMul → zM
open Go.Proofs.Tryz renaming prog → P0
open Go.Proofs.Tryz
open List renaming length_map → zaa, length_nil → zab, length_cons → zaf, mem_cons → zah, getD_eq_getElem?_getD → zaj, mem_of_getElem? → zak, length_append → zal, mem_singleton → zam, mem_append → zao, take_add_one → zat, mem_cons_of_mem → zau, filter_append → zaz, map_append → zbb, append_assoc → zbc, append_nil → zbf, pairwise_cons → zbg, nil_append → zbj, mem_range → zbn, getElem?_eq_getElem → zbp, map_set → zbq, mem_filter → zbt, flatMap_cons → zbu, filter_cons → zbv, length_take → zca, take_of_length_le → zcb, take_length → zcc, cons_append → zcd, replicate → zce, filter_eq_nil_iff → zcf
open Nat renaming zero_add → zac, le_refl → zav, pow_le_pow_right → zbl, min_eq_left → zbr
open Int renaming reduceToNat → zad, toNat_zero → zae, toNat_natCast → zag, toNat_natCast_add_one → zai, toNat → zan, add_mul → zaq, neg_mul → zar, mul_le_mul_of_nonneg_left → zas, le_of_lt → zaw, mul_comm → zax, le_total → zay, mul_le_mul_of_nonneg_right → zba, mul_add → zbe, mul_le_mul_of_nonpos_left → zbh, mul_nonneg → zbi, mul_assoc → zbk, tmod_eq_emod_of_nonneg → zbm, lt_or_le → zbo, mul_left_comm → zbw, mul_lt_mul_of_pos_right → zby, natAbs_ediv_le_natAbs → zbz
open BitVec renaming ofInt → zap
open Bool renaming false_eq_true → zbd, not_eq_true' → zbs, not_false → zbx
namespace Go.Ev
set_option maxHeartbeats 8000000
set_option maxRecDepth 100000
noncomputable section
open Go
set_option linter.unusedSectionVars false
set_option linter.unnecessarySimpa false
set_option linter.unusedSimpArgs false
set_option linter.unusedVariables false
theorem atg (t:Til):a9 P0 42 [t.v] [] (bl (tis t)) []:=by
 refine r4.t func42 ?_;by_cases h:0<=t.z/\t.z<=18
 ·have b:decide (t.z>=0)=true:=by simp [h.1]
  have c:decide (t.z<=18)=true:=by simp [h.2]
  have g:=ajc t.z h.1 (by omega);by_cases i:0<=t.x
  ·have d:decide (t.x>=0)=true:=by simp [i]
   by_cases k:t.x<2^t.z.toNat
   ·have e:decide (t.x<2^t.z.toNat)=true:=by simp [k]
    by_cases j:0<=t.y
    ·have f:decide (t.y>=0)=true:=by simp [j]
     push_cast [r4,Til.v,zab,b,c,d]
     refine c8 g rfl trivial ?_
     push_cast [e,f]
     refine c8 g rfl trivial ?_
     push_cast [e,f]
     refine ⟨by kernel_rfl,?_⟩;refine dv ?_;simp [tis];omega
    have f:decide (t.y>=0)=false:=by simp; omega
    have a:tis t=false:=by simp [tis]; omega
    push_cast [r4,Til.v,zab,b,c,d]
    refine c8 g rfl trivial ?_
    push_cast [e,f,a]
    (show _=true); kernel_rfl
   have e:decide (t.x<2^t.z.toNat)=false:=by simp; omega
   have a:tis t=false:=by simp [tis]; omega
   push_cast [r4,Til.v,zab,b,c,d]
   refine c8 g rfl trivial ?_
   push_cast [e,a]
   (show _=true); kernel_rfl
  have d:decide (t.x>=0)=false:=by simp; omega
  have a:tis t=false:=by simp [tis]; omega
  push_cast [r4,Til.v,zab,b,c,d,a]
  (show _=true); kernel_rfl
 have a:tis t=false:=by simp [tis]; omega
 by_cases l:0<=t.z
 ·have b:decide (t.z>=0)=true:=by simp [l]
  have c:decide (t.z<=18)=false:=by simp; omega
  push_cast [r4,Til.v,zab,b,c,a]
  (show _=true); kernel_rfl
 have b:decide (t.z>=0)=false:=by simp; omega
 push_cast [r4,Til.v,zab,b,a]
 (show _=true); kernel_rfl

theorem atl (t:Til) (g:t.ok):a9 P0 20 [t.v] [] (bl (ah t)) []:=by
 refine rr.t func20 ?_
 push_cast [rr,Til.v,zab]
 refine j8 (as':=[t.v]) rfl ?_;refine c8 (atg t) rfl trivial ?_;cases hti:tis t with
 | false=>
   push_cast
   exact ⟨by kernel_rfl,by simp [ah,hti]⟩
 | true=>
   have f:0<=t.z/\t.z<=18/\0<=t.r/\t.r<=12:=by simp [tis] at hti; omega
   have a:IntKind.i64.wrap (12-t.r)=12-t.r:=a5 (by omega);have b:IntKind.i64.wrap (18-t.z)=18-t.z:=a5 (by omega);have c:IntKind.i64.wrap (2*(18-t.z))=2*(18-t.z):=a5 (by omega);have e:=p7 (12-t.r).toNat (by omega);have h:=p2 (2*(18-t.z)).toNat (by omega)
   have d:(2:Int)^(2*(18-t.z)).toNat=2^(18-t.z).toNat*2^(18-t.z).toNat:=by
    rw [<- Int.pow_add]; congr 1; omega
   push_cast [a,b,c]
   refine c8 (ajd (12-t.r) (by omega) (by omega)) rfl trivial ?_
   push_cast [a,b,c]
   refine c8 (ajc (2*(18-t.z)) (by omega) (by omega)) rfl trivial ?_
   push_cast [a,b,c]
   refine ⟨by kernel_rfl,?_⟩;rw [a5 (by omega),a5 (by omega)];refine dv ?_;rw [d,<- zbk];simp [ah,hti]
theorem aa4 (a n:Int) (b:0<n):-n<a.tmod n/\a.tmod n<n/\(a.tmod n+n)%n=a%n:=by
 have e:=Int.emod_nonneg a (show n≠0 by omega);have f:=Int.emod_lt_of_pos a b;rw [Int.tmod_eq_emod];split
 ·refine ⟨by omega,by omega,?_⟩;rw [show a%n-((0:Nat):Int)+n=a%n+n by omega,Int.add_emod_right,Int.emod_emod]
 rename_i h;have d:a%n≠0:=fun c=>h (.inr (Int.dvd_of_emod_eq_zero c));refine ⟨by omega,by omega,?_⟩;rw [show a%n-(n.natAbs:Int)+n=a%n by omega,Int.emod_emod]
def aj (z:Int):Nat->Nat
 | 0=>0
 | n+1=>if ah ⟨z,0,0,(n+1:Nat)⟩ then aj z n else n+1
def ag (x y z r:Int):Til:=⟨z%19,(x%1073741824)/2^(30-z%19).toNat,(y%1073741824)/2^(30-z%19).toNat,aj (z%19) (r%13).toNat⟩
theorem aaw (z:Int):∀n,aj z n<=n
 | 0=>zav _
 | n+1=>by
   have:=aaw z n;unfold aj;split<;>omega
theorem agr (x y z r:Int):tis (ag x y z r)=true:=by
 have g:=aaw (z%19) (r%13).toNat;have d:0<=z%19/\z%19<=18:=by omega
 have e:=p2 (30-z%19).toNat (by omega);have f:=p2 (z%19).toNat (by omega)
 have c:(2:Int)^(30-z%19).toNat*2^(z%19).toNat=1073741824:=by
  rw [<- Int.pow_add,show (30-z%19).toNat+(z%19).toNat=30 by omega]; rfl
 have b:∀a:Int,0<=(a%1073741824)/2^(30-z%19).toNat/\(a%1073741824)/2^(30-z%19).toNat<2^(z%19).toNat:=fun a=>by
  refine ⟨Int.ediv_nonneg (by omega) (by omega),?_⟩;rw [Int.ediv_lt_iff_lt_mul (by omega),zax,c];omega
 have kx:=b x;have ky:=b y;have hc:(0:Int)<=(aj (z%19) (r%13).toNat:Nat)/\((aj (z%19) (r%13).toNat:Nat):Int)<=12:=by omega
 exact decide_eq_true ⟨d.1,d.2,hc.1,hc.2,kx.1,kx.2,ky.1,ky.2⟩
theorem ad5 (z:Int):∀n,(aj z n=0)\/ah ⟨z,0,0,(aj z n:Nat)⟩=false
 | 0=>.inl rfl
 | n+1=>by
   unfold aj;split
   ·exact ad5 z n
   rename_i h;right;simpa using h
theorem at4 {a b:Til} (f:a.z=b.z) (e:a.r=b.r) (d:tis a=true) (c:tis b=true):ah a=ah b:=by
 simp only [ah,d,c,f,e]
variable {t:Til}
theorem afs (h:t.r=0):ah t=false:=by
 cases hti:tis t with
 | false=>simp [ah,hti]
 | true=>
   have b:0<=t.z/\t.z<=18:=by simp [tis] at hti; omega
   have a:(2:Int)^(18-t.z).toNat<=262144:=by
    have f:2^(18-t.z).toNat<=2^18:=zbl (by decide) (by omega);have e:((2^(18-t.z).toNat:Nat):Int)=(2:Int)^(18-t.z).toNat:=by simp
    omega
   have c:=p2 (18-t.z).toNat (by omega);have d:16*(2:Int)^(18-t.z).toNat*2^(18-t.z).toNat<=4194304*262144:=Int.mul_le_mul (by omega) a (by omega) (by omega);simp only [ah,hti,h,Bool.true_and,decide_eq_false_iff_not];have:(7:Int)^(12-(0:Int)).toNat=13841287201:=by decide
   omega
theorem at5 (x y z r:Int):ah (ag x y z r)=false:=by
 rcases ad5 (z%19) (r%13).toNat with h | h
 ·exact afs (by simp [ag,h])
 by_cases a:aj (z%19) (r%13).toNat=0
 ·exact afs (by simp [ag,a])
 rw [<- h];have c:=aaw (z%19) (r%13).toNat;have b:=p2 (z%19).toNat (by omega);refine at4 rfl rfl (agr x y z r) ?_;simp only [tis,decide_eq_true_eq];omega
theorem abl (x:Int) (hx:b7 x):IntKind.i64.wrap ((zap IntKind.i64.bits x &&& zap IntKind.i64.bits 1073741823).toNat)=x%1073741824:=by
 have e:(zap 64 1073741823).toNat=2^30-1:=by decide
 rw [show IntKind.i64.bits=64 from rfl,BitVec.toNat_and,e,Nat.and_two_pow_sub_one_eq_mod,BitVec.toNat_ofInt];rw [a5 (by unfold b7 at hx; omega)];omega
theorem au2 (x y z r:Int) (hx:b7 x) (hy:b7 y) (A:b7 z) (w:b7 r):a9 P0 6 [int .i64 x,int .i64 y,int .i64 z,int .i64 r] [] (ag x y z r).v []:=by
 refine pf.t func6 ?_;have u:IntKind.i64.wrap (z.tmod 19+19)=z.tmod 19+19:=a5 (by have:=aa4 z 19 (by decide); omega)
 have o:(z.tmod 19+19).tmod 19=z%19:=by
  have:=aa4 z 19 (by decide);rw [zbm (by omega),this.2.2]
 have s:IntKind.i64.wrap (r.tmod 13+13)=r.tmod 13+13:=a5 (by have:=aa4 r 13 (by decide); omega)
 have q:(r.tmod 13+13).tmod 13=r%13:=by
  have:=aa4 r 13 (by decide);rw [zbm (by omega),this.2.2]
 simp only [pf,u,o,s,q,push_cast,↓reduceIte,reduceCtorEq,zB,zE,zA,zS,zL,zD,zM];refine ⟨by decide,by decide,by decide,by decide,?_⟩;generalize f:z%19=b;have l:0<=b/\b<=18:=by omega
 have B:=p2 b.toNat (by omega)
 refine c9 [(0,false),(1,false),(2,false),(3,false),(8,false)] (fun vs pos d=>∃n:Nat,n<=12/\aj b n=aj b (r%13).toNat /\
  vs=[int .i64 x,int .i64 y,int .i64 b,int .i64 n,.ptr 2000000 0 0]/\pos=[]/\d=[.box [int .i64 0,int .i64 0,int .i64 0,int .i64 0]])
  (fun vs _ _=>match vs with | _::_::_ :: .r (.v (.int _ j))::_=>j.toNat | _=>0) rfl ?_ ?_
 ·simp only [push_cast,↓reduceIte,reduceCtorEq,zB,zE,zA,zS,zL,zD,zM];exact ⟨(r%13).toNat,by omega,rfl,by rw [Int.toNat_of_nonneg (by omega)]⟩
 rintro vs pos d ⟨n,C,hc,rfl,rfl,rfl⟩
 have c:ag x y z r=⟨b,(x%1073741824)/2^(30-b).toNat,(y%1073741824)/2^(30-b).toNat,(aj b n:Nat)⟩:=by
  simp only [ag,f,hc]
 have g:IntKind.i64.wrap (30-b)=30-b:=a5 (by omega)
 have h:∀a:Int,a.fdiv (2^min (30-b).toNat IntKind.i64.bits)=a/2^(30-b).toNat:=fun a=>by
  rw [show min (30-b).toNat IntKind.i64.bits=(30-b).toNat from zbr (by simp [IntKind.bits]; omega)];exact Int.fdiv_eq_ediv_of_nonneg _ (zaw (Int.pow_pos (by decide)))
 cases n with
 | zero=>
   simp only [Int.reduceLT,gt_iff_lt,Int.lt_irrefl,abl x hx,abl y hy,g,h,c,Til.v,aj,push_cast,↓reduceIte,reduceCtorEq,zB,zE,zA,zS,zL,zD,zM];refine ⟨by omega,by omega,?_⟩
   (show _=true); kernel_rfl
 | succ n=>
   have k:decide (((n+1:Nat):Int)>0)=true:=by simp
   have i:IntKind.i64.wrap (((n+1:Nat):Int)-1)=n:=by rw [a5 (by omega)]; omega
   generalize e:((n+1:Nat):Int)=m;rw [e] at k i;simp only [k,push_cast,↓reduceIte,reduceCtorEq,zB,zE,zA,zS,zL,zD,zM];refine b5 (as':=[Til.v ⟨b,0,0,m⟩]) rfl ?_;refine a7 (atl ⟨b,0,0,m⟩ ⟨by unfold b7; dsimp; omega,by show b7 0; decide,by show b7 0; decide,by unfold b7; dsimp; omega⟩) rfl trivial ?_;cases hf:ah ⟨b,0,0,m⟩ with
   | true=>
     simp only [i,push_cast,↓reduceIte,reduceCtorEq,zB,zE,zA,zS,zL,zD,zM];refine ⟨⟨n,by omega,?_,rfl⟩,by omega⟩;rw [<- hc];simp only [aj,e,hf,if_true]
   | false=>
     have p:aj b (n+1)=n+1:=by simp [aj,e,hf]
     rw [p,e] at c;simp only [abl x hx,abl y hy,g,h,c,Til.v,push_cast,↓reduceIte,reduceCtorEq,zB,zE,zA,zS,zL,zD,zM];refine ⟨by omega,by omega,?_⟩
     (show _=true); kernel_rfl


def mnN (f:Nat->Int):Nat->Int
 | 0=>f 0
 | k+1=>min (mnN f k) (f k)
def mxN (f:Nat->Int):Nat->Int
 | 0=>f 0
 | k+1=>max (mxN f k) (f k)
theorem adp (f:Nat->Int) (k i:Nat) (h:i<k):mnN f k<=f i:=by
 induction k with
 | zero=>omega
 | succ k ih=>
   rw [mnN];by_cases hi:i=k
   ·subst hi; omega
   have:=ih (by omega); omega
theorem adn (f:Nat->Int) (k i:Nat) (h:i<k):f i<=mxN f k:=by
 induction k with
 | zero=>omega
 | succ k ih=>
   rw [mxN];by_cases hi:i=k
   ·subst hi; omega
   have:=ih (by omega); omega
def gh (z:Ei) (r:Nat) (lx ly ux uy:Int):Prop:=(mxN (hx z r) 6<lx\/ux<mnN (hx z r) 6)\/(mxN (hy z r) 6<ly\/uy<mnN (hy z r) 6)
instance (z:Ei) (r:Nat) (lx ly ux uy:Int):Decidable (gh z r lx ly ux uy):=inferInstanceAs (Decidable (_\/_))
def ye (z:Ei) (r:Nat) (lx ly ux uy:Int) (i:Nat):Prop:=crs z r i ((i+1)%6) lx ly<0/\crs z r i ((i+1)%6) ux ly<0/\crs z r i ((i+1)%6) ux uy<0/\crs z r i ((i+1)%6) lx uy<0
instance (z:Ei) (r:Nat) (lx ly ux uy:Int) (i:Nat):Decidable (ye z r lx ly ux uy i):=inferInstanceAs (Decidable (_/\_))
def s9 (z:Ei) (r:Nat) (lx ly ux uy:Int):Bool:=!decide (gh z r lx ly ux uy)&&(List.range 6).all fun i=>!decide (ye z r lx ly ux uy i)
variable {z:Ei} {r:Nat} {lx ly ux uy:Int}
theorem vu (h:gh z r lx ly ux uy):s9 z r lx ly ux uy=false:=by simp [s9,h]
theorem aou (A B x y lx ly ux uy:Int) (b:lx<=x/\x<=ux) (a:ly<=y/\y<=uy) :
 A*y-B*x<=A*ly-B*lx\/A*y-B*x<=A*ly-B*ux\/A*y-B*x<=A*uy-B*ux\/A*y-B*x<=A*uy-B*lx:=by
 have d:A*y<=A*ly\/A*y<=A*uy:=by
  rcases zay 0 A with h | h
  ·exact .inr (zas a.2 h)
  exact .inl (zbh h a.1)
 have c:B*lx<=B*x\/B*ux<=B*x:=by
  rcases zay 0 B with h | h
  ·exact .inl (zas b.1 h)
  exact .inr (zbh h b.2)
 omega
theorem aor (z:Ei) (r i j:Nat) (x y:Int):crs z r i j x y=((kx r j-kx r i)*y-(ky r j-ky r i)*x)-((kx r j-kx r i)*hy z r i-(ky r j-ky r i)*hx z r i):=by
 unfold crs;rw [Int.mul_sub,Int.mul_sub];omega
variable {x y:Int}
theorem ano (h:fv x y z r) (l:lx<=3*x/\3*x<=ux) (j:ly<=3*y/\3*y<=uy):s9 z r lx ly ux uy=true:=by
 obtain ⟨_,hc,⟨a,f,q⟩,⟨b,e,n⟩,⟨c,m,k⟩,⟨d,g,v⟩⟩:=h;have s:=adp (hx z r) 6 a f;have t:=adn (hx z r) 6 b e;have o:=adp (hy z r) 6 c m;have p:=adn (hy z r) 6 d g;simp only [s9,Bool.and_eq_true,zbs,decide_eq_false_iff_not,List.all_eq_true,zbn];refine ⟨by unfold gh; omega,fun i hi=>?_⟩;have:=hc i hi;have u:=aou (kx r ((i+1)%6)-kx r i) (ky r ((i+1)%6)-ky r i) (3*x) (3*y) lx ly ux uy l j;simp only [ye,aor] at this |-;omega
def rng (a b:Int):List Int:=(List.range (b+1-a).toNat).map fun i:Nat=>a+(i:Int)
variable {a b:Int}
theorem aji (h:b<a):rng a b=[]:=by
 unfold rng;rw [show (b+1-a).toNat=0 by omega]; rfl
theorem ag2 (h:a<=b):rng a b=rng a (b-1)++[b]:=by
 unfold rng;rw [show (b+1-a).toNat=(b-1+1-a).toNat+1 by omega,List.range_succ,zbb];congr 1;simp only [List.map_cons,List.map_nil,List.cons.injEq,and_true];omega
variable {i:Int}
theorem mn:i∈rng a b↔a<=i/\i<=b:=by
 unfold rng;simp only [List.mem_map,zbn];constructor
 ·rintro ⟨k,c,rfl⟩; omega
 intro h; exact ⟨(i-a).toNat,by omega,by omega⟩
variable {c:Int}
theorem ajj (e:a<=b+1) (f:b<=c):rng a c=rng a b++rng (b+1) c:=by
 obtain ⟨n,d⟩:∃n:Nat,c=b+n:=⟨(c-b).toNat,by omega⟩
 subst d
 induction n with
 | zero=>rw [aji (a:=b+1) (by omega)]; simp
 | succ n ih=>
   rw [ag2 (a:=a) (by omega),ag2 (a:=b+1) (by omega)];rw [show b+((n+1:Nat):Int)-1=b+n by omega,ih (by omega),zbc]
theorem ac8 {A B:Int} (p:Int->Bool) (j:a<=A) (g:B<=b) (h:∀i,a<=i->i<=b->¬(A<=i/\i<=B)->p i=false):(rng a b).filter p=(rng A B).filter p:=by
 by_cases f:A<=B+1
 ·have d:∀l:List Int,(∀i,i∈l->p i=false)->l.filter p=[]:=fun l e=>zcf.2 fun i hi=>by simp [e i hi]
  rw [ajj (a:=a) (b:=A-1) (c:=b) (by omega) (by omega),ajj (a:=A-1+1) (b:=B) (c:=b) (by omega) (by omega),zaz,zaz,
   d (rng a (A-1)) (fun i hi=>by rw [mn] at hi; exact h i (by omega) (by omega) (by omega)),
   d (rng (B+1) b) (fun i hi=>by rw [mn] at hi; exact h i (by omega) (by omega) (by omega)),show A-1+1=A by omega]
  simp
 rw [aji (a:=A) (b:=B) (by omega)];exact zcf.2 fun i hi=>by rw [mn] at hi; simp [h i hi.1 hi.2 (by omega)]
def wc (p:Int->Int->Bool) (a b k:Int):List (Int×Int):=((rng a b).filter fun i=>p i k).map fun i=>(i,k)
def vj (p:Int->Int->Bool) (a b c d:Int):List (Int×Int):=(rng c d).flatMap (wc p a b)
variable {d k:Int}
theorem an1 {p:Int->Int->Bool} (e:a<=i/\i<=b) (f:c<=k/\k<=d) (h:p i k=true):(i,k)∈vj p a b c d:=by
 unfold vj wc;simp only [List.mem_flatMap,List.mem_map,zbt,mn];exact ⟨k,f,i,⟨e,h⟩,rfl⟩
variable {D:Int}
theorem ak3 (p:Int->Int->Bool) {A B C:Int} (x:a<=A) (s:B<=b) (r:c<=C) (t:D<=d)
 (hx:∀i k,a<=i->i<=b->c<=k->k<=d->¬(A<=i/\i<=B)->p i k=false) (hy:∀i k,a<=i->i<=b->c<=k->k<=d->¬(C<=k/\k<=D)->p i k=false):vj p a b c d=vj p A B C D:=by
 have w:∀k,c<=k->k<=d->wc p a b k=wc p A B k:=fun k h m=>by
  unfold wc;rw [ac8 (A:=A) (B:=B) (fun i=>p i k) x s fun i q o=>hx i k q o h m]
 have y:∀k,c<=k->k<=d->¬(C<=k/\k<=D)->wc p a b k=[]:=fun k h m u=>by
  unfold wc;rw [List.map_eq_nil_iff,zcf];intro i hi;rw [mn] at hi;simp [hy i k hi.1 hi.2 h m u]
 have v:∀l:List Int,(∀k,k∈l->c<=k/\k<=d)->l.flatMap (wc p a b)=(l.filter fun k=>decide (C<=k/\k<=D)).flatMap (wc p A B):=fun l n=>by
  induction l with
  | nil=>rfl
  | cons k l ih=>
    have e:=n k (by simp);have g:=ih fun j z=>n j (by simp [z]);rw [zbu,g,zbv];by_cases f:C<=k/\k<=D
    ·simp only [f,and_self,decide_true,if_true,zbu];rw [w k e.1 e.2]
    simp only [f,decide_false,zbd,if_false];rw [y k e.1 e.2 f]; rfl
 unfold vj;rw [v _ fun k e=>by rw [mn] at e; exact e];rw [ac8 (A:=C) (B:=D) _ r t fun i q o E=>by simp; omega];congr 1;exact List.filter_eq_self.2 fun k e=>by rw [mn] at e; simp; omega
def tlo (m s last:Int):Int:=min (max (m.tdiv (3*s)-1) 0) last
def thi (m s last:Int):Int:=min (max (m.tdiv (3*s)+1) 0) last
def dlo (m s:Int):Int:=max (m.tdiv (3*s)-2) 0
def dhi (m s last:Int):Int:=min (m.tdiv (3*s)+2) last
theorem ai7 (m n:Int) (a:0<n):m<(m.tdiv n+1)*n:=by
 rw [zaq,Int.one_mul];have h:=Int.tmod_add_tdiv_mul m n;have:m.tmod n<n:=Int.tmod_lt_of_pos m a;omega
variable {m:Int}
theorem ai8 {n:Int} (f:0<n) (h:0<m.tdiv n):m.tdiv n*n<=m:=by
 have c:0<=m:=by
  rcases zay 0 m with a | a
  ·exact a
  have:m.tdiv n<=0:=by
   rcases zbo m 0 with b | b
   ·have d:=Int.neg_tdiv (-m) n;rw [Int.neg_neg] at d;have e:=Int.tdiv_nonneg (show 0<=-m by omega) (show 0<=n by omega);omega
   have:m=0:=by omega
   subst this; simp
  omega
 have h:=Int.tmod_add_tdiv_mul m n;have:=Int.tmod_nonneg n c;omega
variable {lo hi s last:Int}
theorem aie (d:0<s) (f:0<=i) (g:i<=last) (h:¬(tlo lo s last<=i/\i<=thi hi s last)):hi<3*(i*s)\/3*((i+1)*s)<lo:=by
 have b:0<3*s:=by omega
 unfold tlo thi at h;have e:=ai7 hi (3*s) b;have a:0<lo.tdiv (3*s)->_:=ai8 b;generalize hi.tdiv (3*s)=q at *;generalize lo.tdiv (3*s)=u at *;rcases (show q+2<=i\/i+2<=u by omega) with c | c
 ·left;have:(q+1)*(3*s)<=i*(3*s):=zba (by omega) (by omega);rw [zbw i 3 s] at this;omega
 right;have a:=a (by omega);have:(i+1+1)*(3*s)<=u*(3*s):=zba (by omega) (by omega);rw [zaq (i+1),zbw (i+1) 3 s] at this;omega
def tch (z:Ei) (r:Nat) (s i k:Int):Bool:=s9 z r (3*(i*s)) (3*(k*s)) (3*((i+1)*s)) (3*((k+1)*s))
theorem arw (b:0<s) (a:0<=i) (c:i<=last) (h:¬(tlo (mnN (hx z r) 6) s last<=i/\i<=thi (mxN (hx z r) 6) s last)):tch z r s i k=false:=
 vu (.inl (aie b a c h))
theorem arv (b:0<s) (a:0<=k) (c:k<=last) (h:¬(tlo (mnN (hy z r) 6) s last<=k/\k<=thi (mxN (hy z r) 6) s last)):tch z r s i k=false:=
 vu (.inr (aie b a c h))
theorem ake (e:0<s) (d:0<=i) (m:i<=last) (h:lo<=3*((i+1)*s)) (l:3*(i*s)<=hi):dlo lo s<=tlo lo s last/\thi hi s last<=dhi hi s last:=by
 have b:0<3*s:=by omega
 have j:=ai7 hi (3*s) b;have a:0<lo.tdiv (3*s)->_:=ai8 b;have k:0<=hi.tdiv (3*s):=Int.tdiv_nonneg (by have:=zbi d (zaw e); omega) (by omega);unfold dlo tlo thi dhi;generalize hi.tdiv (3*s)=q at *;generalize lo.tdiv (3*s)=u at *;refine ⟨?_,by omega⟩
 have:¬last+2<=u:=fun c=>by
  have a:=a (by omega);have f:(last+1+1)*(3*s)<=u*(3*s):=zba (by omega) (by omega);have g:(i+1)*s<=(last+1)*s:=zba (by omega) (by omega);rw [zaq (last+1),zbw (last+1) 3 s] at f;omega
 omega
def ade (z:Ei) (r:Nat) (s last:Int):List (Int×Int):=vj (tch z r s) (tlo (mnN (hx z r) 6) s last) (thi (mxN (hx z r) 6) s last) (tlo (mnN (hy z r) 6) s last) (thi (mxN (hy z r) 6) s last)
def awh (z:Ei) (r:Nat) (s last:Int):List (Int×Int):=vj (tch z r s) (dlo (mnN (hx z r) 6) s) (dhi (mxN (hx z r) 6) s last) (dlo (mnN (hy z r) 6) s) (dhi (mxN (hy z r) 6) s last)
theorem aky (h:fv x y z r) (g:0<s) (l:0<=i/\i<=last) (j:0<=k/\k<=last) (hx:i*s<=x/\x<(i+1)*s) (hy:k*s<=y/\y<(k+1)*s) :
 awh z r s last=ade z r s last/\(i,k)∈ade z r s last:=by
 have f:tch z r s i k=true:=ano h ⟨by omega,by omega⟩ ⟨by omega,by omega⟩
 have m:¬gh z r (3*(i*s)) (3*(k*s)) (3*((i+1)*s)) (3*((k+1)*s)):=fun m=>by
  have:=vu m;rw [tch,this] at f;cases f
 unfold gh at m;have n:=ake (lo:=mnN (Go.Ev.hx z r) 6) (hi:=mxN (Go.Ev.hx z r) 6) g l.1 l.2 (by omega) (by omega);have o:=ake (lo:=mnN (Go.Ev.hy z r) 6) (hi:=mxN (Go.Ev.hy z r) 6) g j.1 j.2 (by omega) (by omega);refine ⟨ak3 _ n.1 n.2 o.1 o.2 (fun q p a b c d e=>arw g (by unfold dlo at a; omega) (by unfold dhi at b; omega) e) (fun q p a b c d e=>arv g (by unfold dlo at c; omega) (by unfold dhi at d; omega) e),an1 ?_ ?_ f⟩
 ·apply Classical.byContradiction;intro c;rw [arw g l.1 l.2 c] at f;cases f
 apply Classical.byContradiction;intro c;rw [arv g j.1 j.2 c] at f;cases f

def tb:Mk P0 f114:={ x:=_ }
def nz:Mk P0 f173:={ x:=_ }
def ot:Mk P0 f148:={ x:=_ }
def ny:Mk P0 f149:={ x:=_ }
def nw:Mk P0 f116:={ x:=_ }
def uv:Mk P0 f76:={ x:=_ }
def pv (x y:Int):AV:=.r (pnt x y)
def bxv (lx ly ux uy:Int):AV:=.r (.agg [.v (.int .i64 lx),.v (.int .i64 ly),.v (.int .i64 ux),.v (.int .i64 uy)])
def yh (x:Int):Prop:=-2147483648<=x/\x<=2147483648
def ibx (lx ly ux uy i:Int):List AV:=if i=0 then [int .i64 0,int .i64 0,int .i64 0,int .i64 0] else if i=1 then [int .i64 (3*lx),int .i64 0,int .i64 (3*ux),int .i64 0] else [int .i64 (3*lx),int .i64 (3*ly),int .i64 (3*ux),int .i64 (3*uy)]
theorem axu (lx ly ux uy:Int):ibx lx ly ux uy 0=[int .i64 0,int .i64 0,int .i64 0,int .i64 0]:=rfl
theorem axt (lx ly ux uy:Int):ibx lx ly ux uy 1=[int .i64 (3*lx),int .i64 0,int .i64 (3*ux),int .i64 0]:=rfl
theorem axs (lx ly ux uy:Int):ibx lx ly ux uy 2=[int .i64 (3*lx),int .i64 (3*ly),int .i64 (3*ux),int .i64 (3*uy)]:=rfl
theorem alo (lx ly ux uy:Int) (n:yh lx) (l:yh ly) (k:yh ux) (m:yh uy) (hx:lx<=ux) (hy:ly<=uy):a9 P0 114 [pv lx ly,pv ux uy] [] (.tup [bxv (3*lx) (3*ly) (3*ux) (3*uy),bl true]) []:=by
 refine tb.t func114 ?_
 push_cast [tb,pv,pnt,bxv,zab]
 unfold yh at n l k m
 refine c9 [(8,false),(6,false),(4,false),(3,false),(2,false)] (fun vs pos a=>∃i:Int,(i=0\/i=1\/i=2)/\vs=[int .i64 i,.ptr 2000000 0 0,.ptr 2000001 0 0,.ptr 2000002 0 0,.ptr 2000003 0 0]/\pos=[] /\
  a=[.box (ibx lx ly ux uy i),.box [int .i64 0,int .i64 0,int .i64 0,int .i64 0],.box [int .i64 ux,int .i64 uy],.box [int .i64 lx,int .i64 ly]])
  (fun vs _ _=>match vs with | .r (.v (.int _ j))::_=>(2-j).toNat | _=>0) rfl ?_ ?_
 ·push_cast
  exact ⟨0,by omega,rfl,rfl⟩
 rintro vs pos a ⟨i,rfl | rfl | rfl,rfl,rfl,rfl⟩
 ·have d:decide (lx < -2147483648)=false:=by simp; omega
  have e:decide (ux>2147483648)=false:=by simp; omega
  have c:decide (ux<lx)=false:=by simp; omega
  have b:decide ((0:Int)<2)=true:=rfl;have g:IntKind.i64.wrap (3*lx)=3*lx:=a5 (by omega);have h:IntKind.i64.wrap (3*ux)=3*ux:=a5 (by omega);have f:IntKind.i64.wrap (0+1)=1:=by decide
  push_cast [axu,b,d,e,c,g,h,f,zad]
  repeat refine And.intro (by first | decide | kernel_rfl) ?_
  exact ⟨⟨1,by omega,rfl,rfl⟩,by decide⟩
 ·have d:decide (ly < -2147483648)=false:=by simp; omega
  have e:decide (uy>2147483648)=false:=by simp; omega
  have c:decide (uy<ly)=false:=by simp; omega
  have b:decide ((1:Int)<2)=true:=rfl;have g:IntKind.i64.wrap (3*ly)=3*ly:=a5 (by omega);have h:IntKind.i64.wrap (3*uy)=3*uy:=a5 (by omega);have f:IntKind.i64.wrap (1+1)=2:=by decide
  push_cast [axt,b,d,e,c,g,h,f,zad]
  repeat refine And.intro (by first | decide | kernel_rfl) ?_
  exact ⟨⟨2,by omega,rfl,rfl⟩,by decide⟩
 have b:decide ((2:Int)<2)=false:=rfl
 push_cast [axs,b,zad]
theorem aot (lx ly ux uy:Int):a9 P0 173 [bxv lx ly ux uy] [] (.own 1000000 0 0 4) [.row 2 (pnt 0 0) true true [pnt lx ly,pnt ux ly,pnt ux uy,pnt lx uy]]:=by
 refine nz.t func173 ?_
 push_cast [nz,pnt,bxv,zab,zad]
 decide
theorem mr (z:Ei) (r:Nat):((lz z r 6).length:Int)=6:=by rw [ah0]; rfl
theorem uc (z:Ei) (r n i:Nat) (h:i<n) (d:RV):(lz z r n).getD i d=.agg [.v (.int .i64 (hx z r i)),.v (.int .i64 (hy z r i))]:=by
 rw [zaj];simp [lz,h,alr,pnt]
def qp (z:Ei) (r:Nat):Prop:=∀i,i<6->(-4294967296<=hx z r i/\hx z r i<=4294967296)/\(-4294967296<=hy z r i/\hy z r i<=4294967296)
abbrev ut (z:Ei) (r:Nat):AV:=.r (.sl 2 (lz z r 6))
theorem ard (z:Ei) (r:Nat) (lx ly ux uy:Int) (g:qp z r):a9 P0 148 [bxv lx ly ux uy,ut z r] [] (bl (decide (gh z r lx ly ux uy))) []:=by
 refine ot.t func148 ?_;simp only [ot,bxv,push_cast,↓reduceIte,reduceCtorEq,zB,zE,zA,zS,zL,zD,zM]
 refine c9 [(10,false),(2,false),(1,false)] (fun vs pos a=>∃i:Int,(i=0\/(i=1/\¬(mxN (hx z r) 6<lx\/ux<mnN (hx z r) 6))\/(i=2/\¬gh z r lx ly ux uy))/\vs=[int .i64 i,.ptr 2000000 0 0,ut z r]/\pos=[] /\
  a=[.box [int .i64 lx,int .i64 ly,int .i64 ux,int .i64 uy]])
  (fun vs _ _=>match vs with | .r (.v (.int _ j))::_=>(2-j).toNat | _=>0) rfl ?_ ?_
 ·simp only [push_cast,↓reduceIte,reduceCtorEq,zB,zE,zA,zS,zL,zD,zM];exact ⟨0,by omega,rfl⟩
 rintro vs pos a ⟨i,hi | hi | hi,rfl,rfl,rfl⟩
 ·obtain rfl:=hi;have d:decide ((0:Int)<2)=true:=rfl;simp only [d,mr,uc z r 6 0 (by decide),zad,push_cast,↓reduceIte,reduceCtorEq,zB,zE,zA,zS,zL,zD,zM]
  repeat refine And.intro (by first | decide | kernel_rfl) ?_
  refine c9 [(25,false),(24,false),(23,false),(6,false),(7,false),(5,false),(2,false),(1,false),(10,false)] (fun vs pos a=>∃k:Nat,k<=6/\vs=[int .i64 k,int .i64 6,ut z r,int .i64 (mnN (hx z r) k),int .i64 (mxN (hx z r) k),int .i64 0,.ptr 2000000 0 0,ut z r,int .i64 0]/\pos=[] /\
   a=[.box [int .i64 lx,int .i64 ly,int .i64 ux,int .i64 uy]])
   (fun vs _ _=>match vs with | .r (.v (.int _ j))::_=>(6-j).toNat | _=>0) rfl ?_ ?_
  ·simp only [push_cast,↓reduceIte,reduceCtorEq,zB,zE,zA,zS,zL,zD,zM];exact ⟨0,by omega,rfl⟩
  rintro vs pos a ⟨k,f,rfl,rfl,rfl⟩;simp only [push_cast,↓reduceIte,reduceCtorEq,zB,zE,zA,zS,zL,zD,zM];refine b8 (fun h=>?_) (fun h=>?_)
  ·have hi:k<6:=by simp at h; omega
   simp only [mr,zag,uc z r 6 k hi,zad,push_cast,↓reduceIte,reduceCtorEq,zB,zE,zA,zS,zL,zD,zM];rw [show IntKind.i64.wrap ((k:Int)+1)=((k+1:Nat):Int) by rw [a5 (by omega)]; omega];refine ⟨by omega,by decide,by decide,by kernel_rfl,⟨k+1,by omega,rfl⟩,by omega⟩
  have hi:k=6:=by simp at h; omega
  subst hi;simp only [zad,push_cast,↓reduceIte,reduceCtorEq,zB,zE,zA,zS,zL,zD,zM]
  repeat refine And.intro (by first | decide | exact fun _=>by decide | (simp +contextual; done) | kernel_rfl) ?_
  refine b8 (fun h=>?_) (fun h=>?_)
  ·have c:mxN (hx z r) 6<lx\/ux<mnN (hx z r) 6:=by simpa using h
   simp only [push_cast,↓reduceIte,reduceCtorEq,zB,zE,zA,zS,zL,zD,zM];rw [decide_eq_true (show gh z r lx ly ux uy from .inl c)]
  have b:¬(mxN (hx z r) 6<lx\/ux<mnN (hx z r) 6):=by
   have:=h;simp at this;omega
  simp only [push_cast,↓reduceIte,reduceCtorEq,zB,zE,zA,zS,zL,zD,zM];refine ⟨⟨1,.inr (.inl ⟨rfl,b⟩),rfl⟩,by decide⟩
 ·obtain ⟨rfl,e⟩:=hi;have d:decide ((1:Int)<2)=true:=rfl;simp only [d,mr,uc z r 6 0 (by decide),zad,push_cast,↓reduceIte,reduceCtorEq,zB,zE,zA,zS,zL,zD,zM]
  repeat refine And.intro (by first | decide | kernel_rfl) ?_
  refine c9 [(25,false),(24,false),(23,false),(6,false),(7,false),(5,false),(2,false),(1,false),(10,false)] (fun vs pos a=>∃k:Nat,k<=6/\vs=[int .i64 k,int .i64 6,ut z r,int .i64 (mnN (hy z r) k),int .i64 (mxN (hy z r) k),int .i64 1,.ptr 2000000 0 0,ut z r,int .i64 1]/\pos=[] /\
   a=[.box [int .i64 lx,int .i64 ly,int .i64 ux,int .i64 uy]])
   (fun vs _ _=>match vs with | .r (.v (.int _ j))::_=>(6-j).toNat | _=>0) rfl ?_ ?_
  ·simp only [push_cast,↓reduceIte,reduceCtorEq,zB,zE,zA,zS,zL,zD,zM];exact ⟨0,by omega,rfl⟩
  rintro vs pos a ⟨k,f,rfl,rfl,rfl⟩;simp only [push_cast,↓reduceIte,reduceCtorEq,zB,zE,zA,zS,zL,zD,zM];refine b8 (fun h=>?_) (fun h=>?_)
  ·have hi:k<6:=by simp at h; omega
   simp only [mr,zag,uc z r 6 k hi,zad,push_cast,↓reduceIte,reduceCtorEq,zB,zE,zA,zS,zL,zD,zM];rw [show IntKind.i64.wrap ((k:Int)+1)=((k+1:Nat):Int) by rw [a5 (by omega)]; omega];refine ⟨by omega,by decide,by decide,by kernel_rfl,⟨k+1,by omega,rfl⟩,by omega⟩
  have hi:k=6:=by simp at h; omega
  subst hi;simp only [zad,push_cast,↓reduceIte,reduceCtorEq,zB,zE,zA,zS,zL,zD,zM]
  repeat refine And.intro (by first | decide | exact fun _=>by decide | (simp +contextual; done) | kernel_rfl) ?_
  refine b8 (fun h=>?_) (fun h=>?_)
  ·have c:mxN (hy z r) 6<ly\/uy<mnN (hy z r) 6:=by simpa using h
   simp only [push_cast,↓reduceIte,reduceCtorEq,zB,zE,zA,zS,zL,zD,zM];rw [decide_eq_true (show gh z r lx ly ux uy from .inr c)]
  have b:¬(mxN (hy z r) 6<ly\/uy<mnN (hy z r) 6):=by
   have:=h;simp at this;omega
  simp only [push_cast,↓reduceIte,reduceCtorEq,zB,zE,zA,zS,zL,zD,zM];refine ⟨⟨2,.inr (.inr ⟨rfl,fun hc=>hc.elim e b⟩),rfl⟩,by decide⟩
 obtain ⟨rfl,e⟩:=hi;have d:decide ((2:Int)<2)=false:=rfl;simp only [d,push_cast,↓reduceIte,reduceCtorEq,zB,zE,zA,zS,zL,zD,zM];rw [decide_eq_false e]
def r5 (x:Int):Prop:=-4294967296<=x/\x<=4294967296
def ack (x:Int):Prop:=-268435456<=x/\x<=268435456
def crP (b a c d x y:Int):Int:=(c-b)*(y-a)-(d-a)*(x-b)
theorem awl {b a c d:Int} (g:r5 b) (h:r5 a) (e:ack (c-b)) (f:ack (d-a)) (hx:r5 x) (hy:r5 y) :
 IntKind.i64.wrap (IntKind.i64.wrap (IntKind.i64.wrap (c-b)*IntKind.i64.wrap (y-a))-IntKind.i64.wrap (IntKind.i64.wrap (d-a)*IntKind.i64.wrap (x-b)))=crP b a c d x y:=by
 unfold r5 at g h hx hy;unfold ack at e f;have i:=z3 (n:=268435456) (m:=8589934592) e (y:=y-a) (by omega);have j:=z3 (n:=268435456) (m:=8589934592) f (y:=x-b) (by omega);unfold crP;rw [show IntKind.i64.wrap (c-b)=c-b from a5 (by omega),show IntKind.i64.wrap (d-a)=d-a from a5 (by omega),show IntKind.i64.wrap (y-a)=y-a from a5 (by omega),show IntKind.i64.wrap (x-b)=x-b from a5 (by omega)];generalize (c-b)*(y-a)=A at *;generalize (d-a)*(x-b)=B at *;rw [show IntKind.i64.wrap A=A from a5 (by omega),show IntKind.i64.wrap B=B from a5 (by omega),a5 (by omega)]
def cnx (lx ux:Int) (i:Nat):Int:=if i=0\/i=3 then lx else ux
def cny (ly uy:Int) (i:Nat):Int:=if i=0\/i=1 then ly else uy
def cnL (lx ly ux uy:Int):List RV:=[pnt lx ly,pnt ux ly,pnt ux uy,pnt lx uy]
theorem awo (lx ly ux uy:Int) (i:Nat) (h:i<4) (d:RV):(cnL lx ly ux uy).getD i d=.agg [.v (.int .i64 (cnx lx ux i)),.v (.int .i64 (cny ly uy i))]:=by
 rcases (show i=0\/i=1\/i=2\/i=3 by omega) with rfl | rfl | rfl | rfl<;>rfl
def aep (d a b c lx ly ux uy:Int):Prop:=∀i,i<4->crP d a b c (cnx lx ux i) (cny ly uy i)<0
instance (p0 p1 q0 q1 lx ly ux uy:Int):Decidable (aep p0 p1 q0 q1 lx ly ux uy):=inferInstanceAs (Decidable (∀i,i<4->_))
theorem ans (lx ly ux uy b a d e:Int) (A:r5 lx) (x:r5 ly) (w:r5 ux) (y:r5 uy) (s:r5 b) (o:r5 a) (p:ack (d-b)) (u:ack (e-a)) :
 a9 P0 149 [bxv lx ly ux uy,pv b a,pv d e] [] (bl (decide (aep b a d e lx ly ux uy))) []:=by
 refine ny.t func149 ?_
 push_cast [ny,bxv,pv,pnt,zab]
 refine b5 (as':=[bxv lx ly ux uy]) rfl ?_;refine a7 (aot lx ly ux uy) rfl trivial ?_
 push_cast [pnt]
 refine c9 [(12,false),(11,false),(10,false),(5,false),(4,false)] (fun vs pos f=>∃i:Nat,i<=4/\(∀j,j<i->crP b a d e (cnx lx ux j) (cny ly uy j)<0)/\vs=[int .i64 i,int .i64 4,.own 2000000 0 0 4,.ptr 2000001 0 0,.ptr 2000002 0 0]/\pos=[] /\
  f=[.row 2 (.agg [.v (.int .i64 0),.v (.int .i64 0)]) true true (cnL lx ly ux uy),.box [int .i64 d,int .i64 e],.box [int .i64 b,int .i64 a]])
  (fun vs _ _=>match vs with | .r (.v (.int _ j))::_=>(4-j).toNat | _=>0) rfl ?_ ?_
 ·push_cast
  exact ⟨0,by omega,fun j n=>by omega,rfl,rfl⟩
 rintro vs pos f ⟨i,z,n,rfl,rfl,rfl⟩
 push_cast
 refine b8 (fun h=>?_) (fun h=>?_)
 ·have hi:i<4:=by simp at h; omega
  have m:r5 (cnx lx ux i):=by unfold cnx; split<;>assumption
  have g:r5 (cny ly uy i):=by unfold cny; split<;>assumption
  push_cast [zag,zac,awo lx ly ux uy i hi,awl s o p u m g,zad]
  refine ⟨by omega,?_⟩
  repeat refine And.intro (by first | decide | omega | kernel_rfl) ?_
  refine b8 (fun l=>?_) (fun l=>?_)
  ·have hc:¬crP b a d e (cnx lx ux i) (cny ly uy i)<0:=by simp at l; omega
   push_cast
   rw [decide_eq_false (show ¬aep b a d e lx ly ux uy from fun c=>hc (c i hi))]
  have hc:crP b a d e (cnx lx ux i) (cny ly uy i)<0:=by simp at l; omega
  push_cast
  rw [show IntKind.i64.wrap ((i:Int)+1)=((i+1:Nat):Int) by rw [a5 (by omega)]; omega];refine ⟨⟨i+1,by omega,fun j q=>?_,rfl⟩,by omega⟩;by_cases k:j=i
  ·subst k; exact hc
  exact n j (by omega)
 have hi:i=4:=by simp at h; omega
 subst hi
 push_cast
 rw [decide_eq_true (show aep b a d e lx ly ux uy from n)]
theorem aqc (z:Ei) (r i j:Nat) (lx ly ux uy:Int) (f:j=(i+1)%6):aep (hx z r i) (hy z r i) (hx z r j) (hy z r j) lx ly ux uy↔ye z r lx ly ux uy i:=by
 subst f
 have e:∀x y,crP (hx z r i) (hy z r i) (hx z r ((i+1)%6)) (hy z r ((i+1)%6)) x y=crs z r i ((i+1)%6) x y:=fun x y=>by
  simp only [crP,crs];rw [show hx z r ((i+1)%6)-hx z r i=kx r ((i+1)%6)-kx r i by rw [r7,r7]; omega,show hy z r ((i+1)%6)-hy z r i=ky r ((i+1)%6)-ky r i by rw [r6,r6]; omega]
 simp only [aep,ye,e];constructor
 ·intro h;exact ⟨h 0 (by decide),h 1 (by decide),h 2 (by decide),h 3 (by decide)⟩
 rintro ⟨c,d,b,a⟩ k g;rcases (show k=0\/k=1\/k=2\/k=3 by omega) with rfl | rfl | rfl | rfl
 ·exact c
 ·exact d
 ·exact b
 exact a
theorem al2 (z:Ei) (r:Nat) (n:r<=12) (lx ly ux uy:Int) (g:qp z r) (w:r5 lx) (q:r5 ly) (p:r5 ux) (s:r5 uy):a9 P0 116 [bxv lx ly ux uy,ut z r] [] (bl (s9 z r lx ly ux uy)) []:=by
 refine nw.t func116 ?_
 push_cast [nw,bxv,zab]
 refine b5 (as':=[bxv lx ly ux uy,ut z r]) rfl ?_;refine a7 (ard z r lx ly ux uy g) rfl trivial ?_;by_cases a:gh z r lx ly ux uy
 ·rw [decide_eq_true a]
  push_cast
  rw [vu a]
 rw [decide_eq_false a]
 push_cast [mr]
 refine c9 [(12,false),(11,false),(10,false),(2,false),(1,false)] (fun vs pos b=>∃i:Nat,i<=6/\(∀j,j<i->¬ye z r lx ly ux uy j)/\vs=[int .i64 i,int .i64 6,ut z r,.ptr 2000000 0 0,ut z r]/\pos=[] /\
  b=[.box [int .i64 lx,int .i64 ly,int .i64 ux,int .i64 uy]])
  (fun vs _ _=>match vs with | .r (.v (.int _ j))::_=>(6-j).toNat | _=>0) rfl ?_ ?_
 ·push_cast
  exact ⟨0,by omega,fun j m=>by omega,rfl⟩
 rintro vs pos b ⟨i,y,m,rfl,rfl,rfl⟩
 push_cast
 refine b8 (fun h=>?_) (fun h=>?_)
 ·have hi:i<6:=by simp at h; omega
  obtain ⟨J,u⟩:∃J,J=(i+1)%6:=⟨_,rfl⟩
  have e:J<6:=by omega
  have o:(IntKind.i64.wrap ((i:Int)+1)).tmod 6=(J:Int):=by
   rw [a5 (by omega),zbm (by omega)]; omega
  push_cast [mr,o,zag,uc z r 6 i hi,uc z r 6 J e,zad]
  refine ⟨by omega,?_⟩
  repeat refine And.intro (by first | decide | omega | kernel_rfl) ?_
  refine j8 (as':=[bxv lx ly ux uy,pv (hx z r i) (hy z r i),pv (hx z r J) (hy z r J)]) rfl ?_;have A:=ahr r i n hi;have B:=ahr r J n e;refine c8 (ans lx ly ux uy _ _ _ _ w q p s (g i hi).1 (g i hi).2 (by rw [r7,r7]; unfold ack; omega) (by rw [r6,r6]; unfold ack; omega)) rfl trivial ?_
  push_cast
  repeat refine And.intro (by first | decide | omega | kernel_rfl) ?_
  have d:=aqc z r i J lx ly ux uy u;refine b8 (fun l=>?_) (fun l=>?_)
  ·have f:ye z r lx ly ux uy i:=d.1 (by simpa using l)
   push_cast
   have:s9 z r lx ly ux uy=false:=by
    simp only [s9,a,decide_false,zbx,Bool.true_and];rw [List.all_eq_false];exact ⟨i,zbn.2 hi,by simp [f]⟩
   rw [this]
  have f:¬ye z r lx ly ux uy i:=fun c=>by
   have:=d.2 c;simp [this] at l
  push_cast
  rw [show IntKind.i64.wrap ((i:Int)+1)=((i+1:Nat):Int) by rw [a5 (by omega)]; omega];refine ⟨⟨i+1,by omega,fun j x=>?_,rfl⟩,by omega⟩;by_cases k:j=i
  ·subst k; exact f
  exact m j (by omega)
 have hi:i=6:=by simp at h; omega
 subst hi
 push_cast
 have:s9 z r lx ly ux uy=true:=by
  simp only [s9,a,decide_false,zbx,Bool.true_and,List.all_eq_true,zbn,zbs,decide_eq_false_iff_not];exact m
 rw [this]
theorem amk (z:Ei) (r:Nat):List.take 6 (lz z r 6)=lz z r 6:=rfl
attribute [push_cast high] amk
theorem alv (z:Ei) (r:Int) (b:0<=r) (a:okc r.toNat z) (lx ly ux uy:Int) (c:qp z r.toNat) (f:0<=lx/\lx<=ux/\ux<=1073741824) (e:0<=ly/\ly<=uy/\uy<=1073741824) :
 a9 P0 76 [cel r z,pv lx ly,pv ux uy] [] (bl (s9 z r.toNat (3*lx) (3*ly) (3*ux) (3*uy))) []:=by
 refine uv.t func76 ?_
 push_cast [uv,cel,pv,pnt,zab]
 refine b5 (as':=[pv lx ly,pv ux uy]) rfl ?_;refine a7 (alo lx ly ux uy (by unfold yh; omega) (by unfold yh; omega) (by unfold yh; omega) (by unfold yh; omega) f.2.1 e.2.1) rfl trivial ?_
 push_cast [bxv]
 refine b5 (as':=[cel r z]) rfl ?_;refine a7 (axy r z b a) rfl trivial ?_
 push_cast
 have d:r<=12:=by have:=a.1; omega
 refine b5 (as':=[z.v,int .i64 r]) rfl ?_;refine a7 (ar7 z r a.2.1 ⟨b,d⟩) rfl trivial ?_
 push_cast [pnt]
 refine tt ?_
 push_cast
 refine b5 (as':=[bxv (3*lx) (3*ly) (3*ux) (3*uy),ut z r.toNat]) rfl ?_;refine a7 (al2 z r.toNat a.1 _ _ _ _ c (by unfold r5; omega) (by unfold r5; omega) (by unfold r5; omega) (by unfold r5; omega)) rfl trivial ?_
 push_cast

def wy:Mk P0 f39:={ x:=_ }
def mf:Mk P0 f40:={ x:=_ }
def ve:Mk P0 f26:={ x:=_ }
theorem tz {z:Int} (h:0<=z/\z<=18):4096<=(2:Int)^(30-z).toNat/\(2:Int)^(30-z).toNat<=1073741824:=by
 have c:2^(30-z).toNat<=2^30:=zbl (by decide) (by omega);have a:2^12<=2^(30-z).toNat:=zbl (by decide) (by omega);have b:((2^(30-z).toNat:Nat):Int)=(2:Int)^(30-z).toNat:=by simp
 omega
theorem aa5 (h:tis t=true):(0<=t.x*2^(30-t.z).toNat/\(t.x+1)*2^(30-t.z).toNat<=1073741824)/\(0<=t.y*2^(30-t.z).toNat/\(t.y+1)*2^(30-t.z).toNat<=1073741824):=by
 simp only [tis,decide_eq_true_eq] at h;obtain ⟨d,c,g,f,e,x1,b,y1⟩:=h;have i:=tz ⟨d,c⟩
 have a:(2:Int)^t.z.toNat*2^(30-t.z).toNat=1073741824:=by
  rw [<- Int.pow_add,show t.z.toNat+(30-t.z).toNat=30 by omega]; rfl
 have hx:(t.x+1)*2^(30-t.z).toNat<=1073741824:=by rw [<- a]; exact zba (by omega) (by omega)
 have hy:(t.y+1)*2^(30-t.z).toNat<=1073741824:=by rw [<- a]; exact zba (by omega) (by omega)
 exact ⟨⟨zbi e (by omega),hx⟩,zbi b (by omega),hy⟩
theorem aqw (t:Til) (h:tis t=true):a9 P0 39 [t.v] [] (bxv (t.x*2^(30-t.z).toNat) (t.y*2^(30-t.z).toNat) ((t.x+1)*2^(30-t.z).toNat) ((t.y+1)*2^(30-t.z).toNat)) []:=by
 refine wy.t func39 ?_;have hi:=aa5 h;have a:=tz (show 0<=t.z/\t.z<=18 by simp only [tis,decide_eq_true_eq] at h; omega)
 push_cast [wy,Til.v,bxv,zab]
 refine b5 (as':=[t.v]) rfl ?_;refine a7 (acb t h) rfl trivial ?_
 push_cast
 rw [zaq,Int.one_mul,zaq,Int.one_mul] at *;rw [a5 (by omega),a5 (by omega)]
theorem als (z:Ei) (r:Int) (c:0<=r) (e:okc r.toNat z) (lx ly ux uy:Int) (a:qp z r.toNat) (d:0<=lx/\lx<=ux/\ux<=1073741824) (b:0<=ly/\ly<=uy/\uy<=1073741824) :
 a9 P0 40 [bxv lx ly ux uy,cel r z] [] (bl (s9 z r.toNat (3*lx) (3*ly) (3*ux) (3*uy))) []:=by
 refine mf.t func40 ?_
 push_cast [mf,cel,bxv,zab]
 refine b5 (as':=[cel r z,pv lx ly,pv ux uy]) rfl ?_;refine a7 (alv z r c e lx ly ux uy a d b) rfl trivial ?_
 push_cast
theorem akv (t:Til) (h:tis t=true) (z:Ei) (r:Int) (c:0<=r) (d:okc r.toNat z) (a:qp z r.toNat) :
 a9 P0 26 [t.v,cel r z] [] (bl (tch z r.toNat (2^(30-t.z).toNat) t.x t.y)) []:=by
 refine ve.t func26 ?_;have hi:=aa5 h;have b:0<=t.z/\t.z<=18:=by simp only [tis,decide_eq_true_eq] at h; omega
 have e:=tz b
 push_cast [ve,Til.v,cel,zab]
 refine j8 (as':=[t.v]) rfl ?_;refine c8 (alm t) rfl trivial ?_;rw [h]
 push_cast
 refine j8 (as':=[t.v]) rfl ?_;refine c8 (aqw t h) rfl trivial ?_
 push_cast [bxv]
 refine j8 (as':=[bxv (t.x*2^(30-t.z).toNat) (t.y*2^(30-t.z).toNat) ((t.x+1)*2^(30-t.z).toNat) ((t.y+1)*2^(30-t.z).toNat),cel r z]) rfl ?_;refine c8 (als z r c d _ _ _ _ a ⟨hi.1.1,by rw [zaq]; omega,hi.1.2⟩ ⟨hi.2.1,by rw [zaq]; omega,hi.2.2⟩) rfl trivial ?_
 push_cast
 exact ⟨by kernel_rfl,rfl⟩

def ov:Mk P0 f67:={ x:=_ }
def ku:Mk P0 f103:={ x:=_ }
def jb:Mk P0 f138:={ x:=_ }
def yi (x:Int):Prop:=-42535295865117307932921825928971026432<=x/\x<=42535295865117307932921825928971026432
theorem auh (a:Int) (h:-170141183460469231731687303715884105728<=a/\a<170141183460469231731687303715884105728):a9 P0 138 [i9 a] [] (bl (decide (a<0))) []:=by
 refine jb.t func138 ?_;simp only [jb,i9,push_cast,↓reduceIte,reduceCtorEq,zB,zE,zA,zS,zL,zD,zM]
 have e:Int.fdiv (a/18446744073709551616%18446744073709551616) (2^min (zan 63) IntKind.u64.bits)=a/18446744073709551616%18446744073709551616/9223372036854775808:=by
  rw [show min (zan 63) IntKind.u64.bits=63 from rfl,Int.fdiv_eq_ediv_of_nonneg _ (by decide)]
  rfl
 rw [e];refine ⟨by decide,dv ?_⟩;simp only [beq_iff_eq,decide_eq_true_eq];omega
theorem ai5 (a b:Int) (d:yi a) (c:yi b):a9 P0 103 [i9 a,i9 b] [] (bl (decide (a<b))) []:=by
 refine ku.t func103 ?_;unfold yi at d c
 push_cast [ku,i9,zab]
 refine j8 (as':=[i9 b]) rfl ?_;refine c8 (xx b) rfl trivial ?_
 push_cast [i9]
 refine j8 (as':=[i9 a,i9 (-b)]) rfl ?_;refine c8 (aaa a (-b)) rfl trivial ?_
 push_cast [i9]
 refine j8 (as':=[i9 (a + -b)]) rfl ?_;refine c8 (auh (a + -b) (by omega)) rfl trivial ?_
 push_cast
 refine ⟨by kernel_rfl,dv ?_⟩;simp only [decide_eq_true_eq];omega
def sg (x:Int):Int:=if x<0 then -1 else if 0<x then 1 else 0
theorem ap3 (b a c d x y:Int) (k:r5 b) (l:r5 a) (g:r5 c) (f:r5 d) (i:r5 x) (j:r5 y) :
 a9 P0 67 [pv b a,pv c d,int .i64 x,int .i64 y] [] (int .i64 (sg (crP b a c d x y))) []:=by
 refine ov.t func67 ?_;unfold r5 at k l g f i j;have p:=z3 (n:=8589934592) (m:=8589934592) (x:=c-b) (y:=y-a) (by omega) (by omega);have o:=z3 (n:=8589934592) (m:=8589934592) (x:=d-a) (y:=x-b) (by omega) (by omega)
 push_cast [ov,pv,pnt,zab,zad]
 rw [show IntKind.i64.wrap (c-b)=c-b from a5 (by omega),show IntKind.i64.wrap (y-a)=y-a from a5 (by omega)]
 repeat refine And.intro (by first | decide | omega) ?_
 refine a7 (pj (c-b) (y-a) (by unfold b7; omega) (by unfold b7; omega)) rfl trivial ?_
 push_cast [i9,zad]
 rw [show IntKind.i64.wrap (d-a)=d-a from a5 (by omega),show IntKind.i64.wrap (x-b)=x-b from a5 (by omega)]
 repeat refine And.intro (by first | decide | omega) ?_
 refine a7 (pj (d-a) (x-b) (by unfold b7; omega) (by unfold b7; omega)) rfl trivial ?_;have hc:crP b a c d x y=(c-b)*(y-a)-(d-a)*(x-b):=rfl;rw [hc];generalize (c-b)*(y-a)=A at *;generalize (d-a)*(x-b)=B at *
 push_cast [i9]
 refine b5 (as':=[i9 A,i9 B]) rfl ?_;refine a7 (ai5 A B (by unfold yi; omega) (by unfold yi; omega)) rfl trivial ?_
 push_cast [i9]
 refine b8 (fun h=>?_) (fun h=>?_)
 ·simp at h
  push_cast
  rw [sg,if_pos (by omega)]
 simp at h
 push_cast
 refine b5 (as':=[i9 B,i9 A]) rfl ?_;refine a7 (ai5 B A (by unfold yi; omega) (by unfold yi; omega)) rfl trivial ?_
 push_cast [i9]
 refine b8 (fun e=>?_) (fun e=>?_)
 ·simp at e
  push_cast
  rw [sg,if_neg (by omega),if_pos (by omega)]
 simp at e
 push_cast
 rw [sg,if_neg (by omega),if_neg (by omega)]


theorem ame (r:Nat) (z:Ei) (h:okc r z):aht (af r z)=true/\an (af r z)=r/\ai (af r z) r=z/\af r z<18446744073709551616:=by
 refine ⟨an7 h,(agi r z h).2,?_,ai3 r z h⟩;rw [amd r r z h (zav _),Nat.sub_self]
 rfl
theorem amj (h:tis t=true):t.ok:=by
 have b:0<=t.z/\t.z<=18/\0<=t.r/\t.r<=12/\0<=t.x/\t.x<2^t.z.toNat/\0<=t.y/\t.y<2^t.z.toNat:=by simpa [tis] using h
 have a:=p2 t.z.toNat (by omega);unfold Til.ok b7;omega
theorem alj (b:r<=12) (a:inW x y) (h:fv x y z r):qp z r:=fun i hi=>by
 have d:=h.1;have c:=ahr r i b hi;unfold inW at a;rw [r7,r6];omega
structure TilF (x y:Int) (t:Til) (Z:Ei) (s last:Int):Prop where
 b:0<=t.z/\t.z<=18/\0<=t.r/\t.r<=12
 w:inW x y
 k:okc t.r.toNat Z
 l:fv x y Z t.r.toNat
 h:qp Z t.r.toNat
 s1:4096<=s/\s<=1073741824
 l1:0<=last/\last<=262143
 same:awh Z t.r.toNat s last=ade Z t.r.toNat s last
 own:(t.x,t.y)∈ade Z t.r.toNat s last
theorem ax6 (x y z r:Int) (Z:Ei) (e:g9 (x%1073741824) (y%1073741824) (ag x y z r).r.toNat=Z):TilF (x%1073741824) (y%1073741824) (ag x y z r) Z (2^(30-(ag x y z r).z).toNat) (2^(ag x y z r).z.toNat-1):=by
 have b:=agr x y z r;have a:inW (x%1073741824) (y%1073741824):=by unfold inW; omega
 have hx:(ag x y z r).x=(x%1073741824)/2^(30-(ag x y z r).z).toNat:=rfl;have hy:(ag x y z r).y=(y%1073741824)/2^(30-(ag x y z r).z).toNat:=rfl;generalize ag x y z r=t at *;generalize x%1073741824=X at *;generalize y%1073741824=Y at *;have l:0<=t.z/\t.z<=18/\0<=t.r/\t.r<=12/\0<=t.x/\t.x<2^t.z.toNat/\0<=t.y/\t.y<2^t.z.toNat:=by simpa [tis] using b
 have q:=p2 t.z.toNat (by omega)
 have d:(2:Int)^t.z.toNat<=262144:=by
  have u:2^t.z.toNat<=2^18:=zbl (by decide) (by omega);have m:((2^t.z.toNat:Nat):Int)=(2:Int)^t.z.toNat:=by simp
  omega
 have g:=tz (show 0<=t.z/\t.z<=18 by omega);have c:fv X Y Z t.r.toNat:=by rw [<- e]; exact ayb X Y t.r.toNat (by omega)
 generalize p:(2:Int)^(30-t.z).toNat=s at *;have h:=Int.mul_ediv_add_emod X s;have w:=Int.emod_nonneg X (show s≠0 by omega);have v:=Int.emod_lt_of_pos X (show 0<s by omega);have j:=Int.mul_ediv_add_emod Y s;have o:=Int.emod_nonneg Y (show s≠0 by omega);have n:=Int.emod_lt_of_pos Y (show 0<s by omega);rw [<- hx,zax] at h;rw [<- hy,zax] at j;have f:=aky c (s:=s) (last:=2^t.z.toNat-1) (i:=t.x) (k:=t.y) (by omega) (by omega) (by omega) (by rw [zaq,Int.one_mul]; omega) (by rw [zaq,Int.one_mul]; omega);exact ⟨by omega,a,by rw [<- e]; exact ahj X Y t.r.toNat a.1 a.2 (by omega),c,alj (by omega) a c,g,by omega,f.1,f.2⟩

theorem adq (f:Nat->Int):∀k,0<k->∃j,j<k/\mnN f k=f j
 | 0,h=>by omega
 | 1,_=>⟨0,by omega,by rw [mnN,mnN]; omega⟩
 | k+2,_=>by
   obtain ⟨j,a,e⟩:=adq f (k+1) (by omega);rw [mnN];rcases zay (mnN f (k+1)) (f (k+1)) with h | h
   ·exact ⟨j,by omega,by omega⟩
   exact ⟨k+1,by omega,by omega⟩
theorem ado (f:Nat->Int):∀k,0<k->∃j,j<k/\mxN f k=f j
 | 0,h=>by omega
 | 1,_=>⟨0,by omega,by rw [mxN,mxN]; omega⟩
 | k+2,_=>by
   obtain ⟨j,a,e⟩:=ado f (k+1) (by omega);rw [mxN];rcases zay (mxN f (k+1)) (f (k+1)) with h | h
   ·exact ⟨k+1,by omega,by omega⟩
   exact ⟨j,by omega,by omega⟩
section
variable (X Y A B C:Nat->Int)
def sd (i:Nat) (x y:Int):Int:=A i*y-B i*x-C i
def Tch (lx ly ux uy:Int):Prop:=¬(mxN X 6<lx\/ux<mnN X 6)/\¬(mxN Y 6<ly\/uy<mnN Y 6) /\
 ∀i,i<6->¬(sd A B C i lx ly<0/\sd A B C i ux ly<0/\sd A B C i ux uy<0/\sd A B C i lx uy<0)
variable {X Y A B C}
theorem au3 (hc:∀i,i<6->∀j,j<6->0<=sd A B C i (X j) (Y j)) (hy:ly<=uy) (h:¬(mxN Y 6<ly\/uy<mnN Y 6)) :
 ∃P Q W:Int,0<W/\(∀i,i<6->0<=A i*Q-B i*P-C i*W)/\mnN X 6*W<=P/\P<=mxN X 6*W/\ly*W<=Q/\Q<=uy*W:=by
 obtain ⟨b,d,u⟩:=adq Y 6 (by decide);obtain ⟨a,c,v⟩:=ado Y 6 (by decide);have n:=adp X 6 b d;have p:=adp X 6 a c;have m:=adn X 6 b d;have o:=adn X 6 a c;by_cases r:ly<=Y b
 ·refine ⟨X b,Y b,1,by omega,fun i hi=>?_,by omega,by omega,by omega,by omega⟩;have:=hc i hi b d;unfold sd at this;omega
 by_cases c2:Y a<=uy
 ·refine ⟨X a,Y a,1,by omega,fun i hi=>?_,by omega,by omega,by omega,by omega⟩;have:=hc i hi a c;unfold sd at this;omega
 obtain ⟨s,q⟩:∃s,Y a-ly=s:=⟨_,rfl⟩
 obtain ⟨t,w⟩:∃t,ly-Y b=t:=⟨_,rfl⟩
 have k:0<=s:=by omega
 have l:0<=t:=by omega
 refine ⟨s*X b+t*X a,ly*(s+t),s+t,by omega,fun i hi=>?_,?_,?_,by omega,?_⟩
 ·have f:=zbi k (hc i hi b d);have g:=zbi l (hc i hi a c);unfold sd at f g
  have e:A i*(ly*(s+t))-B i*(s*X b+t*X a)-C i*(s+t)=s*(A i*Y b-B i*X b-C i)+t*(A i*Y a-B i*X a-C i):=by
   rw [show Y b=ly-t by omega,show Y a=ly+s by omega];simp only [zbe,Int.mul_sub,zaq,Int.sub_mul];simp only [zax,zbw,zbk];omega
  rw [e];omega
 ·have f:=zas n k;have g:=zas p l;rw [zbe,zax _ s,zax _ t];omega
 ·have f:=zas m k;have g:=zas o l;rw [zbe,zax _ s,zax _ t];omega
 exact zba hy (by omega)
theorem ah8 {W Q:Int} (b:0<W) (g:ly*W<=Q) (f:Q<=uy*W) (c:a*ly+k<0) (i:a*uy+k<0):a*Q+k*W<0:=by
 have e:=zby c b;have d:=zby i b;rw [Int.zero_mul,zaq,zbk] at e d;rcases zay 0 a with h | h
 ·have:=zas f h;omega
 have:=zbh h g;omega
theorem afa (hc:∀i,i<6->∀j,j<6->0<=sd A B C i (X j) (Y j)) (y:lx<=m) (x:m<=ux) (hy:ly<=uy) (w:Tch X Y A B C lx ly ux uy) :
 Tch X Y A B C lx ly m uy\/Tch X Y A B C m ly ux uy:=by
 obtain ⟨I,h,t⟩:=w;obtain ⟨P,Q,W,e,q,x1,x2,y1,y2⟩:=au3 hc hy h;apply Classical.byContradiction;intro s;rw [not_or] at s;obtain ⟨r,p⟩:=s
 have H:m*W<P:=by
  unfold Tch at r;by_cases c:mxN X 6<lx\/m<mnN X 6
  ·have c':m<mnN X 6:=by omega
   have:=zby c' e;omega
  have:∃i,i<6/\(sd A B C i lx ly<0/\sd A B C i m ly<0/\sd A B C i m uy<0/\sd A B C i lx uy<0):=by
   apply Classical.byContradiction;intro l;exact r ⟨c,h,fun i hi n=>l ⟨i,hi,n⟩⟩
  obtain ⟨i,hi,v,F,E,D⟩:=this;have u:=t i hi;have g:=q i hi;unfold sd at *
  have f:B i<0:=by
   rcases zbo (B i) 0 with b | b
   ·exact b
   have:=zas x b;omega
  rcases zbo (m*W) P with d | d
  ·exact d
  have z:=zbh (zaw f) d;have o:=ah8 (a:=A i) (k:=- B i*m-C i) e y1 y2 (by rw [zar]; omega) (by rw [zar]; omega);rw [Int.sub_mul,zar,zar,zbk] at o;omega
 have G:P<m*W:=by
  unfold Tch at p;by_cases c:mxN X 6<m\/ux<mnN X 6
  ·have c':mxN X 6<m:=by omega
   have:=zby c' e;omega
  have:∃i,i<6/\(sd A B C i m ly<0/\sd A B C i ux ly<0/\sd A B C i ux uy<0/\sd A B C i m uy<0):=by
   apply Classical.byContradiction;intro l;exact p ⟨c,h,fun i hi n=>l ⟨i,hi,n⟩⟩
  obtain ⟨i,hi,v,F,E,D⟩:=this;have u:=t i hi;have g:=q i hi;unfold sd at *
  have f:0<B i:=by
   rcases zbo 0 (B i) with b | b
   ·exact b
   have:=zbh b y;omega
  rcases zbo P (m*W) with d | d
  ·exact d
  have z:=zas d (zaw f);have o:=ah8 (a:=A i) (k:=- B i*m-C i) e y1 y2 (by rw [zar]; omega) (by rw [zar]; omega);rw [Int.sub_mul,zar,zar,zbk] at o;omega
 omega
end

def eA (r i:Nat):Int:=kx r ((i+1)%6)-kx r i
def eB (r i:Nat):Int:=ky r ((i+1)%6)-ky r i
def eC (z:Ei) (r i:Nat):Int:=eA r i*hy z r i-eB r i*hx z r i
theorem aub:∀r,r<13->∀i,i<6->∀j,j<6->0<=eA r i*(ky r j-ky r i)-eB r i*(kx r j-kx r i):=by decide +kernel
theorem aov (a:r<13):∀i,i<6->∀j,j<6->0<=sd (eA r) (eB r) (eC z r) i (hx z r j) (hy z r j):=fun i hi j b=>by
 have:=aub r a i hi j b;unfold sd eC;rw [r7 z r j,r7 z r i,r6 z r j,r6 z r i,zbe,zbe,zbe,zbe];rw [Int.mul_sub,Int.mul_sub] at this;omega
theorem mg:s9 z r lx ly ux uy=true↔Tch (hx z r) (hy z r) (eA r) (eB r) (eC z r) lx ly ux uy:=by
 unfold s9 Tch;rw [Bool.and_eq_true,zbs,decide_eq_false_iff_not,List.all_eq_true];unfold gh;simp only [zbs,decide_eq_false_iff_not,zbn,ye,aor];unfold sd eC eA eB;rw [not_or,and_assoc]
theorem ab5 {X Y A B C:Nat->Int}:Tch X Y A B C lx ly ux uy↔Tch Y X (fun i=>- B i) (fun i=>- A i) C ly lx uy ux:=by
 unfold Tch sd;simp only [zar];constructor
 ·rintro ⟨c,b,a⟩;exact ⟨b,c,fun i hi d=>a i hi (by omega)⟩
 rintro ⟨c,b,a⟩;exact ⟨b,c,fun i hi d=>a i hi (by omega)⟩
theorem asm (a:r<13) (c:lx<=m) (b:m<=ux) (hy:ly<=uy) (h:s9 z r lx ly ux uy=true):s9 z r lx ly m uy=true\/s9 z r m ly ux uy=true:=by
 rw [mg] at h |-;rw [mg];exact afa (aov a) c b hy h
theorem asl (b:r<13) (d:ly<=m) (c:m<=uy) (a:lx<=ux) (h:s9 z r lx ly ux uy=true):s9 z r lx ly ux m=true\/s9 z r lx m ux uy=true:=by
 have hc:∀i,i<6->∀j,j<6->0<=sd (fun i=>- eB r i) (fun i=>- eA r i) (eC z r) i (hy z r j) (hx z r j):=fun i hi j e=>by
  have:=aov (z:=z) b i hi j e;unfold sd at *;rw [zar,zar];omega
 rcases afa hc d c a (ab5.1 (mg.1 h)) with h | h
 ·exact .inl (mg.2 (ab5.2 h))
 exact .inr (mg.2 (ab5.2 h))

def ur:Mk P0 f51:={ x:=_ }
def zd:Mk P0 f25:={ x:=_ }
theorem axw (w i:Nat) (a:w<18446744073709551616) (hi:1<=i/\i<=12):a9 P0 51 [uw w,int .i64 i] [] (uw (dgt w i)) []:=by
 refine ur.t func51 ?_;have b:IntKind.i64.wrap ((i:Int)-1)=(i:Int)-1:=a5 (by omega);have c:IntKind.i64.wrap (3*((i:Int)-1))=3*((i:Int)-1):=a5 (by omega);have f:IntKind.i64.wrap (33-3*((i:Int)-1))=36-3*(i:Int):=by rw [a5 (by omega)]; omega
 have e:IntKind.u64.wrap (36-3*(i:Int))=36-3*(i:Int):=by simp [IntKind.wrap,IntKind.bits,IntKind.signed]; omega
 have d:IntKind.u64.wrap (zap IntKind.u64.bits ((w:Int).fdiv (2^min (36-3*(i:Int)).toNat IntKind.u64.bits)) &&& zap IntKind.u64.bits 7).toNat=(dgt w i:Int):=by
  rw [aa8 (k:=36-3*i) (n:=3) (by omega) (by omega) (by decide) (by decide) a];rw [show 2^(36-3*i)=8^(12-i) by rw [show (8:Nat)=2^3 from rfl,<- Nat.pow_mul]; congr 1; omega]
  rfl
 push_cast [ur,uw,b,c,f,e,d,zab]
 omega
theorem atx (w:Nat) (o:w<18446744073709551616) (K:aht w=true):a9 P0 25 [uw w] [] (.tup [cel (an w) (ai w (an w)),int .i64 0]) []:=by
 refine zd.t func25 ?_;obtain ⟨P,R,H⟩:=(ahs w).1 K
 have I:(w:Int).fdiv (2^min (zan 60) IntKind.u64.bits)=1:=by
  have:(w:Int).fdiv (2^min (zan 60) IntKind.u64.bits)=((w/1152921504606846976:Nat):Int):=au9 (k:=60) rfl (by decide);rw [this,P]; rfl
 have J:IntKind.i64.wrap (IntKind.u64.wrap (zap IntKind.u64.bits ((w:Int).fdiv (2^min (zan 56) IntKind.u64.bits)) &&& zap IntKind.u64.bits 15).toNat)=(an w:Int):=by
  rw [aa8 (k:=56) (n:=4) rfl (by decide) (by decide) (by decide) o];exact a5 (by omega)
 have F:IntKind.i64.wrap (IntKind.i64.wrap (IntKind.u64.wrap (zap IntKind.u64.bits ((w:Int).fdiv (2^min (zan 46) IntKind.u64.bits)) &&& zap IntKind.u64.bits 1023).toNat)-512)=(ai w 0).a:=by
  rw [aa8 (k:=46) (n:=10) rfl (by decide) (by decide) (by decide) o,show ∀x:Nat,x<1024->IntKind.i64.wrap (IntKind.i64.wrap (x:Int)-512)=x-512 from fun x hx=>by rw [a5 (x:=(x:Int)) (by omega),a5 (by omega)]]
  ·rfl
  omega
 have G:IntKind.i64.wrap (IntKind.i64.wrap (IntKind.u64.wrap (zap IntKind.u64.bits ((w:Int).fdiv (2^min (zan 36) IntKind.u64.bits)) &&& zap IntKind.u64.bits 1023).toNat)-512)=(ai w 0).b:=by
  rw [aa8 (k:=36) (n:=10) rfl (by decide) (by decide) (by decide) o,show ∀x:Nat,x<1024->IntKind.i64.wrap (IntKind.i64.wrap (x:Int)-512)=x-512 from fun x hx=>by rw [a5 (x:=(x:Int)) (by omega),a5 (by omega)]]
  ·rfl
  omega
 have M:((1:Int) != 1)=false:=rfl;have N:decide ((an w:Int)>12)=false:=by simp; omega
 simp only [zd,uw,I,J,F,G,M,N,push_cast,↓reduceIte,reduceCtorEq,zB,zE,zA,zS,zL,zD,zM]
 repeat refine And.intro (by first | decide | omega | exact fun _=>by decide | (simp +contextual; done) | kernel_rfl) ?_
 clear I J F G
 refine c9 [(6,false),(0,false),(4,false),(5,false),(2,false)] (fun vs pos f=>∃i:Nat,(1<=i/\i<=13)/\vs=[int .i64 i,int .u64 w,int .i64 (an w),.ptr 2000000 0 0,.ptr 2000001 0 0]/\pos=[]/\f=[.box [int .i64 (min (i-1) (an w):Nat),int .i64 (ai w (min (i-1) (an w))).a,int .i64 (ai w (min (i-1) (an w))).b],.box [int .i64 0,int .i64 0,int .i64 0]])
  (fun vs _ _=>match vs with | .r (.v (.int _ j))::_=>(13-j).toNat | _=>0) rfl ?_ ?_
 ·simp only [push_cast,↓reduceIte,reduceCtorEq,zB,zE,zA,zS,zL,zD,zM];refine ⟨1,by omega,rfl,?_⟩;rw [show min (1-1) (an w)=0 by omega]
  rfl
 rintro vs pos f ⟨i,s,rfl,rfl,rfl⟩;obtain ⟨h,z⟩:∃h,min (i-1) (an w)=h:=⟨_,rfl⟩
 rw [z];simp only [push_cast,↓reduceIte,reduceCtorEq,zB,zE,zA,zS,zL,zD,zM];refine b8 (fun hi=>?_) (fun hi=>?_)
 ·have hi:i<=12:=by simp at hi; omega
  have L:dgt w i<8:=Nat.mod_lt _ (by decide);have m:IntKind.i64.wrap ((i:Int)+1)=(i:Int)+1:=a5 (by omega);simp only [push_cast,↓reduceIte,reduceCtorEq,zB,zE,zA,zS,zL,zD,zM];refine b5 (as':=[uw w,int .i64 i]) rfl ?_;refine a7 (axw w i o ⟨s.1,hi⟩) rfl trivial ?_;by_cases hc:an w<i
  ·have l:=(H i s.1 hi).2 hc;have p:(((7:Nat):Int) == 7)=true:=rfl;have u:((7:Int) == 7)=true:=rfl;have D:decide ((i:Int)>(an w:Int))=true:=by simp; omega
   have C:(true != true)=false:=rfl;rw [l];simp only [uw,p,u,D,C,m,push_cast,↓reduceIte,reduceCtorEq,zB,zE,zA,zS,zL,zD,zM];refine ⟨⟨i+1,by omega,rfl,?_⟩,by omega⟩;rw [show min (i+1-1) (an w)=h by omega]
  have l:dgt w i≠7:=fun e=>hc ((H i s.1 hi).1 e);obtain rfl:h=i-1:=by omega
  have p:((dgt w i:Int) == 7)=false:=by simp; omega
  have D:decide ((i:Int)>(an w:Int))=false:=by simp; omega
  have C:(false != false)=false:=rfl;have E:=akg w (i-1) (by omega);have y:=akg w i hi;have g:((ai w (i-1)).mul r9).In 10000000000000:=(rc E (show r9.In 2 by unfold Ei.In; decide)).mono (by decide)
  have c:ai w i=tr (ai w (i-1)) (dgt w i):=by
   conv=>lhs; rw [show i=i-1+1 by omega]
   rw [ai,show i-1+1=i by omega]
  simp only [uw,p,D,C,m,push_cast,↓reduceIte,reduceCtorEq,zB,zE,zA,zS,zL,zD,zM];refine b5 (as':=[(ai w (i-1)).v,r9.v]) rfl ?_;refine a7 (xl _ _ (E.mono (by decide)) (show r9.In _ by unfold Ei.In; decide) (g.mono (by decide))) rfl trivial ?_;simp only [Ei.v,Ei.rv,push_cast,↓reduceIte,reduceCtorEq,zB,zE,zA,zS,zL,zD,zM];refine b8 (fun B=>?_) (fun B=>?_)
  ·have A:0<dgt w i:=by simp at B; omega
   have O:IntKind.i64.wrap (dgt w i:Int)=(dgt w i:Int):=a5 (by omega);have q:IntKind.i64.wrap ((dgt w i:Int)-1)=(dgt w i:Int)-1:=a5 (by omega)
   have d:tr (ai w (i-1)) (dgt w i)=((ai w (i-1)).mul r9).add (uni (dgt w i-1)):=by
    unfold tr;rw [if_neg (by omega)]
   rw [d] at c;simp only [O,q,push_cast,↓reduceIte,reduceCtorEq,zB,zE,zA,zS,zL,zD,zM];refine c8 (akc ((dgt w i:Int)-1) (by omega)) rfl trivial ?_;rw [show ((dgt w i:Int)-1).toNat=dgt w i-1 by omega];have Q:(uni (dgt w i-1)).In 1:=by unfold uni; split<;>unfold Ei.In<;>decide
   simp only [Ei.v,Ei.rv,push_cast,↓reduceIte,reduceCtorEq,zB,zE,zA,zS,zL,zD,zM];refine j8 (as':=[((ai w (i-1)).mul r9).v,(uni (dgt w i-1)).v]) rfl ?_;refine c8 (aom _ _ (g.mono (by decide)) (Q.mono (by decide)) (by rw [<- c]; exact y.mono (by decide))) rfl trivial ?_;rw [<- c];simp only [m,Ei.v,Ei.rv,push_cast,↓reduceIte,reduceCtorEq,zB,zE,zA,zS,zL,zD,zM]
   repeat refine And.intro (by first | decide | omega | exact fun _=>by decide | (simp +contextual; done) | kernel_rfl) ?_
   refine ⟨⟨i+1,by omega,rfl,?_⟩,by omega⟩;rw [show min (i+1-1) (an w)=i by omega]
  have A:dgt w i=0:=by simp at B; omega
  have d:tr (ai w (i-1)) (dgt w i)=(ai w (i-1)).mul r9:=by
   unfold tr;rw [if_pos (by omega)]
  rw [d] at c;simp only [m,push_cast,↓reduceIte,reduceCtorEq,zB,zE,zA,zS,zL,zD,zM];refine ⟨⟨i+1,by omega,rfl,?_⟩,by omega⟩;rw [show min (i+1-1) (an w)=i by omega,c]
 have hi:i=13:=by simp at hi; omega
 subst hi;obtain rfl:h=an w:=by omega
 simp only [cel,push_cast,↓reduceIte,reduceCtorEq,zB,zE,zA,zS,zL,zD,zM]

def rj:Mk P0 f123:={ x:=_ }
def oc:Mk P0 f124:={ x:=_ }
def iz:Mk P0 f125:={ x:=_ }
abbrev P2:=Int×Int
def pv2 (p:P2):AV:=.r (pnt p.1 p.2)
structure Lin where
 axis:Int
 at':Int
 above:Bool
def Lin.v (l:Lin):AV:=.r (.agg [.v (.int .i64 l.axis),.v (.int .i64 l.at'),.v (.bool l.above)])
def Lin.ok (l:Lin):Prop:=l.axis=0\/l.axis=1
def sel (a:Int) (p:P2):Int:=if a=0 then p.1 else p.2
def m6 (l:Lin) (p:P2):Bool:=if l.above then decide (sel l.axis p>=l.at') else decide (sel l.axis p<=l.at')
def am (l:Lin) (p q:P2):Bool:=(decide (sel l.axis p<l.at')&&decide (l.at'<sel l.axis q))||(decide (sel l.axis q<l.at')&&decide (l.at'<sel l.axis p))
def m8 (l:Lin) (p q:P2):P2:=
 let d:=sel l.axis q-sel l.axis p
 let e:=(sel (1-l.axis) q-sel (1-l.axis) p)*(l.at'-sel l.axis p)
 let n:=if d<0 then (-e)/(-d) else if 0<d then e/d else 0
 if l.axis=0 then (l.at',p.2+n) else (p.1+n,l.at')
theorem axz (a b c d:Bool):(bif bif a then b else false then true else bif c then d else false)=(a&&b||c&&d):=by cases a<;>cases b<;>cases c<;>cases d<;>rfl
theorem aj3 (l:Lin) (e:l.ok) (p:P2):a9 P0 123 [l.v,pv2 p] [] (bl (m6 l p)) []:=by
 refine rj.t func123 ?_;obtain ⟨a,c,b⟩:=l;have d:decide ((0:Nat)<2)=true:=rfl;rcases e with rfl | rfl<;>cases b<;>push_cast [rj,Lin.v,pv2,pnt,m6,sel,zae,zad,Int.reduceEq,zac,if_true,if_false,zbd,zab]
 all_goals (repeat refine And.intro (by first | decide | omega | exact fun _=>by decide | (simp +contextual; done) | kernel_rfl) ?_)
 all_goals first | done | kernel_rfl | rfl
theorem afz (l:Lin) (d:l.ok) (p q:P2):a9 P0 124 [l.v,pv2 p,pv2 q] [] (bl (am l p q)) []:=by
 refine oc.t func124 ?_;obtain ⟨a,c,b⟩:=l;rcases d with rfl | rfl<;>push_cast [oc,Lin.v,pv2,pnt,am,sel,zae,zad,Int.reduceEq,zac,if_true,if_false,zbd,zab]
 all_goals (repeat refine And.intro (by first | decide | omega | exact fun _=>by decide | (simp +contextual; done) | kernel_rfl) ?_)
 all_goals exact ⟨fun h=>by rw [h]; rfl,by rw [axz]⟩
theorem akj (l:Lin) (M:l.ok) (p q:P2) (hc:-9007199254740992<=l.at'/\l.at'<=9007199254740992) (N:(-1099511627776<=p.1/\p.1<=1099511627776)/\(-1099511627776<=p.2/\p.2<=1099511627776))
 (O:(-1073741824<=q.1-p.1/\q.1-p.1<=1073741824)/\(-1073741824<=q.2-p.2/\q.2-p.2<=1073741824)) (L:am l p q=true) :
 a9 P0 125 [l.v,pv2 p,pv2 q] [] (pv2 (m8 l p q)) []:=by
 refine iz.t func125 ?_;obtain ⟨a,c,b⟩:=l;obtain ⟨f,g⟩:=p;obtain ⟨j,i⟩:=q;simp only at hc N O;rcases M with h | h<;>simp only at h<;>subst h
 ·have H:(f<c/\c<j)\/(j<c/\c<f):=by simpa [am,sel] using L
  have s:IntKind.i64.wrap (1-0)=1:=rfl;obtain ⟨d,E⟩:∃d,j-f=d:=⟨_,rfl⟩
  have K:IntKind.i64.wrap (j-f)=d:=by rw [a5 (by omega)]; exact E
  have J:IntKind.i64.wrap (i-g)=i-g:=a5 (by omega);have F:IntKind.i64.wrap (c-f)=c-f:=a5 (by omega);have G:=z3 (x:=i-g) (y:=c-f) (n:=1073741824) (m:=1073741824) (by omega) (by omega);obtain ⟨e,B⟩:∃e,(i-g)*(c-f)=e:=⟨_,rfl⟩
  rw [B] at G;have I:IntKind.i64.wrap ((i-g)*(c-f))=e:=by rw [B]; exact a5 (by omega)
  have z:m8 ⟨0,c,b⟩ (f,g) (j,i)=(c,g+(if j-f<0 then (-((i-g)*(c-f)))/(-(j-f)) else if 0<j-f then ((i-g)*(c-f))/(j-f) else 0)):=rfl;rw [z,B,E];have C:IntKind.i64.wrap (0-e)=-e:=by rw [a5 (by omega)]; omega
  have D:IntKind.i64.wrap (0-d)=-d:=by rw [a5 (by omega)]; omega
  simp only [iz,Lin.v,pv2,pnt,s,K,J,F,I,zae,zad,zac,push_cast,↓reduceIte,reduceCtorEq,zB,zE,zA,zS,zL,zD,zM]
  repeat refine And.intro (by first | decide | omega | exact fun _=>by decide | (simp +contextual; done) | kernel_rfl) ?_
  refine b8 (fun A=>?_) (fun A=>?_)
  ·have o:d<0:=by simpa using A
   have r:=go (-e) (-d) (by unfold b7; omega) (by unfold b7; omega);rw [if_pos (by omega),if_pos (by omega)] at r;rw [if_pos o];have u:=zbz (-e) (-d);have w:IntKind.i64.wrap (g+(-e)/(-d))=g+(-e)/(-d):=a5 (by omega);simp only [C,D,push_cast,↓reduceIte,reduceCtorEq,zB,zE,zA,zS,zL,zD,zM];refine a7 r rfl trivial ?_;simp only [w,s,zae,zad,zac,push_cast,↓reduceIte,reduceCtorEq,zB,zE,zA,zS,zL,zD,zM]
   repeat refine And.intro (by first | decide | omega | exact fun _=>by decide | (simp +contextual; done) | kernel_rfl) ?_
   first | done | rfl | kernel_rfl
  have o:¬d<0:=by simpa using A
  have k:0<d:=by omega
  have r:=go e d (by unfold b7; omega) (by unfold b7; omega);rw [if_pos k,if_pos k] at r;rw [if_neg o,if_pos k];have u:=zbz e d;have w:IntKind.i64.wrap (g+e/d)=g+e/d:=a5 (by omega);simp only [C,D,push_cast,↓reduceIte,reduceCtorEq,zB,zE,zA,zS,zL,zD,zM];refine a7 r rfl trivial ?_;simp only [w,s,zae,zad,zac,push_cast,↓reduceIte,reduceCtorEq,zB,zE,zA,zS,zL,zD,zM]
  repeat refine And.intro (by first | decide | omega | exact fun _=>by decide | (simp +contextual; done) | kernel_rfl) ?_
  first | done | rfl | kernel_rfl
 have H:(g<c/\c<i)\/(i<c/\c<g):=by simpa [am,sel] using L
 have s:IntKind.i64.wrap (1-1)=0:=rfl;obtain ⟨d,E⟩:∃d,i-g=d:=⟨_,rfl⟩
 have K:IntKind.i64.wrap (i-g)=d:=by rw [a5 (by omega)]; exact E
 have J:IntKind.i64.wrap (j-f)=j-f:=a5 (by omega);have F:IntKind.i64.wrap (c-g)=c-g:=a5 (by omega);have G:=z3 (x:=j-f) (y:=c-g) (n:=1073741824) (m:=1073741824) (by omega) (by omega);obtain ⟨e,B⟩:∃e,(j-f)*(c-g)=e:=⟨_,rfl⟩
 rw [B] at G;have I:IntKind.i64.wrap ((j-f)*(c-g))=e:=by rw [B]; exact a5 (by omega)
 have z:m8 ⟨1,c,b⟩ (f,g) (j,i)=(f+(if i-g<0 then (-((j-f)*(c-g)))/(-(i-g)) else if 0<i-g then ((j-f)*(c-g))/(i-g) else 0),c):=rfl;rw [z,B,E];have C:IntKind.i64.wrap (0-e)=-e:=by rw [a5 (by omega)]; omega
 have D:IntKind.i64.wrap (0-d)=-d:=by rw [a5 (by omega)]; omega
 simp only [iz,Lin.v,pv2,pnt,s,K,J,F,I,zae,zad,zac,push_cast,↓reduceIte,reduceCtorEq,zB,zE,zA,zS,zL,zD,zM]
 repeat refine And.intro (by first | decide | omega | exact fun _=>by decide | (simp +contextual; done) | kernel_rfl) ?_
 refine b8 (fun A=>?_) (fun A=>?_)
 ·have o:d<0:=by simpa using A
  have r:=go (-e) (-d) (by unfold b7; omega) (by unfold b7; omega);rw [if_pos (by omega),if_pos (by omega)] at r;rw [if_pos o];have u:=zbz (-e) (-d);have w:IntKind.i64.wrap (f+(-e)/(-d))=f+(-e)/(-d):=a5 (by omega);simp only [C,D,push_cast,↓reduceIte,reduceCtorEq,zB,zE,zA,zS,zL,zD,zM];refine a7 r rfl trivial ?_;simp only [w,s,zae,zad,zac,push_cast,↓reduceIte,reduceCtorEq,zB,zE,zA,zS,zL,zD,zM]
  repeat refine And.intro (by first | decide | omega | exact fun _=>by decide | (simp +contextual; done) | kernel_rfl) ?_
  first | done | rfl | kernel_rfl
 have o:¬d<0:=by simpa using A
 have k:0<d:=by omega
 have r:=go e d (by unfold b7; omega) (by unfold b7; omega);rw [if_pos k,if_pos k] at r;rw [if_neg o,if_pos k];have u:=zbz e d;have w:IntKind.i64.wrap (f+e/d)=f+e/d:=a5 (by omega);simp only [C,D,push_cast,↓reduceIte,reduceCtorEq,zB,zE,zA,zS,zL,zD,zM];refine a7 r rfl trivial ?_;simp only [w,s,zae,zad,zac,push_cast,↓reduceIte,reduceCtorEq,zB,zE,zA,zS,zL,zD,zM]
 repeat refine And.intro (by first | decide | omega | exact fun _=>by decide | (simp +contextual; done) | kernel_rfl) ?_
 first | done | rfl | kernel_rfl

def ad6:Mk P0 f65:={ x:=_ }
def uz:Mk P0 f96:={ x:=_ }
def ptR (p:P2):RV:=pnt p.1 p.2
def a8 (l:List P2):AV:=.r (.sl 2 (l.map ptR))
def yy (l:List P2):Prop:=l.length<=100/\(∀p∈l,(-1099511627776<=p.1/\p.1<=1099511627776)/\(-1099511627776<=p.2/\p.2<=1099511627776)) /\
 ∀p∈l,∀q∈l,(-1073741824<=q.1-p.1/\q.1-p.1<=1073741824)/\(-1073741824<=q.2-p.2/\q.2-p.2<=1073741824)
variable {l:List P2} {p:P2}
theorem v6 {i:Nat} (h:l[i]?=some p) (z:RV):(l.map ptR).getD ((i:Int)).toNat z=.agg [.v (.int .i64 p.1),.v (.int .i64 p.2)]:=by
 simp [List.getD,h,ptR,pnt]
theorem u6 {i:Nat} (h:l[i]?=some p) (z:RV):(l.map ptR).getD (0+((i:Int)).toNat) z=.agg [.v (.int .i64 p.1),.v (.int .i64 p.2)]:=by rw [zac]; exact v6 h z
theorem arz (l:List P2) (h:yy l):a9 P0 65 [a8 l] [] (bl true) []:=by
 obtain ⟨X,K,F⟩:=h;refine ad6.t func65 ?_;have O:decide ((l.length:Int)>100)=false:=by simp; omega
 push_cast [ad6,a8,zaa,O,zab]
 refine c9 [(11,false),(0,false)] (fun vs pos b=>∃a:Nat,a<=2/\vs=[int .i64 a,a8 l]/\pos=[]/\b=[])
  (fun vs _ _=>match vs with | .r (.v (.int _ a))::_=>(2-a).toNat | _=>0) rfl ?_ ?_
 ·push_cast [a8]
  exact ⟨0,by omega,rfl⟩
 rintro vs pos b ⟨a,W,rfl,rfl,rfl⟩
 push_cast [a8,zaa]
 refine b8 (fun hc=>?_) (fun hc=>?_)
 ·have E:a<2:=by simp at hc; omega
  have G:IntKind.i64.wrap ((a:Int)+1)=(a:Int)+1:=a5 (by omega)
  push_cast [a8,zaa]
  refine c9 [(16,false),(14,false),(15,false),(3,false),(11,false),(0,false)] (fun vs pos b=>∃k:Nat,k<=l.length/\vs=[int .i64 k,a8 l,int .i64 l.length,int .i64 a,int .i64 a,a8 l]/\pos=[]/\b=[])
   (fun vs _ _=>match vs with | .r (.v (.int _ a))::_=>(l.length-a).toNat | _=>0) rfl ?_ ?_
  ·push_cast [a8]
   exact ⟨0,by omega,rfl⟩
  rintro vs pos b ⟨k,V,rfl,rfl,rfl⟩
  push_cast [a8,zaa]
  refine b8 (fun B=>?_) (fun B=>?_)
  ·have d:k<l.length:=by simpa using B
   obtain ⟨p,s⟩:∃p,l[k]?=some p:=⟨l[k],by simp [d]⟩
   have f:=zak s;have e:=K p f;have R:IntKind.i64.wrap ((k:Int)+1)=(k:Int)+1:=a5 (by omega)
   have g:∀(x y:Int) (z:AV),[AV.r (.v (.int .i64 x)),AV.r (.v (.int .i64 y))].getD (0+((a:Int)).toNat*1) z=.r (.v (.int .i64 (if a=0 then x else y))):=fun x y z=>by
    rcases (show a=0\/a=1 by omega) with rfl | rfl<;>rfl
   have c:∀(x y:Int) (z:AV),[AV.r (.v (.int .i64 x)),AV.r (.v (.int .i64 y))].getD ((a:Int)).toNat z=.r (.v (.int .i64 (if a=0 then x else y))):=fun x y z=>by
    rcases (show a=0\/a=1 by omega) with rfl | rfl<;>rfl
   obtain ⟨P,m⟩:∃P,(if a=0 then p.1 else p.2)=P:=⟨_,rfl⟩
   have D:-1099511627776<=P/\P<=1099511627776:=by rw [<- m]; split; exact e.1; exact e.2
   have N:decide (P < -1099511627776)=false:=by simp; omega
   have L:decide (P>1099511627776)=false:=by simp; omega
   have U:((k:Int)-0).toNat=k:=by omega
   push_cast [a8,zaa,v6 s,u6 s,g,c,m,N,L]
   repeat refine And.intro (by first | decide | omega | exact fun _=>by decide | (simp +contextual; done) | kernel_rfl) ?_
   refine c9 [(35,false),(33,false),(34,false),(5,false),(16,false),(14,false),(15,false),(3,false),(11,false),(0,false)] (fun vs pos b=>∃j:Nat,j<=k/\vs=[int .i64 j,a8 (l.take k),int .i64 k,.ptr 2000000 0 0,int .i64 k,a8 l,int .i64 l.length,int .i64 a,int .i64 a,a8 l]/\pos=[]/\b=[.box [int .i64 p.1,int .i64 p.2]])
    (fun vs _ _=>match vs with | .r (.v (.int _ a))::_=>(k-a).toNat | _=>0) rfl ?_ ?_
   ·push_cast [a8,zca,zaa,List.map_take,zag,zae,List.drop_zero,zbr (Nat.le_of_lt d)]
    exact ⟨0,by omega,by simp⟩
   rintro vs pos b ⟨j,Y,rfl,rfl,rfl⟩
   push_cast [a8,zaa]
   refine b8 (fun A=>?_) (fun A=>?_)
   ·have o:j<k:=by simpa using A
    have M:j<(l.take k).length:=by simp; omega
    obtain ⟨q,u⟩:∃q,(l.take k)[j]?=some q:=⟨(l.take k)[j],by simp [o,show j<l.length by omega]⟩
    have n:=List.mem_of_mem_take (zak u);have i:=F p f q n;have T:IntKind.i64.wrap ((j:Int)+1)=(j:Int)+1:=a5 (by omega);obtain ⟨Q,w⟩:∃Q,(if a=0 then q.1 else q.2)=Q:=⟨_,rfl⟩
    have H:-1073741824<=Q-P/\Q-P<=1073741824:=by rw [<- w,<- m]; split; exact i.1; exact i.2
    have I:IntKind.i64.wrap (P-Q)=P-Q:=a5 (by omega);have J:IntKind.i64.wrap (Q-P)=Q-P:=a5 (by omega);have S:decide (P-Q>1073741824)=false:=by simp; omega
    have C:decide (Q-P>1073741824)=false:=by simp; omega
    push_cast [a8,zaa,zca,zbr (Nat.le_of_lt d),v6 u,u6 u,g,c,m,w,I,J,S,C,T]
    repeat refine And.intro (by first | decide | omega | exact fun _=>by decide | (simp +contextual; done) | kernel_rfl) ?_
    exact ⟨⟨j+1,by omega,by simp⟩,by omega⟩
   push_cast [a8,zaa,R]
   exact ⟨⟨k+1,by omega,by simp⟩,by omega⟩
  push_cast [a8,zaa,G]
  exact ⟨⟨a+1,by omega,rfl⟩,by omega⟩
 push_cast [a8,zaa]

def kk (l:Lin) (p q:P2):List P2:=(if m6 l p then [p] else [])++(if am l p q then [m8 l p q] else [])
def ngh (rg:List P2) (i:Nat):P2:=rg.getD ((i+1)%rg.length) (0,0)
def q7 (l:Lin) (rg:List P2):Nat->List P2
 | 0=>[]
 | i+1=>q7 l rg i++kk l (rg.getD i (0,0)) (ngh rg i)
def p6 (l:Lin) (rg:List P2):List P2:=q7 l rg rg.length
theorem yq (l:Lin) (rg:List P2):∀i,(q7 l rg i).length<=2*i
 | 0=>by simp [q7]
 | i+1=>by
   have:=yq l rg i;rw [q7,zal];unfold kk;rw [zal];split<;>split<;>simp<;>omega
abbrev j7 (o:List P2):Ob:=.row 2 (pnt 0 0) true true (o.map ptR)
theorem n5 (o:List P2):List.take o.length (o.map ptR)=o.map ptR:=zcb (by simp)
variable {res:AV} {ro:List Ob}
theorem asa (l:Lin) (D:l.ok) (hc:-9007199254740992<=l.at'/\l.at'<=9007199254740992) (rg:List P2) (h:yy rg)
 (w:(p6 l rg=[]/\res=.nils 2 (pnt 0 0)/\ro=[])\/(p6 l rg≠[]/\res=.own 1000000 0 0 (p6 l rg).length/\ro=[j7 (p6 l rg)])) :
 a9 P0 96 [l.v,a8 rg] [] res ro:=by
 obtain ⟨L,I,H⟩:=h;refine uz.t func96 ?_;have K:=ep
 push_cast [uz,a8,Lin.v,zaa,zab]
 refine c9 [(11,false),(9,false),(10,false),(2,false),(1,false),(5,false)] (fun vs pos x=>∃i:Nat,i<=rg.length/\pos=[] /\
  (q7 l rg i=[]/\vs=[int .i64 i,a8 rg,int .i64 rg.length,.ptr 2000000 0 0,a8 rg,.nils 2 (pnt 0 0)]/\x=[.box [int .i64 l.axis,int .i64 l.at',bl l.above]] \/
   q7 l rg i≠[]/\vs=[int .i64 i,a8 rg,int .i64 rg.length,.ptr 2000000 0 0,a8 rg,.own 2000001 0 0 (q7 l rg i).length]/\x=[.box [int .i64 l.axis,int .i64 l.at',bl l.above],j7 (q7 l rg i)]))
  (fun vs _ _=>match vs with | .r (.v (.int _ a))::_=>(rg.length-a).toNat | _=>0) rfl ?_ ?_
 ·push_cast [a8,pnt]
  exact ⟨0,by omega,.inl ⟨rfl,by simp⟩⟩
 rintro vs pos x ⟨i,hi,rfl,⟨f,rfl,rfl⟩ | ⟨f,rfl,rfl⟩⟩
 ·have F:=yq l rg i
  push_cast [a8,pnt,zaa]
  refine b8 (fun B=>?_) (fun B=>?_)
  ·have e:i<rg.length:=by simpa using B
   obtain ⟨p,s⟩:∃p,rg[i]?=some p:=⟨rg[i],by simp [e]⟩
   obtain ⟨J,z⟩:∃J,(i+1)%rg.length=J:=⟨_,rfl⟩
   have C:J<rg.length:=by rw [<- z]; exact Nat.mod_lt _ (by omega)
   obtain ⟨q,u⟩:∃q,rg[J]?=some q:=⟨rg[J],by simp [C]⟩
   have c:rg.getD i (0,0)=p:=by rw [zaj,s]; rfl
   have d:ngh rg i=q:=by unfold ngh; rw [z,zaj,u]; rfl
   have k:=zak s;have y:=zak u;have g:IntKind.i64.wrap ((i:Int)+1)=(i:Int)+1:=a5 (by omega);have G:((i:Int)+1).tmod (rg.length:Int)=(J:Int):=by rw [zbm (by omega),<- z,Int.natCast_emod,Int.natCast_add]; rfl
   have A:¬((rg.length:Int)=0):=by omega
   push_cast [a8,zaa,v6 s,u6 s,v6 u,u6 u,g,G,A]
   repeat refine And.intro (by first | decide | omega | exact fun _=>by decide | (simp +contextual; done) | kernel_rfl) ?_
   refine b5 (as':=[l.v,pv2 p]) rfl ?_;refine a7 (aj3 l D p) rfl trivial ?_;have j:=afz l D p q;have n:=fun b=>akj l D p q hc (I p k) (H p k q y) b;generalize o:m8 l p q=cx at *
   push_cast
   refine b8 (fun m=>?_) (fun m=>?_)
   ·push_cast [a8,zaa,n5]
    repeat refine And.intro (by first | decide | omega | exact fun _=>by decide | (simp +contextual; done) | kernel_rfl) ?_
    refine b5 (as':=[l.v,pv2 p,pv2 q]) rfl ?_;refine a7 j rfl trivial ?_
    push_cast
    refine b8 (fun b=>?_) (fun b=>?_)
    ·push_cast [a8,zaa,n5]
     refine b5 (as':=[l.v,pv2 p,pv2 q]) rfl ?_;refine a7 (n b) rfl trivial ?_
     push_cast [pv2,pnt,g,a8,zaa,n5]
     repeat refine And.intro (by first | decide | omega | exact fun _=>by decide | (simp +contextual; done) | kernel_rfl) ?_
     have hN:q7 l rg (i+1)=[p,cx]:=by
      rw [q7,c,d,f,zbj];unfold kk;rw [if_pos m,if_pos b,o]
      rfl
     exact ⟨⟨i+1,by omega,.inr ⟨by rw [hN]; simp,by rw [hN]; simp,by rw [hN]; rfl⟩⟩,by omega⟩
    push_cast [a8,zaa,n5,g]
    have hN:q7 l rg (i+1)=[p]:=by
     rw [q7,c,d,f,zbj];unfold kk;rw [if_pos m,if_neg (by rw [b]; simp)]
     rfl
    exact ⟨⟨i+1,by omega,.inr ⟨by rw [hN]; simp,by rw [hN]; simp,by rw [hN]; rfl⟩⟩,by omega⟩
   push_cast [a8,zaa,n5]
   repeat refine And.intro (by first | decide | omega | exact fun _=>by decide | (simp +contextual; done) | kernel_rfl) ?_
   refine b5 (as':=[l.v,pv2 p,pv2 q]) rfl ?_;refine a7 j rfl trivial ?_
   push_cast
   refine b8 (fun b=>?_) (fun b=>?_)
   ·push_cast [a8,zaa,n5]
    refine b5 (as':=[l.v,pv2 p,pv2 q]) rfl ?_;refine a7 (n b) rfl trivial ?_
    push_cast [pv2,pnt,g,a8,zaa,n5]
    repeat refine And.intro (by first | decide | omega | exact fun _=>by decide | (simp +contextual; done) | kernel_rfl) ?_
    have hN:q7 l rg (i+1)=[cx]:=by
     rw [q7,c,d,f,zbj];unfold kk;rw [if_neg (by rw [m]; simp),if_pos b,o]
     rfl
    exact ⟨⟨i+1,by omega,.inr ⟨by rw [hN]; simp,by rw [hN]; simp,by rw [hN]; rfl⟩⟩,by omega⟩
   push_cast [a8,zaa,n5,g]
   have hN:q7 l rg (i+1)=[]:=by
    rw [q7,c,d,f,zbj];unfold kk;rw [if_neg (by rw [m]; simp),if_neg (by rw [b]; simp)]
    rfl
   exact ⟨⟨i+1,by omega,.inl ⟨hN,by simp⟩⟩,by omega⟩
  have e:i=rg.length:=by
   have:¬i<rg.length:=by simpa using B
   omega
  rw [e] at f;rcases w with ⟨E,rfl,rfl⟩ | ⟨E,rfl,rfl⟩
  ·push_cast [pnt]
  exact absurd f E
 have F:=yq l rg i
 push_cast [a8,pnt,zaa]
 refine b8 (fun B=>?_) (fun B=>?_)
 ·have e:i<rg.length:=by simpa using B
  obtain ⟨p,s⟩:∃p,rg[i]?=some p:=⟨rg[i],by simp [e]⟩
  obtain ⟨J,z⟩:∃J,(i+1)%rg.length=J:=⟨_,rfl⟩
  have C:J<rg.length:=by rw [<- z]; exact Nat.mod_lt _ (by omega)
  obtain ⟨q,u⟩:∃q,rg[J]?=some q:=⟨rg[J],by simp [C]⟩
  have c:rg.getD i (0,0)=p:=by rw [zaj,s]; rfl
  have d:ngh rg i=q:=by unfold ngh; rw [z,zaj,u]; rfl
  have k:=zak s;have y:=zak u;have g:IntKind.i64.wrap ((i:Int)+1)=(i:Int)+1:=a5 (by omega);have G:((i:Int)+1).tmod (rg.length:Int)=(J:Int):=by rw [zbm (by omega),<- z,Int.natCast_emod,Int.natCast_add]; rfl
  have A:¬((rg.length:Int)=0):=by omega
  push_cast [a8,zaa,v6 s,u6 s,v6 u,u6 u,g,G,A]
  repeat refine And.intro (by first | decide | omega | exact fun _=>by decide | (simp +contextual; done) | kernel_rfl) ?_
  refine b5 (as':=[l.v,pv2 p]) rfl ?_;refine a7 (aj3 l D p) rfl trivial ?_;have j:=afz l D p q;have n:=fun b=>akj l D p q hc (I p k) (H p k q y) b;generalize o:m8 l p q=cx at *
  push_cast
  refine b8 (fun m=>?_) (fun m=>?_)
  ·push_cast [a8,zaa,n5]
   repeat refine And.intro (by first | decide | omega | exact fun _=>by decide | (simp +contextual; done) | kernel_rfl) ?_
   refine b5 (as':=[l.v,pv2 p,pv2 q]) rfl ?_;refine a7 j rfl trivial ?_
   push_cast
   refine b8 (fun b=>?_) (fun b=>?_)
   ·push_cast [a8,zaa,n5]
    refine b5 (as':=[l.v,pv2 p,pv2 q]) rfl ?_;refine a7 (n b) rfl trivial ?_
    push_cast [pv2,pnt,g,a8,zaa,n5]
    repeat refine And.intro (by first | decide | omega | exact fun _=>by decide | (simp +contextual; done) | kernel_rfl) ?_
    have hN:q7 l rg (i+1)=q7 l rg i++[p,cx]:=by
     rw [q7,c,d];unfold kk;rw [if_pos m,if_pos b,o]
     rfl
    exact ⟨⟨i+1,by omega,.inr ⟨by rw [hN]; simp [f],by rw [hN]; simp,by rw [hN]; simp [ptR,pnt]; rw [zcb (by simp)]; simp⟩⟩,by omega⟩
   push_cast [a8,zaa,n5,g]
   have hN:q7 l rg (i+1)=q7 l rg i++[p]:=by
    rw [q7,c,d];unfold kk;rw [if_pos m,if_neg (by rw [b]; simp)]
    rfl
   exact ⟨⟨i+1,by omega,.inr ⟨by rw [hN]; simp [f],by rw [hN]; simp,by rw [hN]; simp [ptR,pnt]⟩⟩,by omega⟩
  push_cast [a8,zaa,n5]
  repeat refine And.intro (by first | decide | omega | exact fun _=>by decide | (simp +contextual; done) | kernel_rfl) ?_
  refine b5 (as':=[l.v,pv2 p,pv2 q]) rfl ?_;refine a7 j rfl trivial ?_
  push_cast
  refine b8 (fun b=>?_) (fun b=>?_)
  ·push_cast [a8,zaa,n5]
   refine b5 (as':=[l.v,pv2 p,pv2 q]) rfl ?_;refine a7 (n b) rfl trivial ?_
   push_cast [pv2,pnt,g,a8,zaa,n5]
   repeat refine And.intro (by first | decide | omega | exact fun _=>by decide | (simp +contextual; done) | kernel_rfl) ?_
   have hN:q7 l rg (i+1)=q7 l rg i++[cx]:=by
    rw [q7,c,d];unfold kk;rw [if_neg (by rw [m]; simp),if_pos b,o]
    rfl
   exact ⟨⟨i+1,by omega,.inr ⟨by rw [hN]; simp [f],by rw [hN]; simp,by rw [hN]; simp [ptR,pnt]⟩⟩,by omega⟩
  push_cast [a8,zaa,n5,g]
  have hN:q7 l rg (i+1)=q7 l rg i++[]:=by
   rw [q7,c,d];unfold kk;rw [if_neg (by rw [m]; simp),if_neg (by rw [b]; simp)]
   rfl
  exact ⟨⟨i+1,by omega,.inr ⟨by rw [hN]; simp [f],by rw [hN]; simp,by rw [hN]; simp [ptR,pnt]⟩⟩,by omega⟩
 have e:i=rg.length:=by
  have:¬i<rg.length:=by simpa using B
  omega
 rw [e] at f |-;rcases w with ⟨E,rfl,rfl⟩ | ⟨E,rfl,rfl⟩
 ·exact absurd E f
 push_cast [pnt,p6]; rfl

def aay:Mk P0 f58:={ x:=_ }
def aby:Mk P0 f29:={ x:=_ }
theorem axx (l:Lin) (b:l.ok) (hc:-9007199254740992<=l.at'/\l.at'<=9007199254740992) (rg:List P2) (h:yy rg) :
 a9 P0 96 [l.v,a8 rg] [] (.own 1000000 0 0 (p6 l rg).length) [j7 (p6 l rg)]:=by
 by_cases a:p6 l rg=[]
 ·have:=ajs (asa l b hc rg h (.inl ⟨a,rfl,rfl⟩));rw [a];exact this
 exact asa l b hc rg h (.inr ⟨a,rfl,rfl⟩)
theorem acn (l:List P2):∀x∈l.map ptR,kq x:=fun x hx=>by
 obtain ⟨p,_,rfl⟩:=List.mem_map.1 hx;simp [ptR,pnt,kq,lk]
theorem ac4 (l:Lin) (a:l.ok) (hc:-9007199254740992<=l.at'/\l.at'<=9007199254740992) (rg:List P2) (h:yy rg) :
 a9 P0 58 [a8 rg,int .i64 l.axis,int .i64 l.at',bl l.above] [] (.own 1000000 0 0 (p6 l rg).length) [j7 (p6 l rg)]:=by
 refine aay.t func58 ?_;have b:decide (l.axis<0)=false:=by rcases a with e | e<;>rw [e]<;>rfl
 have c:decide (l.axis>1)=false:=by rcases a with e | e<;>rw [e]<;>rfl
 push_cast [aay,a8,b,c,zab]
 refine b5 (as':=[a8 rg]) rfl ?_;refine a7 (arz rg h) rfl trivial ?_
 push_cast
 refine b5 (as':=[l.v,a8 rg]) rfl ?_;refine a7 (axx l a hc rg h) rfl trivial ?_
 push_cast
def cq (lo hi:P2):List Lin:=[⟨0,lo.1,true⟩,⟨0,hi.1,false⟩,⟨1,lo.2,true⟩,⟨1,hi.2,false⟩]
def aq (lo hi:P2) (rg:List P2) (i:Nat):List P2:=((cq lo hi).take i).foldl (fun r l=>p6 l r) rg
def md (lo hi:P2) (rg:List P2):List P2:=aq lo hi rg 4
def gf (lo hi:P2):Ob:=.row 3 (.agg [.v (.int .i64 0),.v (.int .i64 0),.v (.bool false)]) true true [.agg [.v (.int .i64 0),.v (.int .i64 lo.1),.v (.bool true)],.agg [.v (.int .i64 0),.v (.int .i64 hi.1),.v (.bool false)],.agg [.v (.int .i64 1),.v (.int .i64 lo.2),.v (.bool true)],.agg [.v (.int .i64 1),.v (.int .i64 hi.2),.v (.bool false)]]
theorem awz (lo hi:P2) (p:(-9007199254740992<=lo.1/\lo.1<=9007199254740992)/\(-9007199254740992<=lo.2/\lo.2<=9007199254740992)) (n:(-9007199254740992<=hi.1/\hi.1<=9007199254740992)/\(-9007199254740992<=hi.2/\hi.2<=9007199254740992))
 (rg:List P2) (h:∀i,i<4->yy (aq lo hi rg i)):a9 P0 29 [a8 rg,pv2 lo,pv2 hi] [] (.own 1000000 0 0 (md lo hi rg).length) [j7 (md lo hi rg)]:=by
 refine aby.t func29 ?_;simp only [aby,a8,pv2,pnt,zae,zad,zac,push_cast,↓reduceIte,reduceCtorEq,zB,zE,zA,zS,zL,zD,zM]
 repeat refine And.intro (by first | decide | omega | exact fun _=>by decide | (simp +contextual; done) | kernel_rfl) ?_
 refine c9 [(23,false),(21,false),(22,false),(0,false)] (fun vs pos m=>∃i:Nat,i<=4/\pos=[] /\
  (i=0/\vs=[int .i64 i,.own 2000000 0 0 4,int .i64 4,a8 rg]/\m=[gf lo hi] \/
   i≠0/\vs=[int .i64 i,.own 2000000 0 0 4,int .i64 4,.own 2000001 0 0 (aq lo hi rg i).length]/\m=[gf lo hi,j7 (aq lo hi rg i)]))
  (fun vs _ _=>match vs with | .r (.v (.int _ a))::_=>(4-a).toNat | _=>0) rfl ?_ ?_
 ·simp only [a8,gf,push_cast,↓reduceIte,reduceCtorEq,zB,zE,zA,zS,zL,zD,zM];exact ⟨0,by omega,.inl ⟨rfl,by simp⟩⟩
 have q:∀(k:Nat) (l:Lin),k<4->(cq lo hi)[k]?=some l->aq lo hi rg (k+1)=p6 l (aq lo hi rg k):=fun k l y s=>by
  unfold aq;rw [zat,s,List.foldl_append]
  rfl
 have c:∀(k:Nat) (l:Lin),(cq lo hi)[k]?=some l->l.ok/\(-9007199254740992<=l.at'/\l.at'<=9007199254740992):=fun k l s=>by
  have:=zak s;simp only [cq,zah,List.not_mem_nil,or_false] at this;rcases this with rfl | rfl | rfl | rfl
  ·exact ⟨.inl rfl,p.1⟩
  ·exact ⟨.inl rfl,n.1⟩
  ·exact ⟨.inr rfl,p.2⟩
  exact ⟨.inr rfl,n.2⟩
 rintro vs pos m ⟨i,u,rfl,⟨w,rfl,rfl⟩ | ⟨w,rfl,rfl⟩⟩
 ·subst w;have hN:aq lo hi rg 0=rg:=rfl;have e:decide ((0:Int)<4)=true:=rfl;have b:=c 0 _ rfl;have g:=ac4 _ b.1 b.2 rg (by have:=h 0 (by decide); rwa [hN] at this);have d:=q 0 _ (by decide) rfl;rw [hN] at d;have f:IntKind.i64.wrap ((0:Int)+1)=1:=rfl;simp only [a8,gf,e,f,zae,zad,zac,push_cast,↓reduceIte,reduceCtorEq,zB,zE,zA,zS,zL,zD,zM]
  repeat refine And.intro (by first | decide | omega | exact fun _=>by decide | (simp +contextual; done) | kernel_rfl) ?_
  rw [<- d] at g;refine a7 g rfl trivial ?_;simp only [a8,gf,e,f,zae,zad,zac,push_cast,↓reduceIte,reduceCtorEq,zB,zE,zA,zS,zL,zD,zM];exact ⟨⟨1,by omega,.inr ⟨by omega,by simp⟩⟩,by decide⟩
 rcases (show i=1\/i=2\/i=3\/i=4 by omega) with rfl | rfl | rfl | rfl
 ·have e:decide ((1:Int)<4)=true:=rfl;have b:=c 1 _ rfl;have g:=ac4 _ b.1 b.2 (aq lo hi rg 1) (h 1 (by decide));have d:=q 1 _ (by decide) rfl;rw [<- d] at g;have f:IntKind.i64.wrap ((1:Int)+1)=2:=rfl;simp only [a8,gf,e,f,zae,zad,zac,push_cast,↓reduceIte,reduceCtorEq,zB,zE,zA,zS,zL,zD,zM]
  repeat refine And.intro (by first | decide | omega | exact fun _=>by decide | (simp +contextual; done) | kernel_rfl) ?_
  refine db ?_;simp only [n5,push_cast,↓reduceIte,reduceCtorEq,zB,zE,zA,zS,zL,zD,zM]
  refine dz g rfl trivial (by simp [bu]) (by
   intro o j;simp only [zam] at j;subst j
   exact acn _) ?_
  simp only [a8,gf,e,f,zae,zad,zac,push_cast,↓reduceIte,reduceCtorEq,zB,zE,zA,zS,zL,zD,zM];exact ⟨⟨2,by omega,.inr ⟨by omega,by simp⟩⟩,by decide⟩
 ·have e:decide ((2:Int)<4)=true:=rfl;have b:=c 2 _ rfl;have g:=ac4 _ b.1 b.2 (aq lo hi rg 2) (h 2 (by decide));have d:=q 2 _ (by decide) rfl;rw [<- d] at g;have f:IntKind.i64.wrap ((2:Int)+1)=3:=rfl;simp only [a8,gf,e,f,zae,zad,zac,push_cast,↓reduceIte,reduceCtorEq,zB,zE,zA,zS,zL,zD,zM]
  repeat refine And.intro (by first | decide | omega | exact fun _=>by decide | (simp +contextual; done) | kernel_rfl) ?_
  refine db ?_;simp only [n5,push_cast,↓reduceIte,reduceCtorEq,zB,zE,zA,zS,zL,zD,zM]
  refine dz g rfl trivial (by simp [bu]) (by
   intro o j;simp only [zam] at j;subst j
   exact acn _) ?_
  simp only [a8,gf,e,f,zae,zad,zac,push_cast,↓reduceIte,reduceCtorEq,zB,zE,zA,zS,zL,zD,zM];exact ⟨⟨3,by omega,.inr ⟨by omega,by simp⟩⟩,by decide⟩
 ·have e:decide ((3:Int)<4)=true:=rfl;have b:=c 3 _ rfl;have g:=ac4 _ b.1 b.2 (aq lo hi rg 3) (h 3 (by decide));have d:=q 3 _ (by decide) rfl;rw [<- d] at g;have f:IntKind.i64.wrap ((3:Int)+1)=4:=rfl;simp only [a8,gf,e,f,zae,zad,zac,push_cast,↓reduceIte,reduceCtorEq,zB,zE,zA,zS,zL,zD,zM]
  repeat refine And.intro (by first | decide | omega | exact fun _=>by decide | (simp +contextual; done) | kernel_rfl) ?_
  refine db ?_;simp only [n5,push_cast,↓reduceIte,reduceCtorEq,zB,zE,zA,zS,zL,zD,zM]
  refine dz g rfl trivial (by simp [bu]) (by
   intro o j;simp only [zam] at j;subst j
   exact acn _) ?_
  simp only [a8,gf,e,f,zae,zad,zac,push_cast,↓reduceIte,reduceCtorEq,zB,zE,zA,zS,zL,zD,zM];exact ⟨⟨4,by omega,.inr ⟨by omega,by simp⟩⟩,by decide⟩
 have e:decide ((4:Int)<4)=false:=rfl;have x:aq lo hi rg 4=md lo hi rg:=rfl;simp only [a8,gf,e,x,pnt,push_cast,↓reduceIte,reduceCtorEq,zB,zE,zA,zS,zL,zD,zM]
 rfl

def zj:Mk P0 f31:={ x:=_ }
def ao (b:Int) (rg:List P2):List P2:=rg.map fun p=>(p.1/b,p.2/b)
theorem aid (b:Int) (z:1<=b/\b<=9007199254740992) (rg:List P2) (h:yy rg)
 (g:(rg=[]/\res=.nils 2 (pnt 0 0)/\ro=[])\/(rg≠[]/\res=.own 1000000 0 0 (ao b rg).length/\ro=[j7 (ao b rg)])) :
 a9 P0 31 [a8 rg,int .i64 b] [] res ro:=by
 refine zj.t func31 ?_;have x:=ep;have s:=arz rg h;obtain ⟨B,w,A⟩:=h;have y:decide (b<1)=false:=by simp; omega
 push_cast [zj,a8,y,zab]
 refine b5 (as':=[a8 rg]) rfl ?_;refine a7 s rfl trivial ?_
 push_cast [zaa]
 have m:∀i,(ao b (rg.take i)).length<=i:=fun i=>by unfold ao; simp; omega
 refine c9 [(23,false),(21,false),(22,false),(1,false),(5,false)] (fun vs pos j=>∃i:Nat,i<=rg.length/\pos=[] /\
  (i=0/\vs=[int .i64 i,a8 rg,int .i64 rg.length,int .i64 b,.nils 2 (pnt 0 0)]/\j=[] \/
   i≠0/\vs=[int .i64 i,a8 rg,int .i64 rg.length,int .i64 b,.own 2000000 0 0 (ao b (rg.take i)).length]/\j=[j7 (ao b (rg.take i))]))
  (fun vs _ _=>match vs with | .r (.v (.int _ a))::_=>(rg.length-a).toNat | _=>0) rfl ?_ ?_
 ·push_cast [a8,pnt]
  exact ⟨0,by omega,.inl ⟨rfl,by simp⟩⟩
 rintro vs pos j ⟨i,hi,rfl,⟨u,rfl,rfl⟩ | ⟨u,rfl,rfl⟩⟩
 ·have o:=m i
  push_cast [a8,pnt,zaa]
  refine b8 (fun l=>?_) (fun l=>?_)
  ·have c:i<rg.length:=by simpa using l
   obtain ⟨p,f⟩:∃p,rg[i]?=some p:=⟨rg[i],by simp [c]⟩
   have q:=w p (zak f);have k:IntKind.i64.wrap ((i:Int)+1)=(i:Int)+1:=a5 (by omega);have d:=go p.1 b (by unfold b7; omega) (by unfold b7; omega);have e:=go p.2 b (by unfold b7; omega) (by unfold b7; omega);rw [if_pos (by omega),if_pos (by omega)] at d e
   have hN:ao b (rg.take (i+1))=[(p.1/b,p.2/b)]:=by
    unfold ao;rw [zat,f,zbb];rw [u]; rfl
   push_cast [a8,zaa,v6 f,u6 f,k,zae,zad,zac]
   repeat refine And.intro (by first | decide | omega | exact fun _=>by decide | (simp +contextual; done) | kernel_rfl) ?_
   refine a7 d rfl trivial ?_
   push_cast [a8,zaa,k,zae,zad,zac]
   repeat refine And.intro (by first | decide | omega | exact fun _=>by decide | (simp +contextual; done) | kernel_rfl) ?_
   refine a7 e rfl trivial ?_
   push_cast [a8,zaa,n5,k,zae,zad,zac]
   repeat refine And.intro (by first | decide | omega | exact fun _=>by decide | (simp +contextual; done) | kernel_rfl) ?_
   exact ⟨⟨i+1,by omega,.inr ⟨by omega,by rw [hN]; simp,by rw [hN]; simp [ptR,pnt]⟩⟩,by omega⟩
  have c:i=rg.length:=by
   have:¬i<rg.length:=by simpa using l
   omega
  rcases g with ⟨n,rfl,rfl⟩ | ⟨n,rfl,rfl⟩
  ·push_cast [pnt]
  exact absurd (List.length_eq_zero_iff.1 (by omega)) n
 have o:=m i
 push_cast [a8,pnt,zaa]
 refine b8 (fun l=>?_) (fun l=>?_)
 ·have c:i<rg.length:=by simpa using l
  obtain ⟨p,f⟩:∃p,rg[i]?=some p:=⟨rg[i],by simp [c]⟩
  have q:=w p (zak f);have k:IntKind.i64.wrap ((i:Int)+1)=(i:Int)+1:=a5 (by omega);have d:=go p.1 b (by unfold b7; omega) (by unfold b7; omega);have e:=go p.2 b (by unfold b7; omega) (by unfold b7; omega);rw [if_pos (by omega),if_pos (by omega)] at d e
  have hN:ao b (rg.take (i+1))=ao b (rg.take i)++[(p.1/b,p.2/b)]:=by
   unfold ao;rw [zat,f,zbb]
   rfl
  push_cast [a8,zaa,v6 f,u6 f,k,zae,zad,zac]
  repeat refine And.intro (by first | decide | omega | exact fun _=>by decide | (simp +contextual; done) | kernel_rfl) ?_
  refine a7 d rfl trivial ?_
  push_cast [a8,zaa,k,zae,zad,zac]
  repeat refine And.intro (by first | decide | omega | exact fun _=>by decide | (simp +contextual; done) | kernel_rfl) ?_
  refine a7 e rfl trivial ?_
  push_cast [a8,zaa,n5,k,zae,zad,zac]
  repeat refine And.intro (by first | decide | omega | exact fun _=>by decide | (simp +contextual; done) | kernel_rfl) ?_
  exact ⟨⟨i+1,by omega,.inr ⟨by omega,by rw [hN]; simp,by rw [hN]; simp [ptR,pnt]⟩⟩,by omega⟩
 have c:i=rg.length:=by
  have:¬i<rg.length:=by simpa using l
  omega
 rcases g with ⟨n,rfl,rfl⟩ | ⟨n,rfl,rfl⟩
 ·exfalso; rw [n] at c; exact u c
 rw [c,zcc]; push_cast [pnt]; rfl

theorem afr {u t:Int} (f:0<t) (e:t<D):(0<=u->0<=u*t/D/\u*t/D<=u)/\(u<=0->u<=u*t/D/\u*t/D<=0):=by
 have d:0<D:=by omega
 constructor
 ·intro c;have a:=zbi c (zaw f);have b:=zas (zaw e) c;exact ⟨Int.ediv_nonneg a (zaw d),Int.ediv_le_of_le_mul d b⟩
 intro c;have a:=zbh c (zaw e);have b:=zba c (zaw f);rw [Int.zero_mul] at b;exact ⟨Int.le_ediv_of_mul_le d a,Int.ediv_le_of_le_mul d (by rw [Int.zero_mul]; exact b)⟩
def Btw (x a b:Int):Prop:=(a<=x/\x<=b)\/(b<=x/\x<=a)
variable {q:P2}
theorem afu {l:Lin} (v:l.ok) (s:am l p q=true):Btw (m8 l p q).1 p.1 q.1/\Btw (m8 l p q).2 p.2 q.2:=by
 obtain ⟨a,c,b⟩:=l;obtain ⟨d,f⟩:=p;obtain ⟨i,g⟩:=q
 have k:∀(u P Q:Int),(P<c/\c<Q)\/(Q<c/\c<P)->∃n:Int,(if Q-P<0 then (-(u*(c-P)))/(-(Q-P)) else if 0<Q-P then (u*(c-P))/(Q-P) else 0)=n/\((0<=u->0<=n/\n<=u)/\(u<=0->u<=n/\n<=0)):=fun u P Q h=>by
  refine ⟨_,rfl,?_⟩;rcases h with h | h
  ·rw [if_neg (by omega),if_pos (by omega)];exact afr (by omega) (by omega)
  rw [if_pos (by omega)];have:=afr (u:=u) (t:=P-c) (D:=P-Q) (by omega) (by omega);rw [show -(u*(c-P))=u*(P-c) by rw [<- Int.mul_neg]; congr 1; omega,show -(Q-P)=P-Q by omega];exact this
 rcases v with h | h<;>simp only at h<;>subst h
 ·have j:(d<c/\c<i)\/(i<c/\c<d):=by simpa [am,sel] using s
  obtain ⟨n,o,r,m⟩:=k (g-f) d i j;have e:m8 ⟨0,c,b⟩ (d,f) (i,g)=(c,f+n):=by rw [<- o]; rfl
  rw [e];unfold Btw;simp only;refine ⟨by omega,?_⟩;rcases zay 0 (g-f) with h | h
  ·have:=r h; omega
  have:=m h; omega
 have j:(f<c/\c<g)\/(g<c/\c<f):=by simpa [am,sel] using s
 obtain ⟨n,o,r,m⟩:=k (i-d) f g j;have e:m8 ⟨1,c,b⟩ (d,f) (i,g)=(d+n,c):=by rw [<- o]; rfl
 rw [e];unfold Btw;simp only;refine ⟨?_,by omega⟩;rcases zay 0 (i-d) with h | h
 ·have:=r h; omega
 have:=m h; omega
def me (lo hi:P2) (rg:List P2):Prop:=∀p∈rg,(lo.1<=p.1/\p.1<=hi.1)/\(lo.2<=p.2/\p.2<=hi.2)
theorem aki {l:Lin} (d:l.ok) {lo hi:P2} {rg:List P2} (h:me lo hi rg):∀i,i<=rg.length->me lo hi (q7 l rg i)
 | 0,_=>by intro p a; simp [q7] at a
 | i+1,hi'=>by
   have e:=aki d h i (by omega)
   have b:rg.getD i (0,0)∈rg:=by
    rw [zaj,zbp (show i<rg.length by omega)];exact List.getElem_mem _
   have c:ngh rg i∈rg:=by
    have:(i+1)%rg.length<rg.length:=Nat.mod_lt _ (by omega);unfold ngh;rw [zaj,zbp this];exact List.getElem_mem _
   intro p a;rw [q7] at a;rcases zao.1 a with a | a
   ·exact e p a
   unfold kk at a;rcases zao.1 a with a | a
   ·split at a
    ·simp only [zam] at a;subst a;exact h _ b
    cases a
   split at a
   ·rename_i f;simp only [zam] at a;subst a;obtain ⟨j,g⟩:=afu d f;have m:=h _ b;have k:=h _ c;unfold Btw at j g;omega
   cases a
variable {rg:List P2}
theorem xo {l:Lin} (a:l.ok) {lo hi:P2} (h:me lo hi rg):me lo hi (p6 l rg):=aki a h _ (zav _)
theorem aq4 (l:Lin) (rg:List P2):(p6 l rg).length<=2*rg.length:=yq l rg _
theorem ae4 {lo hi:P2} {a b:P2} {rg:List P2} (h:me a b rg):∀i,i<=4->me a b (aq lo hi rg i)/\(aq lo hi rg i).length<=2^i*rg.length
 | 0,_=>⟨h,by simp [aq]⟩
 | i+1,hi'=>by
   obtain ⟨f,g⟩:=ae4 (lo:=lo) (hi:=hi) h i (by omega);obtain ⟨l,d⟩:∃l,(cq lo hi)[i]?=some l:=⟨(cq lo hi)[i]'(by simp [cq]; omega),by simp [cq,show i<4 by omega]⟩
   have c:l.ok:=by
    have:=zak d;simp only [cq,zah,List.not_mem_nil,or_false] at this;rcases this with rfl | rfl | rfl | rfl
    ·exact .inl rfl
    ·exact .inl rfl
    ·exact .inr rfl
    exact .inr rfl
   have e:aq lo hi rg (i+1)=p6 l (aq lo hi rg i):=by
    unfold aq;rw [zat,d,List.foldl_append]
    rfl
   rw [e];refine ⟨xo c f,Nat.le_trans (aq4 _ _) ?_⟩;rw [Nat.pow_succ,Nat.mul_assoc,Nat.mul_left_comm];omega
theorem atk {a b:P2} (h:me a b rg) (d:rg.length<=100) (g:-1099511627776<=a.1/\b.1<=1099511627776/\b.1-a.1<=1073741824) (f:-1099511627776<=a.2/\b.2<=1099511627776/\b.2-a.2<=1073741824):yy rg:=by
 refine ⟨d,fun p c=>?_,fun p c q e=>?_⟩
 ·have:=h p c;omega
 have:=h p c;have:=h q e;omega
theorem aw0 (lo hi:P2) (f:(-9007199254740992<=lo.1/\lo.1<=9007199254740992)/\(-9007199254740992<=lo.2/\lo.2<=9007199254740992)) (e:(-9007199254740992<=hi.1/\hi.1<=9007199254740992)/\(-9007199254740992<=hi.2/\hi.2<=9007199254740992))
 {a b:P2} (h:me a b rg) (g:rg.length<=6) (l:-1099511627776<=a.1/\b.1<=1099511627776/\b.1-a.1<=1073741824) (k:-1099511627776<=a.2/\b.2<=1099511627776/\b.2-a.2<=1073741824) :
 a9 P0 29 [a8 rg,pv2 lo,pv2 hi] [] (.own 1000000 0 0 (md lo hi rg).length) [j7 (md lo hi rg)]/\me a b (md lo hi rg)/\yy (md lo hi rg):=by
 have d:∀i,i<=4->yy (aq lo hi rg i):=fun i c=>by
  obtain ⟨j,m⟩:=ae4 (lo:=lo) (hi:=hi) h i c;have:2^i<=2^4:=zbl (by decide) c;have:=Nat.mul_le_mul this g;exact atk j (by omega) l k
 exact ⟨awz lo hi f e rg fun i c=>d i (by omega),(ae4 h 4 (zav _)).1,d 4 (zav _)⟩

def aah:Mk P0 f102:={ x:=_ }
def aai:Mk P0 f97:={ x:=_ }
def ak:Mk P0 f126:={ x:=_ }
def y9:Mk P0 f98:={ x:=_ }
def adv:Mk P0 f59:={ x:=_ }
def d9 (a b c:P2):Int:=(b.1-a.1)*(c.2-a.2)-(b.2-a.2)*(c.1-a.1)
def n9 (p:P2):Prop:=(-536870912<=p.1/\p.1<=536870912)/\(-536870912<=p.2/\p.2<=536870912)
theorem au1 (a b c:P2) (i:n9 a) (f:n9 b) (hc:n9 c):a9 P0 102 [pv2 a,pv2 b,pv2 c] [] (int .i64 (d9 a b c)) []:=by
 refine aah.t func102 ?_;unfold n9 at i f hc;have d:IntKind.i64.wrap (b.1-a.1)=b.1-a.1:=a5 (by omega);have e:IntKind.i64.wrap (c.2-a.2)=c.2-a.2:=a5 (by omega);have k:IntKind.i64.wrap (b.2-a.2)=b.2-a.2:=a5 (by omega);have h:IntKind.i64.wrap (c.1-a.1)=c.1-a.1:=a5 (by omega);have o:=z3 (x:=b.1-a.1) (y:=c.2-a.2) (n:=1073741824) (m:=1073741824) (by omega) (by omega);have p:=z3 (x:=b.2-a.2) (y:=c.1-a.1) (n:=1073741824) (m:=1073741824) (by omega) (by omega);have j:IntKind.i64.wrap ((b.1-a.1)*(c.2-a.2))=(b.1-a.1)*(c.2-a.2):=a5 (by omega);have l:IntKind.i64.wrap ((b.2-a.2)*(c.1-a.1))=(b.2-a.2)*(c.1-a.1):=a5 (by omega)
 have g:IntKind.i64.wrap ((b.1-a.1)*(c.2-a.2)-(b.2-a.2)*(c.1-a.1))=d9 a b c:=a5 (by omega);simp only [aah,pv2,pnt,d,e,k,h,j,l,g,zae,zad,zac,push_cast,↓reduceIte,reduceCtorEq,zB,zE,zA,zS,zL,zD,zM]
 decide
theorem awd (p:P2) (h:n9 p):a9 P0 97 [pv2 p] [] (bl false) []:=by
 refine aai.t func97 ?_;unfold n9 at h;have c:decide (p.1 < -536870912)=false:=by simp; omega
 have d:decide (p.1>536870912)=false:=by simp; omega
 have b:decide (p.2 < -536870912)=false:=by simp; omega
 have a:decide (p.2>536870912)=false:=by simp; omega
 simp only [aai,pv2,pnt,c,d,b,a,zae,zad,zac,push_cast,↓reduceIte,reduceCtorEq,zB,zE,zA,zS,zL,zD,zM]
 decide
def ss:AV:=.fn (.func 97) [] 0
theorem awc (l:List P2) (j:l.length<=1000) (h:∀p∈l,n9 p):a9 P0 126 [a8 l,ss] [] (int .i64 (-1)) []:=by
 refine ak.t func126 ?_
 push_cast [ak,a8,ss,zaa,zab]
 have c:uq P0 97=true:=rfl
 refine c9 [(8,false),(0,false),(1,false),(7,false)] (fun vs pos b=>∃i:Nat,i<=l.length/\vs=[int .i64 i,a8 l,ss,int .i64 l.length]/\pos=[]/\b=[])
  (fun vs _ _=>match vs with | .r (.v (.int _ a))::_=>(l.length-a).toNat | _=>0) rfl ?_ ?_
 ·push_cast [a8,ss]
  exact ⟨0,by omega,rfl⟩
 rintro vs pos b ⟨i,hi,rfl,rfl,rfl⟩
 push_cast [a8,ss,zaa]
 refine b8 (fun g=>?_) (fun g=>?_)
 ·have e:i<l.length:=by simpa using g
  obtain ⟨p,d⟩:∃p,l[i]?=some p:=⟨l[i],by simp [e]⟩
  have f:IntKind.i64.wrap ((i:Int)+1)=(i:Int)+1:=a5 (by omega)
  push_cast [a8,ss,zaa,v6 d,u6 d,c,f]
  repeat refine And.intro (by first | decide | omega | exact fun _=>by decide | (simp +contextual; done) | kernel_rfl) ?_
  refine b5 (as':=[pv2 p]) rfl ?_;refine a7 (awd p (h p (zak d))) rfl trivial ?_
  push_cast [a8,ss,zaa,f]
  exact ⟨⟨i+1,by omega,rfl⟩,by omega⟩
 push_cast [a8,ss,zaa]
theorem awf (l:List P2) (a:l.length<=1000) (h:∀p∈l,n9 p):a9 P0 98 [a8 l,ss] [] (bl false) []:=by
 refine y9.t func98 ?_;have d:decide ((-1:Int)>=0)=false:=rfl
 push_cast [y9,a8,ss,zab]
 refine b5 (as':=[a8 l,ss]) rfl ?_;refine a7 (awc l a h) rfl trivial ?_
 push_cast [d]
theorem ar6 (l:List P2) (a:l.length<=1000) (h:∀p∈l,n9 p):a9 P0 59 [a8 l] [] (bl true) []:=by
 refine adv.t func59 ?_;have d:decide ((l.length:Int)<=1000)=true:=by simp; omega
 push_cast [adv,a8,zaa,d,zab]
 refine b5 (as':=[a8 l,ss]) rfl ?_;refine a7 (awf l a h) rfl trivial ?_
 push_cast

def ze:Mk P0 f63:={ x:=_ }
def s6 (p:P2):List P2->List P2
 | b::a::r=>if d9 a b p<=0 then s6 p (a::r) else b::a::r
 | s=>s
def j6 (l:List P2):List P2:=l.foldl (fun s p=>p::s6 p s) []
def o5 (l:List P2):List P2:=(j6 l).reverse.dropLast
theorem uj (p:P2):∀s,∃k,s6 p s=s.drop k/\(s≠[]->s6 p s≠[])
 | []=>⟨0,rfl,fun h=>h⟩
 | [a]=>⟨0,rfl,fun h=>h⟩
 | b::a::r=>by
   rw [s6];split
   ·obtain ⟨k,d,c⟩:=uj p (a::r);exact ⟨k+1,by rw [d]; rfl,fun _=>c (by simp)⟩
   exact ⟨0,rfl,fun h=>h⟩
theorem ap9 {s:List P2} (h:q∈s6 p s):q∈s:=by
 obtain ⟨k,a,_⟩:=uj p s;rw [a] at h;exact List.mem_of_mem_drop h
theorem aqa (p:P2) (s:List P2):(s6 p s).length<=s.length:=by
 obtain ⟨k,a,_⟩:=uj p s;rw [a,List.length_drop];omega
theorem u4 (l:List P2) (p:P2):j6 (l++[p])=p::s6 p (j6 l):=by simp [j6]
theorem bk {b:Type} {P:List b->Prop} (d:P []) (e:∀l p,P l->P (l++[p])) (l:List b):P l:=by
 have c:∀r:List b,P r.reverse:=fun r=>by
  induction r with
  | nil=>simpa using d
  | cons a r ih=>rw [List.reverse_cons]; exact e _ _ ih
 have:=c l.reverse
 rwa [List.reverse_reverse] at this
theorem xy (l:List P2):∀{q:P2},q∈j6 l->q∈l:=by
 refine bk (P:=fun l=>∀{q:P2},q∈j6 l->q∈l) (fun h=>h) (fun l p a=>?_) l;intro q h;rw [u4] at h;rcases zah.1 h with rfl | h
 ·simp
 exact List.mem_append_left _ (a (ap9 h))
theorem ab6 (l:List P2):(j6 l).length<=l.length:=by
 refine bk (P:=fun l=>(j6 l).length<=l.length) (by simp [j6]) (fun l p a=>?_) l;rw [u4,zaf,zal];have:=aqa p (j6 l);simp;omega

def Uni (f:P2->Bool) (l:List P2):Prop:=∃(v:Bool) (A B C:List P2),l=A++(B++C)/\(∀a∈A,f a=v)/\(∀b∈B,f b=!v)/\(∀c∈C,f c=v)
def prs (nx:P2):List P2->List (P2×P2)
 | []=>[]
 | [p]=>[(p,nx)]
 | p::q::r=>(p,q)::prs nx (q::r)
theorem ajl (nx:P2):∀l,(prs nx l).length=l.length
 | []=>rfl
 | [_]=>rfl
 | p::q::r=>by rw [prs,zaf,ajl nx (q::r)]; rfl
theorem qc (nx:P2):∀(A:List P2) (b:P2) (B:List P2),prs nx (A++b::B)=prs b A++prs nx (b::B)
 | [],b,B=>rfl
 | [a],b,B=>rfl
 | a::a'::A,b,B=>by
   have:=qc nx (a'::A) b B;simp only [zcd,prs] at this |-;rw [this]
theorem ajm (nx:P2):∀(l:List P2) (i:Nat),(prs nx l)[i]?=(l[i]?).map fun p=>(p,(l[i+1]?).getD nx)
 | [],i=>by simp [prs]
 | [p],0=>by simp [prs]
 | [p],i+1=>by simp [prs]
 | p::q::r,0=>by simp [prs]
 | p::q::r,i+1=>by
   rw [prs,List.getElem?_cons_succ,ajm nx (q::r) i];simp
def gw (l:Lin) (p q:P2):List P2:=if am l p q then [m8 l p q] else []
def v7 (l:Lin) (x:List (P2×P2)):List P2:=x.flatMap fun p=>p.1::gw l p.1 p.2
theorem pz (l:Lin) (x y:List (P2×P2)):v7 l (x++y)=v7 l x++v7 l y:=by simp [v7]
theorem ad3 (l:Lin) (rg:List P2) (h:P2) (d:rg.head?=some h):∀i,i<=rg.length->q7 l rg i=((prs h rg).take i).flatMap fun p=>kk l p.1 p.2
 | 0,_=>by simp [q7]
 | i+1,hi=>by
   have b:i<rg.length:=by omega
   have c:=ajm h rg i;rw [zbp b,Option.map_some] at c
   have j:(rg[i+1]?).getD h=ngh rg i:=by
    unfold ngh;rw [zaj];by_cases e:i+1<rg.length
    ·rw [Nat.mod_eq_of_lt e,zbp e]
     rfl
    have g:i+1=rg.length:=by omega
    rw [List.getElem?_eq_none (by omega),g,Nat.mod_self];cases rg with
    | nil=>simp at b
    | cons a r=>simp at d; subst d; rfl
   rw [j] at c;have f:rg.getD i (0,0)=rg[i]:=by rw [zaj,zbp b]; rfl
   rw [q7,ad3 l rg h d i (by omega),f,zat,c,List.flatMap_append];simp
theorem ws (l:Lin) (d:l.ok) (p q:P2):m6 l (m8 l p q)=true:=by
 obtain ⟨a,c,b⟩:=l;rcases d with h | h<;>simp only at h<;>subst h<;>cases b<;>simp [m6,m8,sel]
theorem qv (l:Lin) (b:l.ok) (rg:List P2) (h:P2) (c:rg.head?=some h):p6 l rg=(v7 l (prs h rg)).filter (m6 l):=by
 unfold p6;rw [ad3 l rg h c _ (zav _),zcb (by rw [ajl]; exact zav _)];unfold v7;generalize prs h rg=x
 induction x with
 | nil=>rfl
 | cons p x ih=>
   rw [zbu,zbu,zaz,ih];congr 1;unfold kk gw;rw [zbv];by_cases a:m6 l p.1=true
   ·rw [if_pos a,if_pos a];split
    ·simp [ws l b]
    simp
   rw [if_neg a,if_neg a];split
   ·simp [ws l b]
   simp
def thr (a c:Int) (p:P2):Bool:=decide (sel a p<=c)
theorem aso {x:P2} (h:Btw (sel a x) (sel a p) (sel a q)):(thr a c x=thr a c p\/thr a c x=thr a c q):=by
 unfold Btw at h;unfold thr;by_cases d:sel a p<=c<;>by_cases e:sel a q<=c
 ·left; rw [decide_eq_true d,decide_eq_true (by omega)]
 ·by_cases b:sel a x<=c
  ·left; rw [decide_eq_true d,decide_eq_true b]
  right; rw [decide_eq_false e,decide_eq_false b]
 ·by_cases b:sel a x<=c
  ·right; rw [decide_eq_true e,decide_eq_true b]
  left; rw [decide_eq_false d,decide_eq_false b]
 left; rw [decide_eq_false d,decide_eq_false (by omega)]
theorem aos {l:Lin} (b:l.ok) (c:am l p q=true) (a:Int):Btw (sel a (m8 l p q)) (sel a p) (sel a q):=by
 obtain ⟨e,d⟩:=afu b c;unfold sel;split
 ·exact e
 exact d
theorem aj7 {l:Lin} (b:l.ok) {x:P2} (hx:x∈gw l p q) (a c:Int):thr a c x=thr a c p\/thr a c x=thr a c q:=by
 unfold gw at hx;split at hx
 ·rename_i d;simp only [zam] at hx;subst hx;exact aso (aos b d a)
 cases hx
theorem pu {l:Lin} (d:l.ok) (a c:Int) (v:Bool) (nx:P2):∀(A:List P2),(∀p∈A,thr a c p=v)->∃A' T,v7 l (prs nx A)=A'++T/\(∀p∈A',thr a c p=v)/\(T=[]\/∃x,T=[x]/\(thr a c x=v\/thr a c x=thr a c nx))
 | [],_=>⟨[],[],rfl,by simp,.inl rfl⟩
 | [p],h=>by
   have b:=h p (by simp);refine ⟨[p],gw l p nx,by simp [v7,prs],by simpa using b,?_⟩;have hi:=fun x (hx:x∈gw l p nx)=>aj7 d hx a c;unfold gw at hi |-;split
   ·rename_i f;rw [if_pos f] at hi;have:=hi (m8 l p nx) (by simp);rw [b] at this;exact .inr ⟨_,rfl,this⟩
   exact .inl rfl
 | p::q::r,h=>by
   obtain ⟨A',T,k,i,g⟩:=pu d a c v nx (q::r) fun x hx=>h x (by simp at hx |-; exact .inr hx);have b:=h p (by simp);have j:=h q (by simp);refine ⟨p::(gw l p q++A'),T,?_,?_,g⟩
   ·rw [prs,show v7 l ((p,q)::prs nx (q::r))=p::(gw l p q++v7 l (prs nx (q::r))) by simp [v7],k];simp
   intro x hx;rcases zah.1 hx with rfl | hx
   ·exact b
   rcases zao.1 hx with hx | hx
   ·rcases aj7 d hx a c with e | e
    ·rw [e,b]
    rw [e,j]
   exact i x hx
variable {f:P2->Bool} {v:Bool}
theorem xb {A B C:List P2} (e:∀a∈A,f a=v) (d:∀b∈B,f b=!v) (g:∀c∈C,f c=v):Uni f (A++(B++C)):=⟨v,A,B,C,rfl,e,d,g⟩
theorem abk {a b:Bool} (h:a≠b):a=!b:=by cases a<;>cases b<;>simp_all
variable {T:List P2}
theorem ai6 {A' B' S:List P2} (e:∀p∈A',f p=v) (j:T=[]\/∃x,T=[x]) (d:∀p∈B',f p=!v) (i:S=[]\/∃x,S=[x]):Uni f ((A'++T)++(B'++S)):=by
 have put:∀(c b:List P2),(∀p∈c,f p=v)->(∀p∈b,f p=!v)->Uni f (c++(b++S)):=fun c b h g=>by
  rcases i with rfl | ⟨x,rfl⟩
  ·exact xb (v:=v) h g (C:=[]) (by simp)
  by_cases hx:f x=v
  ·exact xb (v:=v) h g (C:=[x]) (by simpa using hx)
  have:=xb (v:=v) (f:=f) (A:=c) (B:=b++[x]) (C:=[]) h (fun p a=>by
   rcases zao.1 a with a | a
   ·exact g p a
   simp only [zam] at a; subst a; exact abk hx) (by simp)
  simpa using this
 rcases j with rfl | ⟨x,rfl⟩
 ·rw [zbf]; exact put A' B' e d
 by_cases hx:f x=v
 ·exact put (A'++[x]) B' (fun p a=>by
   rcases zao.1 a with a | a
   ·exact e p a
   simp only [zam] at a; subst a; exact hx) d
 have:=put A' (x::B') e (fun p a=>by
  rcases zah.1 a with rfl | a
  ·exact abk hx
  exact d p a)
 simpa using this
theorem aac {P:P2->Prop} (h:T=[]\/∃x,T=[x]/\P x):T=[]\/∃x,T=[x]:=h.imp id fun ⟨x,e,_⟩=>⟨x,e⟩
theorem asi {l:Lin} (q:l.ok) (a c:Int) {h:P2} (j:rg.head?=some h) (R:Uni (thr a c) rg):Uni (thr a c) (v7 l (prs h rg)):=by
 obtain ⟨v,A,B,C,rfl,m,s,F⟩:=R
 have i:∀(v:Bool) (A B:List P2),(∀p∈A,thr a c p=v)->(∀p∈B,thr a c p=!v)->(A++B).head?=some h->Uni (thr a c) (v7 l (prs h (A++B))):=fun v A B m s j=>by
  cases B with
  | nil=>
    rw [zbf] at j |-;obtain ⟨A',T,e,g,t⟩:=pu q a c v h A m;rw [e];have:=ai6 (f:=thr a c) (v:=v) (A':=A') (T:=T) (B':=[]) (S:=[]) g (aac t) (by simp) (.inl rfl);simpa using this
  | cons b B=>
    rw [qc,pz];obtain ⟨A',T,H,g,t⟩:=pu q a c v b A m;obtain ⟨B',S,K,u,J⟩:=pu q a c (!v) h (b::B) s;rw [H,K];exact ai6 g (aac t) u (aac J)
 cases C with
 | nil=>rw [zbf] at j |-; exact i v A B m s j
 | cons c0 C=>
   cases B with
   | nil=>
     have D:∀p∈A++(c0::C),thr a c p=v:=fun p d=>(zao.1 d).elim (m p) (F p);have:=i v (A++(c0::C)) [] D (by simp) (by simpa using j);simpa using this
   | cons b B=>
     cases A with
     | nil=>
       have:=i (!v) (b::B) (c0::C) s (by rw [Bool.not_not]; exact F) (by simpa using j);simpa using this
     | cons a0 A=>
       have P:h=a0:=by simpa using j.symm
       subst P;have E:thr a c h=v:=m h (by simp);rw [show (b::B)++(c0::C)=b::(B++c0::C) from rfl,qc,pz];rw [show b::(B++c0::C)=(b::B)++c0::C from rfl,qc,pz];obtain ⟨A',T,H,g,t⟩:=pu q a c v b (h::A) m;obtain ⟨B',S,K,u,J⟩:=pu q a c (!v) c0 (b::B) s;obtain ⟨r,Q,O,N,U⟩:=pu q a c v h (c0::C) F;rw [H,K,O]
       have k:∀p∈r++Q,thr a c p=v:=fun p d=>by
        rcases zao.1 d with d | d
        ·exact N p d
        rcases U with rfl | ⟨x,rfl,hx⟩
        ·cases d
        simp only [zam] at d;subst d;rcases hx with hx | hx
        ·exact hx
        rw [hx,E]
       obtain ⟨A2,o,L,z,n⟩:∃A2 o,A'++T++B'=A2++o/\(∀p∈A2,thr a c p=v)/\(∀p∈o,thr a c p=!v):=by
        rcases aac t with rfl | ⟨x,rfl⟩
        ·exact ⟨A',B',by simp,g,u⟩
        by_cases hx:thr a c x=v
        ·exact ⟨A'++[x],B',rfl,fun p d=>by
          rcases zao.1 d with d | d
          ·exact g p d
          simp only [zam] at d; subst d; exact hx,u⟩
        exact ⟨A',x::B',by simp,g,fun p d=>by
         rcases zah.1 d with rfl | d
         ·exact abk hx
         exact u p d⟩
       obtain ⟨w,y,G,I,M⟩:∃w y,o++S++(r++Q)=w++y/\(∀p∈w,thr a c p=!v)/\(∀p∈y,thr a c p=v):=by
        rcases aac J with rfl | ⟨x,rfl⟩
        ·exact ⟨o,r++Q,by simp,n,k⟩
        by_cases hx:thr a c x=v
        ·exact ⟨o,x::(r++Q),by simp,n,fun p d=>by
          rcases zah.1 d with rfl | d
          ·exact hx
          exact k p d⟩
        exact ⟨o++[x],r++Q,rfl,fun p d=>by
         rcases zao.1 d with d | d
         ·exact n p d
         simp only [zam] at d; subst d; exact abk hx,k⟩
       have:A'++T++(B'++S++(r++Q))=A2++(w++y):=by
        rw [<- G,<- zbc,<- zbc,<- zbc,<- zbc,L];simp
       rw [this];exact xb z I M
theorem akw {g:P2->Bool} (h:Uni f l):Uni f (l.filter g):=by
 obtain ⟨v,A,B,C,rfl,c,b,d⟩:=h;rw [zaz,zaz];exact xb (fun p a=>c p (zbt.1 a).1) (fun p a=>b p (zbt.1 a).1) fun p a=>d p (zbt.1 a).1
def acx (rg:List P2):Prop:=∀a c,Uni (thr a c) rg
theorem aqr {l:Lin} (b:l.ok) (h:acx rg):acx (p6 l rg):=fun a c=>by
 cases hr:rg.head? with
 | none=>
   have:rg=[]:=by cases rg with
    | nil=>rfl
    | cons=>simp at hr
   subst this;exact xb (v:=true) (A:=[]) (B:=[]) (C:=[]) (by simp) (by simp) (by simp)
 | some p=>
   rw [qv l b rg p hr];exact akw (asi b a c hr (h a c))
theorem mh {l:Lin} (nx:P2) (K:P2->Bool) (d:∀p q,am l p q=true->K p≠K q) (v:Bool):∀(A:List P2),(∀p∈A,K p=v)->((v7 l (prs nx A)).filter K).length<=(if v=true then A.length else 0)+(if K nx=v then 0 else 1)/\(A=[]->(v7 l (prs nx A)).filter K=[])
 | [],_=>by simp [v7,prs]
 | [p],h=>by
   have a:=h p (by simp);refine ⟨?_,by simp⟩;rw [show v7 l (prs nx [p])=p::gw l p nx by simp [v7,prs],zbv,a]
   have hi:(gw l p nx).length<=if K nx=v then 0 else 1:=by
    unfold gw;split
    ·rename_i c;have:=d p nx c;rw [if_neg (fun e=>this (by rw [a,e]))];simp
    simp
   have g:=List.length_filter_le K (gw l p nx);cases v with
   | true=>simp only [if_true,zaf,zab]; omega
   | false=>simp only [zbd,if_false]; omega
 | p::q::r,h=>by
   have a:=h p (by simp);have f:=h q (by simp);obtain ⟨b,_⟩:=mh nx K d v (q::r) fun x hx=>h x (by simp at hx |-; exact .inr hx);refine ⟨?_,by simp⟩
   have hi:gw l p q=[]:=by
    unfold gw;split
    ·rename_i c;exact absurd (a.trans f.symm) (d p q c)
    rfl
   rw [prs,show v7 l ((p,q)::prs nx (q::r))=p::(gw l p q++v7 l (prs nx (q::r))) by simp [v7],hi,zbj,zbv,a];cases v with
   | true=>simp only [if_true,zaf] at b |-; omega
   | false=>simp only [zbd,if_false] at b |-; exact b
theorem aua {l:Lin} (y:l.ok) (h:acx rg):(p6 l rg).length<=rg.length+1:=by
 have a:∀p q,am l p q=true->m6 l p≠m6 l q:=fun p q d=>by
  unfold am at d;unfold m6;simp only [Bool.or_eq_true,Bool.and_eq_true,decide_eq_true_eq] at d;split
  ·rcases d with d | d
   ·rw [decide_eq_false (by omega),decide_eq_true (by omega)]; simp
   rw [decide_eq_true (by omega),decide_eq_false (by omega)]; simp
  rcases d with d | d
  ·rw [decide_eq_true (by omega),decide_eq_false (by omega)]; simp
  rw [decide_eq_false (by omega),decide_eq_true (by omega)]; simp
 have u:Uni (m6 l) rg:=by
  unfold m6;cases ha:l.above with
  | true=>
    obtain ⟨v,A,B,C,e,n,x,w⟩:=h l.axis (l.at'-1)
    have i:∀p,(if true=true then decide (sel l.axis p>=l.at') else decide (sel l.axis p<=l.at'))=!thr l.axis (l.at'-1) p:=fun p=>by
     unfold thr;rw [if_pos rfl];by_cases t:sel l.axis p>=l.at'
     ·rw [decide_eq_true t,decide_eq_false (by omega)]; rfl
     rw [decide_eq_false t,decide_eq_true (by omega)]; rfl
    exact ⟨!v,A,B,C,e,fun p k=>(i p).trans (by rw [n p k]),fun p k=>(i p).trans (by rw [x p k]),fun p k=>(i p).trans (by rw [w p k])⟩
  | false=>
    have:=h l.axis l.at';exact this
 cases hr:rg.head? with
 | none=>
   have:rg=[]:=by cases rg with
    | nil=>rfl
    | cons=>simp at hr
   subst this;simp [p6,q7]
 | some h0=>
   rw [qv l y rg h0 hr];generalize m6 l=K at a u |-;obtain ⟨v,A,B,C,rfl,f,g,r⟩:=u
   have j:∀(v:Bool) (A B:List P2),(∀p∈A,K p=v)->(∀p∈B,K p=!v)->(A++B).head?=some h0->((v7 l (prs h0 (A++B))).filter K).length<=(A++B).length+1:=fun v A B f g o=>by
    cases B with
    | nil=>
      rw [zbf] at o |-;have:=(mh h0 K a v A f).1;have hv:K h0=v:=f h0 (List.mem_of_mem_head? o);rw [if_pos hv] at this;split at this<;>omega
    | cons b B=>
      rw [qc,pz,zaz,zal,zal];cases A with
      | nil=>
        have n:h0=b:=by simpa using o.symm
        subst n;have c:=(mh h0 K a (!v) (h0::B) g).1;rw [if_pos (g h0 (by simp))] at c;simp only [prs,v7,List.flatMap_nil,List.filter_nil,zab];have:((v7 l (prs h0 (h0::B))).filter K).length<=(h0::B).length+1:=by split at c<;>omega
        simp only [v7] at this;omega
      | cons a0 A=>
        have n:h0=a0:=by simpa using o.symm
        subst n;have m:=(mh b K a v (h0::A) f).1;have c:=(mh h0 K a (!v) (b::B) g).1;simp only [zaf] at m c |-;cases v<;>simp only [if_true,zbx,Bool.not_true,zbd,if_false] at m c<;>(split at m<;>split at c<;>omega)
   cases C with
   | nil=>rw [zbf] at hr |-; exact j v A B f g hr
   | cons c0 C=>
     cases B with
     | nil=>
       have:=j v (A++(c0::C)) [] (fun p k=>(zao.1 k).elim (f p) (r p)) (by simp) (by simpa using hr);simpa using this
     | cons b B=>
       cases A with
       | nil=>
         have:=j (!v) (b::B) (c0::C) g (by rw [Bool.not_not]; exact r) (by simpa using hr);simpa using this
       | cons a0 A=>
         have n:h0=a0:=by simpa using hr.symm
         subst n;rw [show (b::B)++(c0::C)=b::(B++c0::C) from rfl,qc,pz,zaz];rw [show b::(B++c0::C)=(b::B)++c0::C from rfl,qc,pz,zaz];have m:=(mh b K a v (h0::A) f).1;have c:=(mh c0 K a (!v) (b::B) g).1;have s:=(mh h0 K a v (c0::C) r).1;rw [if_pos (f h0 (by simp))] at s;simp only [zal,zaf] at m c s |-;cases v<;>simp only [if_true,zbx,Bool.not_true,zbd,if_false] at m c s<;>(split at m<;>split at c<;>omega)
theorem ae2 {lo hi:P2} {rg:List P2} (h:acx rg):∀i,i<=4->acx (aq lo hi rg i)/\(aq lo hi rg i).length<=rg.length+i
 | 0,_=>⟨h,by simp [aq]⟩
 | i+1,hi'=>by
   obtain ⟨c,d⟩:=ae2 (lo:=lo) (hi:=hi) h i (by omega);obtain ⟨l,b⟩:∃l,(cq lo hi)[i]?=some l:=⟨(cq lo hi)[i]'(by simp [cq]; omega),by simp [cq,show i<4 by omega]⟩
   have a:l.ok:=by
    have:=zak b;simp only [cq,zah,List.not_mem_nil,or_false] at this;rcases this with rfl | rfl | rfl | rfl
    ·exact .inl rfl
    ·exact .inl rfl
    ·exact .inr rfl
    exact .inr rfl
   have e:aq lo hi rg (i+1)=p6 l (aq lo hi rg i):=by
    unfold aq;rw [zat,b,List.foldl_append]
    rfl
   rw [e];have:=aua a c;exact ⟨aqr a c,by omega⟩

def ri:Mk P0 f165:={ x:=_ }
def oa:Mk P0 f137:={ x:=_ }
def dl:Mk P0 f101:={ x:=_ }
def mq:Mk P0 f61:={ x:=_ }
def sx (x y:Int):Int:=if x<y then -1 else if y<x then 1 else 0
theorem aoe (x:Int):a9 P0 165 [int .i64 x] [] (bl false) []:=by
 refine ri.t func165 ?_;have h:(x != x)=false:=by simp
 push_cast [ri,h,zab]
theorem aox (x y:Int):a9 P0 137 [int .i64 x,int .i64 y] [] (int .i64 (sx x y)) []:=by
 refine oa.t func137 ?_;unfold sx
 push_cast [oa,zab]
 refine a7 (aoe x) rfl trivial ?_
 push_cast
 refine a7 (aoe y) rfl trivial ?_
 push_cast
 refine b8 (fun a=>?_) (fun a=>?_)
 ·rw [if_pos (of_decide_eq_true a)]
  push_cast
 have a:=of_decide_eq_false a;rw [if_neg a]
 push_cast
 refine b8 (fun b=>?_) (fun b=>?_)
 ·rw [if_pos (of_decide_eq_true b)]
  push_cast
 rw [if_neg (of_decide_eq_false b)]
 push_cast
def acu (p q:P2):Int:=if sx p.1 q.1≠0 then sx p.1 q.1 else sx p.2 q.2
theorem avh (p q:P2):a9 P0 101 [.own 1000000 0 0 2,.own 1000001 0 0 2] [.box [int .i64 p.1,int .i64 p.2],.box [int .i64 q.1,int .i64 q.2]] (int .i64 (acu p q)) [.box [int .i64 p.1,int .i64 p.2],.box [int .i64 q.1,int .i64 q.2]]:=by
 refine dl.t func101 ?_;simp only [dl,push_cast,↓reduceIte,reduceCtorEq,zB,zE,zA,zS,zL,zD,zM]
 refine c9 [(0,false),(1,false),(9,false),(10,false),(11,false)] (fun vs pos b=>∃i:Nat,i<=2/\(1<=i->sx p.1 q.1=0)/\(2<=i->sx p.2 q.2=0)/\vs=[.own 1000000 0 0 2,.own 1000001 0 0 2,.own 1000000 0 0 2,int .i64 2,int .i64 i]/\pos=[.box [int .i64 p.1,int .i64 p.2],.box [int .i64 q.1,int .i64 q.2]]/\b=[])
  (fun vs _ _=>match vs with | [_,_,_,_,.r (.v (.int _ a))]=>(2-a).toNat | _=>0) rfl ?_ ?_
 ·simp only [push_cast,↓reduceIte,reduceCtorEq,zB,zE,zA,zS,zL,zD,zM];exact ⟨0,by omega,by omega,by omega,rfl⟩
 rintro vs pos b ⟨i,hi,h,j,rfl,rfl,rfl⟩;have d:∀k:Nat,k<2->decide (((k:Nat):Int)<2)=true/\decide (((k:Nat):Int)>=2)=false:=fun k n=>⟨decide_eq_true (by omega),decide_eq_false (by omega)⟩
 rcases (show i=0\/i=1\/i=2 by omega) with rfl | rfl | rfl
 ·have o:=(d 0 (by omega)).1;have m:=(d 0 (by omega)).2;have s:zan ((0:Nat):Int)=0:=rfl;have l:IntKind.i64.wrap (((0:Nat):Int)+1)=((1:Nat):Int):=rfl;have e:decide ((0:Int)<2)=true:=rfl;have f:decide ((0:Int)>=2)=false:=rfl;have g:zan (0:Int)=0:=rfl;have c:IntKind.i64.wrap ((0:Int)+1)=1:=rfl;simp only [e,f,g,c,push_cast,↓reduceIte,reduceCtorEq,zB,zE,zA,zS,zL,zD,zM]
  repeat refine And.intro (by first | decide | omega | exact fun _=>by decide | (simp +contextual; done) | kernel_rfl) ?_
  refine a7 (aox p.1 q.1) rfl trivial ?_;simp only [push_cast,↓reduceIte,reduceCtorEq,zB,zE,zA,zS,zL,zD,zM];refine b8 (fun hc=>?_) (fun hc=>?_)
  ·have hc:sx p.1 q.1≠0:=by simpa using hc
   simp only [push_cast,↓reduceIte,reduceCtorEq,zB,zE,zA,zS,zL,zD,zM];unfold acu;rw [if_pos hc]
  have hc:sx p.1 q.1=0:=by simpa using hc
  simp only [c,push_cast,↓reduceIte,reduceCtorEq,zB,zE,zA,zS,zL,zD,zM];exact ⟨⟨1,by omega,fun _=>hc,by omega,rfl⟩,by omega⟩
 ·have e:decide ((1:Int)<2)=true:=rfl;have f:decide ((1:Int)>=2)=false:=rfl;have g:zan (1:Int)=1:=rfl;have c:IntKind.i64.wrap ((1:Int)+1)=2:=rfl;simp only [e,f,g,c,push_cast,↓reduceIte,reduceCtorEq,zB,zE,zA,zS,zL,zD,zM]
  repeat refine And.intro (by first | decide | omega | exact fun _=>by decide | (simp +contextual; done) | kernel_rfl) ?_
  refine a7 (aox p.2 q.2) rfl trivial ?_;simp only [push_cast,↓reduceIte,reduceCtorEq,zB,zE,zA,zS,zL,zD,zM];refine b8 (fun hc=>?_) (fun hc=>?_)
  ·have hc:sx p.2 q.2≠0:=by simpa using hc
   simp only [push_cast,↓reduceIte,reduceCtorEq,zB,zE,zA,zS,zL,zD,zM];unfold acu;rw [if_neg (by rw [h (by omega)]; simp)]
  have hc:sx p.2 q.2=0:=by simpa using hc
  simp only [c,push_cast,↓reduceIte,reduceCtorEq,zB,zE,zA,zS,zL,zD,zM];exact ⟨⟨2,by omega,fun _=>h (by omega),fun _=>hc,rfl⟩,by omega⟩
 have e:decide ((2:Int)<2)=false:=rfl;simp only [e,push_cast,↓reduceIte,reduceCtorEq,zB,zE,zA,zS,zL,zD,zM];unfold acu;rw [if_neg (by rw [h (by omega)]; simp),j (by omega)]
theorem apa (p q:P2):a9 P0 61 [pv2 p,pv2 q] [] (int .i64 (acu p q)) []:=by
 have a:=ep;refine mq.t func61 ?_
 push_cast [mq,pv2,pnt,zab]
 refine ⟨by omega,by omega,?_⟩;refine c8 (avh p q) rfl ⟨rfl,rfl,trivial⟩ ?_
 push_cast
 kernel_rfl

def br:Mk P0 f127:={ x:=_ }
def ltP (p q:P2):Bool:=decide (acu p q<0)
def dq (x:P2):List P2->List P2
 | []=>[x]
 | e::r=>if ltP x e=true then e::dq x r else x::e::r
def si (l:List P2):List P2:=l.foldl (fun s x=>dq x s) []
def o8 (l:List P2):List P2:=(si l).reverse
theorem ahx (x:P2):∀s,(dq x s).length=s.length+1
 | []=>rfl
 | e::r=>by
   rw [dq];split
   ·simp [ahx x r]
   simp
theorem ra (l:List P2) (p:P2):si (l++[p])=dq p (si l):=by simp [si]
theorem agu (l:List P2):(si l).length=l.length:=by
 refine bk (P:=fun l=>(si l).length=l.length) rfl (fun l p a=>?_) l;rw [ra,ahx,a,zal]
 rfl
theorem rb (l:List P2):(o8 l).length=l.length:=by rw [o8,List.length_reverse,agu]
def agF:AV:=.fn (.func 61) [] 0
def l5 (l:List P2):Ob:=.row 2 (pnt 0 0) false true (l.map ptR)
theorem ast (A T:List P2) (e x:P2):(((A++e::x::T).map ptR).set (A.length+1) (ptR e)).set A.length (ptR x)=(A++x::e::T).map ptR:=by
 have b:(A++e::x::T).set (A.length+1) e=A++e::e::T:=by simp
 have a:(A++e::e::T).set A.length x=A++x::e::T:=by simp
 rw [<- zbq,b,<- zbq,a]
theorem qt (A T:List P2) (e:P2) (z:RV):((A++e::T).map ptR).getD A.length z=ptR e:=by
 rw [zaj]; simp
theorem af8 (A T:List P2) (e x:P2) (z:RV):((A++e::x::T).map ptR).getD (A.length+1) z=ptR x:=by
 rw [zaj]; simp
theorem av6 (l:List P2) (Q:1<=l.length/\l.length<=1000):a9 P0 127 [.own 1000000 0 0 l.length,int .i64 0,int .i64 l.length,agF] [l5 l] (.tup []) [l5 (o8 l)]:=by
 refine br.t func127 ?_;have q:uq P0 61=true:=rfl;have U:IntKind.i64.wrap ((0:Int)+1)=1:=rfl
 push_cast [br,agF,l5,U,zab,zaf]
 refine c9 [(0,false),(1,false),(2,false),(3,false),(8,false)] (fun vs pos b=>∃i:Nat,1<=i/\i<=l.length/\vs=[.own 1000000 0 0 l.length,int .i64 0,int .i64 l.length,agF,int .i64 i]/\pos=[l5 (o8 (l.take i)++l.drop i)]/\b=[])
  (fun vs _ _=>match vs with | [_,_,_,_,.r (.v (.int _ a))]=>(l.length-a).toNat | _=>0) rfl ?_ ?_
 ·push_cast
  obtain ⟨p,r,rfl⟩:∃p r,l=p::r:=by
   cases l with
   | nil=>simp at Q
   | cons p r=>exact ⟨p,r,rfl⟩
  exact ⟨1,by omega,by omega,rfl,rfl⟩
 rintro vs pos b ⟨i,W,V,rfl,rfl,rfl⟩
 push_cast [agF,l5]
 refine b8 (fun hi=>?_) (fun hi=>?_)
 ·have hi:i<l.length:=by have:=of_decide_eq_true hi; omega
  have L:IntKind.i64.wrap ((i:Int)+1)=(i:Int)+1:=a5 (by omega);obtain ⟨x,hx⟩:∃x,l[i]=x:=⟨_,rfl⟩
  have I:l.take (i+1)=l.take i++[x]:=by rw [List.take_succ_eq_append_getElem hi,hx]
  have J:l.drop i=x::l.drop (i+1):=by rw [List.drop_eq_getElem_cons hi,hx]
  obtain ⟨s,E⟩:∃s,si (l.take i)=s:=⟨_,rfl⟩
  have w:s.length=i:=by rw [<- E,agu,zca]; omega
  have k:o8 (l.take i)=s.reverse:=by rw [o8,E]
  have d:o8 (l.take (i+1))=(dq x s).reverse:=by rw [o8,I,ra,E]
  obtain ⟨D,H⟩:∃D,l.drop (i+1)=D:=⟨_,rfl⟩
  rw [k,J,H]
  push_cast
  refine c9 [(0,false),(1,false),(2,false),(3,false),(8,false),(9,false)] (fun vs pos b=>∃(m r:List P2),s=m++r/\dq x s=m++dq x r/\vs=[.own 1000000 0 0 l.length,int .i64 0,int .i64 l.length,agF,int .i64 i,int .i64 r.length]/\pos=[l5 (r.reverse++x::(m.reverse++D))]/\b=[])
   (fun vs _ _=>match vs with | [_,_,_,_,_,.r (.v (.int _ a))]=>a.toNat | _=>0) rfl ?_ ?_
  ·push_cast [agF,l5]
   exact ⟨[],s,rfl,rfl,by rw [w],rfl⟩
  rintro vs pos b ⟨m,r,M,h,rfl,rfl,rfl⟩
  have j:∀T,T=r.reverse++x::(m.reverse++D)->dq x r=x::r->T=o8 (l.take (i+1))++D:=fun T u O=>by
   rw [u,d,h,O];simp
  cases r with
  | nil=>
    have P:decide ((0:Int)>0)=false:=rfl
    push_cast [agF,l5,P,L,zab]
    refine And.intro (by kernel_rfl) ⟨⟨i+1,by omega,by omega,by simp,?_⟩,by omega⟩;rw [j _ rfl rfl,H]
  | cons e r=>
    have R:r.length<i:=by rw [<- w,M]; simp; omega
    have N:decide (((r.length:Nat):Int)+1>0)=true:=decide_eq_true (by omega);have K:IntKind.i64.wrap (((r.length:Nat):Int)+1-1)=(r.length:Int):=by rw [a5 (by omega)]; omega
    have G:=apa x e;have S:(e::r).reverse++x::(m.reverse++D)=r.reverse++e::x::(m.reverse++D):=by simp
    obtain ⟨T,u⟩:∃T,m.reverse++D=T:=⟨_,rfl⟩
    obtain ⟨A,C⟩:∃A,r.reverse=A:=⟨_,rfl⟩
    have y:A.length=r.length:=by rw [<- C]; simp
    rw [S,u,C];have o:=qt A (x::T) e;have B:=af8 A T e x;rw [y] at o B;have c:ptR e=.agg [.v (.int .i64 e.1),.v (.int .i64 e.2)]:=rfl;have f:ptR x=.agg [.v (.int .i64 x.1),.v (.int .i64 x.2)]:=rfl
    push_cast [agF,l5,N,K,o,B,c,f,q,zaf,zag,zai,zac]
    refine ⟨⟨by omega,by omega⟩,⟨by omega,by omega⟩,?_⟩;refine j8 (as':=[pv2 x,pv2 e]) rfl ?_;refine c8 G rfl trivial ?_
    push_cast [agF,l5,N,K,o,B,c,f,q,zaf,zag,zai,zac]
    refine And.intro (by kernel_rfl) ?_;refine b8 (fun hc=>?_) (fun hc=>?_)
    ·have n:ltP x e=true:=hc;have g:=ast A T e x;rw [y,c,f] at g
     have F:∀z,(((A++e::x::T).map ptR).set (r.length+1) (.agg [.v (.int .i64 e.1),.v (.int .i64 e.2)])).getD r.length z=.agg [.v (.int .i64 e.1),.v (.int .i64 e.2)]:=fun z=>by
      rw [zaj,List.getElem?_set_ne (by omega),<- zaj,o];exact c
     push_cast [agF,l5,K,o,B,F,c,f,g,c7,zaf,zag,zai,zac]
     repeat refine And.intro (by first | exact ⟨by omega,by omega⟩ | kernel_rfl) ?_
     refine ⟨⟨m++[e],r,by rw [M]; simp,by rw [h,dq,if_pos n]; simp,by simp,?_⟩,by omega⟩;rw [<- C,<- u];simp
    have n:ltP x e=false:=hc
    push_cast [L]
    refine ⟨⟨i+1,by omega,by omega,by simp,?_⟩,by omega⟩;have:=j (A++e::x::T) (by rw [<- C,<- u]; simp) (by rw [dq,n]; rfl);rw [this,H]
 have hi:i=l.length:=by have:=of_decide_eq_false hi; omega
 subst hi
 push_cast
 rw [zcc,List.drop_length,zbf]

def cn:Mk P0 f99:={ x:=_ }
def ca:Mk P0 f60:={ x:=_ }
def ta:Mk P0 f64:={ x:=_ }
def al3 (n:Nat):Nat:=if n=0 then 0 else Nat.log2 n+1
theorem aqt (n:Nat) (d:n<16):a9 P0 136 [int .u64 n] [] (int .i64 (al3 n)) []:=by
 refine abo rfl (by decide) ?_;have b:decide ((n:Int)>=4294967296)=false:=by simp; omega
 have c:decide ((n:Int)>=65536)=false:=by simp; omega
 have a:decide ((n:Int)>=256)=false:=by simp; omega
 have w:IntKind.u8.wrap (n:Int)=n:=by simp [IntKind.wrap,IntKind.bits,IntKind.signed]; omega
 push_cast [zp,b,c,a,w,zag,zab]
 refine ⟨⟨by omega,(show (n:Int)<((256:Nat):Int) by omega)⟩,?_⟩;refine congrArg (fun z=>AV.r (.v (.int .i64 z))) ?_;clear b c a w
 revert n
 decide +kernel
theorem aof (n:Nat) (a:n<16):a9 P0 100 [int .u64 n] [] (int .i64 (al3 n)) []:=by
 refine ab1.t func100 ?_;have w:IntKind.u64.wrap (n:Int)=n:=by rw [IntKind.wrap_u64]; omega
 push_cast [ab1,w,zab]
 refine a7 (aqt n a) rfl trivial ?_
 push_cast
theorem avn (l:List P2) (e:1<=l.length/\l.length<=12) (b:Int):a9 P0 99 [.own 1000000 0 0 l.length,int .i64 0,int .i64 l.length,int .i64 b,agF] [l5 l] (.tup []) [l5 (o8 l)]:=by
 refine cn.t func99 ?_
 push_cast [cn,agF,l5,zab,zaf]
 refine c9 [(0,false),(1,false),(2,false),(3,false),(4,false),(10,false),(11,false)] (fun vs pos a=>vs=[.own 1000000 0 0 l.length,int .i64 0,int .i64 l.length,int .i64 b,agF,bl true,bl true]/\pos=[l5 l]/\a=[])
  (fun _ _ _=>0) rfl ?_ ?_
 ·push_cast [agF,l5]
 rintro vs pos a ⟨rfl,rfl,rfl⟩;have d:IntKind.i64.wrap ((l.length:Int)-0)=(l.length:Int):=by rw [a5 (by omega)]; omega
 have c:decide ((l.length:Int)<=12)=true:=decide_eq_true (by omega)
 push_cast [agF,l5,d,c]
 refine vt ?_
 push_cast
 refine b5 (as':=[.own 1000000 0 0 l.length,int .i64 0,int .i64 l.length,agF]) rfl ?_;refine a7 (po:=[l5 l]) (av6 l (by omega)) rfl ⟨⟨rfl,by simp [rb]⟩,trivial⟩ ?_
 push_cast [l5,zaf,zab]
theorem au6 (l:List P2) (a:1<=l.length/\l.length<=12):a9 P0 60 [.own 1000000 0 0 l.length,agF] [l5 l] (.tup []) [l5 (o8 l)]:=by
 refine ca.t func60 ?_;have w:IntKind.u64.wrap ((l.length:Nat):Int)=(l.length:Int):=by rw [IntKind.wrap_u64]; omega
 push_cast [ca,agF,l5,w,zab,zaf]
 refine a7 (aof l.length (by omega)) rfl trivial ?_
 push_cast
 refine vt ?_
 push_cast
 refine b5 (as':=[.own 1000000 0 0 l.length,int .i64 0,int .i64 l.length,int .i64 (al3 l.length),agF]) rfl ?_;refine a7 (po:=[l5 l]) (avn l a _) rfl ⟨⟨rfl,by simp [rb]⟩,trivial⟩ ?_
 push_cast [l5,zaf,zab]
theorem awb (l G:List P2) (D:l.length<=1000):a9 P0 64 [.own 1000000 0 0 l.length] [l5 (l++G)] (.tup []) [l5 (l.reverse++G)]:=by
 refine ta.t func64 ?_;have y:IntKind.i64.wrap ((l.length:Int)-1)=(l.length:Int)-1:=a5 (by omega)
 push_cast [ta,l5,y,zab,zaf]
 refine c9 [(0,false),(2,false),(3,false)] (fun vs pos e=>∃(A M B:List P2),A.length=B.length/\l.reverse=A++(M.reverse++B)/\vs=[.own 1000000 0 0 l.length,int .i64 A.length,int .i64 ((l.length:Int)-1-A.length)]/\pos=[l5 (A++(M++(B++G)))]/\e=[])
  (fun vs _ _=>match vs with | [_,_,.r (.v (.int _ a))]=>a.toNat | _=>0) rfl ?_ ?_
 ·push_cast [l5]
  refine ⟨[],l,[],rfl,by simp,?_,?_⟩
  ·simp
  simp
 rintro vs pos e ⟨A,M,B,n,d,rfl,rfl,rfl⟩
 have c:l.length=A.length+(M.length+B.length):=by
  have:=congrArg List.length d;simpa using this
 push_cast [l5]
 refine b8 (fun hc=>?_) (fun hc=>?_)
 ·have hc:=of_decide_eq_true hc
  obtain ⟨p,b,q,rfl⟩:∃p b q,M=p::(b++[q]):=by
   cases M with
   | nil=>simp at c; omega
   | cons p M=>
     rcases List.eq_nil_or_concat M with rfl | ⟨b,q,rfl⟩
     ·simp at c; omega
     exact ⟨p,b,q,by simp⟩
  obtain ⟨J,i⟩:∃J:Nat,J=A.length+b.length+1:=⟨_,rfl⟩
  simp only [zaf,zal,zab] at c;have C:((l.length:Nat):Int)-1-(A.length:Int)=(J:Int):=by omega
  obtain ⟨T,h⟩:∃T,B++G=T:=⟨_,rfl⟩
  have f:A++(p::(b++[q])++(B++G))=A++p::(b++q::T):=by rw [h]; simp
  have o:∀z,((A++p::(b++q::T)).map ptR).getD A.length z=.agg [.v (.int .i64 p.1),.v (.int .i64 p.2)]:=fun z=>qt A _ p z
  have k:∀z,((A++p::(b++q::T)).map ptR).getD J z=.agg [.v (.int .i64 q.1),.v (.int .i64 q.2)]:=fun z=>by
   have:=qt (A++p::b) T q z;rw [show A++p::(b++q::T)=(A++p::b)++q::T by simp,i];simp only [zal,zaf] at this;rw [show A.length+b.length+1=A.length+(b.length+1) by omega];exact this
  have s:((A++p::(b++q::T)).map ptR).set A.length (.agg [.v (.int .i64 q.1),.v (.int .i64 q.2)])=(A++q::(b++q::T)).map ptR:=by
   rw [show (RV.agg [.v (.int .i64 q.1),.v (.int .i64 q.2)])=ptR q from rfl,<- zbq];congr 1;simp
  have g:∀z,((A++q::(b++q::T)).map ptR).getD J z=.agg [.v (.int .i64 q.1),.v (.int .i64 q.2)]:=fun z=>by
   have:=qt (A++q::b) T q z;rw [show A++q::(b++q::T)=(A++q::b)++q::T by simp,i];simp only [zal,zaf] at this;rw [show A.length+b.length+1=A.length+(b.length+1) by omega];exact this
  have w:((A++q::(b++q::T)).map ptR).set J (.agg [.v (.int .i64 p.1),.v (.int .i64 p.2)])=(A++q::(b++p::T)).map ptR:=by
   rw [show (RV.agg [.v (.int .i64 p.1),.v (.int .i64 p.2)])=ptR p from rfl,<- zbq];congr 1
   have u:((A++q::b)++q::T).set J p=(A++q::b)++p::T:=by
    rw [show J=(A++q::b).length by simp; omega];simp
   rw [show A++q::(b++q::T)=(A++q::b)++q::T by simp,u];simp
  have j:IntKind.i64.wrap ((A.length:Int)+1)=(A.length:Int)+1:=a5 (by omega);have x:IntKind.i64.wrap ((J:Int)-1)=(J:Int)-1:=a5 (by omega);rw [C,f]
  push_cast [l5,o,k,g,s,w,j,x,c7,zag,zai,zac]
  repeat refine And.intro (by first | exact ⟨by omega,by omega⟩ | kernel_rfl) ?_
  refine ⟨⟨A++[q],b,p::B,by simp; omega,by rw [d]; simp,?_,?_⟩,by omega⟩
  ·simp;omega
  rw [<- h]; simp
 have hc:=of_decide_eq_false hc
 push_cast
 rw [d]
 have m:M.reverse=M:=by
  rcases M with _ | ⟨p,_ | ⟨q,M⟩⟩
  ·rfl
  ·rfl
  simp at c; omega
 rw [m];simp

def cz:Mk P0 f62:={ x:=_ }
def bo (u:P2):List P2->List P2
 | []=>[]
 | q::r=>if q=u then bo u r else q::bo q r
def t4:List P2->List P2
 | []=>[]
 | p::r=>p::bo p r
theorem acs:∀(u:P2) (l:List P2),(bo u l).length<=l.length
 | u,[]=>zav _
 | u,q::r=>by
   rw [bo];split
   ·have:=acs u r; simp; omega
   have:=acs q r; simp; omega
theorem afx (l:List P2):(t4 l).length<=l.length:=by
 cases l with
 | nil=>exact zav _
 | cons p r=>have:=acs p r; simp [t4]; exact this
theorem abh (p q:P2):(p.1 == q.1&&p.2 == q.2)=decide (p=q):=by
 rw [Bool.eq_iff_iff];simp [Prod.ext_iff]
theorem asr (o W:List P2) (k n:Nat) (b:k=o.length) (a:n=W.length):spl ((o++W).map ptR) k (zce n (.agg [.v (.int .i64 0),.v (.int .i64 0)]))=(o++zce n (0,0)).map ptR:=by
 subst b; subst a;unfold spl c7;rw [zbb,List.take_left' (by simp),List.drop_of_length_le (by simp),zbf,zbb,List.map_replicate]
 rfl
theorem awm (l:List P2) (U:1<=l.length/\l.length<=1000):a9 P0 62 [.own 1000000 0 0 l.length] [l5 l] (.own 1000000 0 0 (t4 l).length) [l5 (t4 l++zce (l.length-(t4 l).length) (0,0))]:=by
 refine cz.t func62 ?_;simp only [cz,l5,push_cast,↓reduceIte,reduceCtorEq,zB,zE,zA,zS,zL,zD,zM];refine b8 (fun B=>?_) (fun B=>?_)
 ·have B:=of_decide_eq_true B
  obtain ⟨p,rfl⟩:∃p,l=[p]:=by
   rcases l with _ | ⟨p,_ | ⟨q,r⟩⟩
   ·simp at U
   ·exact ⟨p,rfl⟩
   simp at B; omega
  simp only [push_cast,↓reduceIte,reduceCtorEq,zB,zE,zA,zS,zL,zD,zM];exact ⟨rfl,rfl⟩
 have B:=of_decide_eq_false B;simp only [push_cast,↓reduceIte,reduceCtorEq,zB,zE,zA,zS,zL,zD,zM]
 refine c9 [(0,false),(3,false)] (fun vs pos f=>∃(A:List P2) (x:P2) (T:List P2),l=A++x::T/\t4 l=A++x::bo x T/\vs=[.own 1000000 0 0 l.length,int .i64 ((A.length:Int)+1)]/\pos=[l5 (A++x::T)]/\f=[])
  (fun vs _ _=>match vs with | [_,.r (.v (.int _ a))]=>(l.length-a).toNat | _=>0) rfl ?_ ?_
 ·simp only [l5,push_cast,↓reduceIte,reduceCtorEq,zB,zE,zA,zS,zL,zD,zM]
  obtain ⟨p,r,rfl⟩:∃p r,l=p::r:=by
   cases l with
   | nil=>simp at U
   | cons p r=>exact ⟨p,r,rfl⟩
  exact ⟨[],p,r,rfl,rfl,rfl,rfl⟩
 rintro vs pos f ⟨A,x,T,m,o,rfl,rfl,rfl⟩;have i:l.length=A.length+1+T.length:=by rw [m]; simp; omega
 simp only [l5,push_cast,↓reduceIte,reduceCtorEq,zB,zE,zA,zS,zL,zD,zM];cases T with
 | nil=>
   have L:decide (((A.length:Nat):Int)+1<((l.length:Nat):Int))=false:=decide_eq_false (by simp at i; omega);simp only [L,push_cast,↓reduceIte,reduceCtorEq,zB,zE,zA,zS,zL,zD,zM];rw [o];have h1:(A++x::bo x []).length=l.length:=by rw [m]; rfl
   rw [h1,Nat.sub_self];simp [bo]
 | cons y T=>
   simp only [zaf] at i;have L:decide (((A.length:Nat):Int)+1<((l.length:Nat):Int))=true:=decide_eq_true (by omega);have wk:IntKind.i64.wrap (((A.length:Nat):Int)+1-1)=(A.length:Int):=by rw [a5 (by omega)]; omega
   have M:IntKind.i64.wrap (((A.length:Nat):Int)+1+1)=(A.length:Int)+2:=by
    have:A.length<1000:=by omega
    rw [a5 (by omega)]; omega
   have gx:∀z,((A++x::y::T).map ptR).getD A.length z=.agg [.v (.int .i64 x.1),.v (.int .i64 x.2)]:=fun z=>qt A _ x z;have gy:∀z,((A++x::y::T).map ptR).getD (A.length+1) z=.agg [.v (.int .i64 y.1),.v (.int .i64 y.2)]:=fun z=>af8 A _ x y z;have F:=abh y x;simp only [L,wk,gx,gy,zag,zai,zac,push_cast,↓reduceIte,reduceCtorEq,zB,zE,zA,zS,zL,zD,zM];refine And.intro ⟨by omega,by omega⟩ ?_;refine And.intro ⟨by omega,by omega⟩ ?_;refine And.intro (by kernel_rfl) ?_;refine b8 (fun d=>?_) (fun d=>?_)
   ·have d:y=x:=of_decide_eq_true (F.symm.trans d);subst d;obtain ⟨e,R⟩:∃e,A.length+1=e:=⟨_,rfl⟩
    have N:((A.length:Nat):Int)+1=(e:Int):=by omega
    have Z:((A.length:Nat):Int)+2=(e:Int)+1:=by omega
    simp only [l5,R,N,zag,zai,zac,push_cast,↓reduceIte,reduceCtorEq,zB,zE,zA,zS,zL,zD,zM];obtain ⟨s,P⟩:∃s:Nat,((l.length:Int)-(e:Int)).toNat=s:=⟨_,rfl⟩
    have h4:s=T.length+1:=by omega
    refine And.intro ⟨by omega,by omega,by omega⟩ ?_;simp only [P]
    refine c9 [(0,false),(3,false),(4,false),(5,false)] (fun vs pos f=>∃(C W E:List P2) (u:P2) (k c:Nat),k=C.length+1/\e+c=C.length+1+W.length+1/\1<=c/\C.length+1+W.length+1+E.length=l.length/\t4 l=C++u::bo u E/\vs=[.own 1000000 0 0 l.length,int .i64 k,.own 1000000 0 e s,int .i64 c]/\pos=[l5 ((C++[u])++(W++u::E))]/\f=[])
     (fun vs _ _=>match vs with | [_,_,_,.r (.v (.int _ a))]=>(l.length-a).toNat | _=>0) rfl ?_ ?_
    ·simp only [l5,push_cast,↓reduceIte,reduceCtorEq,zB,zE,zA,zS,zL,zD,zM];refine ⟨A,[],T,y,e,1,by omega,by simp; omega,by omega,by simp; omega,?_,rfl,?_⟩
     ·rw [o,bo,if_pos rfl]
     simp
    rintro vs pos f ⟨C,W,E,u,k,c,hk,Y,V,S,n,rfl,rfl,rfl⟩;simp only [l5,push_cast,↓reduceIte,reduceCtorEq,zB,zE,zA,zS,zL,zD,zM];cases E with
    | nil=>
      simp only [zab] at S;have O:decide (((c:Nat):Int)<((s:Nat):Int))=false:=decide_eq_false (by omega);simp only [O,l5,zag,zai,zac,push_cast,↓reduceIte,reduceCtorEq,zB,zE,zA,zS,zL,zD,zM];have h:t4 l=C++[u]:=n;have H:(t4 l).length=C.length+1:=by rw [h]; simp
      refine ⟨⟨by omega,by omega,by omega⟩,⟨by omega,by omega,by omega,by omega⟩,?_,?_⟩
      ·rw [H,show (zan 0)=0 from rfl,show ((k:Int)-0).toNat=C.length+1 by omega]
      rw [asr (C++[u]) (W++[u]) k _ (by simp; omega) (by simp; omega),H,h,show ((l.length:Int)-(k:Int)).toNat=l.length-(C.length+1) by omega]
    | cons v T3=>
      simp only [zaf] at S;have O:decide (((c:Nat):Int)<((s:Nat):Int))=true:=decide_eq_true (by omega);have Q:IntKind.i64.wrap (((c:Nat):Int)-1)=((c-1:Nat):Int):=by rw [a5 (by omega)]; omega
      have j:IntKind.i64.wrap (((c:Nat):Int)+1)=((c+1:Nat):Int):=by rw [a5 (by omega)]; omega
      have G:IntKind.i64.wrap (((k:Nat):Int)+1)=((k+1:Nat):Int):=by rw [a5 (by omega)]; omega
      have gu:∀z,(((C++[u])++(W++u::v::T3)).map ptR).getD (e+(c-1)) z=.agg [.v (.int .i64 u.1),.v (.int .i64 u.2)]:=fun z=>by
       rw [<- zbc,show e+(c-1)=((C++[u])++W).length by simp; omega];exact qt _ _ u z
      have X:∀z,(((C++[u])++(W++u::v::T3)).map ptR).getD (e+c) z=.agg [.v (.int .i64 v.1),.v (.int .i64 v.2)]:=fun z=>by
       rw [<- zbc,show e+c=((C++[u])++W).length+1 by simp; omega];exact af8 _ _ u v z
      simp only [O,Q,j,G,gu,X,l5,zag,zai,zac,push_cast,↓reduceIte,reduceCtorEq,zB,zE,zA,zS,zL,zD,zM];refine And.intro ⟨by omega,by omega⟩ ?_;refine And.intro ⟨by omega,by omega⟩ ?_;refine And.intro (by kernel_rfl) ?_;have g:=abh v u;refine b8 (fun b=>?_) (fun b=>?_)
      ·have b:v≠u:=by
        have K:(v.1 == u.1&&v.2 == u.2)=false:=by
         generalize (v.1 == u.1&&v.2 == u.2)=q at b;cases q
         ·rfl
         cases b
        exact of_decide_eq_false (g.symm.trans K)
       obtain ⟨I,h0,D⟩:∃I:List P2,I.length=W.length/\(((C++[u])++(W++u::v::T3)).map ptR).set k (.agg [.v (.int .i64 v.1),.v (.int .i64 v.2)])=(((C++[u])++[v])++(I++v::T3)).map ptR:=by
        subst hk;rw [show (RV.agg [.v (.int .i64 v.1),.v (.int .i64 v.2)])=ptR v from rfl,<- zbq];cases W with
        | nil=>exact ⟨[],rfl,by congr 1; simp⟩
        | cons w W2=>exact ⟨W2++[u],by simp,by congr 1; simp⟩
       obtain ⟨q,hq⟩:∃q:P2,∀z,(((C++[u])++(W++u::v::T3)).map ptR).getD k z=.agg [.v (.int .i64 q.1),.v (.int .i64 q.2)]:=by
        rw [show k=(C++[u]).length by simp; omega];cases W with
        | nil=>exact ⟨u,qt _ _ u⟩
        | cons w W2=>exact ⟨w,qt _ _ w⟩
       simp only [j,G,X,hq,D,l5,zag,zai,zac,push_cast,↓reduceIte,reduceCtorEq,zB,zE,zA,zS,zL,zD,zM]
       repeat refine And.intro (by first | exact ⟨by omega,by omega⟩ | kernel_rfl) ?_
       refine ⟨⟨C++[u],I,T3,v,k+1,c+1,by simp; omega,by simp; omega,by omega,by simp; omega,?_,by simp,rfl⟩,by omega⟩;rw [n,bo,if_neg b];simp
      have b:v=u:=by
       have K:(v.1 == u.1&&v.2 == u.2)=true:=by
        generalize (v.1 == u.1&&v.2 == u.2)=q at b;cases q
        ·cases b
        rfl
       exact of_decide_eq_true (g.symm.trans K)
      subst b;simp only [j,l5,zag,zai,zac,push_cast,↓reduceIte,reduceCtorEq,zB,zE,zA,zS,zL,zD,zM];refine ⟨⟨C,W++[v],T3,v,k,c+1,by omega,by simp; omega,by omega,by simp; omega,?_,by simp,by simp⟩,by omega⟩;rw [n,bo,if_pos rfl]
   have d:y≠x:=of_decide_eq_false (F.symm.trans d);have J:IntKind.i64.wrap (((A.length:Nat):Int)+1+1)=(A.length:Int)+1+1:=by rw [M]; omega
   simp only [J,l5,zag,zai,zac,push_cast,↓reduceIte,reduceCtorEq,zB,zE,zA,zS,zL,zD,zM];refine ⟨⟨A++[x],y,T,by rw [m]; simp,?_,by simp,by simp⟩,by omega⟩;rw [o,bo,if_neg d];simp

theorem ahb (p a:P2):s6 p [a]=[a]:=rfl
theorem akn (l:List P2) (Z:1<=l.length/\l.length<=1000) (F:∀p∈l,n9 p):a9 P0 63 [a8 l] [] (.own 1000000 0 0 ((j6 l).length-1)) [j7 (j6 l).reverse]:=by
 refine ze.t func63 ?_;have X:=ep;have K:∀i,(j6 (l.take i)).length<=i:=fun i=>by have:=ab6 (l.take i); simp at this; omega
 simp only [ze,a8,push_cast,↓reduceIte,reduceCtorEq,zB,zE,zA,zS,zL,zD,zM]
 refine c9 [(8,false),(6,false),(7,false),(3,false)] (fun vs pos c=>∃i:Nat,i<=l.length/\pos=[] /\
  (i=0/\vs=[int .i64 i,a8 l,int .i64 l.length,.nils 2 (pnt 0 0)]/\c=[] \/
   i≠0/\vs=[int .i64 i,a8 l,int .i64 l.length,.own 2000000 0 0 (j6 (l.take i)).length]/\c=[j7 (j6 (l.take i)).reverse]))
  (fun vs _ _=>match vs with | .r (.v (.int _ a))::_=>(l.length-a).toNat | _=>0) rfl ?_ ?_
 ·simp only [a8,pnt,push_cast,↓reduceIte,reduceCtorEq,zB,zE,zA,zS,zL,zD,zM];exact ⟨0,by omega,.inl ⟨rfl,by simp⟩⟩
 rintro vs pos c ⟨i,hi,rfl,⟨T,rfl,rfl⟩ | ⟨T,rfl,rfl⟩⟩
 ·simp only [a8,pnt,push_cast,↓reduceIte,reduceCtorEq,zB,zE,zA,zS,zL,zD,zM];refine b8 (fun u=>?_) (fun u=>?_)
  ·have d:i<l.length:=by simpa using u
   obtain ⟨p,k⟩:∃p,l[i]?=some p:=⟨l[i],by simp [d]⟩
   have g:IntKind.i64.wrap ((i:Int)+1)=(i:Int)+1:=a5 (by omega);have m:decide ((0:Int)>1)=false:=rfl
   have hN:j6 (l.take (i+1))=[p]:=by
    subst T;rw [zat,k];simp [j6,s6]
   simp only [a8,pnt,zaa,v6 k,u6 k,g,m,zae,zad,zac,push_cast,↓reduceIte,reduceCtorEq,zB,zE,zA,zS,zL,zD,zM]
   repeat refine And.intro (by first | decide | omega | exact fun _=>by decide | (simp +contextual; done) | kernel_rfl) ?_
   refine c9 [(8,false),(6,false),(7,false),(3,false),(5,false)] (fun vs pos c=>vs=[int .i64 i,a8 l,int .i64 l.length,.nils 2 (pnt 0 0),.ptr 2000000 0 0]/\pos=[]/\c=[.box [int .i64 p.1,int .i64 p.2]])
    (fun _ _ _=>0) rfl ?_ ?_
   ·simp only [a8,pnt,ptR,push_cast,↓reduceIte,reduceCtorEq,zB,zE,zA,zS,zL,zD,zM]
   rintro vs pos c ⟨rfl,rfl,rfl⟩;simp only [a8,pnt,m,g,push_cast,↓reduceIte,reduceCtorEq,zB,zE,zA,zS,zL,zD,zM];refine And.intro (by kernel_rfl) (And.intro (by simp) (And.intro (by omega) ⟨⟨i+1,by omega,.inr ⟨by omega,?_,?_⟩⟩,by omega⟩))
   ·rw [hN]; simp
   rw [hN]; simp [ptR,pnt]
  have d:¬i<l.length:=by simpa using u
  exact absurd d (by omega)
 have B:=K i;obtain ⟨S,w⟩:∃S,j6 (l.take i)=S:=⟨_,rfl⟩
 have D:S≠[]:=by
  rw [<- w];obtain ⟨j,rfl⟩:∃j,i=j+1:=⟨i-1,by omega⟩
  rw [List.take_succ_eq_append_getElem (by omega),u4];simp
 have Q:∀q∈S,n9 q:=fun q O=>F q (List.mem_of_mem_take (xy _ (w▸O)));rw [w];rw [w] at B;simp only [a8,pnt,push_cast,↓reduceIte,reduceCtorEq,zB,zE,zA,zS,zL,zD,zM];refine b8 (fun u=>?_) (fun u=>?_)
 ·have d:i<l.length:=by simpa using u
  obtain ⟨p,k⟩:∃p,l[i]?=some p:=⟨l[i],by simp [d]⟩
  have L:n9 p:=F p (zak k);have g:IntKind.i64.wrap ((i:Int)+1)=(i:Int)+1:=a5 (by omega)
  have hN:j6 (l.take (i+1))=p::s6 p S:=by
   rw [zat,k,<- w];exact u4 _ p
  simp only [a8,pnt,zaa,v6 k,u6 k,g,zae,zad,zac,push_cast,↓reduceIte,reduceCtorEq,zB,zE,zA,zS,zL,zD,zM]
  repeat refine And.intro (by first | decide | omega | exact fun _=>by decide | (simp +contextual; done) | kernel_rfl) ?_
  refine c9 [(8,false),(6,false),(7,false),(3,false),(5,false)] (fun vs pos c=>∃(s G:List P2),s≠[]/\S.reverse=s.reverse++G/\s6 p S=s6 p s/\vs=[int .i64 i,a8 l,int .i64 l.length,.own 2000000 0 0 s.length,.ptr 2000001 0 0]/\pos=[]/\c=[j7 (s.reverse++G),.box [int .i64 p.1,int .i64 p.2]])
   (fun vs _ _=>match vs with | [_,_,_,.own _ _ _ n,_]=>n | _=>0) rfl ?_ ?_
  ·simp only [a8,pnt,ptR,push_cast,↓reduceIte,reduceCtorEq,zB,zE,zA,zS,zL,zD,zM];exact ⟨S,[],D,by simp,rfl,rfl,by simp [pnt,ptR]⟩
  rintro vs pos c ⟨s,G,W,o,e,rfl,rfl,rfl⟩
  have M:s.length<=S.length:=by
   have:=congrArg List.length o;simp at this;omega
  have C:∀q∈s,n9 q:=fun q O=>Q q (by
   have:q∈S.reverse:=by rw [o]; simp [O]
   simpa using this)
  have f:∀n,n=s.length->List.take n ((s.reverse++G).map ptR)=s.reverse.map ptR:=fun n F=>by
   rw [zbb,List.take_left' (by simp [F])]
  rcases s with _ | ⟨b,_ | ⟨a,r⟩⟩
  ·exact absurd rfl W
  ·have m:decide ((1:Int)>1)=false:=rfl;simp only [a8,pnt,m,g,push_cast,↓reduceIte,reduceCtorEq,zB,zE,zA,zS,zL,zD,zM];refine And.intro (by kernel_rfl) (And.intro (by simp) (And.intro (by omega) ⟨⟨i+1,by omega,.inr ⟨by omega,?_,?_⟩⟩,by omega⟩))
   ·rw [hN,e,ahb]; simp
   rw [hN,e,ahb,f 1 rfl]; simp [ptR,pnt]
  have m:decide (((r.length:Nat):Int)+1+1>1)=true:=decide_eq_true (by omega);simp only [zaf] at M;have E:IntKind.i64.wrap (((r.length:Nat):Int)+1+1-2)=(r.length:Int):=by rw [a5 (by omega)]; omega
  have h:IntKind.i64.wrap (((r.length:Nat):Int)+1+1-1)=(r.length:Int)+1:=by rw [a5 (by omega)]; omega
  obtain ⟨A,H⟩:∃A,r.reverse=A:=⟨_,rfl⟩
  have P:A.length=r.length:=by rw [<- H]; simp
  have U:(b::a::r).reverse++G=A++a::b::G:=by rw [<- H]; simp
  have R:=qt A (b::G) a;have N:=af8 A G a b;rw [P] at R N;have z:ptR a=.agg [.v (.int .i64 a.1),.v (.int .i64 a.2)]:=rfl;have x:ptR b=.agg [.v (.int .i64 b.1),.v (.int .i64 b.2)]:=rfl;have J:=au1 a b p (C a (by simp)) (C b (by simp)) L;rw [U] at f |-;simp only [a8,pnt,m,g,E,h,R,N,z,x,zag,zai,zac,push_cast,↓reduceIte,reduceCtorEq,zB,zE,zA,zS,zL,zD,zM];refine And.intro ⟨by omega,by omega⟩ ?_;refine And.intro ⟨by omega,by omega⟩ ?_;refine j8 (as':=[pv2 a,pv2 b,pv2 p]) rfl ?_;refine c8 J rfl trivial ?_;simp only [a8,pnt,m,g,E,h,R,N,z,x,zag,zai,zac,push_cast,↓reduceIte,reduceCtorEq,zB,zE,zA,zS,zL,zD,zM];refine And.intro (by kernel_rfl) ?_;refine b8 (fun hc=>?_) (fun hc=>?_)
  ·have hc:=of_decide_eq_true hc;simp only [a8,pnt,g,h,zag,zai,zac,push_cast,↓reduceIte,reduceCtorEq,zB,zE,zA,zS,zL,zD,zM];refine ⟨⟨by omega,by omega,by omega,by omega⟩,⟨a::r,b::G,by simp,by rw [o,U,<- H]; simp,?_,?_,?_⟩,by omega⟩
   ·rw [e,s6,if_pos hc]
   ·rw [show ((r.length:Int)+1-0).toNat=r.length+1 by omega]; simp
   rw [<- H]; simp [j7,pnt]
  have hc:=of_decide_eq_false hc;simp only [a8,pnt,g,h,zag,zai,zac,push_cast,↓reduceIte,reduceCtorEq,zB,zE,zA,zS,zL,zD,zM];have y:j6 (l.take (i+1))=p::b::a::r:=by rw [hN,e,s6,if_neg hc]
  refine ⟨by simp,⟨by omega,by omega⟩,⟨i+1,by omega,.inr ⟨by omega,?_,?_⟩⟩,by omega⟩
  ·rw [y]; simp
  rw [y,f (r.length+1+1) rfl]; simp [j7,pnt,ptR]
 have d:i=l.length:=by
  have:¬i<l.length:=by simpa using u
  omega
 have I:j6 l=S:=by rw [<- w,d,zcc]
 have V:1<=S.length:=by
  cases S with
  | nil=>exact absurd rfl D
  | cons b r=>simp
 have Y:IntKind.i64.wrap ((S.length:Int)-1)=(S.length:Int)-1:=a5 (by omega);rw [I];simp only [a8,pnt,Y,zag,zai,zac,push_cast,↓reduceIte,reduceCtorEq,zB,zE,zA,zS,zL,zD,zM];exact ⟨⟨by omega,by omega,by omega,by omega⟩,by rw [show (zan 0)=0 from rfl,show ((S.length:Int)-1-0).toNat=S.length-1 by omega],rfl⟩

def tn:Mk P0 f30:={ x:=_ }
def z7 (rg:List P2):List P2:=if (t4 (o8 rg)).length<3 then [] else if (o5 (t4 (o8 rg))++o5 (t4 (o8 rg)).reverse).length<3 then [] else o5 (t4 (o8 rg))++o5 (t4 (o8 rg)).reverse
theorem acj {x q:P2}:∀{s:List P2},q∈dq x s->q=x\/q∈s
 | [],h=>by simp [dq] at h; exact .inl h
 | e::r,h=>by
   rw [dq] at h;split at h
   ·rcases zah.1 h with rfl | h
    ·simp
    rcases acj h with rfl | h
    ·simp
    simp [h]
   simpa using h
theorem apo (l:List P2):∀{q:P2},q∈si l->q∈l:=by
 refine bk (P:=fun l=>∀{q:P2},q∈si l->q∈l) (fun h=>h) (fun l p a=>?_) l;intro q h;rw [ra] at h;rcases acj h with rfl | h
 ·simp
 exact List.mem_append_left _ (a h)
theorem vg (h:q∈o8 l):q∈l:=apo l (by simpa [o8] using h)
theorem acr {q:P2}:∀{u:P2} {l:List P2},q∈bo u l->q∈l
 | u,[],h=>h
 | u,v::r,h=>by
   rw [bo] at h;split at h
   ·exact zau _ (acr h)
   rcases zah.1 h with rfl | h
   ·simp
   exact zau _ (acr h)
theorem aav (h:q∈t4 l):q∈l:=by
 cases l with
 | nil=>exact h
 | cons v r=>
   rcases zah.1 h with rfl | h
   ·simp
   exact zau _ (acr h)
theorem aam (l:List P2):∀o∈[j7 l],vz o:=fun o a=>by
 rw [zam.1 a];intro x hx;obtain ⟨p,_,rfl⟩:=List.mem_map.1 hx;exact ⟨trivial,trivial,trivial⟩
theorem ad8 (l:List P2):(j6 l).length-1=(o5 l).length:=by simp [o5]
theorem abz (l:List P2):List.take (o5 l).length ((j6 l).reverse.map ptR)=(o5 l).map ptR:=by
 rw [<- List.map_take];congr 1;rw [o5,List.dropLast_eq_take,zca,zbr (by simp)]
theorem aoa (rg:List P2) (w:1<=rg.length/\rg.length<=12) (z:∀p∈rg,n9 p)
 (b:(z7 rg=[]/\res=.nils 2 (pnt 0 0)/\ro=[])\/(z7 rg≠[]/\res=.own 1000000 0 0 (z7 rg).length/\ro=[j7 (z7 rg)])) :
 a9 P0 30 [a8 rg] [] res ro:=by
 refine tn.t func30 ?_;have B:=ep;have x:=ar6 rg (by omega) z
 push_cast [tn,a8,zab]
 refine b5 (as':=[a8 rg]) rfl ?_;refine a7 x rfl trivial ?_
 push_cast [zaa]
 refine c9 [(12,false),(10,false),(11,false),(3,false)] (fun vs pos k=>∃i:Nat,i<=rg.length/\pos=[] /\
  (i=0/\vs=[int .i64 i,a8 rg,int .i64 rg.length,.nils 2 (pnt 0 0)]/\k=[] \/
   i≠0/\vs=[int .i64 i,a8 rg,int .i64 rg.length,.own 2000000 0 0 i]/\k=[j7 (rg.take i)]))
  (fun vs _ _=>match vs with | .r (.v (.int _ a))::_=>(rg.length-a).toNat | _=>0) rfl ?_ ?_
 ·push_cast [a8,pnt]
  exact ⟨0,by omega,.inl ⟨rfl,by simp⟩⟩
 rintro vs pos k ⟨i,hi,rfl,⟨y,rfl,rfl⟩ | ⟨y,rfl,rfl⟩⟩
 ·push_cast [a8,pnt,zaa]
  refine b8 (fun e=>?_) (fun e=>?_)
  ·have d:i<rg.length:=by simpa using e
   obtain ⟨p,f⟩:∃p,rg[i]?=some p:=⟨rg[i],by simp [d]⟩
   have o:IntKind.i64.wrap ((i:Int)+1)=(i:Int)+1:=a5 (by omega)
   have hN:rg.take (i+1)=[p]:=by
    rw [zat,f,y]; rfl
   push_cast [a8,zaa,v6 f,u6 f,o,zae,zad,zac]
   repeat refine And.intro (by first | decide | omega | exact fun _=>by decide | (simp +contextual; done) | kernel_rfl) ?_
   exact ⟨⟨i+1,by omega,.inr ⟨by omega,by simp [y],by rw [hN]; simp [ptR,pnt]⟩⟩,by omega⟩
  have d:¬i<rg.length:=by simpa using e
  exact absurd d (by omega)
 push_cast [a8,pnt,zaa]
 refine b8 (fun e=>?_) (fun e=>?_)
 ·have d:i<rg.length:=by simpa using e
  obtain ⟨p,f⟩:∃p,rg[i]?=some p:=⟨rg[i],by simp [d]⟩
  have o:IntKind.i64.wrap ((i:Int)+1)=(i:Int)+1:=a5 (by omega)
  have hN:rg.take (i+1)=rg.take i++[p]:=by
   rw [zat,f]; rfl
  have j:List.take i ((rg.take i).map ptR)=(rg.take i).map ptR:=zcb (by simp; omega)
  push_cast [a8,zaa,v6 f,u6 f,j,o,zae,zad,zac]
  repeat refine And.intro (by first | decide | omega | exact fun _=>by decide | (simp +contextual; done) | kernel_rfl) ?_
  exact ⟨⟨i+1,by omega,.inr ⟨by omega,by simp,by rw [hN]; simp [ptR,pnt]⟩⟩,by omega⟩
 have d:i=rg.length:=by
  have:¬i<rg.length:=by simpa using e
  omega
 subst d;rw [zcc]
 push_cast [a8,pnt,zaa]
 have n:rg.map ptR≠[]:=by
  intro h;have:=congrArg List.length h;simp at this;rw [this] at w;simp at w
 refine al1 2000000 0 2 _ (rg.map ptR) rfl n ?_
 push_cast [pnt]
 refine b5 (as':=[.own 1000000 0 0 rg.length,agF]) rfl ?_;refine a7 (po:=[l5 rg]) (au6 rg w) rfl ⟨⟨rfl,by simp [rb]⟩,trivial⟩ ?_
 push_cast [l5,pnt,zaf,zab]
 refine vt ?_
 push_cast [pnt]
 obtain ⟨s,q⟩:∃s,o8 rg=s:=⟨_,rfl⟩
 have u:s.length=rg.length:=by rw [<- q,rb]
 have m:∀p∈s,n9 p:=fun p f=>z p (vg (q▸f));unfold z7 at b;rw [q] at b |-;refine b5 (as':=[.own 1000000 0 0 s.length]) (by rw [u]) ?_;refine a7 (po:=[l5 s]) (awm s (by omega)) rfl ⟨⟨rfl,by have:=afx s; simp; omega⟩,trivial⟩ ?_;obtain ⟨c,hc⟩:∃c,t4 s=c:=⟨_,rfl⟩
 have J:c.length<=s.length:=by rw [<- hc]; exact afx s
 have l:∀p∈c,n9 p:=fun p f=>m p (aav (hc▸f));rw [hc] at b |-;obtain ⟨G,K⟩:∃G,zce (s.length-c.length) ((0,0):P2)=G:=⟨_,rfl⟩
 rw [K]
 push_cast [l5,pnt,zaf,zab]
 refine b8 (fun e=>?_) (fun e=>?_)
 ·have e:c.length<3:=by have:=of_decide_eq_true e; omega
  rw [if_pos e] at b;rcases b with ⟨_,rfl,rfl⟩ | ⟨h,_⟩
  ·push_cast [pnt]
  exact absurd rfl h
 have e:¬c.length<3:=by have:=of_decide_eq_false e; omega
 rw [if_neg e] at b
 push_cast [pnt]
 have j:∀A:List P2,A.length=c.length->List.take c.length ((A++G).map ptR)=A.map ptR:=fun A I=>by
  rw [zbb,List.take_left' (by simp [I])]
 refine db ?_;rw [j c rfl]
 push_cast [pnt]
 refine b5 (as':=[a8 c]) rfl ?_;refine dz (akn c (by omega) l) rfl trivial trivial (aam _) ?_
 push_cast [l5,j7,pnt,zaf,zab]
 refine vt ?_
 push_cast [pnt]
 refine b5 (as':=[.own 1000000 0 0 c.length]) rfl ?_;refine a7 (po:=[l5 (c++G)]) (awb c G (by omega)) rfl ⟨⟨rfl,by simp⟩,trivial⟩ ?_
 push_cast [l5,j7,pnt,zaf,zab]
 refine db ?_;rw [j c.reverse (by simp)]
 push_cast [pnt]
 refine b5 (as':=[a8 c.reverse]) rfl ?_;refine dz (akn c.reverse (by simp; omega) (fun p f=>l p (by simpa using f))) rfl trivial trivial (aam _) ?_;have E:=ad8 c;have H:=ad8 c.reverse;have C:=abz c;have D:=abz c.reverse
 push_cast [l5,j7,pnt,E,H,C,D,zaf,zab,zaa]
 have L:=ab6 c;have F:=ab6 c.reverse;rw [List.length_reverse] at F;refine And.intro ⟨by omega,by omega⟩ ?_;refine b8 (fun g=>?_) (fun g=>?_)
 ·have g:(o5 c++o5 c.reverse).length<3:=by have:=of_decide_eq_true g; rw [zal]; omega
  rw [if_pos g] at b;rcases b with ⟨_,rfl,rfl⟩ | ⟨h,_⟩
  ·push_cast [pnt]
  exact absurd rfl h
 have g:¬(o5 c++o5 c.reverse).length<3:=by have:=of_decide_eq_false g; rw [zal]; omega
 rw [if_neg g] at b;rcases b with ⟨h,_,_⟩ | ⟨_,rfl,rfl⟩
 ·rw [h] at g;exact absurd (by simp) g
 push_cast [j7,pnt,zal]
 simp

def x6 (p q:P2):Prop:=p.1<q.1\/(p.1=q.1/\p.2<=q.2)
theorem ajp {D o:P2->P2->Prop} (f:∀a,D a a) (m:∀a b c,D a b->D b c->D a c) (l:∀a b p,o a b->o b p->d9 a b p<=0->D a b\/D p b) (p:P2) :
 ∀s:List P2,(p::s).Pairwise (fun b a=>o a b)->∀q∈s,∃c∈p::s6 p s,D c q
 | [],_,q,d=>by simp at d
 | [a],_,q,d=>⟨q,zau _ d,f q⟩
 | b::a::r,hs,q,d=>by
   rw [s6];have g:=zbg.1 hs;have j:=zbg.1 g.2;split
   ·rename_i hc;have k:=ajp f m l p (a::r) (zbg.2 ⟨fun x hx=>g.1 x (zau _ hx),j.2⟩);rcases zah.1 d with rfl | d
    ·rcases l a q p (j.1 a (by simp)) (g.1 q (by simp)) hc with h | h
     ·obtain ⟨c,e,i⟩:=k a (by simp);exact ⟨c,e,m _ _ _ i h⟩
     exact ⟨p,by simp,h⟩
    exact k q d
   exact ⟨q,zau _ d,f q⟩
theorem aha (p:P2) (s:List P2):(s6 p s).Sublist s:=by
 obtain ⟨k,a,_⟩:=uj p s;rw [a];exact List.drop_sublist k s
theorem pq (l:List P2):(j6 l).Sublist l.reverse:=by
 refine bk (P:=fun l=>(j6 l).Sublist l.reverse) (List.Sublist.refl _) (fun l p a=>?_) l;rw [u4,List.reverse_append];exact List.Sublist.cons_cons p ((aha p _).trans a)
theorem aej {D o:P2->P2->Prop} (k:∀a,D a a) (m:∀a b c,D a b->D b c->D a c) (s:∀a b p,o a b->o b p->d9 a b p<=0->D a b\/D p b) (l:List P2) :
 l.Pairwise o->∀q∈l,∃c∈j6 l,D c q:=by
 refine bk (P:=fun l=>l.Pairwise o->∀q∈l,∃c∈j6 l,D c q) (fun _ q d=>by simp at d) (fun l p r=>?_) l;intro n q d;rw [u4];have g:=List.pairwise_append.1 n
 have e:(p::l.reverse).Pairwise (fun b a=>o a b):=by
  refine zbg.2 ⟨fun x hx=>g.2.2 x (by simpa using hx) p (by simp),?_⟩;exact List.pairwise_reverse.2 g.1
 rcases zao.1 d with d | d
 ·obtain ⟨c,f,j⟩:=r g.1 q d;obtain ⟨c',h,i⟩:=ajp k m s p (j6 l) (e.sublist (List.Sublist.cons_cons p (pq l))) c f;exact ⟨c',h,m _ _ _ i j⟩
 rw [zam.1 d];exact ⟨p,by simp,k p⟩
theorem ahc (x p:P2):∀T:List P2,∃c,s6 x (T++[p])=c++[p]
 | []=>⟨[],rfl⟩
 | [a]=>by
   simp only [zcd,zbj];rw [s6];split
   ·exact ⟨[],rfl⟩
   exact ⟨[a],rfl⟩
 | b::a::r=>by
   simp only [zcd];rw [s6];split
   ·exact ahc x p (a::r)
   exact ⟨b::a::r,rfl⟩
theorem aa7 (p:P2) (a:List P2):∃T,j6 (p::a)=T++[p]/\(a≠[]->T≠[]):=by
 refine bk (P:=fun a=>∃T,j6 (p::a)=T++[p]/\(a≠[]->T≠[])) ⟨[],rfl,fun h=>absurd rfl h⟩ (fun l x c=>?_) a;obtain ⟨T,e,_⟩:=c;obtain ⟨d,b⟩:=ahc x p T;refine ⟨x::d,?_,fun _=>by simp⟩;rw [<- zcd,u4,e,b]
 rfl
theorem an3 (p q:P2):ltP p q=true↔(p.1<q.1\/(p.1=q.1/\p.2<q.2)):=by
 unfold ltP acu sx;rw [decide_eq_true_iff];split<;>split<;>(try split)<;>(try split)<;>omega
theorem aag (x:P2):∀(s:List P2) (q:P2),q=x\/q∈s->q∈dq x s
 | [],q,h=>by simpa [dq] using h
 | e::r,q,h=>by
   rw [dq];split
   ·rcases h with rfl | h
    ·exact zau _ (aag q r q (.inl rfl))
    rcases zah.1 h with rfl | h
    ·simp
    exact zau _ (aag x r q (.inr h))
   simpa using h
theorem ac3 (h:q∈l):q∈o8 l:=by
 have a:∀l:List P2,∀q∈l,q∈si l:=fun l=>by
  refine bk (P:=fun l=>∀q∈l,q∈si l) (fun q h=>h) (fun l p b q c=>?_) l;rw [ra];refine aag _ _ _ ?_;rcases zao.1 c with h | h
  ·exact .inr (b q h)
  exact .inl (by simpa using h)
 unfold o8;simpa using a l q h
theorem ahw (x:P2):∀s:List P2,s.Pairwise (fun b a=>x6 a b)->(dq x s).Pairwise (fun b a=>x6 a b)
 | [],_=>by simp [dq]
 | e::r,h=>by
   have d:=zbg.1 h;rw [dq];split
   ·rename_i c;have c:=(an3 x e).1 c;refine zbg.2 ⟨fun y hy=>?_,ahw x r d.2⟩;rcases acj hy with rfl | hy
    ·unfold x6; omega
    exact d.1 y hy
   rename_i c;have c:¬(x.1<e.1\/(x.1=e.1/\x.2<e.2)):=fun h=>c ((an3 x e).2 h);refine zbg.2 ⟨fun y hy=>?_,h⟩;rcases zah.1 hy with rfl | hy
   ·unfold x6; omega
   have:=d.1 y hy;unfold x6 at this |-; omega
theorem afb (l:List P2):(o8 l).Pairwise x6:=by
 unfold o8;refine List.pairwise_reverse.2 ?_;refine bk (P:=fun l=>(si l).Pairwise (fun b a=>x6 a b)) List.Pairwise.nil (fun l p c=>?_) l;rw [ra];exact ahw p _ c
theorem acp:∀(u:P2) (l:List P2),(bo u l).Sublist l
 | u,[]=>List.Sublist.refl _
 | u,q::r=>by
   rw [bo];split
   ·exact (acp u r).cons q
   exact (acp q r).cons_cons q
theorem aau (l:List P2):(t4 l).Sublist l:=by
 cases l with
 | nil=>exact List.Sublist.refl _
 | cons p r=>exact (acp p r).cons_cons p
theorem aax:∀(u:P2) (l:List P2) (q:P2),q∈l->q=u\/q∈bo u l
 | u,[],q,h=>by simp at h
 | u,v::r,q,h=>by
   rw [bo];split
   ·rename_i hv;rcases zah.1 h with h | h
    ·exact .inl (h.trans hv)
    exact aax u r q h
   rcases zah.1 h with h | h
   ·exact .inr (by simp [h])
   rcases aax v r q h with h | h
   ·exact .inr (by simp [h])
   exact .inr (zau _ h)
theorem ad4 (h:q∈l):q∈t4 l:=by
 cases l with
 | nil=>exact h
 | cons p r=>
   show q∈p::bo p r;rcases zah.1 h with h | h
   ·simp [h]
   rcases aax p r q h with h | h
   ·simp [h]
   exact zau _ h

def shP (d p:P2):P2:=(p.1+d.1,p.2+d.2)

theorem aq5 {l:Lin} (a:l.ok) (p q:P2):sel l.axis (m8 l p q)=l.at':=by
 rcases a with h | h<;>simp [m8,sel,h]

end
end Go.Ev

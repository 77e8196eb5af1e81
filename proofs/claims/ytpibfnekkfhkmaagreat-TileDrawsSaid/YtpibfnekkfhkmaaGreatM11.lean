import Derived.Test.YtpibfnekkfhkmaaGreatM10
open Nat renaming reduceBEq → zB, reduceEqDiff → zE, reduceAdd → zA, reduceSub → zS, reduceLT → zL, reduceLeDiff → zD, reduceMul → zM
open Go.Proofs.Tryz renaming prog → P0
open Go.Proofs.Tryz
open Nat renaming zero_add → zaa, zero_mul → zaq, mul_one → zau
open Int renaming toNat_zero → zab, reduceToNat → zad, toNat_natCast → zaf, toNat_natCast_add_one → zah, natCast_zero → zas, toNat_one → zav, natCast_one → zaz, tmod_eq_emod_of_nonneg → zbh, tdiv_eq_ediv_of_nonneg → zbx
open List renaming length_nil → zac, length_append → zae, length_map → zai, take → zaj, getD_eq_getElem?_getD → zak, take_of_length_le → zal, length_cons → zam, getElem?_map → zan, append_assoc → zao, length_drop → zap, nil_append → zar, range → zax, range_succ → zay, take_length → zba, map_cons → zbb, mem_map → zbc, length_take → zbd, take_add_one → zbe, drop_drop → zbf, cons_append → zbg, length → zbi, map_append → zbj, mem_cons → zbk, length_eq_zero_iff → zbl, length_singleton → zbm, append_nil → zbo, getElem_mem → zbp, drop_of_length_le → zbq, mem_of_getElem? → zbr, mem_append → zbt, getElem?_eq_getElem → zbu, getElem?_eq_none → zbv, mem_singleton → zbw, eq_nil_of_length_eq_zero → zby, take_succ_cons → zbz, getD_cons_succ → zca, getElem?_range → zcb, getD_cons_zero → zcc
open BitVec renaming ofInt → zat
open Option renaming map_map → zaw, map_some → zbn
open Bool renaming and_eq_true → zbs
namespace Go.Ev
set_option maxHeartbeats 8000000
set_option maxRecDepth 100000
noncomputable section
open Go Go.RowKit
set_option linter.unusedSectionVars false
set_option linter.unnecessarySimpa false
set_option linter.unusedVariables false
theorem bfm (l:List UInt8) (a n:Nat):List.drop a (zaj (a+n) (bys l))=bys ((l.drop a).take n):=by
 show List.drop a (zaj (a+n) (List.map by8 l))=List.map by8 ((l.drop a).take n);rw [List.drop_take,<- List.map_drop,<- List.map_take,Nat.add_sub_cancel_left]
def ez (x:Fld):RV:=.agg [.v (.int .i64 (x.1:Nat)),.v (.int .i64 (x.2.1:Nat)),.v (.int .u64 (x.2.2.1:Nat)),.sl 1 (bys x.2.2.2)]
def ang:Option (Fld×Nat)->AV
 | none=>.tup [.r (ez (0,0,0,[])),int .i64 0]
 | some (x,k)=>.tup [.r (ez x),int .i64 (k:Nat)]
theorem ai5:AV.tup [.r (.agg [.v (.int .i64 0),.v (.int .i64 0),.v (.int .u64 0),.sl 1 []]),.r (.v (.int .i64 0))]=ang none:=rfl
variable {a c:Int} {x:Fld}
theorem av7 {b k:Int} {n:Nat} {d:List RV} (e:a=(x.1:Nat)) (f:b=(x.2.1:Nat)) (hc:c=(x.2.2.1:Nat)) (h:d=bys x.2.2.2) (g:k=(n:Nat)) :
 AV.tup [.r (.agg [.v (.int .i64 a),.v (.int .i64 b),.v (.int .u64 c),.sl 1 d]),.r (.v (.int .i64 k))]=ang (some (x,n)):=by
 rw [e,f,hc,h,g]; rfl
theorem bdz (l:List UInt8) (W:l.length<=1000000000):a8 P0 147 [sb l] [] (ang (y9 l)) []:=by
 refine ash.t func147 ?_;have y:=g7;obtain ⟨R,k,X⟩:∃R:Int,R=l.length/\0<=R:=⟨_,rfl,by omega⟩
 obtain ⟨G,O,F⟩:=gc l;obtain ⟨T,C⟩:∃U:Int,U=(take l).1:=⟨_,rfl⟩
 obtain ⟨K,u⟩:∃K:Int,K=(take l).2:=⟨_,rfl⟩
 have m8:IntKind.i64.wrap (T.tmod 8)=T%8:=by rw [zbh (by omega)]; exact a5 (by omega)
 have p:IntKind.u64.wrap (T.tdiv 8)=T/8:=by rw [zbx (by omega),IntKind.wrap_u64]; omega
 have e:IntKind.i64.wrap (T/8)=T/8:=a5 (by omega);simp only [ash,push_cast,↓reduceIte,reduceCtorEq];refine a6 (amz l (by omega)) rfl trivial ?_;rw [<- C,<- u];simp only [m8,p,push_cast,↓reduceIte,zE,zA,zL,zD]
 repeat refine And.intro (by by_cases f:K=0<;>by_cases c2:T/8<1<;>by_cases c:T/8>1000<;>simp [f,c2]<;>omega) ?_
 refine b7 (λ h=>?_) (λ h=>?_)
 ·have hc:(take l).2=0\/(take l).1/8<1\/1000<(take l).1/8:=by
   by_cases f:K=0<;>by_cases c2:T/8<1<;>by_cases c:T/8>1000<;>simp [f,c2,c] at h<;>omega
  have a:y9 l=none:=if_pos hc;simp only [push_cast,↓reduceIte,zE,zA,zD];rw [a];exact ai5
 have hc:¬((take l).2=0\/(take l).1/8<1\/1000<(take l).1/8):=by
  intro hc;by_cases f:K=0<;>by_cases c2:T/8<1<;>by_cases c:T/8>1000<;>simp [f,c2,c] at h<;>omega
 have m:List.drop K.toNat (zaj R.toNat (bys l))=bys (l.drop (take l).2):=by
  rw [zal (by simp; omega),ll u];exact aii l _
 obtain ⟨E,S,L⟩:=gc (l.drop (take l).2);have I:(l.drop (take l).2).length=l.length-(take l).2:=zap;obtain ⟨U,D⟩:∃U:Int,U=(take (l.drop (take l).2)).1:=⟨_,rfl⟩
 obtain ⟨J,H⟩:∃U:Int,U=(take (l.drop (take l).2)).2:=⟨_,rfl⟩
 have i:IntKind.i64.wrap (K+J)=K+J:=a5 (by omega);simp only [p,e,<- k,push_cast,↓reduceIte,reduceCtorEq,zE,zA,zD];rw [m];refine ⟨by omega,⟨by omega,by omega,by omega⟩,?_⟩;refine a6 (amz (l.drop (take l).2) (by omega)) rfl trivial ?_;rw [<- D,<- H];simp only [push_cast,↓reduceIte,zE,zA,zL];by_cases w:J=0
 ·have g:(J == 0)=true:=by simp [w]
  have a:y9 l=none:=by
   rw [y9,if_neg hc,if_pos (by omega)]
  simp only [g,push_cast,↓reduceIte,zE,zA,zD];rw [a];exact ai5
 have g:(J == 0)=false:=by simp [w]
 simp only [g,push_cast,↓reduceIte,zE,zA,zL];by_cases A:T%8=0
 ·have n:(T%8 == 0)=true:=by simp [A]
  have a:y9 l=some (((take l).1/8,0,(take (l.drop (take l).2)).1,[]),(take l).2+(take (l.drop (take l).2)).2):=by
   rw [y9,if_neg hc,if_neg (by omega),if_pos (by omega)]
  simp only [n,i,push_cast,↓reduceIte,zE,zA,zD];rw [a];exact av7 (by dsimp only; omega) (by dsimp only; omega) (by dsimp only; omega) rfl (by omega)
 have n:(T%8 == 0)=false:=by simp [A]
 simp only [n,push_cast,↓reduceIte,reduceCtorEq,zE,zA,zL];by_cases z:T%8=2
 ·have j:(T%8 == 2)=true:=by simp [z]
  have V:IntKind.u64.wrap (IntKind.i64.wrap (IntKind.i64.wrap (R-K)-J))=R-K-J:=by
   rw [a5 (x:=R-K) (by omega),a5 (x:=R-K-J) (by omega),IntKind.wrap_u64]; omega
  simp only [j,<- k,push_cast];rw [V];by_cases P:U<=R-K-J
  ·have q:decide (U<=R-K-J)=true:=by simp [P]
   have B:IntKind.i64.wrap U=U:=a5 (by omega);have Q:IntKind.i64.wrap (K+J+U)=K+J+U:=a5 (by omega)
   have a:y9 l=some (((take l).1/8,2,0,(l.drop ((take l).2+(take (l.drop (take l).2)).2)).take (take (l.drop (take l).2)).1),(take l).2+(take (l.drop (take l).2)).2+(take (l.drop (take l).2)).1):=by
    rw [y9,if_neg hc,if_neg (by omega),if_neg (by omega),if_pos ⟨by omega,by omega⟩]
   simp only [q,i,B,Q,<- k,push_cast,↓reduceIte,reduceCtorEq,zE,zA,zL,zD]
   have d:List.drop (K+J).toNat (zaj (K+J+U).toNat (bys l))=bys ((l.drop ((take l).2+(take (l.drop (take l).2)).2)).take (take (l.drop (take l).2)).1):=by
    rw [show (K+J+U).toNat=(take l).2+(take (l.drop (take l).2)).2+(take (l.drop (take l).2)).1 by omega,show (K+J).toNat=(take l).2+(take (l.drop (take l).2)).2 by omega,bfm]
   have o:(bys ((l.drop ((take l).2+(take (l.drop (take l).2)).2)).take (take (l.drop (take l).2)).1)).length<=1000000000:=by
    rw [zai,zbd,zap]; omega
   rw [a,d]
   have b:∀s:List RV,s=bys ((l.drop ((take l).2+(take (l.drop (take l).2)).2)).take (take (l.drop (take l).2)).1)->AV.tup [.r (.agg [.v (.int .i64 (T/8)),.v (.int .i64 (T%8)),.v (.int .u64 0),.sl 1 s]),.r (.v (.int .i64 (K+J+U)))]=ang (some (((take l).1/8,2,0,(l.drop ((take l).2+(take (l.drop (take l).2)).2)).take (take (l.drop (take l).2)).1),(take l).2+(take (l.drop (take l).2)).2+(take (l.drop (take l).2)).1)):=
    λ s N=>av7 (by dsimp only; omega) (by dsimp only; omega) rfl N (by omega)
   generalize M:bys ((l.drop ((take l).2+(take (l.drop (take l).2)).2)).take (take (l.drop (take l).2)).1)=sg at o b;refine ⟨by simp,⟨by omega,by omega,by omega,by omega⟩,⟨by omega,by omega⟩,?_⟩;refine b _ ?_;rw [zaa,zba]
  have q:decide (U<=R-K-J)=false:=by simp; omega
  have a:y9 l=none:=by
   rw [y9,if_neg hc,if_neg (by omega),if_neg (by omega),if_neg (by omega)]
  simp only [q,push_cast,↓reduceIte,zE,zA,zD];rw [a];exact ai5
 have j:(T%8 == 2)=false:=by simp [z]
 have a:y9 l=none:=by
  rw [y9,if_neg hc,if_neg (by omega),if_neg (by omega),if_neg (by omega)]
 simp only [j,push_cast,↓reduceIte,zE,zA,zD];rw [a];exact ai5

open Go Go.RowKit
abbrev auh (a:List Fld):Ob:=.row 4 (.agg [.v (.int .i64 0),.v (.int .i64 0),.v (.int .u64 0),.sl 1 []]) true true (a.map ez)
abbrev aq3:AV:=.nils 4 (.agg [.v (.int .i64 0),.v (.int .i64 0),.v (.int .u64 0),.sl 1 []])
def iw:Option (List Fld)->AV
 | none=>.tup [aq3,int .i64 10]
 | some []=>.tup [aq3,int .i64 0]
 | some (n::ns)=>.tup [.own 1000000 0 0 (n::ns).length,int .i64 0]
def jy:Option (List Fld)->List Ob
 | none=>[]
 | some []=>[]
 | some (n::ns)=>[auh (n::ns)]
variable {m:List Fld}
theorem x6 (a:m≠[]):iw (some m)=.tup [.own 1000000 0 0 m.length,int .i64 0]/\jy (some m)=[auh m]:=by
 cases m with
 | nil=>exact absurd rfl a
 | cons=>exact ⟨rfl,rfl⟩
theorem asc (l:List UInt8) (A:l.length<=100000000):a8 P0 89 [sb l] [] (iw (u7 l)) (jy (u7 l)):=by
 refine ap2.t func89 ?_
 push_cast [ap2,zac]
 have u:=g7
 refine b9 [(0,false),(4,false)] (λ vs pos c=>∃(r:List UInt8) (f:Nat) (ns:List Fld),r.length<=f/\r.length+ns.length<=l.length/\u7 l=(ix f r).map (ns ++ ·)/\pos=[] /\
  ((ns=[]/\vs=[sb r,aq3]/\c=[])\/(ns≠[]/\vs=[sb r,.own 2000000 0 0 ns.length]/\c=[auh ns])))
  (λ vs _ _=>match vs with | .r (.sl _ xs)::_=>xs.length | _=>0) rfl ?_ ?_
 ·push_cast
  refine ⟨l,l.length,[],Nat.le_refl _,by simp,?_,.inl ⟨rfl,rfl⟩⟩;show ix l.length l = _;cases ix l.length l<;>simp
 rintro vs pos c ⟨r,f,ns,w,m,hv,rfl,hc⟩;obtain ⟨R,d,B⟩:∃R:Int,R=r.length/\0<=R:=⟨_,rfl,by omega⟩
 have j:∀k:Nat,List.drop k (zaj R.toNat (bys r))=bys (r.drop k):=λ k=>by
  rw [zal (by simp; omega)];exact aii r _
 have n:∀k:Nat,(r.drop k).length=r.length-k:=λ k=>zap;rcases hc with ⟨rfl,rfl,rfl⟩ | ⟨i,rfl,rfl⟩
 ·push_cast [<- d]
  refine b7 (λ h=>?_) (λ h=>?_)
  ·have a:0<r.length:=by
    have:R>0:=by simpa using h
    omega
   push_cast [<- d]
   refine a6 (bdz r (by omega)) rfl trivial ?_;cases ho:y9 r with
   | none=>
     push_cast [ang,ez]
     rw [hv,ale a ho];exact ⟨rfl,rfl⟩
   | some p=>
     obtain ⟨x,k⟩:=p;have z:=ab0 ho;obtain ⟨K,g⟩:∃K:Int,K=k:=⟨_,rfl⟩
     have s:(K == 0)=false:=by rw [beq_eq_false_iff_ne]; omega
     obtain ⟨q,o,b⟩:=vn a w ho;have e:=n k
     push_cast [ang,<- g,s,<- d,ez]
     rw [j,ll g];refine ⟨by simp,by omega,⟨by omega,by omega,by omega⟩,⟨r.drop k,q,[x],by omega,by simp only [zam,zac] at m |-; omega,?_,.inr ⟨by simp,rfl,rfl⟩⟩,by simp only [zai]; omega⟩;rw [hv,b,zaw];congr 1
  have a:r=[]:=by
   have:¬R>0:=by simpa using h
   exact zby (by omega)
  push_cast
  rw [hv,a,ln];exact ⟨rfl,rfl⟩
 push_cast [<- d]
 refine b7 (λ h=>?_) (λ h=>?_)
 ·have a:0<r.length:=by
   have:R>0:=by simpa using h
   omega
  push_cast [<- d]
  refine a6 (bdz r (by omega)) rfl trivial ?_;cases ho:y9 r with
  | none=>
    push_cast [ang,ez]
    rw [hv,ale a ho];exact ⟨rfl,rfl⟩
  | some p=>
    obtain ⟨x,k⟩:=p;have z:=ab0 ho;obtain ⟨K,g⟩:∃K:Int,K=k:=⟨_,rfl⟩
    have s:(K == 0)=false:=by rw [beq_eq_false_iff_ne]; omega
    obtain ⟨q,o,b⟩:=vn a w ho;have e:=n k;have hx:ez x=.agg [.v (.int .i64 (x.1:Nat)),.v (.int .i64 (x.2.1:Nat)),.v (.int .u64 (x.2.2.1:Nat)),.sl 1 (bys x.2.2.2)]:=rfl
    push_cast [ang,<- g,s,<- d,hx,qi]
    rw [j,ll g];refine ⟨by simp,by omega,⟨by omega,by omega,by omega⟩,⟨r.drop k,q,ns++[x],by omega,by rw [zae,e,zbm]; omega,?_,.inr ⟨by simp,by simp,by simp [ez]⟩⟩,by simp only [zai]; omega⟩;rw [hv,b,zaw];congr 1;funext y;simp
 have a:r=[]:=by
  have:¬R>0:=by simpa using h
  exact zby (by omega)
 push_cast
 rw [hv,a,ln,zbn,zbo,(x6 i).1,(x6 i).2];exact ⟨rfl,rfl⟩

open Go Go.RowKit
def afy:Mk P0 f105:={ x:=_ }
def acx:Mk P0 f92:={ x:=_ }
def afw:Mk P0 f34:={ x:=_ }
def zj:Mk P0 f104:={ x:=_ }
def afz:Mk P0 f57:={ x:=_ }
def acy:Mk P0 f88:={ x:=_ }
def adl:Mk P0 f58:={ x:=_ }
def adk:Mk P0 f49:={ x:=_ }
def abe:Mk P0 f48:={ x:=_ }
theorem bmv:∀x:Fin 256,(zat 8 (x.val:Int) ||| zat 8 128).toNat=x.val%128+128:=by decide +kernel
theorem ap5 (U:Int) (b:0<=U) (a:U<18446744073709551616) :
 RV.v (.int .u8 (IntKind.u8.wrap ((zat IntKind.u8.bits (IntKind.u8.wrap U) ||| zat IntKind.u8.bits 128).toNat)))=by8 (UInt8.ofNat (U.toNat%128+128)):=by
 have e:IntKind.u8.wrap U=((U.toNat%256:Nat):Int):=by rw [IntKind.wrap_u8]; omega
 have:=bmv ⟨U.toNat%256,Nat.mod_lt _ (by decide)⟩;simp only at this;rw [e,show IntKind.u8.bits=8 from rfl,this,IntKind.wrap_u8];simp only [by8];congr 2;rw [UInt8.toNat_ofNat'];omega
theorem a5z (r:List UInt8) (c:UInt8):zaj (r.length+1) (bys r++[by8 c])=bys (r++[c]):=by
 rw [zal (by simp)]; simp
theorem am5 (n:Int) (s:0<=n) (x:n<18446744073709551616):a8 P0 105 [int .u64 n] [] (dj (n8 (n6 n.toNat))) []:=by
 refine afy.t func105 ?_;simp only [afy,push_cast];have m:=g7
 refine b9 [(0,false),(3,false)] (λ vs pos c=>∃(U:Int) (f:Nat) (r:List UInt8),0<=U/\U<18446744073709551616/\1<=f/\f<=10/\U.toNat<128^f/\r++vi f U.toNat=n6 n.toNat/\pos=[] /\
  ((r=[]/\vs=[int .u64 U,.nils 1 (.v (.int .u8 0))]/\c=[])\/(vs=[int .u64 U,.own 2000000 0 0 r.length]/\c=[rm r])))
  (λ vs _ _=>match vs with | .r (.v (.int _ j))::_=>j.toNat | _=>0) rfl ?_ ?_
 ·simp only [push_cast,↓reduceIte,reduceCtorEq,zA];exact ⟨n,10,[],s,x,by decide,by decide,by omega,rfl,.inl ⟨rfl,rfl⟩⟩
 rintro vs pos c ⟨U,f,r,i,l,p,u,q,e,rfl,hc⟩
 have w:r.length<=10:=by
  have a:=congrArg zbi e;have y:=cj n.toNat;rw [zae] at a;omega
 have o:U.fdiv (2^min (Int.toNat 7) IntKind.u64.bits)=U/128:=ak9 U 7 (by decide);have g:(U/128).toNat=U.toNat/128:=by omega
 rcases hc with ⟨rfl,rfl,rfl⟩ | ⟨rfl,rfl⟩
 ·simp only [push_cast,↓reduceIte];refine b7 (λ h=>?_) (λ h=>?_)
  ·have a:127<U:=by simpa using h
   obtain ⟨k,rfl,b,d,hv⟩:=ah2 (f:=f) (n:=U.toNat) (by omega) q;simp only [o,push_cast,↓reduceIte,reduceCtorEq,zE,zA,zL,zD,zM];rw [ap5 U i l];refine ⟨by simp,by omega,by omega,⟨U/128,k,[UInt8.ofNat (U.toNat%128+128)],by omega,by omega,b,by omega,by rw [g]; exact d,?_,.inr ⟨rfl,rfl⟩⟩,by omega⟩;rw [<- e,hv,g]; rfl
  have a:U<=127:=by
   have:¬(U>127):=by simpa using h
   omega
  have hv:=abh (f:=f) (n:=U.toNat) (by omega) p;rw [hv] at e;simp only [push_cast,↓reduceIte,reduceCtorEq,zE,zA,zD,zM];rw [afe U i a,atz,at0,<- e];refine ⟨by simp,by omega,rfl,rfl⟩
 simp only [push_cast,↓reduceIte];refine b7 (λ h=>?_) (λ h=>?_)
 ·have a:127<U:=by simpa using h
  obtain ⟨k,rfl,b,d,hv⟩:=ah2 (f:=f) (n:=U.toNat) (by omega) q;simp only [o,push_cast,↓reduceIte,reduceCtorEq,zE,zA,zL,zD];rw [ap5 U i l];refine ⟨by simp,by omega,by omega,⟨U/128,k,r++[UInt8.ofNat (U.toNat%128+128)],by omega,by omega,b,by omega,by rw [g]; exact d,?_,.inr ⟨by simp,by simp⟩⟩,by omega⟩;rw [<- e,hv,g,zao]; rfl
 have a:U<=127:=by
  have:¬(U>127):=by simpa using h
  omega
 have hv:=abh (f:=f) (n:=U.toNat) (by omega) p;rw [hv] at e;simp only [push_cast,↓reduceIte,reduceCtorEq,zE,zA,zL,zD];rw [afe U i a,a5z,ep,di,<- e];refine ⟨by simp,by omega,rfl,rfl⟩
variable {k:Nat}
theorem bi1 {U i C:Int} {m b:Nat} (d:U=m) (hi:i=k) (e:C=b) (g:k<=9) (h:m<2^(7*k)) (f:b<256) (a:k=9->b<=1) :
 IntKind.u64.wrap ((zat IntKind.u64.bits U ||| zat IntKind.u64.bits (IntKind.u64.wrap (IntKind.u64.wrap ((zat IntKind.u64.bits C &&& zat IntKind.u64.bits 127).toNat)*2^min (IntKind.i64.wrap (7*i)).toNat IntKind.u64.bits))).toNat)=((m+b%128*2^(7*k):Nat):Int):=by
 have c:IntKind.i64.wrap (7*i)=7*i:=a5 (by omega);rw [c,show (7*i).toNat=7*k by omega,show min (7*k) IntKind.u64.bits=7*k from Nat.min_eq_left (by simp [IntKind.bits]; omega),d,e];exact a0f g h f a
theorem bh0 (l:List UInt8) (i:Nat) (hi:i<l.length):(n8 l).data.toList.getD i 0=l[i]:=by
 rw [aon]; simp [List.getD,hi]
theorem ad5 (l:List UInt8) (Q:l.length<=140737488355328):a8 P0 92 [dj (n8 l)] [] (.tup [int .u64 (take l).1,int .i64 (take l).2]) []:=by
 refine acx.t func92 ?_;obtain ⟨N,hN,S,R⟩:∃N:Int,N=l.length/\0<=N/\N<=140737488355328:=⟨_,rfl,by omega,by omega⟩
 push_cast [acx,zac,k9,<- hN]
 refine b9 [(0,false),(4,false),(5,false)] (λ vs pos n=>∃(i U:Int) (k m:Nat),i=k/\U=m/\k<=l.length/\k<=9/\m<2^(7*k)/\take l=jk k m (l.drop k) /\
  vs=[dj (n8 l),int .u64 U,int .i64 i]/\pos=[]/\n=[])
  (λ vs _ _=>match vs with | [_,_,.r (.v (.int _ j))]=>(N-j).toNat | _=>0) rfl ?_ ?_
 ·push_cast
  exact ⟨0,0,0,0,rfl,rfl,by omega,by omega,by decide,rfl,rfl⟩
 rintro vs pos n ⟨i,U,k,m,y,D,K,o,F,e,rfl,rfl,rfl⟩;have s:decide (i<10)=true:=by simp; omega
 push_cast [k9,<- hN,s]
 refine b7 (λ h=>?_) (λ h=>?_)
 ·have hi:i<N:=by simpa using h
  have a:k<l.length:=by omega
  have B:i.toNat=k:=by omega
  obtain ⟨b,c⟩:∃b,l[k].toNat=b:=⟨_,rfl⟩
  have w:b<256:=by rw [<- c]; exact l[k].toNat_lt
  obtain ⟨C,G⟩:∃C:Int,C=b:=⟨_,rfl⟩
  have O:(((n8 l).data.toList.getD i.toNat 0).toNat:Int)=C:=by
   rw [B,bh0 l k a,G,c]
  have A:IntKind.i64.wrap (i+1)=i+1:=a5 (by omega);have J:IntKind.u64.wrap C=C:=by rw [IntKind.wrap_u64]; omega
  push_cast [O,J,k9,<- hN]
  refine ⟨⟨by omega,by omega⟩,?_⟩;refine b7 (λ z=>?_) (λ z=>?_)
  ·have hc:(k=9/\1<b)\/(0<k/\b=0):=by
    by_cases u:i=9<;>by_cases c2:C>1<;>simp [u,c2] at z<;>omega
   push_cast
   rw [e,aql a c hc]
   rfl
  have E:¬(k=9/\1<b):=by
   rintro ⟨H,P⟩;simp [show i=9 by omega,show C>1 by omega] at z
  have hv:=bi1 D y G o F w (λ H=>by omega);have g:=ae7 (b:=b) F;have f:0<=IntKind.i64.wrap (7*i):=by rw [a5 (x:=7*i) (by omega)]; omega
  generalize d:m+b%128*2^(7*k)=m' at hv g;generalize M:((m':Nat):Int)=V at hv
  push_cast [hv]
  by_cases u:C<128
  ·have p:decide (C<128)=true:=by simp [u]
   push_cast [p,A]
   refine ⟨f,?_⟩;refine b7 (λ q=>?_) (λ q=>?_)
   ·have hc:(k=9/\1<b)\/(0<k/\b=0):=by
     by_cases I:i>0<;>by_cases L:C=0<;>simp [I,L] at q<;>omega
    push_cast
    rw [e,aql a c hc]
    rfl
   have hc:¬((k=9/\1<b)\/(0<k/\b=0)):=by
    rintro (hc | hc)
    ·exact E hc
    simp [show i>0 by omega,show C=0 by omega] at q
   push_cast [A]
   rw [e,avg a c hc (by omega),d];refine congrArg AV.tup ?_;rw [<- M,show i+1=((k+1:Nat):Int) by omega]
  have p:decide (C<128)=false:=by simp; omega
  push_cast [p,A]
  refine ⟨f,⟨i+1,V,k+1,m',by omega,by omega,by omega,by omega,g,?_,rfl⟩,by omega⟩;rw [e,axt a c (by omega) (by omega),d]
 have hi:¬i<N:=by simpa using h
 push_cast
 rw [e,ar1 k m l (by omega)]
 rfl

open Go Go.RowKit
theorem am4 (n:Int) (b:c7 n):a8 P0 34 [int .i64 n] [] (int .u64 (zig n)) []:=by
 refine afw.t func34 ?_;simp only [afw,push_cast,↓reduceIte,reduceCtorEq,zE,zA];have a:n.fdiv (2^min (Int.toNat 63) IntKind.i64.bits)=n/9223372036854775808:=bdn n 63 (by decide)
 have c:IntKind.u64.wrap (IntKind.u64.wrap n*2^min (Int.toNat 1) IntKind.u64.bits)=IntKind.u64.wrap (IntKind.i64.wrap (n*2)):=by
  rw [show (2:Int)^min (Int.toNat 1) IntKind.u64.bits=2 from rfl,IntKind.wrap_u64,IntKind.wrap_u64,IntKind.wrap_u64,IntKind.wrap_i64];omega
 refine ⟨by decide,by decide,?_⟩;rw [a,c,bio n b]
theorem asb (f:Int):a8 P0 104 [int .i64 f] [] (bl (okB f)) []:=by
 refine zj.t func104 ?_
 push_cast [zj,zac]
 repeat refine And.intro (by simp +contextual) ?_
 refine ic ?_;simp [okB]
theorem am6 (f n:Int) (d:c7 f) (b:0<=n) (a:n<18446744073709551616):a8 P0 57 [int .i64 f,int .u64 n] [] (dj (n8 (q9 f n))) []:=by
 refine afz.t func57 ?_
 push_cast [afz,zac]
 refine a6 (asb f) rfl trivial ?_;cases hk:okB f with
 | false=>
   push_cast [q9,hk]
   rfl
 | true=>
   have h:1<=f/\f<=1000:=by simpa [okB] using hk
   have c:IntKind.u64.wrap (IntKind.i64.wrap (8*f))=f*8:=by rw [a5 (x:=8*f) (by omega),IntKind.wrap_u64]; omega
   have e:=cj (f*8).toNat;have g:=cj n.toNat
   push_cast [q9,hk,c]
   refine a6 (am5 (f*8) (by omega) (by omega)) rfl trivial ?_
   push_cast
   refine a6 (am5 n b a) rfl trivial ?_
   push_cast [k9,cq]
   omega
theorem rn (f:Int) (x:List UInt8) (e:c7 f) (hx:x.length<=1000000000000):a8 P0 88 [int .i64 f,dj (n8 x)] [] (dj (n8 (l8 f x))) []:=by
 refine acy.t func88 ?_
 push_cast [acy,zac]
 refine a6 (asb f) rfl trivial ?_;cases hk:okB f with
 | false=>
   push_cast [l8,hk]
   rfl
 | true=>
   have j:1<=f/\f<=1000:=by simpa [okB] using hk
   have d:IntKind.u64.wrap (IntKind.i64.wrap (IntKind.i64.wrap (8*f)+2))=f*8+2:=by rw [a5 (x:=8*f) (by omega),a5 (x:=8*f+2) (by omega),IntKind.wrap_u64]; omega
   obtain ⟨X,a,h,i⟩:∃X:Int,X=x.length/\0<=X/\X<=1000000000000:=⟨_,rfl,by omega,by omega⟩
   have c:IntKind.u64.wrap X=X:=by rw [IntKind.wrap_u64]; omega
   have b:n6 x.length=n6 X.toNat:=by rw [a]; rfl
   have g:=cj (f*8+2).toNat;have k:=cj X.toNat
   push_cast [l8,hk,d,b,<- a]
   refine a6 (am5 (f*8+2) (by omega) (by omega)) rfl trivial ?_
   push_cast [k9,<- a,c]
   refine a6 (am5 X (by omega) (by omega)) rfl trivial ?_
   push_cast [k9,cq,zae,zao]
   exact ⟨by omega,by omega⟩
theorem a1h (f:Int) (ns:List Int) (m:c7 f) (o:∀n∈ns,0<=n/\n<18446744073709551616) (k:ns.length<=1000000000) :
 a8 P0 58 [int .i64 f,.r (.sl 1 (ns.map λ n=>.v (.int .u64 n)))] [] (dj (n8 (l8 f (ns.flatMap λ n=>n6 n.toNat)))) []:=by
 refine adl.t func58 ?_;obtain ⟨N,hN,w,u⟩:∃N:Int,N=ns.length/\0<=N/\N<=1000000000:=⟨_,rfl,by omega,by omega⟩
 push_cast [adl,zac,<- hN]
 have b:∀i:Nat,((ns.take i).flatMap λ n=>n6 n.toNat).length<=10*i:=λ i=>by
  induction i with
  | zero=>simp
  | succ i ih=>
    rw [zbe,List.flatMap_append,zae]
    have:((ns[i]?.toList).flatMap λ n=>n6 n.toNat).length<=10:=by
     cases ns[i]? with
     | none=>simp
     | some n=>simpa using cj n.toNat
    omega
 refine b9 [(0,false),(1,false),(5,false),(6,false)] (λ vs pos c=>∃(i:Int) (r:List UInt8),0<=i/\i<=N/\r=(ns.take i.toNat).flatMap (λ n=>n6 n.toNat) /\
  vs=[int .i64 f,.r (.sl 1 (ns.map λ n=>.v (.int .u64 n))),dj (n8 r),int .i64 i]/\pos=[]/\c=[])
  (λ vs _ _=>match vs with | [_,_,_,.r (.v (.int _ j))]=>(N-j).toNat | _=>0) rfl ?_ ?_
 ·push_cast
  exact ⟨0,[],by omega,by omega,rfl,rfl⟩
 rintro vs pos c ⟨i,r,q,s,d,rfl,rfl,rfl⟩;have e:=b i.toNat;rw [<- d] at e
 push_cast [<- hN]
 refine b7 (λ h=>?_) (λ h=>?_)
 ·have hi:i<N:=by simpa using h
  have a:i.toNat<ns.length:=by omega
  have g:=o _ (zbp a);have l:(List.map (λ n=>RV.v (.int .u64 n)) ns).getD i.toNat (.v (.int .u64 0))=.v (.int .u64 ns[i.toNat]):=by simp [List.getD,a]
  have p:IntKind.i64.wrap (i+1)=i+1:=a5 (by omega);have hv:=cj (ns[i.toNat]).toNat
  push_cast [l,<- hN]
  refine ⟨⟨q,hi⟩,?_⟩;refine a6 (am5 _ g.1 g.2) rfl trivial ?_
  push_cast [p,k9,cq]
  refine ⟨by omega,⟨i+1,r++n6 (ns[i.toNat]).toNat,by omega,by omega,?_,rfl⟩,by omega⟩;rw [show (i+1).toNat=i.toNat+1 by omega,List.take_succ_eq_append_getElem a,List.flatMap_append,<- d];simp
 have hi:i=N:=by
  have:¬i<N:=by simpa using h
  omega
 rw [hi,show N.toNat=ns.length by omega,zba] at d
 push_cast
 refine a6 (rn f r m (by omega)) rfl trivial ?_
 push_cast [<- d]

open Go Go.RowKit
theorem aom (l:List UInt8) (k n:Nat) (a:n=l.length):(n8 l).extract k n=n8 (l.drop k):=by
 rw [azz _ _ _ (by omega),zal (by omega)]
theorem ag3 {m:List Nat} (a:m≠[]):ag4 (some m)=.tup [.own 1000000 0 0 m.length,int .i64 0]/\ag5 (some m)=[aug m]:=by
 cases m with
 | nil=>exact absurd rfl a
 | cons=>exact ⟨rfl,rfl⟩
theorem bf6 (l:List UInt8) (E:l.length<=1000000000):a8 P0 49 [dj (n8 l)] [] (ag4 (fo l)) (ag5 (fo l)):=by
 refine adk.t func49 ?_;obtain ⟨L,i,H⟩:∃L:Int,L=l.length/\0<=L:=⟨_,rfl,by omega⟩
 push_cast [adk,zac]
 have z:=g7
 refine b9 [(0,false),(4,false),(5,false)] (λ vs pos d=>∃(A:Int) (k f:Nat) (ns:List Nat),A=k/\k<=l.length/\l.length-k<=f/\ns.length<=k/\fo l=(fw f (l.drop k)).map (ns ++ ·)/\pos=[] /\
  ((ns=[]/\vs=[dj (n8 l),.nils 1 (.v (.int .u64 0)),int .i64 A]/\d=[])\/(ns≠[]/\vs=[dj (n8 l),.own 2000000 0 0 ns.length,int .i64 A]/\d=[aug ns])))
  (λ vs _ _=>match vs with | [_,_,.r (.v (.int _ j))]=>(L-j).toNat | _=>0) rfl ?_ ?_
 ·push_cast
  refine ⟨0,0,l.length,[],rfl,by omega,by omega,by simp,?_,.inl ⟨rfl,rfl⟩⟩;show fw l.length l = _;cases h:fw l.length l<;>simp [h]
 rintro vs pos d ⟨A,k,f,ns,B,F,G,C,hv,rfl,hc⟩;have D:(l.drop k).length=l.length-k:=zap;have I:=gc (l.drop k);obtain ⟨U,p⟩:∃U:Int,U=(take (l.drop k)).1:=⟨_,rfl⟩
 obtain ⟨K,y⟩:∃K:Int,K=(take (l.drop k)).2:=⟨_,rfl⟩
 have a:(n8 l).extract A.toNat L.toNat=n8 (l.drop k):=by rw [ll B,ll i,aom l k _ rfl]
 have c:jf ns++[.v (.int .u64 U)]=jf (ns++[(take (l.drop k)).1]):=by rw [p]; exact av9 _ _
 have w:IntKind.i64.wrap (A+K)=A+K:=a5 (by omega);have s:=amz (l.drop k);rcases hc with ⟨rfl,rfl,rfl⟩ | ⟨m,rfl,rfl⟩
 ·push_cast [k9,<- i]
  refine b7 (λ h=>?_) (λ h=>?_)
  ·have e:A<L:=by simpa using h
   push_cast [k9,<- i,a]
   refine ⟨⟨by omega,by omega,by omega⟩,?_⟩;refine a6 (ad5 (l.drop k) (by omega)) rfl trivial ?_;rw [<- p,<- y]
   push_cast
   by_cases o:K=0
   ·have g:(K == 0)=true:=by simp [o]
    push_cast [g]
    rw [hv,ah1 (by omega) (by omega)];exact ⟨rfl,rfl⟩
   have g:(K == 0)=false:=by simp [o]
   obtain ⟨u,q,b⟩:=adw (f:=f) (n:=(take (l.drop k)).1) (k:=(take (l.drop k)).2) (by omega) (by omega) rfl (by omega)
   push_cast [g,w]
   refine ⟨by simp,by omega,⟨A+K,k+(take (l.drop k)).2,u,[(take (l.drop k)).1],by omega,by omega,by omega,by simp only [zam,zac]; omega,?_,.inr ⟨by simp,rfl,by rw [p]; rfl⟩⟩,by omega⟩;rw [hv,b,zaw,zbf];congr 1
  have e:k=l.length:=by
   have:¬A<L:=by simpa using h
   omega
  push_cast
  rw [hv,zbq (by omega),lj];exact ⟨rfl,rfl⟩
 push_cast [k9,<- i]
 refine b7 (λ h=>?_) (λ h=>?_)
 ·have e:A<L:=by simpa using h
  push_cast [k9,<- i,a]
  refine ⟨⟨by omega,by omega,by omega⟩,?_⟩;refine a6 (ad5 (l.drop k) (by omega)) rfl trivial ?_;rw [<- p,<- y]
  push_cast
  by_cases o:K=0
  ·have g:(K == 0)=true:=by simp [o]
   push_cast [g]
   rw [hv,ah1 (by omega) (by omega)];exact ⟨rfl,rfl⟩
  have g:(K == 0)=false:=by simp [o]
  obtain ⟨u,q,b⟩:=adw (f:=f) (n:=(take (l.drop k)).1) (k:=(take (l.drop k)).2) (by omega) (by omega) rfl (by omega)
  push_cast [g,w,aiv]
  rw [c];refine ⟨by simp,by omega,⟨A+K,k+(take (l.drop k)).2,u,ns++[(take (l.drop k)).1],by omega,by omega,by omega,by rw [zae,zbm]; omega,?_,.inr ⟨by simp,by simp,rfl⟩⟩,by omega⟩;rw [hv,b,zaw,zbf];congr 1;funext x;simp
 have e:k=l.length:=by
  have:¬A<L:=by simpa using h
  omega
 push_cast
 rw [hv,zbq (by omega),lj,zbn,zbo,(ag3 m).1,(ag3 m).2];exact ⟨rfl,rfl⟩

open Go Go.RowKit
theorem az0 (l:List UInt8) (a n:Nat) (b:a+n<=l.length):(n8 l).extract a (a+n)=n8 ((l.drop a).take n):=by
 rw [azz _ _ _ b,List.drop_take,Nat.add_sub_cancel_left]
theorem apg {b:Int} {s:List RV} (e:a=(x.1:Nat)) (f:b=(x.2.1:Nat)) (hc:c=(x.2.2.1:Nat)) (d:s=bys x.2.2.2) :
 RV.agg [.v (.int .i64 a),.v (.int .i64 b),.v (.int .u64 c),.sl 1 s]=ez x:=by rw [e,f,hc,d]; rfl
theorem ai2 (l:List UInt8) (hl:l.length<=100000000):a8 P0 48 [dj (n8 l)] [] (iw (u7 l)) (jy (u7 l)):=by
 refine abe.t func48 ?_;obtain ⟨L,q,L0⟩:∃L:Int,L=l.length/\0<=L:=⟨_,rfl,by omega⟩
 simp only [abe,push_cast];have h5:=g7
 refine b9 [(0,false),(4,false),(5,false)] (λ vs pos N=>∃(A:Int) (k f:Nat) (ns:List Fld),A=k/\k<=l.length/\l.length-k<=f/\ns.length<=k/\u7 l=(ix f (l.drop k)).map (ns ++ ·)/\pos=[] /\
  ((ns=[]/\vs=[dj (n8 l),aq3,int .i64 A]/\N=[])\/(ns≠[]/\vs=[dj (n8 l),.own 2000000 0 0 ns.length,int .i64 A]/\N=[auh ns])))
  (λ vs _ _=>match vs with | [_,_,.r (.v (.int _ j))]=>(L-j).toNat | _=>0) rfl ?_ ?_
 ·simp only [push_cast,↓reduceIte,reduceCtorEq,zE,zA];refine ⟨0,0,l.length,[],rfl,by omega,by omega,by simp,?_,.inl ⟨rfl,rfl⟩⟩;show ix l.length l = _;cases h:ix l.length l<;>simp [h]
 rintro vs pos N ⟨A,k,f,ns,hA,hk,hf,h6,hv,rfl,hc⟩;generalize F:l.drop k=r at hv;have h8:r.length=l.length-k:=by rw [<- F]; exact zap
 have hb:=gc r;obtain ⟨T,hT⟩:∃U:Int,U=(take r).1:=⟨_,rfl⟩
 obtain ⟨K,hK⟩:∃K:Int,K=(take r).2:=⟨_,rfl⟩
 generalize i:r.drop (take r).2=c;have h4:c.length=r.length-(take r).2:=by rw [<- i]; exact zap
 have h1:l.drop (k+(take r).2)=c:=by rw [<- i,<- F,zbf]
 have h7:=gc c;obtain ⟨U,hU⟩:∃U:Int,U=(take c).1:=⟨_,rfl⟩
 obtain ⟨J,hJ⟩:∃K:Int,K=(take c).2:=⟨_,rfl⟩
 have G:(n8 l).extract A.toNat L.toNat=n8 r:=by rw [ll hA,ll q,aom l k _ rfl,F]
 have u:(n8 l).extract (A+K).toNat L.toNat=n8 c:=by rw [show (A+K).toNat=k+(take r).2 by omega,ll q,aom l _ _ rfl,h1]
 have wk:IntKind.i64.wrap (A+K)=A+K:=a5 (by omega);have R:IntKind.i64.wrap (A+K+J)=A+K+J:=a5 (by omega);have Y:T.fdiv (2^min (Int.toNat 3) IntKind.u64.bits)=T/8:=ak9 T 3 (by decide);have Z:IntKind.u64.wrap ((zat IntKind.u64.bits T &&& zat IntKind.u64.bits 7).toNat)=T%8:=ac2 T 7 3 (by decide) (by decide) (by omega) (by omega);have c8:IntKind.i64.wrap (T/8)=T/8:=a5 (by omega);have m8:IntKind.i64.wrap (T%8)=T%8:=a5 (by omega);have X:IntKind.u64.wrap (IntKind.i64.wrap (L-(A+K+J)))=L-(A+K+J):=by rw [a5 (x:=L-(A+K+J)) (by omega),IntKind.wrap_u64]; omega
 have V:(take r).2=0\/(take r).1/8<1\/1000<(take r).1/8->y9 r=none:=λ h=>a32 (tag:=(take r).1) (k:=(take r).2) rfl h
 have bad:y9 r=none->0<r.length->iw (u7 l)=iw none/\jy (u7 l)=jy none:=λ h h0=>by
  rw [hv,ale h0 h]; exact ⟨rfl,rfl⟩
 have E:∀a,List.drop (k+a) l=r.drop a:=λ a=>by rw [<- F,zbf]
 rcases hc with ⟨rfl,rfl,rfl⟩ | ⟨S,rfl,rfl⟩
 ·simp only [k9,<- q,push_cast,↓reduceIte,reduceCtorEq,zE];refine b7 (λ h=>?_) (λ h=>?_)
  ·have Q:A<L:=by simpa using h
   have e:0<r.length:=by omega
   simp only [k9,<- q,G,push_cast,↓reduceIte,reduceCtorEq,zE];refine ⟨⟨by omega,by omega,by omega⟩,?_⟩;refine a6 (ad5 r (by omega)) rfl trivial ?_;rw [<- hT,<- hK];simp only [Y,Z,push_cast,↓reduceIte,zE,zA,zL]
   repeat refine And.intro (by by_cases p:K=0<;>by_cases c2:T/8<1<;>by_cases w:T/8>1000<;>by_cases s:T%8=0<;>simp [p,c2,w,s]<;>omega) ?_
   refine b7 (λ B=>?_) (λ B=>?_)
   ·have d:y9 r=none:=by
     by_cases p:(take r).2=0\/(take r).1/8<1\/1000<(take r).1/8
     ·exact V p
     refine aso (tag:=(take r).1) (k:=(take r).2) rfl ?_ ?_
     ·intro s;simp [show ¬K=0 by omega,show ¬T/8<1 by omega,show ¬T/8>1000 by omega,show T%8=0 by omega] at B
     intro s;simp [show ¬K=0 by omega,show ¬T/8<1 by omega,show ¬T/8>1000 by omega,show T%8=2 by omega] at B
    simp only [push_cast,↓reduceIte,zE,zA];rw [(bad d e).1,(bad d e).2];exact ⟨rfl,rfl⟩
   have o:¬((take r).2=0\/(take r).1/8<1\/1000<(take r).1/8):=by
    intro o;by_cases p:K=0<;>by_cases c2:T/8<1<;>by_cases w:T/8>1000<;>simp [p,c2,w] at B<;>omega
   have O:T%8=0\/T%8=2:=by
    by_cases p:K=0<;>by_cases c2:T/8<1<;>by_cases w:T/8>1000<;>by_cases s:T%8=0<;>by_cases c5:T%8=2<;>simp [p,c2,w,s,c5] at B |-
   simp only [wk,Y,Z,c8,m8,k9,<- q,u,push_cast,↓reduceIte,reduceCtorEq,zE,zA,zD];refine ⟨by decide,⟨by omega,by omega,by omega⟩,?_⟩;refine a6 (ad5 c (by omega)) rfl trivial ?_;rw [<- hU,<- hJ];simp only [push_cast,↓reduceIte,zE,zA,zL];by_cases W:J=0
   ·have g:(J == 0)=true:=by simp [W]
    have d:y9 r=none:=asp (tag:=(take r).1) (k:=(take r).2) (n:=(take c).1) rfl (by rw [i]; exact Prod.ext rfl (show (take c).2=0 by omega));simp only [g,push_cast,↓reduceIte,zE,zA];rw [(bad d e).1,(bad d e).2];exact ⟨rfl,rfl⟩
   have g:(J == 0)=false:=by simp [W]
   rcases O with D | D
   ·have I:=ayo (l:=r) (tag:=(take r).1) (k:=(take r).2) (n:=(take c).1) (j:=(take c).2) rfl (by rw [i]) o (by omega) (by omega);obtain ⟨P,M,m⟩:=vn (f:=f) e (by omega) I;have C:((0:Int) == 0)=true:=rfl;simp only [g,D,C,R,push_cast,↓reduceIte,reduceCtorEq,zE,zA,zL,zD,zM];have hx:RV.agg [.v (.int .i64 (T/8)),.v (.int .i64 0),.v (.int .u64 U),.sl 1 []]=ez ((take r).1/8,0,(take c).1,[]):=apg (by dsimp only; omega) rfl (by dsimp only; omega) rfl;rw [hx];refine ⟨by simp,by omega,⟨A+K+J,k+((take r).2+(take c).2),P,[((take r).1/8,0,(take c).1,[])],by omega,by omega,by omega,by simp only [zam,zac]; omega,?_,.inr ⟨by simp,rfl,rfl⟩⟩,by omega⟩;rw [hv,m,zaw,E];congr 1
   have C:((2:Int) == 0)=false:=rfl;by_cases un:U>L-(A+K+J)
   ·have H:decide (U>L-(A+K+J))=true:=by simp [un]
    have d:y9 r=none:=asn (tag:=(take r).1) (k:=(take r).2) (n:=(take c).1) (j:=(take c).2) rfl (by rw [i]) (by omega) (by omega);simp only [g,D,C,R,X,k9,<- q,H,push_cast,↓reduceIte,reduceCtorEq,zE,zA,zL];rw [(bad d e).1,(bad d e).2];exact ⟨rfl,rfl⟩
   have H:decide (U>L-(A+K+J))=false:=by simp; omega
   have I:=av8 (l:=r) (tag:=(take r).1) (k:=(take r).2) (n:=(take c).1) (j:=(take c).2) rfl (by rw [i]) o (by omega) (by omega) (by omega);obtain ⟨P,M,m⟩:=vn (f:=f) e (by omega) I;have cu:IntKind.i64.wrap U=U:=a5 (by omega);have wu:IntKind.i64.wrap (A+K+J+U)=A+K+J+U:=a5 (by omega)
   have z:(n8 l).extract (A+K+J).toNat (A+K+J+U).toNat=n8 ((r.drop ((take r).2+(take c).2)).take (take c).1):=by
    rw [show (A+K+J).toNat=k+((take r).2+(take c).2) by omega,show (A+K+J+U).toNat=k+((take r).2+(take c).2)+(take c).1 by omega,az0 _ _ _ (by omega),<- F,zbf]
   have h3:((r.drop ((take r).2+(take c).2)).take (take c).1).length<=100000000:=by rw [zbd,zap]; omega
   simp only [g,D,C,H,R,X,cu,wu,k9,<- q,z,aon,qi,push_cast,↓reduceIte,reduceCtorEq,zE,zA,zL,zD,zM];have hx:RV.agg [.v (.int .i64 (T/8)),.v (.int .i64 2),.v (.int .u64 0),.sl 1 (List.map (λ b:UInt8=>RV.v (.int .u8 b.toNat)) ((r.drop ((take r).2+(take c).2)).take (take c).1))]=ez ((take r).1/8,2,0,(r.drop ((take r).2+(take c).2)).take (take c).1):=apg (by dsimp only; omega) rfl rfl rfl;rw [hx];refine ⟨⟨by omega,by omega,by omega⟩,by omega,by simp,by omega,⟨A+K+J+U,k+((take r).2+(take c).2+(take c).1),P,[((take r).1/8,2,0,(r.drop ((take r).2+(take c).2)).take (take c).1)],by omega,by omega,by omega,by simp only [zam,zac]; omega,?_,.inr ⟨by simp,rfl,rfl⟩⟩,by omega⟩;rw [hv,m,zaw,E];congr 1
  have Q:k=l.length:=by
   have:¬A<L:=by simpa using h
   omega
  simp only [push_cast,↓reduceIte,reduceCtorEq,zE,zA];rw [hv,<- F,zbq (by omega),ln];exact ⟨rfl,rfl⟩
 simp only [k9,<- q,push_cast,↓reduceIte,reduceCtorEq,zE];refine b7 (λ h=>?_) (λ h=>?_)
 ·have Q:A<L:=by simpa using h
  have e:0<r.length:=by omega
  simp only [k9,<- q,G,push_cast,↓reduceIte,reduceCtorEq,zE];refine ⟨⟨by omega,by omega,by omega⟩,?_⟩;refine a6 (ad5 r (by omega)) rfl trivial ?_;rw [<- hT,<- hK];simp only [Y,Z,push_cast,↓reduceIte,zE,zA,zL]
  repeat refine And.intro (by by_cases p:K=0<;>by_cases c2:T/8<1<;>by_cases w:T/8>1000<;>by_cases s:T%8=0<;>simp [p,c2,w,s]<;>omega) ?_
  refine b7 (λ B=>?_) (λ B=>?_)
  ·have d:y9 r=none:=by
    by_cases p:(take r).2=0\/(take r).1/8<1\/1000<(take r).1/8
    ·exact V p
    refine aso (tag:=(take r).1) (k:=(take r).2) rfl ?_ ?_
    ·intro s;simp [show ¬K=0 by omega,show ¬T/8<1 by omega,show ¬T/8>1000 by omega,show T%8=0 by omega] at B
    intro s;simp [show ¬K=0 by omega,show ¬T/8<1 by omega,show ¬T/8>1000 by omega,show T%8=2 by omega] at B
   simp only [push_cast,↓reduceIte,zE,zA];rw [(bad d e).1,(bad d e).2];exact ⟨rfl,rfl⟩
  have o:¬((take r).2=0\/(take r).1/8<1\/1000<(take r).1/8):=by
   intro o;by_cases p:K=0<;>by_cases c2:T/8<1<;>by_cases w:T/8>1000<;>simp [p,c2,w] at B<;>omega
  have O:T%8=0\/T%8=2:=by
   by_cases p:K=0<;>by_cases c2:T/8<1<;>by_cases w:T/8>1000<;>by_cases s:T%8=0<;>by_cases c5:T%8=2<;>simp [p,c2,w,s,c5] at B |-
  simp only [wk,Y,Z,c8,m8,k9,<- q,u,push_cast,↓reduceIte,reduceCtorEq,zE,zA,zD];refine ⟨by decide,⟨by omega,by omega,by omega⟩,?_⟩;refine a6 (ad5 c (by omega)) rfl trivial ?_;rw [<- hU,<- hJ];simp only [push_cast,↓reduceIte,zE,zA,zL];by_cases W:J=0
  ·have g:(J == 0)=true:=by simp [W]
   have d:y9 r=none:=asp (tag:=(take r).1) (k:=(take r).2) (n:=(take c).1) rfl (by rw [i]; exact Prod.ext rfl (show (take c).2=0 by omega));simp only [g,push_cast,↓reduceIte,zE,zA];rw [(bad d e).1,(bad d e).2];exact ⟨rfl,rfl⟩
  have g:(J == 0)=false:=by simp [W]
  rcases O with D | D
  ·have I:=ayo (l:=r) (tag:=(take r).1) (k:=(take r).2) (n:=(take c).1) (j:=(take c).2) rfl (by rw [i]) o (by omega) (by omega);obtain ⟨P,M,m⟩:=vn (f:=f) e (by omega) I;have C:((0:Int) == 0)=true:=rfl;simp only [g,D,C,R,qi,push_cast,↓reduceIte,reduceCtorEq,zE,zA,zL,zD];have hx:RV.agg [.v (.int .i64 (T/8)),.v (.int .i64 0),.v (.int .u64 U),.sl 1 []]=ez ((take r).1/8,0,(take c).1,[]):=apg (by dsimp only; omega) rfl (by dsimp only; omega) rfl;rw [hx];refine ⟨by simp,by omega,⟨A+K+J,k+((take r).2+(take c).2),P,ns++[((take r).1/8,0,(take c).1,[])],by omega,by omega,by omega,by rw [zae,zbm]; omega,?_,.inr ⟨by simp,by simp,by simp⟩⟩,by omega⟩;rw [hv,m,zaw,E];congr 1;funext y;simp
  have C:((2:Int) == 0)=false:=rfl;by_cases un:U>L-(A+K+J)
  ·have H:decide (U>L-(A+K+J))=true:=by simp [un]
   have d:y9 r=none:=asn (tag:=(take r).1) (k:=(take r).2) (n:=(take c).1) (j:=(take c).2) rfl (by rw [i]) (by omega) (by omega);simp only [g,D,C,R,X,k9,<- q,H,push_cast,↓reduceIte,reduceCtorEq,zE,zA,zL];rw [(bad d e).1,(bad d e).2];exact ⟨rfl,rfl⟩
  have H:decide (U>L-(A+K+J))=false:=by simp; omega
  have I:=av8 (l:=r) (tag:=(take r).1) (k:=(take r).2) (n:=(take c).1) (j:=(take c).2) rfl (by rw [i]) o (by omega) (by omega) (by omega);obtain ⟨P,M,m⟩:=vn (f:=f) e (by omega) I;have cu:IntKind.i64.wrap U=U:=a5 (by omega);have wu:IntKind.i64.wrap (A+K+J+U)=A+K+J+U:=a5 (by omega)
  have z:(n8 l).extract (A+K+J).toNat (A+K+J+U).toNat=n8 ((r.drop ((take r).2+(take c).2)).take (take c).1):=by
   rw [show (A+K+J).toNat=k+((take r).2+(take c).2) by omega,show (A+K+J+U).toNat=k+((take r).2+(take c).2)+(take c).1 by omega,az0 _ _ _ (by omega),<- F,zbf]
  have h3:((r.drop ((take r).2+(take c).2)).take (take c).1).length<=100000000:=by rw [zbd,zap]; omega
  simp only [g,D,C,H,R,X,cu,wu,k9,<- q,z,aon,qi,push_cast,↓reduceIte,reduceCtorEq,zE,zA,zL,zD];have hx:RV.agg [.v (.int .i64 (T/8)),.v (.int .i64 2),.v (.int .u64 0),.sl 1 (List.map (λ b:UInt8=>RV.v (.int .u8 b.toNat)) ((r.drop ((take r).2+(take c).2)).take (take c).1))]=ez ((take r).1/8,2,0,(r.drop ((take r).2+(take c).2)).take (take c).1):=apg (by dsimp only; omega) rfl rfl rfl;rw [hx];refine ⟨⟨by omega,by omega,by omega⟩,by omega,by simp,by omega,⟨A+K+J+U,k+((take r).2+(take c).2+(take c).1),P,ns++[((take r).1/8,2,0,(r.drop ((take r).2+(take c).2)).take (take c).1)],by omega,by omega,by omega,by rw [zae,zbm]; omega,?_,.inr ⟨by simp,by simp,by simp⟩⟩,by omega⟩;rw [hv,m,zaw,E]
  congr 1;funext y;simp
 have Q:k=l.length:=by
  have:¬A<L:=by simpa using h
  omega
 simp only [push_cast,↓reduceIte,reduceCtorEq,zE,zA,zL,zD];rw [hv,<- F,zbq (by omega),ln,zbn,zbo,(x6 S).1,(x6 S).2];exact ⟨rfl,rfl⟩

open Go Go.RowKit
theorem et (G n:Int):(q9 G n).length<=20:=by
 unfold q9; split
 ·have:=cj (G*8).toNat; have:=cj n.toNat; rw [zae]; omega
 simp
theorem lc (G:Int) (y:List UInt8):(l8 G y).length<=20+y.length:=by
 unfold l8; split
 ·have:=cj (G*8+2).toNat; have:=cj y.length; rw [zae,zae]; omega
 simp
theorem an0 (ns:List Int):(ns.flatMap λ n=>n6 n.toNat).length<=10*ns.length:=by
 induction ns with
 | nil=>simp
 | cons m ns ih=>
   have:=cj m.toNat;rw [List.flatMap_cons,zae,zam]; omega
theorem avc:∀(f:Nat) (l:List UInt8) (m:List Nat),l.length<=f->fw f l=some m->m.length<=l.length
 | f,[],m,_,h=>by
   rw [lj] at h;cases h; simp
 | 0,_::_,m,hf,h=>by simp at hf
 | f+1,c::l,m,hf,h=>by
   have i:=gc (c::l);by_cases d:(take (c::l)).2=0
   ·rw [ah1 (by simp) d] at h; cases h
   obtain ⟨b,g,hv⟩:=adw (f:=f+1) (n:=(take (c::l)).1) (k:=(take (c::l)).2) (l:=c::l) (by simp) hf rfl d;rw [hv] at h;obtain ⟨m',a,rfl⟩:=Option.map_eq_some_iff.1 h;have j:((c::l).drop (take (c::l)).2).length=(c::l).length-(take (c::l)).2:=zap;have e:b=f:=by omega
   subst e;have:=avc b ((c::l).drop (take (c::l)).2) m' (by omega) a;simp only [zam] at *;omega
theorem a5t {l:List UInt8} {m:List Nat} (h:fo l=some m):m.length<=l.length:=avc _ l m (Nat.le_refl _) h
theorem avx:∀(f:Nat) (l:List UInt8) (m:List Fld),l.length<=f->ix f l=some m->m.length<=l.length
 | f,[],m,_,h=>by
   rw [ln] at h;cases h; simp
 | 0,_::_,m,hf,h=>by simp at hf
 | f+1,c::l,m,hf,h=>by
   cases ho:y9 (c::l) with
   | none=>rw [ale (by simp) ho] at h; cases h
   | some p=>
     obtain ⟨x,k⟩:=p;have g:=ab0 ho;obtain ⟨b,d,hv⟩:=vn (f:=f+1) (by simp) hf ho;rw [hv] at h;obtain ⟨m',a,rfl⟩:=Option.map_eq_some_iff.1 h;have i:((c::l).drop k).length=(c::l).length-k:=zap;have e:b=f:=by omega
     subst e;have:=avx b ((c::l).drop k) m' (by omega) a;simp only [zam] at *;omega
theorem ny {l:List UInt8} (h:u7 l=some m):m.length<=l.length:=avx _ l m (Nat.le_refl _) h

open Go
def zq:Mk P0 f10:={ x:=_ }
def aiw (p q:P2):List Int:=[zig (IntKind.i64.wrap (q.1-p.1)),zig (IntKind.i64.wrap (q.2-p.2))]
def t6:P2->List P2->List Int
 | _,[]=>[]
 | p,q::r=>aiw p q++t6 q r
def o5:List P2->List Int
 | []=>[]
 | p::r=>if r.length<2 then [] else [9,zig p.1,zig p.2,8*(r.length:Int)+2]++t6 p r++[15]
def ans (l:List P2):Prop:=∀p∈l,c7 p.1/\c7 p.2
def o9 (l:List Int):List RV:=l.map λ n=>.v (.int .u64 n)
abbrev alc (l:List Int):Ob:=.row 1 (.v (.int .u64 0)) true true (o9 l)
theorem ae6 (n:Int) (h:c7 n):0<=zig n/\zig n<18446744073709551616:=by unfold zig c7 at *; split<;>omega
theorem ajn:∀(r:List P2) (p q o:P2) (i:Nat),r[i]?=some q->(p::r)[i]?=some o->t6 p (r.take (i+1))=t6 p (r.take i)++aiw o q
 | [],p,q,o,i,h,_=>by simp at h
 | a::r,p,q,o,0,h,g=>by
   simp at h g;subst h; subst g;simp [t6]
 | a::r,p,q,o,i+1,h,g=>by
   have b:=ajn r a q o i (by simpa using h) (by simpa using g);rw [zbz,zbz,t6,t6,b,zao]
theorem kk:∀(r:List P2) (p:P2),(t6 p r).length=2*r.length
 | [],p=>rfl
 | a::r,p=>by
   rw [t6,zae,kk r a];simp [aiw];omega
theorem bag (b:List P2) (B:b.length<=100000) (h:ans b) (s:3<=b.length):a8 P0 10 [a9 b] [] (.own 1000000 0 0 (o5 b).length) [alc (o5 b)]:=by
 refine zq.t func10 ?_;have A:=g7
 obtain ⟨p,r,rfl⟩:∃p r,b=p::r:=by
  cases b with
  | nil=>simp at s
  | cons p r=>exact ⟨p,r,rfl⟩
 simp only [zam] at s B;have C:decide (((r.length:Nat):Int)+1<3)=false:=decide_eq_false (by omega);have E:=ars p.1 (h p (by simp)).1;have y:=ars p.2 (h p (by simp)).2;simp only [zq,a9,ptR,pnt,C,zab,zaa,zaq,zaa,push_cast,↓reduceIte,reduceCtorEq,zA,zL];refine And.intro ⟨by omega,by omega⟩ (And.intro ⟨by omega,by omega⟩ ?_);refine d5 E rfl trivial ?_
 have F:IntKind.u64.wrap (IntKind.i64.wrap (IntKind.i64.wrap (8*IntKind.i64.wrap ((r.length:Int)+1-1))+2))=8*(r.length:Int)+2:=by
  rw [a5 (x:=(r.length:Int)+1-1) (by omega),a5 (x:=8*((r.length:Int)+1-1)) (by omega),a5 (x:=8*((r.length:Int)+1-1)+2) (by omega),IntKind.wrap_u64];omega
 simp only [zab,zad,zaa,zau,zaa,push_cast,↓reduceIte,reduceCtorEq,zL];refine And.intro ⟨by omega,by omega⟩ (And.intro ⟨by omega,by omega⟩ ?_);refine d5 y rfl trivial ?_;simp only [F,zad,zaa,zah,zaa,push_cast,↓reduceIte,reduceCtorEq,zE,zA];refine And.intro (by simp) (And.intro (by kernel_rfl) ?_);refine And.intro ⟨by omega,by omega,by omega⟩ ?_;obtain ⟨H,hH⟩:∃H:List Int,H=[9,zig p.1,zig p.2,8*(r.length:Int)+2]:=⟨_,rfl⟩
 refine b9 [(29,false),(28,false),(27,false),(0,false),(3,false)] (λ vs pos f=>∃i:Nat,i<=r.length/\vs=[int .i64 i,int .i64 r.length,a9 r,a9 (p::r),.own 2000000 0 0 (H++t6 p (r.take i)).length]/\pos=[]/\f=[alc (H++t6 p (r.take i))])
  (λ vs _ _=>match vs with | .r (.v (.int _ a))::_=>(r.length-a).toNat | _=>0) rfl ?_ ?_
 ·simp only [a9,ptR,pnt,push_cast,↓reduceIte,reduceCtorEq,zE,zA,zL,zD];refine ⟨0,by omega,?_,?_⟩
  ·rw [hH]; rfl
  rw [hH]; rfl
 rintro vs pos f ⟨i,hi,rfl,rfl,rfl⟩;simp only [a9,push_cast,↓reduceIte,zE];refine b7 (λ l=>?_) (λ l=>?_)
 ·have c:i<r.length:=by simpa using l
  obtain ⟨q,w⟩:∃q,r[i]?=some q:=⟨r[i],by simp [c]⟩
  obtain ⟨o,u⟩:∃o,(p::r)[i]?=some o:=⟨(p::r)[i]'(by simp; omega),by simp [show i<r.length+1 by omega]⟩
  have m:IntKind.i64.wrap ((i:Int)+1)=(i:Int)+1:=a5 (by omega)
  have j:∀z,(r.map ptR).getD i z=.agg [.v (.int .i64 q.1),.v (.int .i64 q.2)]:=λ z=>by
   rw [zak,zan,w]; rfl
  have k:∀z,(ptR p::r.map ptR).getD i z=.agg [.v (.int .i64 o.1),.v (.int .i64 o.2)]:=λ z=>by
   rw [<- zbb];rw [zak,zan,u]; rfl
  have y1:=ars (IntKind.i64.wrap (q.1-o.1)) (aao _);have y2:=ars (IntKind.i64.wrap (q.2-o.2)) (aao _);simp only [j,k,zab,zaa,zau,zaf,zaa,push_cast,↓reduceIte,reduceCtorEq,zE,zA,zL,zD]
  repeat refine And.intro ⟨by omega,by omega⟩ ?_
  refine d5 y1 rfl trivial ?_;simp only [k,zad,zaa,zau,zaf,zaa,push_cast,↓reduceIte,reduceCtorEq,zE,zA,zL]
  repeat refine And.intro ⟨by omega,by omega⟩ ?_
  refine d5 y2 rfl trivial ?_;simp only [m,zaa,zaa,push_cast,↓reduceIte,reduceCtorEq,zE,zA,zL,zD];have e:=kk (r.take i) p;have n:H.length=4:=by rw [hH]; rfl
  rw [zbd,Nat.min_eq_left hi] at e;have g:=ajn r p q o i w u;have d:zaj (H.length+(t6 p (r.take i)).length) (o9 (H++t6 p (r.take i)))=o9 (H++t6 p (r.take i)):=zal (by simp [o9]);rw [d];refine And.intro (by simp) (And.intro ⟨by omega,by omega⟩ (And.intro (by kernel_rfl) ?_));refine ⟨⟨i+1,by omega,?_,?_⟩,by omega⟩
  ·rw [g]; simp [aiw]; omega
  rw [g]; simp [o9,aiw]
 have c:i=r.length:=by
  have:¬i<r.length:=by simpa using l
  omega
 simp only [push_cast,↓reduceIte,reduceCtorEq,zE,zA,zL,zD];subst c;have e:=kk r p;have n:H.length=4:=by rw [hH]; rfl
 have D:o5 (p::r)=H++t6 p r++[15]:=by rw [o5,if_neg (by omega),hH]
 rw [zba];have d:zaj (H.length+(t6 p r).length) (o9 (H++t6 p r))=o9 (H++t6 p r):=zal (by simp [o9]);rw [d,D];refine ⟨by simp,⟨by omega,by omega⟩,?_,?_⟩
 ·simp; omega
 simp [o9]
theorem a5y (a:List P2) (c:a.length<3):a8 P0 10 [a9 a] [] (.nils 1 (.v (.int .u64 0))) []:=by
 refine zq.t func10 ?_;have b:decide (((a.length:Nat):Int)<3)=true:=decide_eq_true (by omega)
 push_cast [zq,a9,zai,b,zac]

def li:Mk P0 f14:={ x:=_ }
def pj:Mk P0 f15:={ x:=_ }
theorem a6o (a:List P2) (c:a.length<3):a8 P0 14 [a9 a] [] (.nils 1 (.v (.int .u64 0))) []:=by
 refine li.t func14 ?_;have b:decide (((a.length:Nat):Int)<3)=true:=decide_eq_true (by omega)
 push_cast [li,a9,zai,b,zac]
theorem be0 (a b:List P2) (B:a.length<=1000000) (C:b.length<=1000000):a8 P0 15 [a9 a,a9 b] [] (bl (decide (a=b))) []:=by
 refine pj.t func15 ?_;by_cases j:a.length=b.length
 ·have p:(((a.length:Nat):Int) != (b.length:Int))=false:=by rw [j]; simp
  push_cast [pj,a9,zai,p,zac]
  refine b9 [(5,false),(0,false),(1,false)] (λ vs pos g=>∃i:Nat,i<=a.length/\a.take i=b.take i/\vs=[int .i64 i,a9 a,a9 b]/\pos=[]/\g=[])
   (λ vs _ _=>match vs with | .r (.v (.int _ n))::_=>(a.length-n).toNat | _=>0) rfl ?_ ?_
  ·push_cast [a9]
   exact ⟨0,by omega,rfl,rfl⟩
  rintro vs pos g ⟨i,hi,f,rfl,rfl,rfl⟩
  push_cast [a9,zai]
  refine b7 (λ s=>?_) (λ s=>?_)
  ·have c:i<a.length:=by simpa using s
   obtain ⟨q,k⟩:∃q,a[i]?=some q:=⟨a[i],by simp [c]⟩
   obtain ⟨o,l⟩:∃o,b[i]?=some o:=⟨b[i]'(by omega),by simp [j▸c]⟩
   have w:IntKind.i64.wrap ((i:Int)+1)=(i:Int)+1:=a5 (by omega)
   have x:∀z,(a.map ptR).getD i z=.agg [.v (.int .i64 q.1),.v (.int .i64 q.2)]:=λ z=>by
    rw [zak,zan,k]; rfl
   have y:∀z,(b.map ptR).getD i z=.agg [.v (.int .i64 o.1),.v (.int .i64 o.2)]:=λ z=>by
    rw [zak,zan,l]; rfl
   have A:=aph q o
   push_cast [a9,x,y,w,zai,zab,zad,zaa,zaf,zah,zaa]
   refine And.intro ⟨by omega,by omega⟩ (And.intro ⟨by omega,by omega⟩ (And.intro (by kernel_rfl) ?_));by_cases e:q=o
   ·subst e;have d:(q.1 == q.1&&q.2 == q.2)=true:=by simp
    push_cast [d,w,a9]
    refine ⟨⟨i+1,by omega,?_,by simp⟩,by omega⟩;rw [zbe,zbe,f,k,l]
   have d:(q.1 == o.1&&q.2 == o.2)=false:=A.trans (decide_eq_false e);have m:decide (a=b)=false:=decide_eq_false (λ h=>e (by rw [h,l] at k; exact (Option.some.inj k).symm))
   push_cast [d,m]
  have c:i=a.length:=by
   have:¬i<a.length:=by simpa using s
   omega
  have u:decide (a=b)=true:=decide_eq_true (by rw [c,zba,j,zba] at f; exact f)
  push_cast [u]
 have p:(((a.length:Nat):Int) != (b.length:Int))=true:=by simp; omega
 have u:decide (a=b)=false:=decide_eq_false (λ h=>j (by rw [h]))
 push_cast [pj,a9,zai,p,u,zac]

def afx:Mk P0 f35:={ x:=_ }
theorem a6h (n:Int) (c:0<=n) (b:n<18446744073709551616):a8 P0 35 [int .u64 n] [] (int .i64 (zag n)) []:=by
 refine afx.t func35 ?_;simp only [afx,push_cast,↓reduceIte,reduceCtorEq,zE,zA];have d:n.fdiv (2^min (Int.toNat 1) IntKind.u64.bits)=n/2:=ak9 n 1 (by decide);have a:=ac2 n 1 1 (by decide) (by decide) c b;rw [show (2:Int)^1=2 from rfl] at a;refine ⟨by decide,?_⟩;rw [d,a,bip n c b]
theorem baw (b:List P2) (C:b.length<=100000) (h:ans b) (u:3<=b.length):a8 P0 14 [a9 b] [] (.own 1000000 0 0 (o5 b).length) [alc (o5 b)]:=by
 refine li.t func14 ?_;have B:=g7
 obtain ⟨p,r,rfl⟩:∃p r,b=p::r:=by
  cases b with
  | nil=>simp at u
  | cons p r=>exact ⟨p,r,rfl⟩
 simp only [zam] at u C;have D:decide (((r.length:Nat):Int)+1<3)=false:=decide_eq_false (by omega);have F:=am4 p.1 (h p (by simp)).1;have A:=am4 p.2 (h p (by simp)).2;simp only [li,a9,ptR,pnt,D,zab,zaa,zaq,zaa,push_cast,↓reduceIte,reduceCtorEq,zA,zL];refine And.intro ⟨by omega,by omega⟩ (And.intro ⟨by omega,by omega⟩ ?_);refine d5 F rfl trivial ?_
 have G:IntKind.u64.wrap (IntKind.i64.wrap (IntKind.i64.wrap (8*IntKind.i64.wrap ((r.length:Int)+1-1))+2))=8*(r.length:Int)+2:=by
  rw [a5 (x:=(r.length:Int)+1-1) (by omega),a5 (x:=8*((r.length:Int)+1-1)) (by omega),a5 (x:=8*((r.length:Int)+1-1)+2) (by omega),IntKind.wrap_u64];omega
 simp only [zab,zad,zaa,zau,zaa,push_cast,↓reduceIte,reduceCtorEq,zL];refine And.intro ⟨by omega,by omega⟩ (And.intro ⟨by omega,by omega⟩ ?_);refine d5 A rfl trivial ?_;simp only [G,zaa,zaa,push_cast,↓reduceIte,reduceCtorEq,zE,zA];refine And.intro (by simp) (And.intro (by kernel_rfl) ?_);obtain ⟨H,hH⟩:∃H:List Int,H=[9,zig p.1,zig p.2,8*(r.length:Int)+2]:=⟨_,rfl⟩
 refine b9 [(4,false),(0,false),(3,false)] (λ vs pos f=>∃i:Nat,i<=r.length/\vs=[int .i64 ((i:Int)+1),a9 (p::r),.own 2000000 0 0 (H++t6 p (r.take i)).length]/\pos=[]/\f=[alc (H++t6 p (r.take i))])
  (λ vs _ _=>match vs with | .r (.v (.int _ a))::_=>(r.length+1-a).toNat | _=>0) rfl ?_ ?_
 ·simp only [a9,ptR,pnt,push_cast,↓reduceIte,reduceCtorEq,zE,zA,zL,zD];refine ⟨0,by omega,?_,?_⟩
  ·rw [hH]; rfl
  rw [hH]; rfl
 rintro vs pos f ⟨i,hi,rfl,rfl,rfl⟩;simp only [a9,push_cast,↓reduceIte,reduceCtorEq,zE];refine b7 (λ m=>?_) (λ m=>?_)
 ·have d:i<r.length:=by have:=of_decide_eq_true m; omega
  obtain ⟨q,y⟩:∃q,r[i]?=some q:=⟨r[i],by simp [d]⟩
  obtain ⟨o,w⟩:∃o,(p::r)[i]?=some o:=⟨(p::r)[i]'(by simp; omega),by simp [show i<r.length+1 by omega]⟩
  have n:IntKind.i64.wrap ((i:Int)+1+1)=(i:Int)+1+1:=a5 (by omega);have k:IntKind.i64.wrap ((i:Int)+1-1)=(i:Int):=by rw [a5 (by omega)]; omega
  have j:∀z,(ptR p::r.map ptR).getD (i+1) z=.agg [.v (.int .i64 q.1),.v (.int .i64 q.2)]:=λ z=>by
   rw [zca,zak,zan,y]; rfl
  have l:∀z,(ptR p::r.map ptR).getD i z=.agg [.v (.int .i64 o.1),.v (.int .i64 o.2)]:=λ z=>by
   rw [<- zbb];rw [zak,zan,w]; rfl
  have y1:=am4 (IntKind.i64.wrap (q.1-o.1)) (aao _);have y2:=am4 (IntKind.i64.wrap (q.2-o.2)) (aao _);simp only [j,l,k,zab,zaa,zau,zaf,zah,zaa,push_cast,↓reduceIte,reduceCtorEq,zE,zA,zL]
  repeat refine And.intro ⟨by omega,by omega⟩ ?_
  refine d5 y1 rfl trivial ?_;simp only [j,l,k,zad,zaa,zau,zaf,zah,zaa,push_cast,↓reduceIte,reduceCtorEq,zE,zL]
  repeat refine And.intro ⟨by omega,by omega⟩ ?_
  refine d5 y2 rfl trivial ?_;simp only [n,zaa,zaa,push_cast,↓reduceIte,reduceCtorEq,zE,zA,zL,zD];have e:=kk (r.take i) p;have s:H.length=4:=by rw [hH]; rfl
  rw [zbd,Nat.min_eq_left hi] at e;have g:=ajn r p q o i y w;have c:zaj (H.length+(t6 p (r.take i)).length) (o9 (H++t6 p (r.take i)))=o9 (H++t6 p (r.take i)):=zal (by simp [o9]);rw [c];refine And.intro (by simp) (And.intro ⟨by omega,by omega⟩ (And.intro (by kernel_rfl) ?_));refine ⟨⟨i+1,by omega,?_,?_⟩,by omega⟩
  ·rw [g]; simp [aiw]; omega
  rw [g]; simp [o9,aiw]
 have d:i=r.length:=by
  have:=of_decide_eq_false m;omega
 simp only [push_cast,↓reduceIte,reduceCtorEq,zE,zA,zL,zD];subst d;have e:=kk r p;have s:H.length=4:=by rw [hH]; rfl
 have E:o5 (p::r)=H++t6 p r++[15]:=by rw [o5,if_neg (by omega),hH]
 rw [zba];have c:zaj (H.length+(t6 p r).length) (o9 (H++t6 p r))=o9 (H++t6 p r):=zal (by simp [o9]);rw [c,E];refine ⟨by simp,⟨by omega,by omega⟩,?_,?_⟩
 ·simp; omega
 simp [o9]

def abk:Mk P0 f12:={ x:=_ }
def mw:Mk P0 f16:={ x:=_ }
def dv (l:List Int):Bool:=decide (9<=l.length)&&(l.length%2 == 1&&(l.getD 0 0 == 9&&(l.getD (l.length-1) 0 == 15&&l.getD 3 0 == 8*(((l.length:Int)-5)/2)+2)))
def yg (l:List Int):Nat->P2
 | 0=>(zag (l.getD 1 0),zag (l.getD 2 0))
 | j+1=>(IntKind.i64.wrap ((yg l j).1+zag (l.getD (4+2*j) 0)),IntKind.i64.wrap ((yg l j).2+zag (l.getD (5+2*j) 0)))
def ei (l:List Int) (n:Nat):List P2:=(zax n).map (yg l)
theorem aqd (l:List Int) (n:Nat):ei l (n+1)=ei l n++[yg l n]:=by simp [ei,zay]
def iv (l:List Int):List P2:=if dv l then ei l ((l.length-5)/2+1) else []
def af8 (l:List Int):Prop:=∀n∈l,0<=n/\n<18446744073709551616
theorem az (l:List Int) (i:Nat):(o9 l).getD i (.v (.int .u64 0))=.v (.int .u64 (l.getD i 0)):=by
 simp only [o9,zak,zan];cases l[i]? <;> rfl
variable {l:List Int}
theorem aas (h:af8 l) (i:Nat):0<=l.getD i 0/\l.getD i 0<18446744073709551616:=by
 rw [zak];cases e:l[i]? with
 | none=>simp
 | some x=>exact h x (zbr e)
theorem a26 (h:af8 l) (i:Nat):a8 P0 33 [int .u64 (l.getD i 0)] [] (int .i64 (zag (l.getD i 0))) []:=bde _ (aas h i).1 (aas h i).2
theorem awz (h:af8 l) (i:Nat):a8 P0 35 [int .u64 (l.getD i 0)] [] (int .i64 (zag (l.getD i 0))) []:=a6h _ (aas h i).1 (aas h i).2
variable {res:AV} {ro:List Ob}
theorem be1 (l:List Int) (V:l.length<=1000000) (h:af8 l)
 (b:(dv l=false/\res=.tup [.nils 2 (pnt 0 0),bl false]/\ro=[])\/(dv l=true/\res=.tup [.own 1000000 0 0 (iv l).length,bl true]/\ro=[i7 (iv l)])) :
 a8 P0 12 [.r (.sl 1 (o9 l))] [] res ro:=by
 refine abk.t func12 ?_;have M:=g7;have c:(o9 l).length=l.length:=by simp [o9]
 by_cases T:l.length<9
 ·have k:decide (((l.length:Nat):Int)<9)=true:=decide_eq_true (by omega);have hc:dv l=false:=by simp [dv]; omega
  rcases b with ⟨_,rfl,rfl⟩ | ⟨h,_⟩
  ·simp only [abk,c,k,pnt,az,push_cast,↓reduceIte,reduceCtorEq,zE,zA,zL]
  rw [hc] at h; cases h
 obtain ⟨N,hN,Q,L⟩:∃N:Int,((l.length:Nat):Int)=N/\9<=N/\N<=1000000:=⟨_,rfl,by omega,by omega⟩
 have k:decide (N<9)=false:=decide_eq_false (by omega);have s:(N-1).toNat=l.length-1:=by omega
 have d:IntKind.i64.wrap (N-1)=N-1:=a5 (by omega);have i:IntKind.i64.wrap (N-4)=N-4:=a5 (by omega);have F:IntKind.i64.wrap (N-4-1)=N-5:=by rw [a5 (by omega)]; omega
 obtain ⟨K,H⟩:∃K:Int,(N-5)/2=K:=⟨_,rfl⟩
 have G:(N-5).tdiv 2=K:=by rw [zbx (by omega),H]
 have w:IntKind.u64.wrap (IntKind.i64.wrap (IntKind.i64.wrap (8*IntKind.i64.wrap K)+2))=8*K+2:=by
  rw [a5 (x:=K) (by omega),a5 (x:=8*K) (by omega),a5 (x:=8*K+2) (by omega),IntKind.wrap_u64];omega
 have hc:dv l=(!(l.getD 0 0 != 9)&&(!(l.getD (l.length-1) 0 != 15)&&(!(l.getD 3 0 != 8*K+2) && !((N-5).tmod 2 != 0)))):=by
  unfold dv;have P:decide (9<=l.length)=true:=decide_eq_true (by omega)
  have O:(l.length%2 == 1)=!((N-5).tmod 2 != 0):=by
   rw [zbh (by omega),Bool.eq_iff_iff];simp;omega
  rw [hN,H,P,O];simp only [bne];generalize (l.getD 0 0 == 9)=A;generalize (l.getD (l.length-1) 0 == 15)=B;generalize (l.getD 3 0 == 8*K+2)=C;generalize ((N-5).tmod 2 == 0)=D;cases A<;>cases B<;>cases C<;>cases D<;>rfl
 cases hcc:dv l with
 | false=>
   rw [hcc] at hc b;rcases b with ⟨_,rfl,rfl⟩ | ⟨h,_⟩
   ·cases f:(l.getD 0 0 != 9)<;>cases m:(l.getD (l.length-1) 0 != 15)<;>cases q:(l.getD 3 0 != 8*K+2)<;>cases e:((N-5).tmod 2 != 0) <;>
     first
     | (rw [f,m,q,e] at hc; cases hc; done)
     | (simp only [abk,c,hN,k,s,az,d,i,F,G,w,f,m,q,e,pnt,zab,zad,zaa,push_cast,↓reduceIte,reduceCtorEq,zE,zA,zL]
        first | done | omega | (refine ⟨by omega,?_⟩; simp; try omega))
   cases h
 | true=>
   rw [hcc] at hc b;have p:=hc.symm;simp only [zbs,Bool.not_eq_true'] at p;obtain ⟨f,m,q,e⟩:=p;rcases b with ⟨h,_⟩ | ⟨_,rfl,rfl⟩
   ·cases h
   simp only [abk,c,hN,k,s,az,d,i,F,G,w,f,m,q,e,zab,zad,zaa,push_cast,↓reduceIte,reduceCtorEq,zE,zL]
   repeat refine sO ?_
   refine d5 (a26 h 1) rfl trivial ?_;simp only [c,hN,az,zad,zaa,push_cast,↓reduceIte,reduceCtorEq,zL]
   repeat refine sO ?_
   refine d5 (a26 h 2) rfl trivial ?_;simp only [zaa,push_cast,↓reduceIte,zE,zA,zD];refine And.intro (by kernel_rfl) (And.intro (by simp) ?_);obtain ⟨J,R⟩:∃J,(l.length-5)/2=J:=⟨_,rfl⟩
   have I:(N-5)%2=0:=by
    rw [zbh (by omega)] at e;simpa using e
   have S:N=2*J+5:=by omega
   have b:iv l=ei l (J+1):=by rw [iv,if_pos hcc,R]
   rw [b];clear f m q e hc d i F G w s k
   refine b9 [(6,false),(0,false),(4,false),(5,false)] (λ vs pos n=>∃j:Nat,j<=J/\vs=[int .i64 (4+2*(j:Int)),.r (.sl 1 (o9 l)),.ptr 2000000 0 0,.own 2000001 0 0 (j+1)]/\pos=[]/\n=[.box [int .i64 (yg l j).1,int .i64 (yg l j).2],i7 (ei l (j+1))])
    (λ vs _ _=>match vs with | .r (.v (.int _ a))::_=>(N-a).toNat | _=>0) rfl ?_ ?_
   ·simp only [i7,pnt,push_cast,↓reduceIte,reduceCtorEq,zB,zE,zA,zL,zD];exact ⟨0,by omega,rfl,rfl⟩
   rintro vs pos n ⟨j,U,rfl,rfl,rfl⟩;have d:IntKind.i64.wrap (4+2*(j:Int)+1)=5+2*(j:Int):=by rw [a5 (by omega)]; omega
   have i:IntKind.i64.wrap (4+2*(j:Int)+2)=4+2*((j+1:Nat):Int):=by rw [a5 (by omega)]; omega
   have y:(4+2*(j:Int)).toNat=4+2*j:=by omega
   have u:(5+2*(j:Int)).toNat=5+2*j:=by omega
   have g:(ei l (j+1)).length=j+1:=by simp [ei]
   simp only [c,hN,d,i7,pnt,push_cast,↓reduceIte,reduceCtorEq,zE,zA];refine b7 (λ o=>?_) (λ o=>?_)
   ·have o:=of_decide_eq_true o;simp only [c,hN,y,az,zab,zaa,push_cast,↓reduceIte,reduceCtorEq,zE,zA,zL,zM]
    repeat refine sO ?_
    refine d5 (a26 h (4+2*j)) rfl trivial ?_;simp only [c,hN,d,u,az,zab,zad,zaa,push_cast,↓reduceIte,reduceCtorEq,zE,zA,zL,zD,zM]
    repeat refine And.intro (by first | omega | kernel_rfl) ?_
    refine d5 (a26 h (5+2*j)) rfl trivial ?_;simp only [zad,zaa,push_cast,↓reduceIte,reduceCtorEq,zB,zE,zA,zL,zD,zM];refine And.intro (by omega) (And.intro (by kernel_rfl) (And.intro (by simp) (And.intro ⟨by omega,by omega⟩ ?_)));rw [i];refine ⟨⟨j+1,by omega,rfl,?_⟩,by omega⟩;have z:zaj (j+1) ((ei l (j+1)).map ptR)=(ei l (j+1)).map ptR:=zal (by simp [g]);rw [z,aqd l (j+1),zbj]
    rfl
   have o:=of_decide_eq_false o;have E:j=J:=by omega
   subst E;simp only [g,push_cast,↓reduceIte,reduceCtorEq,zE,zA,zL,zD]
theorem bf8 (l:List Int) (Z:l.length<=1000000) (h:af8 l)
 (b:(dv l=false/\res=.tup [.nils 2 (pnt 0 0),bl false]/\ro=[])\/(dv l=true/\res=.tup [.own 1000000 0 0 (iv l).length,bl true]/\ro=[i7 (iv l)])) :
 a8 P0 16 [.r (.sl 1 (o9 l))] [] res ro:=by
 refine mw.t func16 ?_;have Q:=g7;have c:(o9 l).length=l.length:=by simp [o9]
 by_cases X:l.length<9
 ·have g:decide (((l.length:Nat):Int)<9)=true:=decide_eq_true (by omega);have hc:dv l=false:=by simp [dv]; omega
  rcases b with ⟨_,rfl,rfl⟩ | ⟨h,_⟩
  ·push_cast [mw,c,g,pnt,az,zac]
  rw [hc] at h; cases h
 obtain ⟨N,hN,T,P⟩:∃N:Int,((l.length:Nat):Int)=N/\9<=N/\N<=1000000:=⟨_,rfl,by omega,by omega⟩
 have g:decide (N<9)=false:=decide_eq_false (by omega);have s:(N-1).toNat=l.length-1:=by omega
 have L:IntKind.i64.wrap (N-1)=N-1:=a5 (by omega);have H:IntKind.i64.wrap (N-5)=N-5:=a5 (by omega);obtain ⟨K,M⟩:∃K:Int,(N-5)/2=K:=⟨_,rfl⟩
 have I:(N-5).tdiv 2=K:=by rw [zbx (by omega),M]
 have w:IntKind.u64.wrap (IntKind.i64.wrap (IntKind.i64.wrap (8*IntKind.i64.wrap K)+2))=8*K+2:=by
  rw [a5 (x:=K) (by omega),a5 (x:=8*K) (by omega),a5 (x:=8*K+2) (by omega),IntKind.wrap_u64];omega
 have hc:dv l=(!(l.getD 0 0 != 9)&&(!(l.getD (l.length-1) 0 != 15)&&(!(l.getD 3 0 != 8*K+2) && !(N.tmod 2 == 0)))):=by
  unfold dv;have S:decide (9<=l.length)=true:=decide_eq_true (by omega)
  have R:(l.length%2 == 1)=!(N.tmod 2 == 0):=by
   rw [zbh (by omega),Bool.eq_iff_iff];simp;omega
  rw [hN,M,S,R];simp only [bne];generalize (l.getD 0 0 == 9)=A;generalize (l.getD (l.length-1) 0 == 15)=B;generalize (l.getD 3 0 == 8*K+2)=C;generalize (N.tmod 2 == 0)=D;cases A<;>cases B<;>cases C<;>cases D<;>rfl
 cases hcc:dv l with
 | false=>
   rw [hcc] at hc b;rcases b with ⟨_,rfl,rfl⟩ | ⟨h,_⟩
   ·cases e:(l.getD 0 0 != 9)<;>cases i:(l.getD (l.length-1) 0 != 15)<;>cases o:(l.getD 3 0 != 8*K+2)<;>cases d:(N.tmod 2 == 0) <;>
     first
     | (rw [e,i,o,d] at hc; cases hc; done)
     | (push_cast [mw,c,hN,g,s,az,L,H,I,w,e,i,o,d,pnt,zab,zad,zaa,zac]
        first | done | omega | (refine ⟨by omega,?_⟩; simp; try omega))
   cases h
 | true=>
   rw [hcc] at hc b;have n:=hc.symm;simp only [zbs,Bool.not_eq_true'] at n;obtain ⟨e,i,o,d⟩:=n;rcases b with ⟨h,_⟩ | ⟨_,rfl,rfl⟩
   ·cases h
   push_cast [mw,c,hN,g,s,az,L,H,I,w,e,i,o,d,pnt,zab,zad,zaa,zac]
   repeat refine sO ?_
   refine d5 (awz h 1) rfl trivial ?_
   push_cast [c,hN,az,zab,zad,zaa,zac]
   repeat refine sO ?_
   refine d5 (awz h 2) rfl trivial ?_
   push_cast [c,hN,az,pnt,zab,zad,zaa,zac]
   refine And.intro (by simp) (And.intro (by kernel_rfl) ?_);obtain ⟨J,U⟩:∃J,(l.length-5)/2=J:=⟨_,rfl⟩
   have O:N%2=1:=by
    rw [zbh (by omega)] at d;have:=beq_eq_false_iff_ne.1 d;omega
   have W:N=2*J+5:=by omega
   have b:iv l=ei l (J+1):=by rw [iv,if_pos hcc,U]
   rw [b];clear e i o d hc H I w s g
   refine b9 [(6,false),(0,false),(4,false),(5,false)] (λ vs pos k=>∃j:Nat,j<=J/\vs=[int .i64 (4+2*(j:Int)),.r (.sl 1 (o9 l)),int .i64 N,.own 2000000 0 0 (j+1)]/\pos=[]/\k=[i7 (ei l (j+1))])
    (λ vs _ _=>match vs with | .r (.v (.int _ a))::_=>(N-a).toNat | _=>0) rfl ?_ ?_
   ·push_cast [i7,pnt]
    exact ⟨0,by omega,rfl,rfl⟩
   rintro vs pos k ⟨j,Y,rfl,rfl,rfl⟩;have p:IntKind.i64.wrap (4+2*(j:Int)+1)=5+2*(j:Int):=by rw [a5 (by omega)]; omega
   have V:IntKind.i64.wrap (4+2*(j:Int)+2)=4+2*((j+1:Nat):Int):=by rw [a5 (by omega)]; omega
   have q:IntKind.i64.wrap ((j:Int)+1-1)=(j:Int):=by rw [a5 (by omega)]; omega
   have y:(4+2*(j:Int)).toNat=4+2*j:=by omega
   have u:(5+2*(j:Int)).toNat=5+2*j:=by omega
   have f:(ei l (j+1)).length=j+1:=by simp [ei]
   have E:∀z,((ei l (j+1)).map ptR).getD j z=.agg [.v (.int .i64 (yg l j).1),.v (.int .i64 (yg l j).2)]:=λ z=>by
    rw [zak,zan,ei,zan,zcb (by omega)]; rfl
   push_cast [c,hN,L,p,i7,pnt]
   refine b7 (λ m=>?_) (λ m=>?_)
   ·have m:=of_decide_eq_true m
    push_cast [c,hN,p,q,y,u,E,az,i7,pnt,zab,zad,zaa,zaf,zah,zaa]
    repeat refine And.intro (by first | omega | kernel_rfl) ?_
    refine d5 (awz h (4+2*j)) rfl trivial ?_
    push_cast [c,hN,p,q,y,u,E,az,i7,pnt,zab,zad,zaa,zaf,zah,zaa]
    repeat refine And.intro (by first | omega | kernel_rfl) ?_
    refine d5 (awz h (5+2*j)) rfl trivial ?_
    push_cast [c,hN,p,q,y,u,E,az,i7,pnt,zab,zad,zaa,zaf,zah,zaa]
    refine And.intro (by simp) (And.intro ⟨by omega,by omega⟩ (And.intro (by kernel_rfl) ?_));rw [V];refine ⟨⟨j+1,by omega,rfl,?_⟩,by omega⟩;have F:zaj (j+1) ((ei l (j+1)).map ptR)=(ei l (j+1)).map ptR:=zal (by simp [f]);rw [F,aqd l (j+1),zbj]
    rfl
   have m:=of_decide_eq_false m;have G:j=J:=by omega
   subst G
   push_cast [c,hN,f,i7,pnt]

def aiu:PC:=
 (.seq (.reg [p_a 3 (.box (.t 0)),p_s 6 (.mov (.c (.nils 1 (.v (.int .u8 0)))))])
 (.seq (.reg [p_m 11 2,p_s 12 (.mm true (.t 11) [(o_i 0)]),p_s 13 (.conv .u64 (.t 12)),p_m 7 13])
 (.seq (.reg [p_s 8 (.mov (.c (.nils 1 (.v (.int .u64 0)))))])
 (.seq (.seq (.reg [p_s 14 (.mov (.c (.r (.v (.int .u64 0)))))])
 (.block 0 (.loop (.seq (.reg [p_s 15 (.bin .lss (.t 14) (.c (.r (.v (.int .u64 4)))))])
 (.seq (.cond (.t 15)
 .skip
 (.exit 0))
 (.seq (.block 1 (.seq (.reg [p_m 16 14,p_m 9 16])
 (.reg [p_m 17 8,p_m 18 9,p_m 19 7,p_m 20 9,p_s 21 (.bin .add (.t 19) (.t 20)),p_a 22 (.bsl 1 (.v (.int .u64 0)) [(.t 18),(.t 21)]),p_a 23 (.app 1 (.v (.int .u64 0)) 8 (.t 17) (.t 22)),
 p_m 8 23])))
 (.reg [p_s 24 (.bin .add (.t 14) (.c (.r (.v (.int .u64 1))))),p_m 14 24])))))))
 (.seq (.reg [p_s 25 (.fa 0 (.t 3)),p_s 26 (.ld none (.t 25)),p_c 27 1 55 [(.c (.nils 1 (.v (.int .u8 0)))),(o_i 1),(.t 26)],p_m 10 27])
 (.seq (.reg [p_m 28 10,p_m 29 8,p_c 30 2 56 [(.t 28),(o_i 2),(.t 29)],p_m 10 30])
 (.seq (.reg [p_m 31 10,p_c 32 3 55 [(.t 31),(o_i 3),(.c (.r (.v (.int .u64 3))))],p_m 10 32])
 (.seq (.reg [p_m 33 10,p_m 34 1,p_c 35 4 10 [.t 34],p_c 36 5 56 [(.t 33),(o_i 4),(.t 35)],p_m 6 36])
 .ret))))))))
theorem amr:Fun P0 28 3 [(6,false,none)] aiu:=afh func28 rfl (by decide) (by kernel_rfl) (by decide) rfl (by kernel_rfl) (by kernel_rfl) (by decide)
def zk:Mk P0 f29:={ x:=_ }
def io (k:Int):List Int:=[0,k,1,k+1,2,k+2,3,k+3]
def oe (f:Int) (ns:List Int):List UInt8:=l8 f (ns.flatMap λ n=>n6 n.toNat)
def ek (w n:Int) (a:List P2):List UInt8:=q9 1 w++oe 2 (io (max n 0))++q9 3 3++oe 4 (o5 a)
theorem ar2:∀(r:List P2) (p:P2),af8 (t6 p r)
 | [],p=>λ n a=>by simp [t6] at a
 | q::r,p=>λ n a=>by
   rw [t6,zbt] at a;rcases a with a | a
   ·simp only [aiw,zbk,List.not_mem_nil,or_false] at a;rcases a with rfl | rfl
    ·exact ae6 _ (aao _)
    exact ae6 _ (aao _)
   exact ar2 r q n a
theorem aog (a:List P2) (d:a.length<=100000) (h:ans a):af8 (o5 a):=λ n b=>by
 cases a with
 | nil=>simp [o5] at b
 | cons p r=>
   rw [o5] at b;split at b
   ·simp at b
   simp only [zbt,zbk,List.not_mem_nil,or_false] at b;simp only [zam] at d;have c:=h p (by simp);rcases b with ((rfl | rfl | rfl | rfl) | b) | rfl
   ·omega
   ·exact ae6 _ c.1
   ·exact ae6 _ c.2
   ·omega
   ·exact ar2 _ _ _ b
   omega
theorem ajf (a:List P2):(o5 a).length<=2*a.length+3:=by
 cases a with
 | nil=>simp [o5]
 | cons p r=>
   rw [o5];split
   ·simp
   have:=kk r p;simp [this];omega
theorem aj0 {a:List P2} (h:a.length<3):o5 a=[]:=by
 cases a with
 | nil=>rfl
 | cons p r=>rw [o5,if_pos (by rw [zam] at h; omega)]
theorem aa2 (f:Int) (ns:List Int):(oe f ns).length<=20+10*ns.length:=by
 have b:=lc f (ns.flatMap λ n=>n6 n.toNat);have a:=an0 ns;unfold oe;omega
theorem afi (w n:Int) (a:List P2):(ek w n a).length<=300+20*a.length:=by
 have d:=et 1 w;have b:=aa2 2 (io (max n 0));have c:=et 3 3;have f:=aa2 4 (o5 a);have g:=ajf a;have e:(io (max n 0)).length=8:=rfl;simp only [ek,zae];omega
theorem aqm {k:Int} (h:0<=k/\k<=9223372036854775807):af8 (io k):=λ n a=>by
 simp only [io,zbk,List.not_mem_nil,or_false] at a;omega
def a3k (w a b c d:Int):AV:=.r (.agg [.v (.int .u64 w),.v (.int .i64 a),.v (.int .i64 b),.v (.int .i64 c),.v (.int .i64 d)])
def af9 (k:Int) (i:Nat):List Int:=(zax i).flatMap λ j:Nat=>[(j:Int),k+j]
theorem am0 (k:Int) (i:Nat):af9 k (i+1)=af9 k i++[(i:Int),k+i]:=by simp [af9,zay]
theorem axu (k:Int):∀i,(af9 k i).length=2*i
 | 0=>rfl
 | i+1=>by rw [am0,zae,axu k i]; simp; omega
theorem bi2 (k:Int):af9 k 4=io k:=by simp [af9,io,zay]
theorem be6 (w a b c d n:Int) (e:List P2) (G:0<=w/\w<18446744073709551616) (S:c7 n) (C:e.length<=100000) (h:ans e) :
 a8 P0 28 [a3k w a b c d,a9 e,int .i64 n] [] (.own 1000000 0 0 (ek w n e).length) [rm (ek w n e)]:=by
 refine amr rfl (by decide) ?_;have L:=g7;have O:-9223372036854775808<=n/\n<=9223372036854775807:=S;obtain ⟨K,A,x⟩:∃K,max n 0=K/\0<=K/\K<=9223372036854775807:=⟨_,rfl,by omega,by omega⟩
 have T:IntKind.u64.wrap K=K:=by rw [IntKind.wrap_u64]; omega
 have P:=et 1 w;have Y:=aa2 2 (io K);have Z:=et 3 3;have W:=aa2 4 (o5 e);have X:=ajf e;have R:(io K).length=8:=rfl;have J:=aqm x;have N:=aog e C h;have E:ek w n e=q9 1 w++oe 2 (io K)++q9 3 3++oe 4 (o5 e):=by rw [ek,A]
 obtain ⟨y,j⟩:∃B,q9 1 w=B:=⟨_,rfl⟩
 obtain ⟨u,g⟩:∃B,y++oe 2 (io K)=B:=⟨_,rfl⟩
 obtain ⟨t,f⟩:∃B,u++q9 3 3=B:=⟨_,rfl⟩
 obtain ⟨V,k⟩:∃B,t++oe 4 (o5 e)=B:=⟨_,rfl⟩
 have m2:=congrArg zbi g;have Q:=congrArg zbi f;rw [zae] at m2 Q;rw [j] at P;have D:=asr [] 1 w (by decide) G.1 G.2 (by simp);rw [zar,j] at D;have H:=a7m y 2 (io K) (by decide) J (by rw [R]; decide) (by omega);rw [show l8 2 ((io K).flatMap λ n=>n6 n.toNat)=oe 2 (io K) from rfl,g] at H;have I:=asr u 3 3 (by decide) (by decide) (by decide) (by omega);rw [f] at I;have q:=a7m t 4 (o5 e) (by decide) N (by omega) (by omega);rw [show l8 4 ((o5 e).flatMap λ n=>n6 n.toNat)=oe 4 (o5 e) from rfl,k] at q;rw [E,j,g,f,k];clear j g f k E
 push_cast [aiu,a3k,a9,A,T,zac]
 refine b9 [(14,false),(7,false),(8,false),(1,false),(3,false)] (λ vs pos l=>∃i:Nat,i<=4/\pos=[] /\
  (i=0/\vs=[int .u64 i,int .u64 K,.nils 1 (.v (.int .u64 0)),a9 e,.ptr 2000000 0 0]/\l=[.box [int .u64 w,int .i64 a,int .i64 b,int .i64 c,int .i64 d]] \/
   0<i/\vs=[int .u64 i,int .u64 K,.own 2000000 0 0 (af9 K i).length,a9 e,.ptr 2000001 0 0]/\l=[alc (af9 K i),.box [int .u64 w,int .i64 a,int .i64 b,int .i64 c,int .i64 d]]))
  (λ vs _ _=>match vs with | .r (.v (.int _ a))::_=>(4-a).toNat | _=>0) rfl ?_ ?_
 ·push_cast [a9]
  exact ⟨0,by omega,by simp⟩
 rintro vs pos l ⟨i,hi,rfl,⟨F,rfl,rfl⟩ | ⟨F,rfl,rfl⟩⟩
 ·subst F;have p:IntKind.u64.wrap (K+0)=K:=by rw [IntKind.wrap_u64]; omega
  have s:IntKind.u64.wrap (0+1)=1:=rfl;have M:decide ((0:Int)<4)=true:=rfl
  push_cast [a9,p,s,M,zas]
  exact ⟨by simp,by omega,⟨1,by omega,.inr ⟨by omega,rfl,by simp [af9,o9,alc]⟩⟩,by decide⟩
 have p:IntKind.u64.wrap (K+i)=K+i:=by rw [IntKind.wrap_u64]; omega
 have s:IntKind.u64.wrap ((i:Int)+1)=i+1:=by rw [IntKind.wrap_u64]; omega
 push_cast [a9,p,s]
 refine b7 (λ o=>?_) (λ o=>?_)
 ·have o:=of_decide_eq_true o
  push_cast [a9,p,s]
  have U:=axu K i;have m:zaj (af9 K i).length (o9 (af9 K i))=o9 (af9 K i):=zal (by simp [o9]);rw [m];refine ⟨by simp,⟨by omega,by omega⟩,⟨i+1,by omega,.inr ⟨by omega,?_,?_⟩⟩,by omega⟩
  ·rw [am0]; simp
  rw [am0]; simp [o9,alc]
 have o:=of_decide_eq_false o;obtain rfl:i=4:=by omega
 rw [bi2]
 push_cast [a9]
 refine b5 (as':=[sb [],int .i64 1,int .u64 w]) rfl ?_;refine a6 D rfl trivial ?_
 push_cast
 refine j9 ?_;refine b5 (as':=[sb y,int .i64 2,.r (.sl 1 ((io K).map λ n=>.v (.int .u64 n)))]) rfl ?_;refine a6 H rfl trivial ?_
 push_cast
 refine j9 ?_;refine b5 (as':=[sb u,int .i64 3,int .u64 3]) rfl ?_;refine a6 I rfl trivial ?_
 push_cast
 by_cases z:e.length<3
 ·refine b5 (as':=[a9 e]) rfl ?_;refine a6 (a5y e z) rfl trivial ?_
  push_cast
  rw [aj0 z] at q;refine j9 ?_;refine b5 (as':=[sb t,int .i64 4,.r (.sl 1 [])]) rfl ?_;refine a6 q rfl trivial ?_
  push_cast
  done
 refine b5 (as':=[a9 e]) rfl ?_;refine a6 (bag e C h (by omega)) rfl trivial ?_;have m:zaj (o5 e).length (o9 (o5 e))=o9 (o5 e):=zal (by simp [o9])
 push_cast [alc,m]
 refine j9 ?_;refine b5 (as':=[sb t,int .i64 4,.r (.sl 1 ((o5 e).map λ n=>.v (.int .u64 n)))]) rfl ?_;refine a6 q rfl trivial ?_
 push_cast
 done
theorem bgc (w n:Int) (a:List P2) (l:0<=w/\w<18446744073709551616) (A:c7 n) (k:a.length<=100000) (h:ans a) :
 a8 P0 29 [int .u64 w,a9 a,int .i64 n] [] (dj (n8 (ek w n a))) []:=by
 refine zk.t func29 ?_;have q:=g7;have u:-9223372036854775808<=n/\n<=9223372036854775807:=A;obtain ⟨K,j,f⟩:∃K,max n 0=K/\0<=K/\K<=9223372036854775807:=⟨_,rfl,by omega,by omega⟩
 have m:IntKind.u64.wrap K=K:=by rw [IntKind.wrap_u64]; omega
 have c:IntKind.u64.wrap (K+1)=K+1:=by rw [IntKind.wrap_u64]; omega
 have d:IntKind.u64.wrap (K+2)=K+2:=by rw [IntKind.wrap_u64]; omega
 have b:IntKind.u64.wrap (K+3)=K+3:=by rw [IntKind.wrap_u64]; omega
 have G:=et 1 w;have D:=aa2 2 (io K);have E:=et 3 3;have B:=aa2 4 (o5 a);have C:=ajf a;have z:(io K).length=8:=rfl;have p:=aqm f;have s:=aog a k h;have x:ek w n a=q9 1 w++oe 2 (io K)++q9 3 3++oe 4 (o5 a):=by rw [ek,j]
 have o:=a1h 2 (io K) (by decide) p (by rw [z]; decide);have e:=a1h 4 (o5 a) (by decide) s (by omega);have y:=am6 3 3 (by decide) (by decide) (by decide);rw [show l8 2 ((io K).flatMap λ n=>n6 n.toNat)=oe 2 (io K) from rfl] at o;rw [show l8 4 ((o5 a).flatMap λ n=>n6 n.toNat)=oe 4 (o5 a) from rfl] at e;rw [x];generalize oe 2 (io K)=F at *;generalize oe 4 (o5 a)=H at *
 push_cast [zk,a9,j,m,c,d,b,zac]
 refine a6 (am6 1 w (by decide) l.1 l.2) rfl trivial ?_
 push_cast [m,c,d,b]
 refine And.intro (by simp) (j9 ?_);refine b5 (as':=[int .i64 2,.r (.sl 1 ((io K).map λ n=>.v (.int .u64 n)))]) rfl ?_;refine a6 o rfl trivial ?_
 push_cast [k9,cq,zae]
 refine sO ?_;refine a6 y rfl trivial ?_
 push_cast [k9,cq,zae]
 refine sO ?_;by_cases i:a.length<3
 ·refine b5 (as':=[a9 a]) rfl ?_;refine a6 (a6o a i) rfl trivial ?_
  push_cast
  rw [aj0 i] at e;refine b5 (as':=[int .i64 4,.r (.sl 1 [])]) rfl ?_;refine a6 e rfl trivial ?_
  push_cast [k9,cq,zae]
  omega
 refine b5 (as':=[a9 a]) rfl ?_;refine a6 (baw a k h (by omega)) rfl trivial ?_;have g:zaj (o5 a).length (o9 (o5 a))=o9 (o5 a):=zal (by simp [o9])
 push_cast [alc,g]
 refine j9 ?_;refine b5 (as':=[int .i64 4,.r (.sl 1 ((o5 a).map λ n=>.v (.int .u64 n)))]) rfl ?_;refine a6 e rfl trivial ?_
 push_cast [k9,cq,zae]
 omega

def ama:PC:=
 (.seq (.reg [p_s 2 (.mov (.c (.nils 1 (.v (.int .u8 0)))))])
 (.seq (.reg [p_c 12 1 55 [(.c (.nils 1 (.v (.int .u8 0)))),(o_i 15),(.c (.r (.v (.int .u64 2))))],p_m 3 12])
 (.seq (.reg [p_m 13 3,p_a 14 (.bsl 1 (.v (.int .u8 0)) [(.c (.r (.v (.int .u8 99)))),(.c (.r (.v (.int .u8 101)))),(.c (.r (.v (.int .u8 108)))),(.c (.r (.v (.int .u8 108)))),(.c (.r (.v (.int .u8 115))))]),
 p_a 15 (.mrk (.t 14)),p_c 16 2 79 [(.t 13),(o_i 1),(.t 15)],p_m 3 16])
 (.seq (.seq (.reg [p_m 17 0,p_s 18 (.len false (.t 17)),p_s 19 (.mov (o_i 0))])
 (.block 0 (.loop (.seq (.reg [p_s 20 (.bin .lss (.t 19) (.t 18))])
 (.seq (.cond (.t 20)
 .skip
 (.exit 0))
 (.seq (.block 1 (.seq (.reg [p_m 21 19,p_s 22 (.ia 6 (.agg [(.v (.int .u64 0)),(.sl 2 []),(.v (.int .i64 0)),(.v (.int .i64 0)),(.v (.int .i64 0)),(.v (.int .i64 0))]) (.t 17) (.t 19)),
 p_s 23 (.ld (some 6) (.t 22)),p_a 5 (.new [(.r (.v (.int .u64 0))),(.nils 2 (.agg [(.v (.int .i64 0)),(.v (.int .i64 0))])),(.r (.v (.int .i64 0))),(.r (.v (.int .i64 0))),(.r (.v (.int .i64 0))),(.r (.v (.int .i64 0)))]),
 p_m 4 21,⟨none,none,0,.act (.st 6 (.t 5) (.t 23))⟩])
 (.reg [p_m 24 3,p_s 25 (.fa 0 (.t 5)),p_s 26 (.ld none (.t 25)),p_s 27 (.build [(.r (.v (.int .u64 0))),(.r (.v (.int .i64 0))),(.r (.v (.int .i64 0))),(.r (.v (.int .i64 0))),(.r (.v (.int .i64 0)))] [(0,1,(.t 26))]),
 p_s 28 (.fa 1 (.t 5)),p_s 29 (.ld none (.t 28)),p_m 30 4,p_s 31 (.bin .mul (o_i 4) (.t 30)),p_c 32 3 28 [.t 27,.t 29,.t 31],p_c 33 4 79 [(.c (.nils 1 (.v (.int .u8 0)))),(o_i 2),(.t 32)],
 p_a 34 (.app 1 (.v (.int .u8 0)) 1 (.t 24) (.t 33)),p_m 3 34])))
 (.reg [p_s 35 (.bin .add (.t 19) (o_i 1)),p_m 19 35])))))))
 (.seq (.seq (.reg [p_a 36 (.bsl 1 (.v (.string ⟨#[]⟩)) [(.c (.r (.v (.string ⟨#[99,111,117,110,116]⟩)))),(.c (.r (.v (.string ⟨#[115,117,109]⟩)))),(.c (.r (.v (.string ⟨#[109,105,110]⟩)))),(.c (.r (.v (.string ⟨#[109,97,120]⟩))))]),
 p_s 37 (.len false (.t 36)),p_s 38 (.mov (o_i 0))])
 (.block 2 (.loop (.seq (.reg [p_s 39 (.bin .lss (.t 38) (.t 37))])
 (.seq (.cond (.t 39)
 .skip
 (.exit 2))
 (.seq (.block 3 (.seq (.reg [p_s 40 (.ia 1 (.v (.string ⟨#[]⟩)) (.t 36) (.t 38)),p_s 41 (.ld none (.t 40)),p_m 7 41])
 (.reg [p_m 42 3,p_m 43 7,p_a 44 (.toBytes (.v (.int .u8 0)) (.t 43)),p_c 45 5 79 [(.t 42),(o_i 3),(.t 44)],p_m 3 45])))
 (.reg [p_s 46 (.bin .add (.t 38) (o_i 1)),p_m 38 46])))))))
 (.seq (.seq (.reg [p_m 47 0,p_s 48 (.len false (.t 47)),p_s 49 (.mov (o_i 0))])
 (.block 4 (.loop (.seq (.reg [p_s 50 (.bin .lss (.t 49) (.t 48))])
 (.seq (.cond (.t 50)
 .skip
 (.exit 4))
 (.seq (.block 5 (.seq (.reg [p_s 51 (.ia 6 (.agg [(.v (.int .u64 0)),(.sl 2 []),(.v (.int .i64 0)),(.v (.int .i64 0)),(.v (.int .i64 0)),(.v (.int .i64 0))]) (.t 47) (.t 49)),p_s 52 (.ld (some 6) (.t 51)),
 p_a 9 (.new [(.r (.v (.int .u64 0))),(.nils 2 (.agg [(.v (.int .i64 0)),(.v (.int .i64 0))])),(.r (.v (.int .i64 0))),(.r (.v (.int .i64 0))),(.r (.v (.int .i64 0))),(.r (.v (.int .i64 0)))]),
 ⟨none,none,0,.act (.st 6 (.t 9) (.t 52))⟩])
 (.seq (.reg [p_s 53 (.fa 2 (.t 9)),p_s 54 (.ld none (.t 53)),p_s 55 (.fa 3 (.t 9)),p_s 56 (.ld none (.t 55)),p_s 57 (.fa 4 (.t 9)),p_s 58 (.ld none (.t 57)),p_s 59 (.fa 5 (.t 9)),
 p_s 60 (.ld none (.t 59)),p_a 61 (.bsl 1 (.v (.int .i64 0)) [(.t 54),(.t 56),(.t 58),(.t 60)]),p_s 62 (.len false (.t 61)),p_s 63 (.mov (o_i 0))])
 (.block 6 (.loop (.seq (.reg [p_s 64 (.bin .lss (.t 63) (.t 62))])
 (.seq (.cond (.t 64)
 .skip
 (.exit 6))
 (.seq (.block 7 (.seq (.reg [p_s 65 (.ia 1 (.v (.int .i64 0)) (.t 61) (.t 63)),p_s 66 (.ld none (.t 65)),p_m 11 66])
 (.reg [p_m 67 3,p_m 68 11,p_c 69 6 31 [.t 68],p_c 70 7 55 [(.c (.nils 1 (.v (.int .u8 0)))),(o_i 6),(.t 69)],p_c 71 8 79 [(.c (.nils 1 (.v (.int .u8 0)))),(o_i 4),(.t 70)],
 p_a 72 (.app 1 (.v (.int .u8 0)) 1 (.t 67) (.t 71)),p_m 3 72])))
 (.reg [p_s 73 (.bin .add (.t 63) (o_i 1)),p_m 63 73])))))))))
 (.reg [p_s 74 (.bin .add (.t 49) (o_i 1)),p_m 49 74])))))))
 (.seq (.reg [p_m 75 3,p_c 76 9 55 [(.t 75),(o_i 5),(.c (.r (.v (.int .u64 4096))))],p_m 3 76])
 (.seq (.reg [p_m 77 3,p_c 78 10 79 [(.c (.nils 1 (.v (.int .u8 0)))),(o_i 3),(.t 77)],p_m 2 78])
 .ret))))))))
theorem aps:Fun P0 40 1 [(2,false,none)] ama:=afh func40 rfl (by decide) (by kernel_rfl) (by decide) rfl (by kernel_rfl) (by kernel_rfl) (by decide)
structure Fea where
 w:Int
 ring:List P2
 c:Int
 s:Int
 lo:Int
 hi:Int
instance:Inhabited Fea:=⟨⟨0,[],0,0,0,0⟩⟩
def Fea.rv (f:Fea):RV:=.agg [.v (.int .u64 f.w),.sl 2 (f.ring.map ptR),.v (.int .i64 f.c),.v (.int .i64 f.s),.v (.int .i64 f.lo),.v (.int .i64 f.hi)]
def Fea.ok (f:Fea):Prop:=(0<=f.w/\f.w<18446744073709551616)/\f.ring.length<=100000/\ans f.ring/\(c7 f.c/\c7 f.s/\c7 f.lo/\c7 f.hi)
def o4 (l:List Fea):AV:=.r (.sl 6 (l.map Fea.rv))
def fx (l:List Fea) (j:Nat):List UInt8:=l8 2 (ek (l.getD j default).w (4*(j:Int)) (l.getD j default).ring)
def jg (l:List Fea) (i:Nat):List UInt8:=(zax i).flatMap (fx l)
def ir:Nat->List UInt8
 | 0=>[99,111,117,110,116]
 | 1=>[115,117,109]
 | 2=>[109,105,110]
 | _=>[109,97,120]
def qe (i:Nat):List UInt8:=(zax i).flatMap λ j=>l8 3 (ir j)
def Fea.nums (f:Fea):List Int:=[f.c,f.s,f.lo,f.hi]
def vx (f:Fea) (k:Nat):List UInt8:=l8 4 (q9 6 (zig (f.nums.getD k 0)))
def rc (f:Fea) (k:Nat):List UInt8:=(zax k).flatMap (vx f)
def pt (l:List Fea) (j:Nat):List UInt8:=(zax j).flatMap λ i=>rc (l.getD i default) 4
def sf:List UInt8:=q9 15 2++l8 1 [99,101,108,108,115]
def s6 (l:List Fea):List UInt8:=l8 3 (sf++jg l l.length++qe 4++pt l l.length++q9 5 4096)
theorem ae1 (l:List Fea) (i:Nat):jg l (i+1)=jg l i++fx l i:=by simp [jg,zay]
theorem as8 (i:Nat):qe (i+1)=qe i++l8 3 (ir i):=by simp [qe,zay]
theorem ak2 (f:Fea) (i:Nat):rc f (i+1)=rc f i++vx f i:=by simp [rc,zay]
theorem ag6 (l:List Fea) (i:Nat):pt l (i+1)=pt l i++rc (l.getD i default) 4:=by simp [pt,zay]
theorem bk5 {l:List Fea} (h:∀f∈l,f.ok) (j:Nat):(fx l j).length<=2000400:=by
 have c:=lc 2 (ek (l.getD j default).w (4*(j:Int)) (l.getD j default).ring);have a:=afi (l.getD j default).w (4*(j:Int)) (l.getD j default).ring
 have b:(l.getD j default).ring.length<=100000:=by
  rw [zak];cases e:l[j]? with
  | none=>exact Nat.zero_le _
  | some f=>exact (h f (zbr e)).2.1
 unfold fx;omega
theorem acf {l:List Fea} (h:∀f∈l,f.ok):∀i,(jg l i).length<=2000400*i
 | 0=>by simp [jg]
 | i+1=>by
   have:=acf h i;have:=bk5 h i;rw [ae1,zae];omega
theorem aq8 (i:Nat):(ir i).length<=5:=by unfold ir; split<;>simp
theorem aa6:∀i,(qe i).length<=25*i
 | 0=>by simp [qe]
 | i+1=>by
   have:=aa6 i;have:=aq8 i;have:=lc 3 (ir i);rw [as8,zae];omega
theorem axi (f:Fea) (i:Nat):(vx f i).length<=40:=by
 have:=et 6 (zig (f.nums.getD i 0));have:=lc 4 (q9 6 (zig (f.nums.getD i 0)));unfold vx;omega
theorem ait (f:Fea):∀i,(rc f i).length<=40*i
 | 0=>by simp [rc]
 | i+1=>by
   have:=ait f i;have:=axi f i;rw [ak2,zae];omega
theorem aaq (l:List Fea):∀i,(pt l i).length<=160*i
 | 0=>by simp [pt]
 | i+1=>by
   have:=aaq l i;have:=ait (l.getD i default) 4;rw [ag6,zae];omega
theorem afg:sf.length<=50:=by decide
variable {i:Nat}
theorem akn {l:List Fea} (hi:i<l.length) (z:RV):(l.map Fea.rv).getD i z=.agg [.v (.int .u64 (l.getD i default).w),.sl 2 ((l.getD i default).ring.map ptR),.v (.int .i64 (l.getD i default).c),.v (.int .i64 (l.getD i default).s),.v (.int .i64 (l.getD i default).lo),.v (.int .i64 (l.getD i default).hi)]:=by
 simp [zak,hi,Fea.rv]
theorem acd {l:List Fea} (h:∀f∈l,f.ok) (hi:i<l.length):(l.getD i default).ok:=by
 rw [zak,zbu hi];exact h _ (zbp hi)
theorem a2c (l:List Fea) (hl:l.length<=100000) (h:∀f∈l,f.ok):a8 P0 40 [o4 l] [] (.own 1000000 0 0 (s6 l).length) [rm (s6 l)]:=by
 refine aps rfl (by decide) ?_;have h6:=g7;obtain ⟨N,hN,h4⟩:∃N:Int,((l.length:Nat):Int)=N/\0<=N/\N<=100000:=⟨_,rfl,by omega,by omega⟩
 have Y:=asr [] 15 2 (by decide) (by decide) (by decide) (by simp);rw [zar] at Y;have u:=aeq (q9 15 2) 1 [99,101,108,108,115] (by decide) (by decide) (by decide);rw [show q9 15 2++l8 1 [99,101,108,108,115]=sf from rfl] at u;have hH:=afg;simp only [ama,o4,push_cast];refine b5 (as':=[sb [],int .i64 15,int .u64 2]) rfl ?_;refine a6 Y rfl trivial ?_;simp only [push_cast,↓reduceIte,zE,zA,zS,zL,zD,zM];refine And.intro (by simp) (j9 ?_);refine b5 (as':=[sb (q9 15 2),int .i64 1,sb [99,101,108,108,115]]) rfl ?_;refine a6 u rfl trivial ?_;simp only [push_cast,↓reduceIte,reduceCtorEq,zE,zA,zS,zL,zD,zM];have hF:=acf h
 refine b9 [(19,false),(18,false),(17,false),(3,false),(0,false)] (λ vs pos b=>∃(i:Nat) (B:List UInt8),i<=l.length/\B=sf++jg l i/\pos=[] /\
  vs=[int .i64 i,int .i64 N,o4 l,.own 2000000 0 0 B.length,o4 l]/\b=[rm B])
  (λ vs _ _=>match vs with | .r (.v (.int _ a))::_=>(N-a).toNat | _=>0) rfl ?_ ?_
 ·simp only [o4,push_cast,↓reduceIte,reduceCtorEq,zE,zA,zL,zD];exact ⟨0,sf,by omega,by simp [jg],by simp [hN]⟩
 rintro vs pos b ⟨i,B,hi,P,rfl,rfl,rfl⟩;have h7:=hF i;have h8:B.length=sf.length+(jg l i).length:=by rw [P,zae]
 have d:IntKind.i64.wrap ((i:Int)+1)=i+1:=a5 (by omega);have Z:IntKind.i64.wrap (4*(i:Int))=4*i:=a5 (by omega);simp only [o4,push_cast,↓reduceIte,zE];refine b7 (λ e=>?_) (λ e=>?_)
 ·have e:=of_decide_eq_true e;have c:i<l.length:=by omega
  have M:=akn c;have p:=acd h c;have Q:B++fx l i=B++l8 2 (ek (l.getD i default).w (4*(i:Int)) (l.getD i default).ring):=rfl;have hf:=afi (l.getD i default).w (4*(i:Int)) (l.getD i default).ring;generalize l.getD i default=f at *;have H:=be6 f.w 0 0 0 0 (4*(i:Int)) f.ring p.1 (by unfold c7; omega) p.2.1 p.2.2.1;have u:=aeq [] 2 (ek f.w (4*(i:Int)) f.ring) (by decide) (by have:=p.2.1; omega) (by simp);rw [zar] at u;have ha:=lc 2 (ek f.w (4*(i:Int)) f.ring);generalize ek f.w (4*(i:Int)) f.ring=W at *;generalize l8 2 W=BL at *;simp only [M,Z,hN,zaf,zaa,push_cast,↓reduceIte,zE,zA,zL,zD];refine sO ?_
  refine b5 (as':=[a3k f.w 0 0 0 0,a9 f.ring,int .i64 (4*(i:Int))]) rfl ?_;refine a6 H rfl trivial ?_;simp only [push_cast,↓reduceIte,zE,zA,zS,zL,zD,zM];refine j9 ?_;refine b5 (as':=[sb [],int .i64 2,sb W]) rfl ?_;refine a6 u rfl trivial ?_;simp only [d,push_cast,↓reduceIte,reduceCtorEq,zE,zA,zS,zL,zD,zM];have hn:=p.2.1;refine ⟨⟨by omega,by omega⟩,⟨i+1,B++BL,by omega,?_,by simp,by simp⟩,by omega⟩;rw [ae1,<- zao,<- P,Q]
 have e:=of_decide_eq_false e;have c:i=l.length:=by omega
 subst c;simp only [push_cast,↓reduceIte,zE,zA];have he:B.length<=200040000050:=by omega
 refine And.intro (by simp) (b9 [(38,false),(37,false),(36,false),(3,false),(0,false)] (λ vs pos b=>∃(k:Nat) (C:List UInt8),k<=4/\C=B++qe k/\pos=[] /\
  vs=[int .i64 k,int .i64 4,.own 2000000 0 0 4,.own 2000001 0 0 C.length,o4 l]/\b=[.row 1 (.v (.string ⟨#[]⟩)) true true [.v (.string ⟨#[99,111,117,110,116]⟩),.v (.string ⟨#[115,117,109]⟩),.v (.string ⟨#[109,105,110]⟩),.v (.string ⟨#[109,97,120]⟩)],rm C])
  (λ vs _ _=>match vs with | .r (.v (.int _ a))::_=>(4-a).toNat | _=>0) rfl ?_ ?_)
 ·simp only [o4,push_cast,↓reduceIte,reduceCtorEq,zB,zE,zA,zL,zD];exact ⟨0,B,by omega,by simp [qe],by simp⟩
 rintro vs pos b ⟨k,C,hk,t,rfl,rfl,rfl⟩;have h9:=aa6 k;have h0:C.length=B.length+(qe k).length:=by rw [t,zae]
 have m:=as8 k;have y:=aeq C 3 (ir k) (by decide) (by have:=aq8 k; omega) (by omega);rcases (show k=0\/k=1\/k=2\/k=3\/k=4 by omega) with rfl | rfl | rfl | rfl | rfl
 ·have o:decide ((0:Int)<4)=true:=rfl;have d:IntKind.i64.wrap ((0:Int)+1)=1:=rfl;have q:(ByteArray.mk #[99,111,117,110,116]).size=5:=rfl;simp only [o4,o,q,zab,zaa,push_cast,↓reduceIte,zE,zA,zL];refine And.intro (by decide) (And.intro (by omega) (j9 ?_));refine b5 (as':=[sb C,int .i64 3,sb (ir 0)]) rfl ?_;refine a6 y rfl trivial ?_;simp only [d,push_cast,↓reduceIte,reduceCtorEq,zB,zE,zA,zS,zL,zD,zM];exact ⟨⟨1,C++l8 3 (ir 0),by omega,by rw [m,<- zao,<- t],by simp,by simp⟩,by decide⟩
 ·have o:decide ((1:Int)<4)=true:=rfl;have d:IntKind.i64.wrap ((1:Int)+1)=2:=rfl;have q:(ByteArray.mk #[115,117,109]).size=3:=rfl;simp only [o4,o,q,zav,zaa,push_cast,↓reduceIte,zE,zA,zL];refine And.intro (by decide) (And.intro (by omega) (j9 ?_));refine b5 (as':=[sb C,int .i64 3,sb (ir 1)]) rfl ?_;refine a6 y rfl trivial ?_;simp only [d,push_cast,↓reduceIte,reduceCtorEq,zB,zE,zA,zS,zL,zD,zM];exact ⟨⟨2,C++l8 3 (ir 1),by omega,by rw [m,<- zao,<- t],by simp,by simp⟩,by decide⟩
 ·have o:decide ((2:Int)<4)=true:=rfl;have d:IntKind.i64.wrap ((2:Int)+1)=3:=rfl;have q:(ByteArray.mk #[109,105,110]).size=3:=rfl;simp only [o4,o,q,zad,zaa,push_cast,↓reduceIte,zE,zA,zL];refine And.intro (by decide) (And.intro (by omega) (j9 ?_));refine b5 (as':=[sb C,int .i64 3,sb (ir 2)]) rfl ?_;refine a6 y rfl trivial ?_;simp only [d,push_cast,↓reduceIte,reduceCtorEq,zB,zE,zA,zS,zL,zD,zM];exact ⟨⟨3,C++l8 3 (ir 2),by omega,by rw [m,<- zao,<- t],by simp,by simp⟩,by decide⟩
 ·have o:decide ((3:Int)<4)=true:=rfl;have d:IntKind.i64.wrap ((3:Int)+1)=4:=rfl;have q:(ByteArray.mk #[109,97,120]).size=3:=rfl;simp only [o4,o,q,zad,zaa,push_cast,↓reduceIte,zE,zA,zL];refine And.intro (by decide) (And.intro (by omega) (j9 ?_));refine b5 (as':=[sb C,int .i64 3,sb (ir 3)]) rfl ?_;refine a6 y rfl trivial ?_;simp only [d,push_cast,↓reduceIte,reduceCtorEq,zB,zE,zA,zS,zL,zD,zM];exact ⟨⟨4,C++l8 3 (ir 3),by omega,by rw [m,<- zao,<- t],by simp,by simp⟩,by decide⟩
 have o:decide ((4:Int)<4)=false:=rfl;simp only [o4,o,hN,push_cast,↓reduceIte,reduceCtorEq,zE,zA];have X:C.length<=200040000150:=by omega
 clear y
 refine b9 [(49,false),(48,false),(47,false),(3,false),(0,false)] (λ vs pos b=>∃(j:Nat) (D:List UInt8),j<=l.length/\D=C++pt l j/\pos=[] /\
  vs=[int .i64 j,int .i64 N,o4 l,.own 2000000 0 0 D.length,o4 l]/\b=[rm D])
  (λ vs _ _=>match vs with | .r (.v (.int _ a))::_=>(N-a).toNat | _=>0) rfl ?_ ?_
 ·simp only [o4,push_cast,↓reduceIte,reduceCtorEq,zE,zA,zL,zD];exact ⟨0,C,by omega,by simp [pt],by simp⟩
 rintro vs pos b ⟨j,D,hj,O,rfl,rfl,rfl⟩;have hh:=aaq l j;have hb:D.length=C.length+(pt l j).length:=by rw [O,zae]
 have d:IntKind.i64.wrap ((j:Int)+1)=j+1:=a5 (by omega);have I:=ag6 l j;simp only [o4,push_cast,↓reduceIte,zE];refine b7 (λ e=>?_) (λ e=>?_)
 ·have e:=of_decide_eq_true e;have c:j<l.length:=by omega
  have M:=akn c;have p:=acd h c;generalize l.getD j default=f at *;simp only [M,hN,zaf,zaa,push_cast,↓reduceIte,zE,zA,zL,zD];refine And.intro (by omega) (And.intro (by simp) ?_)
  refine b9 [(63,false),(62,false),(61,false),(49,false),(48,false),(47,false),(3,false),(0,false)] (λ vs pos b=>∃(k:Nat) (E:List UInt8),k<=4/\E=D++rc f k/\pos=[] /\
   vs=[int .i64 k,int .i64 4,.own 2000000 0 0 4,int .i64 j,int .i64 N,o4 l,.own 2000001 0 0 E.length,o4 l]/\b=[.row 1 (.v (.int .i64 0)) true true (f.nums.map λ n=>.v (.int .i64 n)),rm E])
   (λ vs _ _=>match vs with | .r (.v (.int _ a))::_=>(4-a).toNat | _=>0) rfl ?_ ?_
  ·simp only [o4,Fea.nums,push_cast,↓reduceIte,reduceCtorEq,zB,zE,zA,zL,zD];exact ⟨0,D,by omega,by simp [rc],by simp⟩
  rintro vs pos b ⟨k,E,hk,S,rfl,rfl,rfl⟩;have hm:=ait f k;have h5:E.length=D.length+(rc f k).length:=by rw [S,zae]
  have x:f.nums.length=4:=rfl;have K:IntKind.i64.wrap ((k:Int)+1)=k+1:=a5 (by omega);have R:=ak2 f k;simp only [o4,push_cast,↓reduceIte,zE,zA];refine b7 (λ g=>?_) (λ g=>?_)
  ·have g:=of_decide_eq_true g
   have L:∀z,(f.nums.map λ n=>RV.v (.int .i64 n)).getD k z=.v (.int .i64 (f.nums.getD k 0)):=λ z=>by
    have:k<f.nums.length:=by omega
    simp [zak,this]
   have A:c7 (f.nums.getD k 0):=by
    obtain ⟨q1,q2,q3,q4⟩:=p.2.2.2;rcases (show k=0\/k=1\/k=2\/k=3 by omega) with rfl | rfl | rfl | rfl
    ·exact q1
    ·exact q2
    ·exact q3
    exact q4
   have T:=ae6 _ A;have tz:=ars _ A;have F:=asr [] 6 (zig (f.nums.getD k 0)) (by decide) T.1 T.2 (by simp);have h2:=et 6 (zig (f.nums.getD k 0));have s:=aeq [] 4 (q9 6 (zig (f.nums.getD k 0))) (by decide) (by omega) (by simp);have h3:=axi f k;rw [zar] at F s;rw [show l8 4 (q9 6 (zig (f.nums.getD k 0)))=vx f k from rfl] at s;generalize vx f k=V at *;generalize q9 6 (zig (f.nums.getD k 0))=U at *;simp only [L,zaf,zaa,push_cast,↓reduceIte,zE,zL];refine sO ?_;refine a6 tz rfl trivial ?_;simp only [push_cast,↓reduceIte];refine b5 (as':=[sb [],int .i64 6,int .u64 (zig (f.nums.getD k 0))]) rfl ?_;refine a6 F rfl trivial ?_
   simp only [push_cast,↓reduceIte,zE,zA,zS,zL,zD,zM];refine j9 ?_;refine b5 (as':=[sb [],int .i64 4,sb U]) rfl ?_;refine a6 s rfl trivial ?_;simp only [K,push_cast,↓reduceIte,reduceCtorEq,zB,zE,zA,zS,zL,zD,zM];exact ⟨⟨by omega,by omega⟩,⟨k+1,E++V,by omega,by rw [R,<- zao,<- S],by simp,by simp⟩,by omega⟩
  have g:=of_decide_eq_false g;obtain rfl:k=4:=by omega
  simp only [d,push_cast,↓reduceIte,reduceCtorEq,zE,zA,zL,zD];exact ⟨⟨j+1,E,by omega,by rw [I,<- zao,<- O,S],by simp,by simp⟩,by omega⟩
 have e:=of_decide_eq_false e;have c:j=l.length:=by omega
 subst c;have te:=asr D 5 4096 (by decide) (by decide) (by decide) (by omega);have h1:=et 5 4096;have J:l8 3 (D++q9 5 4096)=s6 l:=by rw [O,t,P]; rfl
 have H:=aeq [] 3 (D++q9 5 4096) (by decide) (by rw [zae]; omega) (by simp);rw [zar,J] at H;simp only [push_cast,↓reduceIte,zE];refine j9 ?_;refine b5 (as':=[sb D,int .i64 5,int .u64 4096]) rfl ?_;refine a6 te rfl trivial ?_;generalize D++q9 5 4096=G at *;simp only [push_cast,↓reduceIte,zE,zA,zS,zL,zD,zM];refine j9 ?_;refine b5 (as':=[sb [],int .i64 3,sb G]) rfl ?_;refine a6 H rfl trivial ?_;simp only [push_cast,↓reduceIte,zE,zA,zS,zL,zD,zM]

def ti:PC:=
 (.seq (.reg [p_s 2 (.mov (.c (.r (.v (.string ⟨#[]⟩)))))])
 (.seq (.seq (.reg [p_m 8 0,p_s 9 (.len false (.t 8)),p_s 10 (.bin .eql (.t 9) (o_i 0))])
 (.cond (.t 10)
 (.seq (.reg [p_s 2 (.mov (.c (.r (.v (.string ⟨#[]⟩)))))])
 .ret)
 .skip))
 (.seq (.reg [p_c 11 1 57 [(o_i 15),(.c (.r (.v (.int .u64 2))))],p_c 12 2 88 [(o_i 1),(.c (.r (.v (.string ⟨#[99,101,108,108,115]⟩))))],p_s 13 (.bin .add (.t 11) (.t 12)),
 p_m 3 13])
 (.seq (.seq (.reg [p_s 4 (.mov (o_i 0))])
 (.block 0 (.loop (.seq (.seq (.reg [p_m 14 4,p_m 15 0,p_s 16 (.len false (.t 15)),p_s 17 (.bin .lss (.t 14) (.t 16))])
 (.cond (.t 17)
 .skip
 (.exit 0)))
 (.seq (.block 1 (.drw [p_m 20 3,p_m 21 0,p_m 22 4,p_s 23 (.ia 6 (.agg [(.v (.int .u64 0)),(.sl 2 []),(.v (.int .i64 0)),(.v (.int .i64 0)),(.v (.int .i64 0)),(.v (.int .i64 0))]) (.t 21) (.t 22)),
 p_s 24 (.fa 0 (.t 23)),p_s 25 (.ld none (.t 24)),p_m 26 0,p_m 27 4,p_s 28 (.ia 6 (.agg [(.v (.int .u64 0)),(.sl 2 []),(.v (.int .i64 0)),(.v (.int .i64 0)),(.v (.int .i64 0)),(.v (.int .i64 0))]) (.t 26) (.t 27)),
 p_s 29 (.fa 1 (.t 28)),p_s 30 (.ld none (.t 29)),p_m 31 4,p_s 32 (.bin .mul (o_i 4) (.t 31)),p_c 33 3 29 [.t 25,.t 30,.t 32],p_c 34 4 88 [(o_i 2),(.t 33)],
 p_s 35 (.bin .add (.t 20) (.t 34)),p_m 3 35]
 [[],[],[],[1,2],[1,2,3],[1,2,3,4],[],[],[6,7],[6,7,8],[6,7,8,9],[],[11],[1,2,3,4,5,6,7,8,9,10,11,12],[1,2,3,4,5,6,7,8,9,10,11,12,13],[0,1,2,3,4,5,6,7,8,9,10,11,12,13,14],[0,1,2,3,4,5,6,7,8,9,10,11,12,13,14,15]]))
 (.reg [p_m 18 4,p_s 19 (.bin .add (.t 18) (o_i 1)),p_m 4 19]))))))
 (.seq (.reg [p_m 36 3,p_c 37 5 88 [(o_i 3),(.c (.r (.v (.string ⟨#[99,111,117,110,116]⟩))))],p_s 38 (.bin .add (.t 36) (.t 37)),p_c 39 6 88 [(o_i 3),(.c (.r (.v (.string ⟨#[115,117,109]⟩))))],
 p_s 40 (.bin .add (.t 38) (.t 39)),p_c 41 7 88 [(o_i 3),(.c (.r (.v (.string ⟨#[109,105,110]⟩))))],p_s 42 (.bin .add (.t 40) (.t 41)),p_c 43 8 88 [(o_i 3),(.c (.r (.v (.string ⟨#[109,97,120]⟩))))],
 p_s 44 (.bin .add (.t 42) (.t 43)),p_m 3 44])
 (.seq (.seq (.reg [p_s 5 (.mov (o_i 0))])
 (.block 2 (.loop (.seq (.seq (.reg [p_m 45 5,p_m 46 0,p_s 47 (.len false (.t 46)),p_s 48 (.bin .lss (.t 45) (.t 47))])
 (.cond (.t 48)
 .skip
 (.exit 2)))
 (.seq (.block 3 (.seq (.drw [p_m 51 0,p_m 52 5,p_s 53 (.ia 6 (.agg [(.v (.int .u64 0)),(.sl 2 []),(.v (.int .i64 0)),(.v (.int .i64 0)),(.v (.int .i64 0)),(.v (.int .i64 0))]) (.t 51) (.t 52)),
 p_s 54 (.fa 2 (.t 53)),p_s 55 (.ld none (.t 54)),p_m 56 0,p_m 57 5,p_s 58 (.ia 6 (.agg [(.v (.int .u64 0)),(.sl 2 []),(.v (.int .i64 0)),(.v (.int .i64 0)),(.v (.int .i64 0)),(.v (.int .i64 0))]) (.t 56) (.t 57)),
 p_s 59 (.fa 3 (.t 58)),p_s 60 (.ld none (.t 59)),p_m 61 0,p_m 62 5,p_s 63 (.ia 6 (.agg [(.v (.int .u64 0)),(.sl 2 []),(.v (.int .i64 0)),(.v (.int .i64 0)),(.v (.int .i64 0)),(.v (.int .i64 0))]) (.t 61) (.t 62)),
 p_s 64 (.fa 4 (.t 63)),p_s 65 (.ld none (.t 64)),p_m 66 0,p_m 67 5,p_s 68 (.ia 6 (.agg [(.v (.int .u64 0)),(.sl 2 []),(.v (.int .i64 0)),(.v (.int .i64 0)),(.v (.int .i64 0)),(.v (.int .i64 0))]) (.t 66) (.t 67)),
 p_s 69 (.fa 5 (.t 68)),p_s 70 (.ld none (.t 69)),p_s 71 (.build [(.r (.v (.int .i64 0))),(.r (.v (.int .i64 0))),(.r (.v (.int .i64 0))),(.r (.v (.int .i64 0)))] [(0,1,(.t 55)),(1,1,(.t 60)),(2,1,(.t 65)),(3,1,(.t 70))]),
 p_a 6 (.new [(.r (.v (.int .i64 0))),(.r (.v (.int .i64 0))),(.r (.v (.int .i64 0))),(.r (.v (.int .i64 0)))]),⟨none,none,0,.act (.st 4 (.t 6) (.t 71))⟩]
 [[],[],[0,1],[0,1,2],[0,1,2,3],[],[],[5,6],[5,6,7],[5,6,7,8],[],[],[10,11],[10,11,12],[10,11,12,13],[],[],[15,16],[15,16,17],[15,16,17,18],[0,1,2,3,4,5,6,7,8,9,10,11,12,13,14,15,16,17,18,19],[],[0,1,2,3,4,5,6,7,8,9,10,11,12,13,14,15,16,17,18,19,20,21]])
 (.seq (.reg [p_s 7 (.mov (o_i 0))])
 (.block 4 (.loop (.seq (.seq (.reg [p_m 72 7,p_s 73 (.bin .lss (.t 72) (o_i 4))])
 (.cond (.t 73)
 .skip
 (.exit 4)))
 (.seq (.block 5 (.reg [p_m 76 3,p_m 77 7,p_s 78 (.iaa 4 1 (.t 6) (.t 77)),p_s 79 (.ld none (.t 78)),p_c 80 9 34 [.t 79],p_c 81 10 57 [(o_i 6),(.t 80)],p_c 82 11 88 [(o_i 4),(.t 81)],
 p_s 83 (.bin .add (.t 76) (.t 82)),p_m 3 83]))
 (.reg [p_m 74 7,p_s 75 (.bin .add (.t 74) (o_i 1)),p_m 7 75]))))))))
 (.reg [p_m 49 5,p_s 50 (.bin .add (.t 49) (o_i 1)),p_m 5 50]))))))
 (.seq (.reg [p_m 84 3,p_c 85 12 57 [(o_i 5),(.c (.r (.v (.int .u64 4096))))],p_s 86 (.bin .add (.t 84) (.t 85)),p_c 87 13 88 [(o_i 3),(.t 86)],p_m 2 87])
 .ret)))))))
theorem aio:Fun P0 45 1 [(2,false,none)] ti:=afh func45 rfl (by decide) (by kernel_rfl) (by decide) rfl (by kernel_rfl) (by kernel_rfl) (by decide)
theorem as5 {l:List Fea} (h:∀f∈l,f.ok):(s6 l).length<=2000600*l.length+300:=by
 have d:=acf h l.length;have b:=aaq l l.length;have c:=aa6 4;have e:=afg;have g:=et 5 4096;have a:=lc 3 (sf++jg l l.length++qe 4++pt l l.length++q9 5 4096);unfold s6;simp only [zae] at a;omega
theorem ax9 (l:List Fea) (hl:l.length<=100000) (h:∀f∈l,f.ok):a8 P0 45 [o4 l] [] (dj (n8 (if l=[] then [] else s6 l))) []:=by
 refine aio rfl (by decide) ?_;have ha:=g7;obtain ⟨N,hN,h8⟩:∃N:Int,((l.length:Nat):Int)=N/\0<=N/\N<=100000:=⟨_,rfl,by omega,by omega⟩
 by_cases S:l=[]
 ·subst S;simp only [ti,o4,push_cast,↓reduceIte,reduceCtorEq,zA]
  rfl
 rw [if_neg S];have h4:l.length≠0:=λ e=>S (zbl.1 e);have n0:(N == 0)=false:=beq_eq_false_iff_ne.2 (by omega);have tn:=am6 15 2 (by decide) (by decide) (by decide);have Q:=rn 1 [99,101,108,108,115] (by decide) (by decide);have hH:=afg;have X:n8 (q9 15 2)++n8 (l8 1 [99,101,108,108,115])=n8 sf:=cq _ _;have s1:(n8 (q9 15 2)).size=2:=rfl;have s2:(n8 (l8 1 [99,101,108,108,115])).size=7:=rfl;simp only [ti,o4,hN,n0,push_cast,↓reduceIte,reduceCtorEq];refine a6 tn rfl trivial ?_;simp only [push_cast];refine b5 (as':=[int .i64 1,dj (n8 [99,101,108,108,115])]) rfl ?_;refine a6 Q rfl trivial ?_
 simp only [s1,s2,X,push_cast,↓reduceIte,zE,zA,zD];have hF:=acf h
 refine b9 [(4,false),(0,false),(3,false)] (λ vs pos d=>∃(i:Nat) (B:List UInt8),i<=l.length/\B=sf++jg l i/\pos=[] /\
  vs=[int .i64 i,o4 l,dj (n8 B)]/\d=[])
  (λ vs _ _=>match vs with | .r (.v (.int _ a))::_=>(N-a).toNat | _=>0) rfl ?_ ?_
 ·simp only [o4,push_cast,↓reduceIte,reduceCtorEq,zE,zA];exact ⟨0,sf,by omega,by simp [jg],by simp⟩
 rintro vs pos d ⟨i,B,hi,W,rfl,rfl,rfl⟩;have hb:=hF i;have he:B.length=sf.length+(jg l i).length:=by rw [W,zae]
 have z:IntKind.i64.wrap ((i:Int)+1)=i+1:=a5 (by omega);have w4:IntKind.i64.wrap (4*(i:Int))=4*i:=a5 (by omega);simp only [o4,hN,push_cast,↓reduceIte,reduceCtorEq,zE];refine b7 (λ n=>?_) (λ n=>?_)
 ·have n:=of_decide_eq_true n;have b:i<l.length:=by omega
  have R:=akn b;have A:=acd h b;have Y:B++fx l i=B++l8 2 (ek (l.getD i default).w (4*(i:Int)) (l.getD i default).ring):=rfl;have hm:=afi (l.getD i default).w (4*(i:Int)) (l.getD i default).ring;generalize l.getD i default=f at *;have hq:=A.2.1;have J:=bgc f.w (4*(i:Int)) f.ring A.1 (by unfold c7; omega) A.2.1 A.2.2.1;have Q:=rn 2 (ek f.w (4*(i:Int)) f.ring) (by decide) (by omega);have hf:=lc 2 (ek f.w (4*(i:Int)) f.ring);generalize ek f.w (4*(i:Int)) f.ring=FL at *;generalize l8 2 FL=BL at *;simp only [R,w4,hN,zaf,zaa,push_cast,↓reduceIte,reduceCtorEq,zE,zA,zL]
  repeat refine sO ?_
  refine i5 (as':=[int .u64 f.w,a9 f.ring,int .i64 (4*(i:Int))]) rfl ?_;refine d5 J rfl trivial ?_;simp only [push_cast,↓reduceIte];refine d5 Q rfl trivial ?_;simp only [k9,cq,z,push_cast,↓reduceIte,reduceCtorEq,zE,zA];refine And.intro (by omega) (And.intro (by kernel_rfl) ?_);refine ⟨⟨i+1,B++BL,by omega,?_,by simp⟩,by omega⟩;rw [ae1,<- zao,<- W,Y]
 have n:=of_decide_eq_false n;have b:i=l.length:=by omega
 subst b;have x:B++l8 3 (ir 0)++l8 3 (ir 1)++l8 3 (ir 2)++l8 3 (ir 3)=B++qe 4:=by simp [qe,zay]
 have h1:=aa6 4;have t:=congrArg zbi x;simp only [zae] at t;have k0:=rn 3 (ir 0) (by decide) (by decide);have k1:=rn 3 (ir 1) (by decide) (by decide);have F:=rn 3 (ir 2) (by decide) (by decide);have k3:=rn 3 (ir 3) (by decide) (by decide);simp only [push_cast,↓reduceIte,reduceCtorEq,zE];refine b5 (as':=[int .i64 3,dj (n8 (ir 0))]) rfl ?_;refine a6 k0 rfl trivial ?_;simp only [k9,cq,push_cast,↓reduceIte,zE];refine sO ?_;refine b5 (as':=[int .i64 3,dj (n8 (ir 1))]) rfl ?_;refine a6 k1 rfl trivial ?_;simp only [k9,cq,push_cast,↓reduceIte,zE];refine sO ?_;refine b5 (as':=[int .i64 3,dj (n8 (ir 2))]) rfl ?_
 refine a6 F rfl trivial ?_;simp only [k9,cq,push_cast,↓reduceIte,zE];refine sO ?_;refine b5 (as':=[int .i64 3,dj (n8 (ir 3))]) rfl ?_;refine a6 k3 rfl trivial ?_;simp only [k9,cq,push_cast,↓reduceIte,zE];refine sO ?_;rw [x];obtain ⟨C,L⟩:∃C,C=B++qe 4:=⟨_,rfl⟩
 rw [<- L];have h3:C.length<=200040000150:=by rw [L,zae]; omega
 clear k0 k1 F k3 x h1 t
 refine b9 [(5,false),(0,false),(3,false)] (λ vs pos d=>∃(j:Nat) (D:List UInt8),j<=l.length/\D=C++pt l j/\pos=[] /\
  vs=[int .i64 j,o4 l,dj (n8 D)]/\d=[])
  (λ vs _ _=>match vs with | .r (.v (.int _ a))::_=>(N-a).toNat | _=>0) rfl ?_ ?_
 ·simp only [o4,push_cast,↓reduceIte,reduceCtorEq,zE,zA];exact ⟨0,C,by omega,by simp [pt],by simp⟩
 rintro vs pos d ⟨j,D,hj,T,rfl,rfl,rfl⟩;have hn:=aaq l j;have hh:D.length=C.length+(pt l j).length:=by rw [T,zae]
 have z:IntKind.i64.wrap ((j:Int)+1)=j+1:=a5 (by omega);have M:=ag6 l j;simp only [o4,hN,push_cast,↓reduceIte,reduceCtorEq,zE];refine b7 (λ n=>?_) (λ n=>?_)
 ·have n:=of_decide_eq_true n;have b:j<l.length:=by omega
  have R:=akn b;have A:=acd h b;generalize l.getD j default=f at *;simp only [R,hN,zaf,zaa,push_cast,↓reduceIte,reduceCtorEq,zE,zA,zL,zD]
  repeat refine And.intro (by first | omega | kernel_rfl) ?_
  refine b9 [(7,false),(5,false),(0,false),(3,false),(6,false)] (λ vs pos d=>∃(k:Nat) (E:List UInt8),k<=4/\E=D++rc f k/\pos=[] /\
   vs=[int .i64 k,int .i64 j,o4 l,dj (n8 E),.ptr 2000000 0 0]/\d=[.box [int .i64 f.c,int .i64 f.s,int .i64 f.lo,int .i64 f.hi]])
   (λ vs _ _=>match vs with | .r (.v (.int _ a))::_=>(4-a).toNat | _=>0) rfl ?_ ?_
  ·simp only [o4,push_cast,↓reduceIte,reduceCtorEq,zE,zA,zL,zD];exact ⟨0,D,by omega,by simp [rc],by simp⟩
  rintro vs pos d ⟨k,E,hk,hE,rfl,rfl,rfl⟩;have hp:=ait f k;have h9:E.length=D.length+(rc f k).length:=by rw [hE,zae]
  have w2:IntKind.i64.wrap ((k:Int)+1)=k+1:=a5 (by omega);have h2:=ak2 f k;simp only [o4,push_cast,↓reduceIte];refine b7 (λ p=>?_) (λ p=>?_)
  ·have p:=of_decide_eq_true p
   have H:c7 (f.nums.getD k 0):=by
    obtain ⟨q1,q2,q3,q4⟩:=A.2.2.2;rcases (show k=0\/k=1\/k=2\/k=3 by omega) with rfl | rfl | rfl | rfl
    ·exact q1
    ·exact q2
    ·exact q3
    exact q4
   have zi:=ae6 _ H;have I:=am4 _ H;have q:=am6 6 (zig (f.nums.getD k 0)) (by decide) zi.1 zi.2;have h6:=et 6 (zig (f.nums.getD k 0));have o:=rn 4 (q9 6 (zig (f.nums.getD k 0))) (by decide) (by omega);have h7:=axi f k;rw [show l8 4 (q9 6 (zig (f.nums.getD k 0)))=vx f k from rfl] at o;generalize vx f k=V at *;generalize q9 6 (zig (f.nums.getD k 0))=U at *;generalize zig (f.nums.getD k 0)=Z at *;have g:∃(u:Nat) (G:List UInt8),u<=4/\G=D++rc f u/\u=k+1/\G=E++V:=⟨k+1,E++V,by omega,by rw [h2,<- zao,<- hE],rfl,rfl⟩
   rcases (show k=0\/k=1\/k=2\/k=3 by omega) with rfl | rfl | rfl | rfl
   ·have m:IntKind.i64.wrap ((0:Int)+1)=1:=rfl;simp only [zab,zaa,zaa,push_cast,↓reduceIte,reduceCtorEq,zE,zA,zL,zM]
    repeat refine And.intro (by first | decide | omega) ?_
    refine b5 (as':=[int .i64 f.c]) rfl ?_;refine a6 I rfl trivial ?_;simp only [push_cast,↓reduceIte];refine a6 q rfl trivial ?_;simp only [push_cast,↓reduceIte];refine a6 o rfl trivial ?_;simp only [k9,cq,m,push_cast,↓reduceIte,reduceCtorEq,zE,zA,zL,zD];refine sO ?_;obtain ⟨F,P,K,y,rfl,rfl⟩:=g;exact ⟨⟨1,E++V,by omega,y,by simp⟩,by decide⟩
   ·have m:IntKind.i64.wrap ((1:Int)+1)=2:=rfl;simp only [zav,zaa,zaa,push_cast,↓reduceIte,reduceCtorEq,zE,zA,zL,zM]
    repeat refine And.intro (by first | decide | omega) ?_
    refine b5 (as':=[int .i64 f.s]) rfl ?_;refine a6 I rfl trivial ?_;simp only [push_cast,↓reduceIte];refine a6 q rfl trivial ?_;simp only [push_cast,↓reduceIte];refine a6 o rfl trivial ?_;simp only [k9,cq,m,push_cast,↓reduceIte,reduceCtorEq,zE,zA,zL,zD];refine sO ?_;obtain ⟨F,P,K,y,rfl,rfl⟩:=g;exact ⟨⟨2,E++V,by omega,y,by simp⟩,by decide⟩
   ·have m:IntKind.i64.wrap ((2:Int)+1)=3:=rfl;simp only [zad,zaa,zaa,push_cast,↓reduceIte,reduceCtorEq,zE,zA,zL,zM]
    repeat refine And.intro (by first | decide | omega) ?_
    refine b5 (as':=[int .i64 f.lo]) rfl ?_;refine a6 I rfl trivial ?_;simp only [push_cast,↓reduceIte];refine a6 q rfl trivial ?_;simp only [push_cast,↓reduceIte];refine a6 o rfl trivial ?_;simp only [k9,cq,m,push_cast,↓reduceIte,reduceCtorEq,zE,zA,zL,zD];refine sO ?_;obtain ⟨F,P,K,y,rfl,rfl⟩:=g;exact ⟨⟨3,E++V,by omega,y,by simp⟩,by decide⟩
   have m:IntKind.i64.wrap ((3:Int)+1)=4:=rfl;simp only [zad,zaa,zaa,push_cast,↓reduceIte,reduceCtorEq,zE,zA,zL,zM]
   repeat refine And.intro (by first | decide | omega) ?_
   refine b5 (as':=[int .i64 f.hi]) rfl ?_;refine a6 I rfl trivial ?_;simp only [push_cast,↓reduceIte];refine a6 q rfl trivial ?_;simp only [push_cast,↓reduceIte];refine a6 o rfl trivial ?_;simp only [k9,cq,m,push_cast,↓reduceIte,reduceCtorEq,zE,zA,zL,zD];refine sO ?_;obtain ⟨F,P,K,y,rfl,rfl⟩:=g;exact ⟨⟨4,E++V,by omega,y,by simp⟩,by decide⟩
  have p:=of_decide_eq_false p;obtain rfl:k=4:=by omega
  simp only [z,push_cast,↓reduceIte,reduceCtorEq,zE,zA];exact ⟨⟨j+1,E,by omega,by rw [M,<- zao,<- T,hE],by simp⟩,by omega⟩
 have n:=of_decide_eq_false n;have b:j=l.length:=by omega
 subst b;have te:=am6 5 4096 (by decide) (by decide) (by decide);have h5:=et 5 4096;have O:l8 3 (D++q9 5 4096)=s6 l:=by rw [T,L,W]; rfl
 have J:=rn 3 (D++q9 5 4096) (by decide) (by rw [zae]; omega);rw [O] at J;simp only [push_cast,↓reduceIte,reduceCtorEq,zE];refine a6 te rfl trivial ?_;simp only [k9,cq,push_cast,↓reduceIte,zE];refine sO ?_;refine a6 J rfl trivial ?_;simp only [push_cast,↓reduceIte,zA]

def vk:Mk P0 f90:={ x:=_ }
def tm:Mk P0 f91:={ x:=_ }
def bh (d:List UInt8):List Int:=((fo d).getD []).map λ n:Nat=>(n:Int)
def bi (b:List UInt8):Fea×Bool:=
 match u7 b with
 | some [x,_,_,y]=>(⟨x.2.2.1,iv (bh y.2.2.2),0,0,0,0⟩,dv (bh y.2.2.2))
 | _=>(⟨0,[],0,0,0,0⟩,false)
def um (b:List UInt8):Int:=
 match u7 b with
 | some [x]=>zag x.2.2.1
 | _=>0
variable {b:List UInt8}
theorem aly (h:∀m,u7 b=some m->m.length≠4):bi b=(⟨0,[],0,0,0,0⟩,false):=by
 unfold bi;split
 ·rename_i x _ _ y e;exact absurd rfl (h _ e)
 rfl
theorem at6 (h:∀m,u7 b=some m->m.length≠1):um b=0:=by
 unfold um;split
 ·rename_i x e;exact absurd rfl (h _ e)
 rfl
theorem bbk {l:List UInt8} (h:y9 l=some (x,k)):x.1<=1000/\x.2.1<=2/\x.2.2.1<18446744073709551616/\x.2.2.2.length<=l.length:=by
 obtain ⟨c,a,b⟩:=gc (l.drop (take l).2);unfold y9 at h;split at h
 ·cases h
 split at h
 ·cases h
 split at h
 ·cases h;exact ⟨by simp only; omega,by simp,by simp only; omega,by simp⟩
 split at h
 ·cases h;refine ⟨by simp only; omega,by simp,by simp,?_⟩;simp only [zbd,zap];omega
 cases h
theorem avy:∀(f:Nat) (l:List UInt8) (m:List Fld),ix f l=some m->∀x∈m,x.1<=1000/\x.2.1<=2/\x.2.2.1<18446744073709551616/\x.2.2.2.length<=l.length
 | f,[],m,h,x,hx=>by
   rw [ln] at h;cases h;simp at hx
 | 0,c::l,m,h,x,hx=>by cases h
 | f+1,c::l,m,h,x,hx=>by
   rw [ix] at h;split at h
   ·cases h
   rename_i y k e;cases hr:ix f ((c::l).drop k) with
   | none=>rw [hr] at h; cases h
   | some m'=>
     rw [hr] at h;cases h;rcases zbk.1 hx with rfl | hx
     ·exact bbk e
     have:=avy f _ m' hr x hx;simp only [zap] at this;omega
theorem ay {l:List UInt8} (h:u7 l=some m):∀x∈m,x.1<=1000/\x.2.1<=2/\x.2.2.1<18446744073709551616/\x.2.2.2.length<=l.length:=avy _ l m h
theorem avb:∀(f:Nat) (l:List UInt8) (m:List Nat),fw f l=some m->∀n∈m,n<18446744073709551616
 | f,[],m,h,x,hx=>by
   rw [lj] at h;cases h;simp at hx
 | 0,c::l,m,h,x,hx=>by cases h
 | f+1,c::l,m,h,x,hx=>by
   rw [fw] at h;split at h
   ·cases h
   cases hr:fw f ((c::l).drop (take (c::l)).2) with
   | none=>rw [hr] at h; cases h
   | some m'=>
     rw [hr] at h;cases h;rcases zbk.1 hx with rfl | hx
     ·exact (gc (c::l)).1
     exact avb f _ m' hr x hx
theorem anh (d:List UInt8):af8 (bh d):=λ n a=>by
 unfold bh at a;cases h:fo d with
 | none=>rw [h] at a; simp at a
 | some m=>
   rw [h] at a;obtain ⟨k,b,rfl⟩:=zbc.1 a;have:=avb _ d m h k b;omega
theorem ani (d:List UInt8):(bh d).length<=d.length:=by
 unfold bh;cases h:fo d with
 | none=>simp
 | some m=>
   have:=a5t h;simpa using this
theorem baa (b:List UInt8) (n:b.length<=1000000):a8 P0 91 [sb b] [] (int .i64 (um b)) []:=by
 refine tm.t func91 ?_;have c:=asc b (by omega);have k:=g7;have e:((10:Int) != 0)=true:=rfl;have a:((0:Int) != 0)=false:=rfl;have d:((0:Int) != 1)=true:=rfl;cases hm:u7 b with
 | none=>
   have hv:um b=0:=at6 (λ m h=>by rw [hm] at h; cases h);rw [hm] at c;rw [hv]
   push_cast [tm,zac]
   refine a6 c rfl trivial ?_
   push_cast [iw,e]
 | some m=>
   by_cases g:m=[]
   ·subst g;have hv:um b=0:=at6 (λ m h=>by rw [hm] at h; cases h; simp);rw [hm] at c;rw [hv]
    push_cast [tm,zac]
    refine a6 c rfl trivial ?_
    push_cast [iw,a,d]
   rw [hm,(x6 g).1,(x6 g).2] at c;have l:=ny hm;by_cases i:m.length=1
   ·obtain ⟨x,rfl⟩:∃x,m=[x]:=List.length_eq_one_iff.1 i;have hx:=ay hm x (by simp);have hv:um b=zag x.2.2.1:=by unfold um; rw [hm]
    have f:((1:Int) != 1)=false:=rfl;have j:=bde (x.2.2.1:Nat) (by omega) (by omega);rw [hv]
    push_cast [tm,zac]
    refine a6 c rfl trivial ?_
    push_cast [a,f,ez,zbb,List.map_nil,zam,zac,zab,zcc]
    repeat refine sO ?_
    refine a6 j rfl trivial ?_
    push_cast
   have hv:um b=0:=at6 (λ m' h=>by rw [hm] at h; cases h; exact i);have f:((m.length:Int) != 1)=true:=bne_iff_ne.2 (by omega);rw [hv]
   push_cast [tm,zac]
   refine a6 c rfl trivial ?_
   push_cast [a,f]
theorem asq (m:List Nat):jf m=o9 (m.map λ n:Nat=>(n:Int)):=by simp [jf,o9]
theorem bhe (b:List UInt8) (M:b.length<=1000000):a8 P0 90 [sb b] [] (.tup [.r (bi b).1.rv,bl (bi b).2]) []:=by
 refine vk.t func90 ?_;have l:=asc b (by omega);have J:=g7;have w:((10:Int) != 0)=true:=rfl;have g:((0:Int) != 0)=false:=rfl;have F:((0:Int) != 4)=true:=rfl;cases hm:u7 b with
 | none=>
   have hv:=aly (b:=b) (λ m h=>by rw [hm] at h; cases h);rw [hm] at l;rw [hv];simp only [vk,Fea.rv,push_cast,↓reduceIte,reduceCtorEq];refine a6 l rfl trivial ?_;simp only [iw,jy,w,push_cast,↓reduceIte,reduceCtorEq,zE,zA,zL,zD]
 | some m=>
   by_cases C:m=[]
   ·subst C;have hv:=aly (b:=b) (λ m h=>by rw [hm] at h; cases h; simp);rw [hm] at l;rw [hv];simp only [vk,Fea.rv,push_cast,↓reduceIte,reduceCtorEq];refine a6 l rfl trivial ?_;simp only [iw,jy,g,F,push_cast,↓reduceIte,zE,zA,zL,zD]
   rw [hm,(x6 C).1,(x6 C).2] at l;have K:=ny hm;by_cases G:m.length=4
   ·obtain ⟨x,y,z,u,rfl⟩:∃x y z u,m=[x,y,z,u]:=by
     rcases m with _ | ⟨x,_ | ⟨y,_ | ⟨z,_ | ⟨u,_ | ⟨v,r⟩⟩⟩⟩⟩<;>simp at G |-
    have hx:=ay hm x (by simp);have L:=ay hm u (by simp);have hv:bi b=(⟨x.2.2.1,iv (bh u.2.2.2),0,0,0,0⟩,dv (bh u.2.2.2)):=by unfold bi; rw [hm]
    have A:((4:Int) != 4)=false:=rfl;have c:=biu u.2.2.2 (by omega);have I:=ani u.2.2.2;have s:=anh u.2.2.2;have j:=λ res ro=>be1 (bh u.2.2.2) (by omega) s (res:=res) (ro:=ro);have q:bh u.2.2.2=((fo u.2.2.2).getD []).map λ n:Nat=>(n:Int):=rfl;rw [hv];simp only [vk,Fea.rv,push_cast,↓reduceIte,reduceCtorEq];refine a6 l rfl trivial ?_;simp only [g,A,ez,zad,push_cast,↓reduceIte,zE,zA,zS,zL,zD,zM]
    repeat refine sO ?_
    have B:((10:Int) == 0)=false:=rfl;have k:((0:Int) == 0)=true:=rfl;by_cases i:∃ns,fo u.2.2.2=some ns/\ns≠[]
    ·obtain ⟨ns,o,E⟩:=i;have a:bh u.2.2.2=ns.map λ n:Nat=>(n:Int):=by rw [q,o]; rfl
     have H:ag4 (some ns)=.tup [.own 1000000 0 0 ns.length,int .i64 0]/\ag5 (some ns)=[aug ns]:=by
      cases ns with
      | nil=>exact absurd rfl E
      | cons=>exact ⟨rfl,rfl⟩
     rw [o,H.1,H.2] at c;refine a6 c rfl trivial ?_;have D:zaj ns.length (jf ns)=jf ns:=aiv ns;simp only [D,push_cast,↓reduceIte,zE,zA,zS,zL,zD,zM];refine j9 ?_;refine b5 (as':=[.r (.sl 1 (o9 (bh u.2.2.2)))]) (by rw [a,<- asq]; rfl) ?_;have f:dv (bh u.2.2.2)=false->iv (bh u.2.2.2)=[]:=λ h=>by rw [iv,if_neg (by rw [h]; decide)]
     cases d:dv (bh u.2.2.2) with
     | false=>
       refine a6 (j _ _ (.inl ⟨d,rfl,rfl⟩)) rfl trivial ?_;simp only [pnt,k,f d,zbb,List.map_nil,zam,zac,zab,zcc,zca,push_cast,↓reduceIte,zE,zA,zL,zD];omega
     | true=>
       refine a6 (j _ _ (.inr ⟨d,rfl,rfl⟩)) rfl trivial ?_;generalize iv (bh u.2.2.2)=R at *;have p:zaj R.length (R.map ptR)=R.map ptR:=m5 R;simp only [pnt,k,i7,p,zab,push_cast,↓reduceIte,zE,zA,zS,zL,zD,zM];omega
    have a:bh u.2.2.2=[]:=by
     rw [q];cases hvl:fo u.2.2.2 with
     | none=>rfl
     | some ns=>
       have:ns=[]:=Classical.byContradiction λ h=>i ⟨ns,hvl,h⟩;rw [this]; rfl
    have d:dv (bh u.2.2.2)=false:=by rw [a]; rfl
    have f:iv (bh u.2.2.2)=[]:=by rw [a]; rfl
    have e:=j _ _ (.inl ⟨d,rfl,rfl⟩);rw [a] at e;rw [d,f];cases hvl:fo u.2.2.2 with
    | none=>
      rw [hvl] at c;refine a6 c rfl trivial ?_;simp only [ag4,ag5,push_cast,↓reduceIte,zE,zA,zL];refine b5 (as':=[.r (.sl 1 (o9 []))]) rfl ?_;refine a6 e rfl trivial ?_;simp only [pnt,B,zab,push_cast,↓reduceIte,zE,zA,zL,zD];omega
    | some ns=>
      have:ns=[]:=Classical.byContradiction λ h=>i ⟨ns,hvl,h⟩;subst this;rw [hvl] at c;refine a6 c rfl trivial ?_;simp only [ag4,ag5,push_cast,↓reduceIte,zE,zA,zL];refine b5 (as':=[.r (.sl 1 (o9 []))]) rfl ?_;refine a6 e rfl trivial ?_;simp only [pnt,k,zab,push_cast,↓reduceIte,zE,zA,zL,zD];omega
   have hv:=aly (b:=b) (λ m' h=>by rw [hm] at h; cases h; exact G);have A:((m.length:Int) != 4)=true:=bne_iff_ne.2 (by omega);rw [hv];simp only [vk,Fea.rv,push_cast,↓reduceIte,reduceCtorEq];refine a6 l rfl trivial ?_;simp only [g,A,push_cast,↓reduceIte,zE,zA,zS,zL,zD,zM]

def vj:Mk P0 f46:={ x:=_ }
def db:List Fld->List Fea->List Int->Option (List Fea×List Int)
 | [],o,v=>some (o,v)
 | f::r,o,v=>if f.1=2 then (if (bi f.2.2.2).2 then db r (o++[(bi f.2.2.2).1]) v else none) else if f.1=4 then db r o (v++[um f.2.2.2]) else db r o v
def atg (f:Fea) (v:List Int) (i:Nat):Fea:={ f with c:=v.getD (4*i) 0,s:=v.getD (4*i+1) 0,lo:=v.getD (4*i+2) 0,hi:=v.getD (4*i+3) 0 }
def ae0 (o:List Fea) (v:List Int):List Fea:=(zax o.length).map λ i=>atg (o.getD i default) v i
def ve (o:List Fea) (v:List Int) (j:Nat):List Fea:=(zax o.length).map λ i=>if i<j then atg (o.getD i default) v i else o.getD i default
theorem an3 (o:List Fea) (v:List Int) (j:Nat):(ve o v j).length=o.length:=by simp [ve]
theorem bhd (o:List Fea) (v:List Int):ve o v 0=o:=by
 apply List.ext_getElem?;intro i;rw [ve,zan];by_cases h:i<o.length
 ·simp [h,zak]
 simp [h]
variable {j:Nat}
theorem bcg (o:List Fea) (v:List Int) (a:j<=k) (h:k<o.length):(ve o v j)[k]?=some (o.getD k default):=by
 simp [ve,h,show ¬k<j by omega]
theorem a4p (o:List Fea) (v:List Int) (h:j<o.length):ve o v (j+1)=(ve o v j).set j (atg (o.getD j default) v j):=by
 apply List.ext_getElem?;intro i;rw [List.getElem?_set];by_cases hi:i<o.length
 ·by_cases b:j=i
  ·subst b;simp [ve,h]
  rw [if_neg b];simp only [ve,zan,zcb hi,zbn];by_cases a:i<j
  ·rw [if_pos a,if_pos (by omega)]
  rw [if_neg a,if_neg (by omega)]
 rw [if_neg (by omega),zbv (by rw [an3]; omega),zbv (by rw [an3]; omega)]
theorem bk3 (v:List Int) (k:Nat):(v.map λ n=>RV.v (.int .i64 n)).getD k (.v (.int .i64 0))=.v (.int .i64 (v.getD k 0)):=by
 simp only [zak,zan];cases v[k]? <;> rfl
theorem a8x (o:List Fea) (v:List Int):ve o v o.length=ae0 o v:=by
 apply List.map_congr_left;intro i hi;rw [if_pos (List.mem_range.1 hi)]
def aeo:Option (List Fea×List Int)->List Fea×Bool
 | none=>([],false)
 | some (o,v)=>if o=[]\/v.length≠4*o.length then ([],false) else (ae0 o v,true)
def cz (b:List UInt8):List Fea×Bool:=
 match u7 b with
 | some [x]=>match u7 x.2.2.2 with
   | some fs=>aeo (db fs [] [])
   | none=>([],false)
 | _=>([],false)
theorem ak5 (h:∀m,u7 b=some m->m.length≠1):cz b=([],false):=by
 unfold cz;split
 ·rename_i x e;exact absurd rfl (h _ e)
 rfl
def m9:RV:=.agg [.v (.int .u64 0),.sl 2 [],.v (.int .i64 0),.v (.int .i64 0),.v (.int .i64 0),.v (.int .i64 0)]
abbrev kg (l:List Fea):Ob:=.row 6 m9 true true (l.map Fea.rv)
def zo:List Fea×Bool->AV
 | (_,false)=>.tup [.nils 6 m9,bl false]
 | (l,true)=>.tup [.own 1000000 0 0 l.length,bl true]
def zp:List Fea×Bool->List Ob
 | (_,false)=>[]
 | (l,true)=>[kg l]
def aox (o:List Fea):AV:=if o=[] then .nils 6 m9 else .own 2000001 0 0 o.length
def aow (o:List Fea) (v:List Int):AV:=if v=[] then .nils 1 (.v (.int .i64 0)) else .own (if o=[] then 2000001 else 2000002) 0 0 v.length
abbrev a3g (v:List Int):Ob:=.row 1 (.v (.int .i64 0)) true true (v.map λ n=>.v (.int .i64 n))
def aoy (o:List Fea) (v:List Int):List Ob:=(if o=[] then [] else [kg o])++(if v=[] then [] else [a3g v])
theorem biz (b:List UInt8) (hb:b.length<=1000000):a8 P0 46 [sb b] [] (zo (cz b)) (zp (cz b)):=by
 refine vj.t func46 ?_;have D:=asc b (by omega);have h6:=g7;have J:((10:Int) != 0)=true:=rfl;have l:((0:Int) != 0)=false:=rfl;have Z:((0:Int) != 1)=true:=rfl;have Q:decide ((0:Int)<0)=false:=rfl;cases hm:u7 b with
 | none=>
   have hv:=ak5 (b:=b) (λ m h=>by rw [hm] at h; cases h);rw [hm] at D;rw [hv]
   push_cast [vj,zac]
   refine a6 D rfl trivial ?_
   push_cast [iw,jy,J,zo,zp,m9]
 | some m=>
   by_cases h0:m=[]
   ·subst h0;have hv:=ak5 (b:=b) (λ m h=>by rw [hm] at h; cases h; simp);rw [hm] at D;rw [hv]
    push_cast [vj,zac]
    refine a6 D rfl trivial ?_
    push_cast [iw,jy,l,Z,zo,zp,m9]
   rw [hm,(x6 h0).1,(x6 h0).2] at D;have h8:=ny hm;by_cases h1:m.length≠1
   ·have hv:=ak5 (b:=b) (λ m' h=>by rw [hm] at h; cases h; exact h1);have W:((m.length:Int) != 1)=true:=bne_iff_ne.2 (by omega);rw [hv]
    push_cast [vj,zac]
    refine a6 D rfl trivial ?_
    push_cast [l,W,zo,zp,m9]
   obtain ⟨x,rfl⟩:∃x,m=[x]:=List.length_eq_one_iff.1 (by omega);have hx:=ay hm x (by simp);have W:((1:Int) != 1)=false:=rfl;have p:=asc x.2.2.2 (by omega)
   have hv:cz b=match u7 x.2.2.2 with
    | some fs=>aeo (db fs [] [])
    | none=>([],false):=by unfold cz; rw [hm]
   rw [hv]
   push_cast [vj,zac]
   refine a6 D rfl trivial ?_
   push_cast [l,W,ez,zbb,List.map_nil,zam,zac,zab,zad,zcc,zca]
   repeat refine sO ?_
   cases hm2:u7 x.2.2.2 with
   | none=>
     rw [hm2] at p;refine a6 p rfl trivial ?_
     push_cast [iw,jy,zo,zp]
     refine b9 [(37,false),(36,false),(35,false),(7,false),(8,false),(5,false)] (λ vs pos k=>vs=[int .i64 0,int .i64 0,aq3,.nils 6 m9,.nils 1 (.v (.int .i64 0)),int .i64 10]/\pos=[]/\k=[]) (λ _ _ _=>0) rfl ?_ ?_
     ·push_cast [m9]
      done
     rintro vs pos k ⟨rfl,rfl,rfl⟩
     push_cast [m9,J,Q]
     done
   | some fs=>
     by_cases h2:fs=[]
     ·subst h2;rw [hm2] at p;refine a6 p rfl trivial ?_
      push_cast [iw,jy,db,aeo,zo,zp]
      refine b9 [(37,false),(36,false),(35,false),(7,false),(8,false),(5,false)] (λ vs pos k=>vs=[int .i64 0,int .i64 0,aq3,.nils 6 m9,.nils 1 (.v (.int .i64 0)),int .i64 0]/\pos=[]/\k=[]) (λ _ _ _=>0) rfl ?_ ?_
      ·push_cast [m9]
       done
      rintro vs pos k ⟨rfl,rfl,rfl⟩
      push_cast [m9,l,Q]
      exact ⟨rfl,rfl⟩
     rw [hm2,(x6 h2).1,(x6 h2).2] at p;have T:=ay hm2;have h7:=ny hm2;obtain ⟨M,E,h9⟩:∃M:Int,((fs.length:Nat):Int)=M/\0<=M/\M<=1000000:=⟨_,rfl,by omega,by omega⟩
     refine a6 p rfl trivial ?_
     push_cast [E]
     refine b9 [(37,false),(36,false),(35,false),(7,false),(8,false),(5,false)] (λ vs pos k=>∃(i:Nat) (o:List Fea) (v:List Int),i<=fs.length/\o.length<=i/\v.length<=i/\db fs [] []=db (fs.drop i) o v /\
      vs=[int .i64 i,int .i64 M,.own 2000000 0 0 fs.length,aox o,aow o v,int .i64 0]/\pos=[]/\k=auh fs::aoy o v)
      (λ vs _ _=>match vs with | .r (.v (.int _ a))::_=>(M-a).toNat | _=>0) rfl ?_ ?_
     ·push_cast [m9]
      exact ⟨0,[],[],by omega,by simp,by simp,rfl,rfl,rfl⟩
     rintro vs pos k ⟨i,o,v,hi,ho,ha,q,rfl,rfl,rfl⟩;have O:IntKind.i64.wrap ((i:Int)+1)=i+1:=a5 (by omega)
     have A:∀d:i<fs.length,db (fs.drop i) o v=if fs[i].1=2 then (if (bi fs[i].2.2.2).2 then db (fs.drop (i+1)) (o++[(bi fs[i].2.2.2).1]) v else none) else if fs[i].1=4 then db (fs.drop (i+1)) o (v++[um fs[i].2.2.2]) else db (fs.drop (i+1)) o v:=λ d=>by
      rw [List.drop_eq_getElem_cons d,db]
     have G:∀(d:i<fs.length) z,(fs.map ez).getD i z=.agg [.v (.int .i64 (fs[i].1:Nat)),.v (.int .i64 (fs[i].2.1:Nat)),.v (.int .u64 (fs[i].2.2.1:Nat)),.sl 1 (bys fs[i].2.2.2)]:=λ d z=>by
      rw [zak,zan,zbu d]; rfl
     have U:∀d:i<fs.length,fs[i].2.2.2.length<=1000000:=λ d=>by
      have:=T _ (zbp d);omega
     by_cases d:i<fs.length
     ·have R:decide ((i:Int)<M)=true:=decide_eq_true (by omega);have hg:=G d;have L:=A d;have I:=U d;rw [L] at q;clear L;generalize fs[i]=F at *;have X:=bhe F.2.2.2 I;have h3:=baa F.2.2.2 I;generalize bi F.2.2.2=FD at *;generalize um F.2.2.2=VD at *
      by_cases f:o=[]<;>by_cases g:v=[]<;>(
       push_cast [aox,aow,aoy,f,g,R,m9,zai,E,zar,zbg]
       push_cast [hg,zai,E,zaf,zah,zaa]
       refine sO ?_;cases e2:((F.1:Int) == 2) with
       | true=>
         have y:F.1=2:=by have:=eq_of_beq e2; omega
         push_cast [e2]
         refine a6 X rfl trivial ?_
         push_cast [Fea.rv]
         cases ok:FD.2 with
         | false=>
           rw [if_pos y,ok] at q
           push_cast
           rw [q];exact ⟨rfl,rfl⟩
         | true=>
           rw [if_pos y,ok] at q
           push_cast [O]
           refine ⟨by simp,by first | omega | exact ⟨by omega,by omega⟩,⟨i+1,o++[FD.1],v,by omega,by simp; omega,by omega,q,by simp [f,g],by simp [f,g,Fea.rv,m9]⟩,by omega⟩
       | false=>
         have y:¬F.1=2:=by have:=beq_eq_false_iff_ne.1 e2; omega
         rw [if_neg y] at q;cases e4:((F.1:Int) == 4) with
         | true=>
           have C:F.1=4:=by have:=eq_of_beq e4; omega
           rw [if_pos C] at q
           push_cast [e2,e4]
           refine a6 h3 rfl trivial ?_
           push_cast [O]
           refine ⟨by simp,by first | omega | exact ⟨by omega,by omega⟩,⟨i+1,o,v++[VD],by omega,by omega,by simp; omega,q,by simp [f,g],by simp [f,g,m9]⟩,by omega⟩
         | false=>
           have C:¬F.1=4:=by have:=beq_eq_false_iff_ne.1 e4; omega
           rw [if_neg C] at q
           push_cast [e2,e4,O]
           exact ⟨⟨i+1,o,v,by omega,by omega,by omega,q,by simp [f,g],by simp [f,g,m9]⟩,by omega⟩)
     have u:decide (M<M)=false:=decide_eq_false (by omega);obtain rfl:i=fs.length:=by omega
     rw [List.drop_length,db] at q;rw [q];by_cases f:o=[]
     ·have B:aeo (some (o,v))=([],false):=if_pos (.inl f);have h5:((0:Int) == 0)=true:=rfl;rw [B];by_cases g:v=[]<;>push_cast [l,h5,aox,aow,aoy,f,g,u,zai,E,zar,zbg,zo,zp,m9]
     have hL:o.length≠0:=λ e=>f (zbl.1 e);have V:((o.length:Int) == 0)=false:=beq_eq_false_iff_ne.2 (by omega);have w4:IntKind.i64.wrap (4*(o.length:Int))=4*o.length:=a5 (by omega);by_cases g:v=[]
     ·have B:aeo (some (o,v))=([],false):=if_pos (.inr (by rw [g,zac]; omega));have K:((0:Int) != 4*(o.length:Int))=true:=bne_iff_ne.2 (by omega);rw [B]
      push_cast [l,V,w4,K,aox,aow,aoy,f,g,u,zai,E,zar,zbg,zo,zp,m9]
      done
     by_cases h4:v.length=4*o.length
     ·have B:aeo (some (o,v))=(ae0 o v,true):=if_neg (λ h=>h.elim f (λ h=>h h4));have K:((v.length:Int) != 4*(o.length:Int))=false:=by rw [h4]; simp
      rw [B]
      push_cast [l,V,w4,K,aox,aow,aoy,f,g,u,zai,E,zar,zbg,zo,zp,m9]
      refine b9 [(83,false),(82,false),(7,false),(8,false)] (λ vs pos k=>∃j:Nat,j<=o.length/\vs=[int .i64 j,int .i64 o.length,.own 2000000 0 0 o.length,.own 2000001 0 0 v.length]/\pos=[]/\k=[kg (ve o v j),a3g v])
       (λ vs _ _=>match vs with | .r (.v (.int _ a))::_=>(o.length-a).toNat | _=>0) rfl ?_ ?_
      ·push_cast [m9]
       exact ⟨0,by omega,rfl,by rw [bhd]; rfl⟩
      rintro vs pos k ⟨j,hj,rfl,rfl,rfl⟩;have O:IntKind.i64.wrap ((j:Int)+1)=j+1:=a5 (by omega);have w5:IntKind.i64.wrap (4*(j:Int))=4*j:=a5 (by omega);have n:=an3 o v j
      push_cast [n,m9,zai]
      refine b7 (λ N=>?_) (λ N=>?_)
      ·have N:=of_decide_eq_true N;have d:j<o.length:=by omega
       have n5:(4*(j:Int)).toNat=4*j:=by omega
       have hP:=bcg o v (Nat.le_refl j) d;have S:=a4p o v d;generalize o.getD j default=P at *
       have Y:((ve o v j).map Fea.rv).getD j m9=.agg [.v (.int .u64 P.w),.sl 2 (P.ring.map ptR),.v (.int .i64 P.c),.v (.int .i64 P.s),.v (.int .i64 P.lo),.v (.int .i64 P.hi)]:=by
        rw [zak,zan,hP]; rfl
       have H:∀x,(((ve o v j).map Fea.rv).set j x).getD j m9=x:=λ x=>by
        rw [zak,List.getElem?_set_self (by rw [zai,n]; exact d)]; rfl
       push_cast [O,w5,n,n5,bk3,Y,H,List.set_set,zbz,List.take_zero,List.drop_succ_cons,List.drop_zero,zbg,zar,zab,zav,zad,Nat.add_zero,zai,List.length_set,zaf,zah,zaa]
       repeat refine sO ?_
       refine And.intro (by kernel_rfl) ⟨⟨j+1,by omega,rfl,?_⟩,by omega⟩;rw [S];simp only [kg,List.map_set,atg,Fea.rv,a3g]
      have N:=of_decide_eq_false N;obtain rfl:j=o.length:=by omega
      rw [a8x]
      push_cast [n,m9,zai]
      rw [show (ae0 o v).length=o.length by simp [ae0]];exact ⟨rfl,rfl⟩
     have B:aeo (some (o,v))=([],false):=if_pos (.inr h4);have K:((v.length:Int) != 4*(o.length:Int))=true:=bne_iff_ne.2 (by omega);rw [B]
     push_cast [l,V,w4,K,aox,aow,aoy,f,g,u,zai,E,zar,zbg,zo,zp,m9]

def akt:Mk P0 f47:={ x:=_ }
def abl:Mk P0 f22:={ x:=_ }
theorem bcr (h:af8 l):∀j,c7 (yg l j).1/\c7 (yg l j).2
 | 0=>⟨aru _ (aas h 1).1 (aas h 1).2,aru _ (aas h 2).1 (aas h 2).2⟩
 | j+1=>⟨aao _,aao _⟩
theorem ba1 (h:af8 l):ans (iv l):=λ p a=>by
 unfold iv at a;split at a
 ·obtain ⟨j,_,rfl⟩:=zbc.1 a;exact bcr h j
 simp at a
theorem a6s (l:List Int):(iv l).length<=l.length:=by
 unfold iv;split
 ·rename_i h
  have:9<=l.length:=by
   simp only [dv,zbs,decide_eq_true_eq] at h;exact h.1
  simp only [ei,zai,List.length_range];omega
 simp
theorem azm (b:List UInt8) (d:b.length<=100000):(bi b).1.ok:=by
 unfold bi;split
 ·rename_i x y z u e;have hx:=ay e x (by simp);have g:=ay e u (by simp);have c:=ani u.2.2.2;have f:=a6s (bh u.2.2.2);refine ⟨by simp only; omega,?_,ba1 (anh _),by refine ⟨?_,?_,?_,?_⟩<;>(show c7 0; decide)⟩;simp only;omega
 exact ⟨by decide,by decide,λ p a=>by simp at a,by decide⟩
theorem bev (b:List UInt8):c7 (um b):=by
 unfold um;split
 ·rename_i x e;have hx:=ay e x (by simp);exact aru _ (by omega) (by omega)
 decide
theorem ala:∀(i:List Fld) (o:List Fea) (v:List Int),(∀x∈i,x.2.2.2.length<=100000)->(∀f∈o,f.ok)->(∀n∈v,c7 n)->∀p,db i o v=some p->(∀f∈p.1,f.ok)/\(∀n∈p.2,c7 n)/\p.1.length<=o.length+i.length
 | [],o,v,h,ho,hv,p,e=>by
   cases e;exact ⟨ho,hv,by simp⟩
 | x::r,o,v,h,ho,hv,p,e=>by
   have j:∀y∈r,y.2.2.2.length<=100000:=λ y hy=>h y (by simp [hy]);rw [db] at e;split at e
   ·split at e
    ·obtain ⟨a,b,c⟩:=ala r _ _ j (λ f d=>by
      rcases zbt.1 d with d | d
      ·exact ho f d
      rw [zbw.1 d]
      exact azm _ (h x (by simp))) hv p e
     refine ⟨a,b,?_⟩;simp only [zae,zam,zac] at c |-;omega
    cases e
   split at e
   ·obtain ⟨a,b,c⟩:=ala r _ _ j ho (λ n g=>by
     rcases zbt.1 g with g | g
     ·exact hv n g
     rw [zbw.1 g]
     exact bev _) p e
    refine ⟨a,b,?_⟩;simp only [zam];omega
   obtain ⟨a,b,c⟩:=ala r _ _ j ho hv p e;refine ⟨a,b,?_⟩;simp only [zam];omega
theorem ape {v:List Int} (h:∀n∈v,c7 n) (i:Nat):c7 (v.getD i 0):=by
 rw [zak];cases e:v[i]? with
 | none=>decide
 | some x=>exact h x (zbr e)
theorem axp (b:List UInt8) (n:b.length<=100000):(∀f∈(cz b).1,f.ok)/\(cz b).1.length<=b.length/\((cz b).2=true->(cz b).1≠[]):=by
 unfold cz;split
 ·rename_i x e;have hx:=ay e x (by simp);split
  ·rename_i h j;have m:=ny j;have g:=ay j;cases hs:db h [] [] with
   | none=>exact ⟨by simp [aeo],by simp [aeo],by simp [aeo]⟩
   | some p=>
     obtain ⟨o,v⟩:=p;obtain ⟨a,b,c⟩:=ala h [] [] (λ y hy=>by have:=g y hy; omega) (by simp) (by simp) _ hs;simp only [zac] at c;simp only [aeo];split
     ·exact ⟨by simp,by simp,by simp⟩
     rename_i l;have k:o.length≠0:=λ e=>l (.inl (zbl.1 e));refine ⟨λ f g=>?_,?_,λ _ e=>k ?_⟩
     ·obtain ⟨i,hi,rfl⟩:=zbc.1 g;have d:=acd a (List.mem_range.1 hi);exact ⟨d.1,d.2.1,d.2.2.1,ape b _,ape b _,ape b _,ape b _⟩
     ·simp only [ae0,zai,List.length_range];omega
     have:=congrArg zbi e;simpa [ae0] using this
  exact ⟨by simp,by simp,by simp⟩
 exact ⟨by simp,by simp,by simp⟩
theorem bc2 (a b:List UInt8) (d:a.length<=1000000000000) (e:b.length<=1000000000000):a8 P0 47 [sb a,sb b] [] (bl (decide (a=b))) []:=by
 refine akt.t func47 ?_;have c:=g7
 push_cast [akt,ep,di,aol,zac]
 by_cases h:a=b
 ·subst h; simp
 rw [decide_eq_false h,beq_eq_false_iff_ne.2 h]
theorem a8t (l:List UInt8):jt (rm l):=λ x hx=>by
 obtain ⟨c,_,rfl⟩:=zbc.1 hx;exact trivial
def rdT (b:List UInt8):Option (List Fea):=if b=[] then some [] else if (cz b).2=true/\s6 (cz b).1=b then some (cz b).1 else none
def rdR:Option (List Fea)->AV
 | none=>.tup [.nils 6 m9,int .i64 10]
 | some []=>.tup [.nils 6 m9,int .i64 0]
 | some (f::l)=>.tup [.own 1000000 0 0 (f::l).length,int .i64 0]
def rdO:Option (List Fea)->List Ob
 | none=>[]
 | some []=>[]
 | some (f::l)=>[kg (f::l)]
theorem ah8 {m:List Fea} (a:m≠[]):rdR (some m)=.tup [.own 1000000 0 0 m.length,int .i64 0]/\rdO (some m)=[kg m]:=by
 cases m with
 | nil=>exact absurd rfl a
 | cons=>exact ⟨rfl,rfl⟩
theorem a04 (b:List UInt8) (u:b.length<=100000):a8 P0 22 [sb b] [] (rdR (rdT b)) (rdO (rdT b)):=by
 refine abl.t func22 ?_;have s:=g7;by_cases j:b=[]
 ·subst j
  push_cast [abl,List.map_nil,zac]
  rw [show rdT []=some [] from if_pos rfl];exact ⟨rfl,rfl⟩
 have v:b.length≠0:=λ e=>j (zbl.1 e);have m:((b.length:Int) == 0)=false:=beq_eq_false_iff_ne.2 (by omega);obtain ⟨p,q,a⟩:=axp b u;have n:=biz b (by omega);have h:rdT b=if (cz b).2=true/\s6 (cz b).1=b then some (cz b).1 else none:=if_neg j
 rw [h];generalize cz b=T at *;obtain ⟨l,ok⟩:=T;cases ok with
 | false=>
   push_cast [abl,m,zac]
   refine a6 n rfl trivial ?_
   push_cast [zo,zp]
   exact ⟨rfl,rfl⟩
 | true=>
   have g:=a2c l (by simp only at q; omega) p;have f:=as5 p;simp only at f q a;have k:=bc2 (s6 l) b (by omega) (by omega)
   push_cast [abl,m,zac]
   refine a6 n rfl trivial ?_
   push_cast [zo,zp]
   refine jr ?_;refine b5 (as':=[o4 l]) rfl ?_;refine lq g rfl trivial trivial (by intro o r; rw [zbw.1 r]; exact a8t _) ?_;generalize s6 l=c at *
   push_cast
   refine j9 ?_;refine b5 (as':=[sb c,sb b]) rfl ?_;refine a6 k rfl trivial ?_;have a:=a trivial;by_cases d:c=b
   ·have i:decide (c=b)=true:=decide_eq_true d;rw [if_pos d,(ah8 a).1,(ah8 a).2]
    push_cast [i]
    done
   have i:decide (c=b)=false:=decide_eq_false d;rw [if_neg d]
   push_cast [i,rdR,rdO,m9]
   done

def abm:Mk P0 f19:={ x:=_ }
def cr (L:List Pt) (t:Til) (n:Int):Fea:=⟨n,bv t (s7 n.toNat t.r.toNat),((mem L n.toNat).length:Nat),abp (mem L n.toNat),loV (mem L n.toNat),hiV (mem L n.toNat)⟩
def ar (L:List Pt) (t:Til):List Fea:=(bg L t).map (cr L t)
def oq (L:List Pt) (t:Til):List UInt8:=if bg L t=[] then [] else s6 (ar L t)
variable {L:List Pt} {t:Til}
theorem aqq {n:Int} (h:n∈bg L t):∃p∈L,n=((p.w t.r.toNat:Nat):Int):=by
 unfold bg at h;obtain ⟨i,hi,e⟩:=List.mem_iff_getElem.1 (List.mem_filter.1 h).1;exact ats (i:=i) (by rw [zbu hi,e])
variable {p:Pt}
theorem at9 (b:p∈L) {r:Nat} (a:r<13):mem L (p.w r)≠[]:=λ e=>by
 have:p∈mem L (p.w r):=List.mem_filter.2 ⟨b,akk.2 ⟨r,a,rfl⟩⟩;rw [e] at this;simp at this
theorem a06:∀{M:List Pt},(∀p∈M,p.ok)->-2147483648*(M.length:Int)<=abp M/\abp M<=2147483648*(M.length:Int)
 | [],_=>by simp [abp]
 | p::M,h=>by
   have a:=a06 (M:=M) λ q b=>h q (by simp [b]);have c:=(h p (by simp)).2.2;simp only [abp,zbb,List.sum_cons,zam] at a |-;omega
theorem a1i {z:Ei} (b:tis t=true) (g:qg z t.r.toNat):∀p∈dm t z,(-1099511627776<=p.1/\p.1<=1099511627776)/\(-1099511627776<=p.2/\p.2<=1099511627776):=λ p f=>by
 have a:=aav b;have c:0<=t.z/\t.z<=18/\0<=t.r/\t.r<=12/\0<=t.x/\t.x<2^t.z.toNat/\0<=t.y/\t.y<2^t.z.toNat:=by simpa [tis] using b
 have d:=xk ⟨c.1,c.2.1⟩;obtain ⟨q,h,rfl⟩:=zbc.1 f;obtain ⟨i,hi,rfl⟩:=zbc.1 h;have:=g i (List.mem_range.1 hi);have e:aev t=2^(30-t.z).toNat:=rfl;rw [Int.add_mul,Int.one_mul,Int.add_mul,Int.one_mul] at a;simp only [shP,e];generalize t.x*2^(30-t.z).toNat=A at *;generalize t.y*2^(30-t.z).toNat=B at *;omega
theorem a80 (C:L.length<50) (f:∀p∈L,p.ok) (e:tis t=true) (j:p∈L):(cr L t ((p.w t.r.toNat:Nat):Int)).ok:=by
 have h:0<=t.z/\t.z<=18/\0<=t.r/\t.r<=12/\0<=t.x/\t.x<2^t.z.toNat/\0<=t.y/\t.y<2^t.z.toNat:=by simpa [tis] using e
 have c:=f p j;have o:=Pt.w_res c (show t.r.toNat<13 by omega);have B:=mf p.x p.y t.r.toNat c.2.1.1 c.2.1.2 (by omega);obtain ⟨D,c2,k,E⟩:=nh t.r.toNat _ B;have n:s7 (p.w t.r.toNat) t.r.toNat=g8 p.x p.y t.r.toNat:=by rw [show p.w t.r.toNat=y6 t.r.toNat (g8 p.x p.y t.r.toNat) from rfl,k]
 have m:=aq7 p.x p.y t.r.toNat (by omega);have A:qg (g8 p.x p.y t.r.toNat) t.r.toNat:=rz (by omega) c.2.1 m;have i:∀q∈mem L (p.w t.r.toNat),q.ok:=λ q g=>f q (List.mem_filter.1 g).1;have s:(mem L (p.w t.r.toNat)).length<=L.length:=List.length_filter_le ..;have d:=at9 j (r:=t.r.toNat) (by omega);have H:=a06 i;obtain ⟨⟨a,l,F⟩,_⟩:=a78 d;obtain ⟨⟨b,u,I⟩,_⟩:=a8n d;have G:=(i a l).2.2;have v:=(i b u).2.2;unfold cr;rw [zaf,n];refine ⟨⟨by simp only; omega,by simp only; omega⟩,?_,λ q g=>?_,?_,?_,?_,?_⟩
 ·have:=avm t h.2.2.2.1 (g8 p.x p.y t.r.toNat);simp only;omega
 ·have:=bao t ⟨h.1,h.2.1⟩ _ (a1i e A) q g;unfold c7;omega
 ·unfold c7; simp only; omega
 ·unfold c7; simp only; omega
 ·unfold c7; simp only; omega
 unfold c7; simp only; omega
theorem aoa (g:L.length<50) (b:∀p∈L,p.ok) (a:tis t=true):∀f∈ar L t,f.ok:=λ f c=>by
 obtain ⟨n,d,rfl⟩:=zbc.1 c;obtain ⟨p,e,rfl⟩:=aqq d;exact a80 g b a e
theorem afb (L:List Pt) (t:Til):(bg L t).length<=L.length:=Nat.le_trans (List.length_filter_le ..) (aho L _)
theorem atj (L:List Pt) (W:L.length<50) (l:∀p∈L,p.ok) (t:Til) (ht:t.ok) (j:tis t=true) (R:cn t=false)
 (d:(bg L t=[]/\res=.tup [.nils 1 (.v (.int .u8 0)),int .i64 0]/\ro=[.abs (sT L)])\/(bg L t≠[]/\res=.tup [.own 1000001 0 0 (oq L t).length,int .i64 0]/\ro=[.abs (sT L),rm (oq L t)])) :
 a8 P0 19 [t.v,.ptr 1000000 0 0] [.abs (sT L)] res ro:=by
 refine abm.t func19 ?_;have Z:=g7;have hc:=a97 L W l t ht j R;have h3:=afb L t;have P:=λ n h=>aqq (L:=L) (t:=t) (n:=n) h;have F:((0:Int) != 0)=false:=rfl;have E:=aoa W l j;have I:oq L t=if bg L t=[] then [] else s6 (ar L t):=rfl
 rw [I] at d;have G:ar L t=(bg L t).map (cr L t):=rfl;rw [G] at E d;clear I G;generalize bg L t=S at *;simp only [abm,Til.v,push_cast,↓reduceIte,reduceCtorEq,zE,zA,zD];refine b5 (as':=[t.v,.ptr 1000000 0 0]) rfl ?_;refine a6 hc rfl ⟨rfl,trivial⟩ ?_;by_cases K:S=[]
 ·subst K;have T:((0:Int) == 0)=true:=rfl;rcases d with ⟨_,rfl,rfl⟩ | ⟨h,_⟩
  ·simp only [j7,F,T,push_cast,↓reduceIte,zE,zA,zS,zL,zD,zM]
  exact absurd rfl h
 have h2:S.length≠0:=λ e=>K (zbl.1 e);have n0:((S.length:Int) == 0)=false:=beq_eq_false_iff_ne.2 (by omega);simp only [j7,F,n0,push_cast,↓reduceIte,zE,zA,zS,zL,zD,zM];rcases d with ⟨h,_⟩ | ⟨_,rfl,rfl⟩
 ·exact absurd h K
 rw [if_neg K];have Y:∀i,((S.take i).map (cr L t)).length<=50:=λ i=>by simp; omega
 refine b9 [(29,false),(28,false),(27,false),(8,false),(2,false),(1,false)] (λ vs pos u=>∃i:Nat,i<=S.length/\pos=[.abs (sT L)] /\
  (i=0/\vs=[int .i64 i,int .i64 S.length,.own 2000000 0 0 S.length,.nils 6 m9,.ptr 2000001 0 0,.ptr 1000000 0 0]/\u=[j7 S,.box [int .i64 t.z,int .i64 t.x,int .i64 t.y,int .i64 t.r]] \/
   0<i/\vs=[int .i64 i,int .i64 S.length,.own 2000000 0 0 S.length,.own 2000001 0 0 i,.ptr 2000002 0 0,.ptr 1000000 0 0]/\u=[j7 S,kg ((S.take i).map (cr L t)),.box [int .i64 t.z,int .i64 t.x,int .i64 t.y,int .i64 t.r]]))
  (λ vs _ _=>match vs with | .r (.v (.int _ a))::_=>(S.length-a).toNat | _=>0) rfl ?_ ?_
 ·simp only [m9,j7,push_cast,↓reduceIte,reduceCtorEq,zB,zE,zA,zS,zL,zD];exact ⟨0,by omega,by simp⟩
 rintro vs pos u ⟨i,hi,rfl,hc⟩;have V:IntKind.i64.wrap ((i:Int)+1)=i+1:=a5 (by omega)
 have f:i<S.length->∃p∈L,S[i]?=some ((p.w t.r.toNat:Nat):Int):=λ h=>by
  obtain ⟨p,D,e⟩:=P S[i] (zbp h);exact ⟨p,D,by rw [zbu h,e]⟩
 have hr:0<=t.z/\t.z<=18/\0<=t.r/\t.r<=12/\0<=t.x/\t.x<2^t.z.toNat/\0<=t.y/\t.y<2^t.z.toNat:=by simpa [tis] using j
 rcases hc with ⟨X,rfl,rfl⟩ | ⟨X,rfl,rfl⟩
 ·subst X;have dS:decide ((0:Int)<(S.length:Int))=true:=decide_eq_true (by omega);obtain ⟨p,D,C⟩:=f (by omega);have b:=l p D;have J:=mf p.x p.y t.r.toNat b.2.1.1 b.2.1.2 (by omega);obtain ⟨c1,c2,M,c4⟩:=nh t.r.toNat _ J;have O:s7 (p.w t.r.toNat) t.r.toNat=g8 p.x p.y t.r.toNat:=by rw [show p.w t.r.toNat=y6 t.r.toNat (g8 p.x p.y t.r.toNat) from rfl,M]
  have U:=rz (by omega) b.2.1 (aq7 p.x p.y t.r.toNat (by omega));have g:=axk t j R (g8 p.x p.y t.r.toNat) J U;have m:=azy L (p.w t.r.toNat) (at9 D (by omega));have s:cr L t ((p.w t.r.toNat:Nat):Int)=⟨(p.w t.r.toNat:Nat),bv t (g8 p.x p.y t.r.toNat),((mem L (p.w t.r.toNat)).length:Nat),abp (mem L (p.w t.r.toNat)),loV (mem L (p.w t.r.toNat)),hiV (mem L (p.w t.r.toNat))⟩:=by unfold cr; rw [zaf,O]
  have q:p.w t.r.toNat=y6 t.r.toNat (g8 p.x p.y t.r.toNat):=rfl;rw [<- q] at g;have k:=λ z=>aj C z;have c:=λ z=>y7 C z;simp only [zas] at k c V
  have o:(S.take 1).map (cr L t)=[cr L t ((p.w t.r.toNat:Nat):Int)]:=by
   rw [zbe,C]; rfl
  generalize bv t (g8 p.x p.y t.r.toNat)=Q at *;have A:zaj Q.length (Q.map ptR)=Q.map ptR:=m5 Q;simp only [m9,j7,dS,c,push_cast,↓reduceIte,zE,zA,zL];refine sO ?_;refine a6 m rfl ⟨rfl,trivial⟩ ?_;simp only [push_cast,↓reduceIte,zE,zA,zL,zD];refine i5 (as':=[t.v,uw (p.w t.r.toNat:Nat)]) rfl ?_;refine d5 g rfl trivial ?_;simp only [i7,pnt,A,V,push_cast,↓reduceIte,zB,zE,zA,zS,zL,zD,zM];refine And.intro (by simp) (And.intro (by omega) (And.intro (by kernel_rfl) ⟨⟨1,by omega,.inr ⟨by omega,rfl,?_⟩⟩,by omega⟩));rw [o,s]; rfl
 simp only [m9,j7,kg,push_cast,↓reduceIte,zE,zA];refine b7 (λ H=>?_) (λ H=>?_)
 ·have H:=of_decide_eq_true H;obtain ⟨p,D,C⟩:=f (by omega);have b:=l p D;have J:=mf p.x p.y t.r.toNat b.2.1.1 b.2.1.2 (by omega);obtain ⟨c1,c2,M,c4⟩:=nh t.r.toNat _ J;have O:s7 (p.w t.r.toNat) t.r.toNat=g8 p.x p.y t.r.toNat:=by rw [show p.w t.r.toNat=y6 t.r.toNat (g8 p.x p.y t.r.toNat) from rfl,M]
  have U:=rz (by omega) b.2.1 (aq7 p.x p.y t.r.toNat (by omega));have g:=axk t j R (g8 p.x p.y t.r.toNat) J U;have m:=azy L (p.w t.r.toNat) (at9 D (by omega));have s:cr L t ((p.w t.r.toNat:Nat):Int)=⟨(p.w t.r.toNat:Nat),bv t (g8 p.x p.y t.r.toNat),((mem L (p.w t.r.toNat)).length:Nat),abp (mem L (p.w t.r.toNat)),loV (mem L (p.w t.r.toNat)),hiV (mem L (p.w t.r.toNat))⟩:=by unfold cr; rw [zaf,O]
  have q:p.w t.r.toNat=y6 t.r.toNat (g8 p.x p.y t.r.toNat):=rfl;rw [<- q] at g;have k:=λ z=>aj C z;have c:=λ z=>y7 C z;generalize bv t (g8 p.x p.y t.r.toNat)=Q at *;have A:zaj Q.length (Q.map ptR)=Q.map ptR:=m5 Q;have h1:=Y i;have B:zaj i (((S.take i).map (cr L t)).map Fea.rv)=((S.take i).map (cr L t)).map Fea.rv:=zal (by simp; omega)
  have o:(S.take (i+1)).map (cr L t)=(S.take i).map (cr L t)++[cr L t ((p.w t.r.toNat:Nat):Int)]:=by
   rw [zbe,C,zbj]; rfl
  simp only [c,push_cast,↓reduceIte,zE,zA,zL];refine sO ?_;refine a6 m rfl ⟨rfl,trivial⟩ ?_;simp only [push_cast,↓reduceIte,zE,zA,zL,zD];refine i5 (as':=[t.v,uw (p.w t.r.toNat:Nat)]) rfl ?_;refine d5 g rfl trivial ?_;simp only [i7,pnt,A,B,V,push_cast,↓reduceIte,zB,zE,zA,zS,zL,zD,zM];refine And.intro (by simp) (And.intro ⟨by omega,by omega⟩ (And.intro (by kernel_rfl) ⟨⟨i+1,by omega,.inr ⟨by omega,rfl,?_⟩⟩,by omega⟩));rw [o,s,zbj]; rfl
 have H:=of_decide_eq_false H;obtain rfl:i=S.length:=by omega
 rw [zba];have N:=a2c (S.map (cr L t)) (by simp; omega) E;have B:zaj S.length ((S.map (cr L t)).map Fea.rv)=(S.map (cr L t)).map Fea.rv:=zal (by simp);simp only [B,push_cast,↓reduceIte,zE];refine j9 ?_;refine b5 (as':=[o4 (S.map (cr L t))]) rfl ?_;refine a6 N rfl trivial ?_;simp only [push_cast,↓reduceIte,zB,zE,zA,zS,zL,zD,zM]

theorem ba6 {os:List Ob} (h:SS L os) (p:Pt) (a:p.ok) (i:has L p.k=false) (e:L.length<2000):∃b,SS (L++[p]) b/\a8 P0 36 [.ptr 1000000 0 0,p.av] os (bl true) (b++[]):=by
 obtain ⟨es,c,ns,l,cc,h,rfl⟩:=h;have d:=a2l.1 i;obtain ⟨j,g,f,m⟩:=bdx h.pm d;refine ⟨_,⟨_,_,_,_,_,h.put a d (by omega),rfl⟩,?_⟩;rw [zbo];refine ba7 h a d e (bla h p.k d) j ⟨⟨0,0,0,0⟩,f _⟩ ?_;rw [g,bjx h.pm];exact .inr ⟨rfl,by omega⟩
theorem bgi (L:List Pt) (p:Pt) (b:p.ok) (c:has L p.k=false) (a:L.length<2000):a8 P0 36 [.ptr 1000000 0 0,p.av] [.abs (sT L)] (bl true) [.abs (sT (L++[p]))]:=
 bbi (F:=SF L) (F':=SF (L++[p])) rfl (λ os h=>ba6 h p b c a) rfl (by simp) (by simp [bj,ft])
theorem bd1 (l:List Pt) (w:l.length<2000) (n:∀p∈l,p.ok) (c:(l.map (·.k)).Nodup):a8 P0 18 [.r (pts l)] [] (.ptr 1000000 0 0) [.abs (sT l)]:=by
 refine apv.t func18 ?_
 push_cast [apv,pts,zac,zai]
 refine a6 bd4 rfl trivial ?_
 push_cast [zai]
 refine b9 [(3,false),(7,false),(8,false),(9,false)] (λ vs pos a=>∃(i:Nat),i<=l.length/\vs=[.ptr 2000000 0 0,.r (pts l),int .i64 l.length,int .i64 i]/\pos=[]/\a=[.abs (sT (l.take i))])
  (λ vs _ _=>match vs with | [_,_,_,.r (.v (.int _ j))]=>(l.length-j).toNat | _=>0) rfl ?_ ?_
 ·push_cast [pts]
  exact ⟨0,by omega,by simp⟩
 rintro vs pos a ⟨i,hi,rfl,rfl,rfl⟩
 push_cast [pts,zai]
 refine b7 (λ h=>?_) (λ h=>?_)
 ·have s:i<l.length:=by simpa using h
  obtain ⟨p,d⟩:∃p,l[i]?=some p:=⟨l[i],by simp [s]⟩
  have m:IntKind.i64.wrap ((i:Int)+1)=(i:Int)+1:=a5 ⟨by omega,by omega⟩;have f:=zbr d;have b:l.take (i+1)=l.take i++[p]:=by rw [zbe,d]; rfl
  have g:has (l.take i) p.k=false:=a2l.2 λ q u e=>by
   have o:((l.take (i+1)).map (·.k)).Nodup:=c.sublist ((List.take_sublist _ _).map _);rw [b,zbj,List.nodup_append] at o;exact o.2.2 q.k (List.mem_map_of_mem u) p.k (by simp) e
  push_cast [a1o d,zai]
  refine And.intro ⟨by omega,by omega⟩ ?_;refine b5 (as':=[.ptr 1000000 0 0,p.av]) rfl ?_;refine a6 (bgi (l.take i) p (n p f) g (by simp; omega)) rfl ⟨rfl,trivial⟩ ?_
  push_cast [m]
  refine ⟨⟨i+1,by omega,rfl,by rw [b]⟩,by omega⟩
 have s:¬i<l.length:=by simpa using h
 push_cast
 rw [zal (by omega)]

def ac1:Mk P0 f11:={ x:=_ }
def awP:Pt:=⟨1,500,600,7⟩
def awT:Til:=⟨0,0,0,0⟩
theorem bc4:bk [awP] 0=[((awP.w 0:Nat):Int)]:=by
 unfold bk zx aj3 asI;rw [show dd (List.map (λ q:Pt=>q.w 0) [awP])=[awP.w 0] from rfl];exact List.mergeSort_singleton _
theorem bnu:tw awT ((awP.w 0:Nat):Int)=true:=by decide +kernel
theorem az3:bg [awP] awT=[((awP.w 0:Nat):Int)]:=by
 unfold bg;rw [show awT.r.toNat=0 from rfl,bc4,List.filter_cons,if_pos bnu]
 rfl
theorem a9p:bg [] awT=[]:=by
 unfold bg;rw [show bk [] awT.r.toNat=[] from zby (by have:=aho [] awT.r.toNat; simpa using this)]
 rfl
def awF:Fea:=cr [awP] awT ((awP.w 0:Nat):Int)
theorem bh8:oq [awP] awT=s6 [awF]:=by
 unfold oq ar;rw [az3,if_neg (by simp)]
 rfl
def awB (o:Option (List Fea)):Bool:=match o with | some [f]=>f.s == 7&&f.c == 1 | _=>false
theorem bh7:awB (rdT (s6 [awF]))=true:=by decide +kernel
theorem a9q:(s6 [awF]).length<=10000:=by decide +kernel
theorem beg:∀p∈[awP],p.ok:=λ p a=>by rw [zbw.1 a]; decide
theorem a9o:awT.ok:=by unfold Til.ok c7; decide
theorem awr:a8 P0 11 [] [] (bl true) []:=by
 refine ac1.t func11 ?_;have n:=bd1 [awP] (by simp) beg (by simp);have b:=atj [awP] (by simp) beg awT a9o (by decide) (by decide +kernel) (.inr ⟨by rw [az3]; simp,rfl,rfl⟩);rw [bh8] at b;have d:=a04 (s6 [awF]) (by have:=a9q; omega);have q:=atj [] (by simp) (by simp) awT a9o (by decide) (by decide +kernel) (.inl ⟨a9p,rfl,rfl⟩);have a:=bh7;have j:=a9q;generalize s6 [awF]=B at *
 obtain ⟨f,e,m,o⟩:∃f,rdT B=some [f]/\f.s=7/\f.c=1:=by
  cases h:rdT B with
  | none=>rw [h] at a; cases a
  | some l=>
    rw [h] at a;rcases l with _ | ⟨f,_ | ⟨g,r⟩⟩
    ·cases a
    ·simp only [awB,zbs,beq_iff_eq] at a;exact ⟨f,rfl,a⟩
    cases a
 rw [e] at d;have k:((0:Int) == 0)=true:=rfl;have p:((1:Int) == 1)=true:=rfl;have i:((7:Int) == 7)=true:=rfl;simp only [ac1,push_cast,↓reduceIte,zE,zA,zD];refine And.intro (by simp) ?_;refine j9 ?_;refine b5 (as':=[.r (pts [awP])]) rfl ?_;refine a6 n rfl trivial ?_;simp only [push_cast,↓reduceIte,zE,zA,zS,zL,zD,zM];refine b5 (as':=[awT.v,.ptr 1000000 0 0]) rfl ?_;refine a6 b rfl ⟨rfl,trivial⟩ ?_;simp only [push_cast,↓reduceIte,zE,zA,zS,zL,zD,zM];refine j9 ?_;refine b5 (as':=[sb B]) rfl ?_;refine a6 d rfl trivial ?_;simp only [rdR,rdO,push_cast,↓reduceIte,zE,zA,zS,zL,zD,zM];refine a6 bd4 rfl trivial ?_
 simp only [push_cast,↓reduceIte,zE,zA,zS,zL,zD,zM];refine b5 (as':=[awT.v,.ptr 1000000 0 0]) rfl ?_;refine a6 q rfl ⟨rfl,trivial⟩ ?_;simp only [k,p,i,m,o,Fea.rv,zab,push_cast,↓reduceIte,zE,zA,zL,zD];omega

end
end Go.Ev

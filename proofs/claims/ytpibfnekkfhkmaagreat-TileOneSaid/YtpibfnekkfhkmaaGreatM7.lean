import Derived.Test.YtpibfnekkfhkmaaGreatChecked
import Derived.Test.YtpibfnekkfhkmaaGreatM6
open Nat renaming reduceBEq → zB, reduceEqDiff → zE, reduceAdd → zA, reduceSub → zS, reduceLT → zL, reduceLeDiff → zD, reduceMul → zM
open Go.Proofs.Tryz renaming prog → P0
open Go.Proofs.Tryz
open List renaming length_map → zaa, length_nil → zab, length_cons → zaf, mem_cons → zai, length_append → zak, getD_eq_getElem?_getD → zal, mem_of_getElem? → zam, mem_singleton → zan, mem_append → zao, take_add_one → zas, mem_cons_of_mem → zat, map_nil → zau, append_nil → zay, take → zaz, mem_map → zbc, map_append → zbd, pairwise_cons → zbe, take_of_length_le → zbg, nil_append → zbh, filter_append → zbi, append_assoc → zbj, map_set → zbk, mem_range → zbl, all_eq_true → zbm, getElem?_eq_getElem → zbq, length_take → zbx, take_length → zby, cons_append → zbz, mem_filter → zca, replicate → zcb, length_reverse → zcf, take_succ_eq_append_getElem → zcg
open Nat renaming zero_add → zac, le_refl → zar, pow_le_pow_right → zbs
open Int renaming reduceToNat → zad, toNat_zero → zae, toNat_natCast → zah, toNat_natCast_add_one → zaj, neg_mul → zap, toNat → zaq, add_mul → zav, mul_le_mul_of_nonneg_left → zaw, mul_add → zba, le_of_lt → zbb, mul_nonneg → zbn, le_total → zbo, mul_comm → zbp, mul_le_mul_of_nonneg_right → zbt, mul_lt_mul_of_pos_right → zbu, mul_le_mul_of_nonpos_left → zbv, natAbs_ediv_le_natAbs → zbw, le_ediv_iff_mul_le → zcc, ediv_lt_iff_lt_mul → zcd, tmod_eq_emod_of_nonneg → zce
open BitVec renaming ofInt → zax
open Bool renaming false_eq_true → zbf, not_false → zbr
namespace Go.Ev
set_option maxRecDepth 100000
noncomputable section
open Go
set_option linter.unusedSectionVars false
set_option linter.unnecessarySimpa false
set_option linter.unusedSimpArgs false
set_option linter.unusedVariables false
def adk:Mk P0 f165:={ x:=_ }
theorem ah3:d5 165 2 adk:=c8 func165
def aak:Mk P0 f235:={ x:=_ }
theorem ae8:d5 235 1 aak:=c8 func235
def aaz:Mk P0 f202:={ x:=_ }
theorem afl:d5 202 2 aaz:=c8 func202
def aaj:Mk P0 f203:={ x:=_ }
theorem ae7:d5 203 3 aaj:=c8 func203
def aai:Mk P0 f167:={ x:=_ }
theorem ae6:d5 167 2 aai:=c8 func167
def ae9:Mk P0 f118:={ x:=_ }
theorem ai8:d5 118 3 ae9:=c8 func118
def pv (x y:Int):AV:=.r (pnt x y)
def bxv (lx ly ux uy:Int):AV:=.r (.agg [.v (.int .i64 lx),.v (.int .i64 ly),.v (.int .i64 ux),.v (.int .i64 uy)])
def aiw (x:Int):Prop:=-2147483648≤x∧x≤2147483648
def ibx (lx ly ux uy i:Int):List AV:=if i=0 then [int .i64 0,int .i64 0,int .i64 0,int .i64 0] else if i=1 then [int .i64 (3*lx),int .i64 0,int .i64 (3*ux),int .i64 0] else [int .i64 (3*lx),int .i64 (3*ly),int .i64 (3*ux),int .i64 (3*uy)]
theorem bi8 (lx ly ux uy:Int):ibx lx ly ux uy 0=[int .i64 0,int .i64 0,int .i64 0,int .i64 0]:=rfl
theorem bi7 (lx ly ux uy:Int):ibx lx ly ux uy 1=[int .i64 (3*lx),int .i64 0,int .i64 (3*ux),int .i64 0]:=rfl
theorem bi6 (lx ly ux uy:Int):ibx lx ly ux uy 2=[int .i64 (3*lx),int .i64 (3*ly),int .i64 (3*ux),int .i64 (3*uy)]:=rfl
theorem a16 (lx ly ux uy:Int) (h1:aiw lx) (h2:aiw ly) (h3:aiw ux) (h4:aiw uy) (hx:lx≤ux) (hy:ly≤uy):a8 P0 165 [pv lx ly,pv ux uy] [] (.tup [bxv (3*lx) (3*ly) (3*ux) (3*uy),bl true]) []:=by
 refine ah3 rfl (by decide) ?_
 push_cast [adk,pv,pnt,bxv,zab]
 unfold aiw at h1 h2 h3 h4
 refine run_loop [(8,false),(6,false),(4,false),(3,false),(2,false)] (fun vs pos los=>∃i:Int,(i=0∨i=1∨i=2)∧vs=[int .i64 i,.ptr 2000000 0 0,.ptr 2000001 0 0,.ptr 2000002 0 0,.ptr 2000003 0 0]∧pos=[] ∧
  los=[.box (ibx lx ly ux uy i),.box [int .i64 0,int .i64 0,int .i64 0,int .i64 0],.box [int .i64 ux,int .i64 uy],.box [int .i64 lx,int .i64 ly]])
  (fun vs _ _=>match vs with | .r (.v (.int _ j))::_=>(2-j).toNat | _=>0) rfl ?_ ?_
 ·push_cast
  exact ⟨0,by omega,rfl,rfl⟩
 ·rintro vs pos los ⟨i,rfl | rfl | rfl,rfl,rfl,rfl⟩
  ·have g1:decide (lx < -2147483648)=false:=by simp; omega
   have g2:decide (ux>2147483648)=false:=by simp; omega
   have g3:decide (ux<lx)=false:=by simp; omega
   have g0:decide ((0:Int)<2)=true:=rfl;have e1:IntKind.i64.wrap (3*lx)=3*lx:=a7 (by omega);have e2:IntKind.i64.wrap (3*ux)=3*ux:=a7 (by omega);have e3:IntKind.i64.wrap (0+1)=1:=by decide
   push_cast [bi8,g0,g1,g2,g3,e1,e2,e3,zad]
   repeat refine And.intro (by first | decide | kernel_rfl) ?_
   exact ⟨⟨1,by omega,rfl,rfl⟩,by decide⟩
  ·have g1:decide (ly < -2147483648)=false:=by simp; omega
   have g2:decide (uy>2147483648)=false:=by simp; omega
   have g3:decide (uy<ly)=false:=by simp; omega
   have g0:decide ((1:Int)<2)=true:=rfl;have e1:IntKind.i64.wrap (3*ly)=3*ly:=a7 (by omega);have e2:IntKind.i64.wrap (3*uy)=3*uy:=a7 (by omega);have e3:IntKind.i64.wrap (1+1)=2:=by decide
   push_cast [bi7,g0,g1,g2,g3,e1,e2,e3,zad]
   repeat refine And.intro (by first | decide | kernel_rfl) ?_
   exact ⟨⟨2,by omega,rfl,rfl⟩,by decide⟩
  ·have g0:decide ((2:Int)<2)=false:=rfl
   push_cast [bi6,g0,zad]
theorem a59 (lx ly ux uy:Int):a8 P0 235 [bxv lx ly ux uy] [] (.own 1000000 0 0 4) [.row 2 (pnt 0 0) true true [pnt lx ly,pnt ux ly,pnt ux uy,pnt lx uy]]:=by
 refine ae8 rfl (by decide) ?_
 push_cast [aak,pnt,bxv,zab,zad]
 decide
theorem yp (z:Ei) (r:Nat):((xo z r 6).length:Int)=6:=by rw [aw7]; rfl
theorem aek (z:Ei) (r n i:Nat) (h:i<n) (d:RV):(xo z r n).getD i d=.agg [.v (.int .i64 (hx z r i)),.v (.int .i64 (hy z r i))]:=by
 rw [zal];simp [xo,h,a19,pnt]
def aab (z:Ei) (r:Nat):Prop:=∀i,i<6→(-4294967296≤hx z r i∧hx z r i≤4294967296)∧(-4294967296≤hy z r i∧hy z r i≤4294967296)
abbrev ae1 (z:Ei) (r:Nat):AV:=.r (.sl 2 (xo z r 6))
theorem a9t (z:Ei) (r:Nat) (lx ly ux uy:Int) (hb:aab z r):a8 P0 202 [bxv lx ly ux uy,ae1 z r] [] (bl (decide (wg z r lx ly ux uy))) []:=by
 refine afl rfl (by decide) ?_;simp only [aaz,bxv,push_cast,↓reduceIte,reduceCtorEq,zB,zE,zA,zS,zL,zD,zM]
 refine run_loop [(10,false),(2,false),(1,false)] (fun vs pos los=>∃i:Int,(i=0∨(i=1∧¬(mxN (hx z r) 6<lx∨ux<mnN (hx z r) 6))∨(i=2∧¬wg z r lx ly ux uy))∧vs=[int .i64 i,.ptr 2000000 0 0,ae1 z r]∧pos=[] ∧
  los=[.box [int .i64 lx,int .i64 ly,int .i64 ux,int .i64 uy]])
  (fun vs _ _=>match vs with | .r (.v (.int _ j))::_=>(2-j).toNat | _=>0) rfl ?_ ?_
 ·simp only [push_cast,↓reduceIte,reduceCtorEq,zB,zE,zA,zS,zL,zD,zM];exact ⟨0,by omega,rfl⟩
 ·rintro vs pos los ⟨i,hi | hi | hi,rfl,rfl,rfl⟩
  ·obtain rfl:=hi;have g0:decide ((0:Int)<2)=true:=rfl;simp only [g0,yp,aek z r 6 0 (by decide),zad,push_cast,↓reduceIte,reduceCtorEq,zB,zE,zA,zS,zL,zD,zM]
   repeat refine And.intro (by first | decide | kernel_rfl) ?_
   refine run_loop [(25,false),(24,false),(23,false),(6,false),(7,false),(5,false),(2,false),(1,false),(10,false)] (fun vs pos los=>∃k:Nat,k≤6∧vs=[int .i64 k,int .i64 6,ae1 z r,int .i64 (mnN (hx z r) k),int .i64 (mxN (hx z r) k),int .i64 0,.ptr 2000000 0 0,ae1 z r,int .i64 0]∧pos=[] ∧
    los=[.box [int .i64 lx,int .i64 ly,int .i64 ux,int .i64 uy]])
    (fun vs _ _=>match vs with | .r (.v (.int _ j))::_=>(6-j).toNat | _=>0) rfl ?_ ?_
   ·simp only [push_cast,↓reduceIte,reduceCtorEq,zB,zE,zA,zS,zL,zD,zM];exact ⟨0,by omega,rfl⟩
   ·rintro vs pos los ⟨k,hk,rfl,rfl,rfl⟩;simp only [push_cast,↓reduceIte,reduceCtorEq,zB,zE,zA,zS,zL,zD,zM];refine c7 (fun h=>?_) (fun h=>?_)
    ·have hi:k<6:=by simp at h; omega
     simp only [yp,zah,aek z r 6 k hi,zad,push_cast,↓reduceIte,reduceCtorEq,zB,zE,zA,zS,zL,zD,zM];rw [show IntKind.i64.wrap ((k:Int)+1)=((k+1:Nat):Int) by rw [a7 (by omega)]; omega];refine ⟨by omega,by decide,by decide,by kernel_rfl,⟨k+1,by omega,rfl⟩,by omega⟩
    ·have hi:k=6:=by simp at h; omega
     subst hi;simp only [zad,push_cast,↓reduceIte,reduceCtorEq,zB,zE,zA,zS,zL,zD,zM]
     repeat refine And.intro (by first | decide | exact fun _=>by decide | (simp +contextual; done) | kernel_rfl) ?_
     refine c7 (fun h=>?_) (fun h=>?_)
     ·have hbe:mxN (hx z r) 6<lx∨ux<mnN (hx z r) 6:=by simpa using h
      simp only [push_cast,↓reduceIte,reduceCtorEq,zB,zE,zA,zS,zL,zD,zM];rw [decide_eq_true (show wg z r lx ly ux uy from .inl hbe)]
     ·have hne:¬(mxN (hx z r) 6<lx∨ux<mnN (hx z r) 6):=by
       have:=h;simp at this;omega
      simp only [push_cast,↓reduceIte,reduceCtorEq,zB,zE,zA,zS,zL,zD,zM];refine ⟨⟨1,.inr (.inl ⟨rfl,hne⟩),rfl⟩,by decide⟩
  ·obtain ⟨rfl,hn⟩:=hi;have g0:decide ((1:Int)<2)=true:=rfl;simp only [g0,yp,aek z r 6 0 (by decide),zad,push_cast,↓reduceIte,reduceCtorEq,zB,zE,zA,zS,zL,zD,zM]
   repeat refine And.intro (by first | decide | kernel_rfl) ?_
   refine run_loop [(25,false),(24,false),(23,false),(6,false),(7,false),(5,false),(2,false),(1,false),(10,false)] (fun vs pos los=>∃k:Nat,k≤6∧vs=[int .i64 k,int .i64 6,ae1 z r,int .i64 (mnN (hy z r) k),int .i64 (mxN (hy z r) k),int .i64 1,.ptr 2000000 0 0,ae1 z r,int .i64 1]∧pos=[] ∧
    los=[.box [int .i64 lx,int .i64 ly,int .i64 ux,int .i64 uy]])
    (fun vs _ _=>match vs with | .r (.v (.int _ j))::_=>(6-j).toNat | _=>0) rfl ?_ ?_
   ·simp only [push_cast,↓reduceIte,reduceCtorEq,zB,zE,zA,zS,zL,zD,zM];exact ⟨0,by omega,rfl⟩
   ·rintro vs pos los ⟨k,hk,rfl,rfl,rfl⟩;simp only [push_cast,↓reduceIte,reduceCtorEq,zB,zE,zA,zS,zL,zD,zM];refine c7 (fun h=>?_) (fun h=>?_)
    ·have hi:k<6:=by simp at h; omega
     simp only [yp,zah,aek z r 6 k hi,zad,push_cast,↓reduceIte,reduceCtorEq,zB,zE,zA,zS,zL,zD,zM];rw [show IntKind.i64.wrap ((k:Int)+1)=((k+1:Nat):Int) by rw [a7 (by omega)]; omega];refine ⟨by omega,by decide,by decide,by kernel_rfl,⟨k+1,by omega,rfl⟩,by omega⟩
    ·have hi:k=6:=by simp at h; omega
     subst hi;simp only [zad,push_cast,↓reduceIte,reduceCtorEq,zB,zE,zA,zS,zL,zD,zM]
     repeat refine And.intro (by first | decide | exact fun _=>by decide | (simp +contextual; done) | kernel_rfl) ?_
     refine c7 (fun h=>?_) (fun h=>?_)
     ·have hbe:mxN (hy z r) 6<ly∨uy<mnN (hy z r) 6:=by simpa using h
      simp only [push_cast,↓reduceIte,reduceCtorEq,zB,zE,zA,zS,zL,zD,zM];rw [decide_eq_true (show wg z r lx ly ux uy from .inr hbe)]
     ·have hne:¬(mxN (hy z r) 6<ly∨uy<mnN (hy z r) 6):=by
       have:=h;simp at this;omega
      simp only [push_cast,↓reduceIte,reduceCtorEq,zB,zE,zA,zS,zL,zD,zM];refine ⟨⟨2,.inr (.inr ⟨rfl,fun hc=>hc.elim hn hne⟩),rfl⟩,by decide⟩
  ·obtain ⟨rfl,hn⟩:=hi;have g0:decide ((2:Int)<2)=false:=rfl;simp only [g0,push_cast,↓reduceIte,reduceCtorEq,zB,zE,zA,zS,zL,zD,zM];rw [decide_eq_false hn]
def lu (x:Int):Prop:=-4294967296≤x∧x≤4294967296
def apb (x:Int):Prop:=-268435456≤x∧x≤268435456
def crP (p0 p1 q0 q1 x y:Int):Int:=(q0-p0)*(y-p1)-(q1-p1)*(x-p0)
theorem bg5 {p0 p1 q0 q1 x y:Int} (h0:lu p0) (h1:lu p1) (d0:apb (q0-p0)) (d1:apb (q1-p1)) (hx:lu x) (hy:lu y) :
  IntKind.i64.wrap (IntKind.i64.wrap (IntKind.i64.wrap (q0-p0)*IntKind.i64.wrap (y-p1))-IntKind.i64.wrap (IntKind.i64.wrap (q1-p1)*IntKind.i64.wrap (x-p0)))=crP p0 p1 q0 q1 x y:=by
 unfold lu at h0 h1 hx hy;unfold apb at d0 d1;have m1:=gc (n:=268435456) (m:=8589934592) d0 (y:=y-p1) (by omega);have m2:=gc (n:=268435456) (m:=8589934592) d1 (y:=x-p0) (by omega);unfold crP;rw [show IntKind.i64.wrap (q0-p0)=q0-p0 from a7 (by omega),show IntKind.i64.wrap (q1-p1)=q1-p1 from a7 (by omega),show IntKind.i64.wrap (y-p1)=y-p1 from a7 (by omega),show IntKind.i64.wrap (x-p0)=x-p0 from a7 (by omega)];generalize (q0-p0)*(y-p1)=A at *;generalize (q1-p1)*(x-p0)=B at *;rw [show IntKind.i64.wrap A=A from a7 (by omega),show IntKind.i64.wrap B=B from a7 (by omega),a7 (by omega)]
def cnx (lx ux:Int) (i:Nat):Int:=if i=0∨i=3 then lx else ux
def cny (ly uy:Int) (i:Nat):Int:=if i=0∨i=1 then ly else uy
def cnL (lx ly ux uy:Int):List RV:=[pnt lx ly,pnt ux ly,pnt ux uy,pnt lx uy]
theorem bg8 (lx ly ux uy:Int) (i:Nat) (h:i<4) (d:RV):(cnL lx ly ux uy).getD i d=.agg [.v (.int .i64 (cnx lx ux i)),.v (.int .i64 (cny ly uy i))]:=by
 rcases (show i=0∨i=1∨i=2∨i=3 by omega) with rfl | rfl | rfl | rfl<;>rfl
def ass (p0 p1 q0 q1 lx ly ux uy:Int):Prop:=∀i,i<4→crP p0 p1 q0 q1 (cnx lx ux i) (cny ly uy i)<0
instance (p0 p1 q0 q1 lx ly ux uy:Int):Decidable (ass p0 p1 q0 q1 lx ly ux uy):=inferInstanceAs (Decidable (∀i,i<4→_))
theorem a4z (lx ly ux uy p0 p1 q0 q1:Int) (h1:lu lx) (h2:lu ly) (h3:lu ux) (h4:lu uy) (h5:lu p0) (h6:lu p1) (d0:apb (q0-p0)) (d1:apb (q1-p1)) :
  a8 P0 203 [bxv lx ly ux uy,pv p0 p1,pv q0 q1] [] (bl (decide (ass p0 p1 q0 q1 lx ly ux uy))) []:=by
 refine ae7 rfl (by decide) ?_
 push_cast [aaj,bxv,pv,pnt,zab]
 refine b9 (as':=[bxv lx ly ux uy]) rfl ?_;refine a5 (a59 lx ly ux uy) rfl trivial ?_
 push_cast [pnt]
 refine run_loop [(12,false),(11,false),(10,false),(5,false),(4,false)] (fun vs pos los=>∃i:Nat,i≤4∧(∀j,j<i→crP p0 p1 q0 q1 (cnx lx ux j) (cny ly uy j)<0)∧vs=[int .i64 i,int .i64 4,.own 2000000 0 0 4,.ptr 2000001 0 0,.ptr 2000002 0 0]∧pos=[] ∧
  los=[.row 2 (.agg [.v (.int .i64 0),.v (.int .i64 0)]) true true (cnL lx ly ux uy),.box [int .i64 q0,int .i64 q1],.box [int .i64 p0,int .i64 p1]])
  (fun vs _ _=>match vs with | .r (.v (.int _ j))::_=>(4-j).toNat | _=>0) rfl ?_ ?_
 ·push_cast
  exact ⟨0,by omega,fun j hj=>by omega,rfl,rfl⟩
 ·rintro vs pos los ⟨i,i4,hj,rfl,rfl,rfl⟩
  push_cast
  refine c7 (fun h=>?_) (fun h=>?_)
  ·have hi:i<4:=by simp at h; omega
   have hcx:lu (cnx lx ux i):=by unfold cnx; split<;>assumption
   have hcy:lu (cny ly uy i):=by unfold cny; split<;>assumption
   push_cast [zah,zac,bg8 lx ly ux uy i hi,bg5 h5 h6 d0 d1 hcx hcy,zad]
   refine ⟨by omega,?_⟩
   repeat refine And.intro (by first | decide | omega | kernel_rfl) ?_
   refine c7 (fun h'=>?_) (fun h'=>?_)
   ·have hc:¬crP p0 p1 q0 q1 (cnx lx ux i) (cny ly uy i)<0:=by simp at h'; omega
    push_cast
    rw [decide_eq_false (show ¬ass p0 p1 q0 q1 lx ly ux uy from fun c=>hc (c i hi))]
   ·have hc:crP p0 p1 q0 q1 (cnx lx ux i) (cny ly uy i)<0:=by simp at h'; omega
    push_cast
    rw [show IntKind.i64.wrap ((i:Int)+1)=((i+1:Nat):Int) by rw [a7 (by omega)]; omega];refine ⟨⟨i+1,by omega,fun j hj'=>?_,rfl⟩,by omega⟩;by_cases hji:j=i
    ·subst hji; exact hc
    ·exact hj j (by omega)
  ·have hi:i=4:=by simp at h; omega
   subst hi
   push_cast
   rw [decide_eq_true (show ass p0 p1 q0 q1 lx ly ux uy from hj)]
theorem a8g (z:Ei) (r i j:Nat) (lx ly ux uy:Int) (hj:j=(i+1)%6):ass (hx z r i) (hy z r i) (hx z r j) (hy z r j) lx ly ux uy↔ais z r lx ly ux uy i:=by
 subst hj
 have e:∀x y,crP (hx z r i) (hy z r i) (hx z r ((i+1)%6)) (hy z r ((i+1)%6)) x y=crs z r i ((i+1)%6) x y:=fun x y=>by
  simp only [crP,crs];rw [show hx z r ((i+1)%6)-hx z r i=kx r ((i+1)%6)-kx r i by rw [aw,aw]; omega,show hy z r ((i+1)%6)-hy z r i=ky r ((i+1)%6)-ky r i by rw [au,au]; omega]
 simp only [ass,ais,e];constructor
 ·intro h;exact ⟨h 0 (by decide),h 1 (by decide),h 2 (by decide),h 3 (by decide)⟩
 ·rintro ⟨h0,h1,h2,h3⟩ k hk;rcases (show k=0∨k=1∨k=2∨k=3 by omega) with rfl | rfl | rfl | rfl
  ·exact h0
  ·exact h1
  ·exact h2
  ·exact h3
theorem a2u (z:Ei) (r:Nat) (hr:r≤12) (lx ly ux uy:Int) (hb:aab z r) (h1:lu lx) (h2:lu ly) (h3:lu ux) (h4:lu uy):a8 P0 167 [bxv lx ly ux uy,ae1 z r] [] (bl (aq z r lx ly ux uy)) []:=by
 refine ae6 rfl (by decide) ?_
 push_cast [aai,bxv,zab]
 refine b9 (as':=[bxv lx ly ux uy,ae1 z r]) rfl ?_;refine a5 (a9t z r lx ly ux uy hb) rfl trivial ?_;by_cases hbe:wg z r lx ly ux uy
 ·rw [decide_eq_true hbe]
  push_cast
  rw [a6m hbe]
 ·rw [decide_eq_false hbe]
  push_cast [yp]
  refine run_loop [(12,false),(11,false),(10,false),(2,false),(1,false)] (fun vs pos los=>∃i:Nat,i≤6∧(∀j,j<i→¬ais z r lx ly ux uy j)∧vs=[int .i64 i,int .i64 6,ae1 z r,.ptr 2000000 0 0,ae1 z r]∧pos=[] ∧
   los=[.box [int .i64 lx,int .i64 ly,int .i64 ux,int .i64 uy]])
   (fun vs _ _=>match vs with | .r (.v (.int _ j))::_=>(6-j).toNat | _=>0) rfl ?_ ?_
  ·push_cast
   exact ⟨0,by omega,fun j hj=>by omega,rfl⟩
  ·rintro vs pos los ⟨i,i6,hj,rfl,rfl,rfl⟩
   push_cast
   refine c7 (fun h=>?_) (fun h=>?_)
   ·have hi:i<6:=by simp at h; omega
    obtain ⟨J,hJ⟩:∃J,J=(i+1)%6:=⟨_,rfl⟩
    have hJ6:J<6:=by omega
    have hm:(IntKind.i64.wrap ((i:Int)+1)).tmod 6=(J:Int):=by
     rw [a7 (by omega),zce (by omega)]; omega
    push_cast [yp,hm,zah,aek z r 6 i hi,aek z r 6 J hJ6,zad]
    refine ⟨by omega,?_⟩
    repeat refine And.intro (by first | decide | omega | kernel_rfl) ?_
    refine u6 (as':=[bxv lx ly ux uy,pv (hx z r i) (hy z r i),pv (hx z r J) (hy z r J)]) rfl ?_;have k1:=awy r i hr hi;have k2:=awy r J hr hJ6;refine d9 (a4z lx ly ux uy _ _ _ _ h1 h2 h3 h4 (hb i hi).1 (hb i hi).2 (by rw [aw,aw]; unfold apb; omega) (by rw [au,au]; unfold apb; omega)) rfl trivial ?_
    push_cast
    repeat refine And.intro (by first | decide | omega | kernel_rfl) ?_
    have hio:=a8g z r i J lx ly ux uy hJ;refine c7 (fun h'=>?_) (fun h'=>?_)
    ·have ho:ais z r lx ly ux uy i:=hio.1 (by simpa using h')
     push_cast
     have:aq z r lx ly ux uy=false:=by
      simp only [aq,hbe,decide_false,zbr,Bool.true_and];rw [List.all_eq_false];exact ⟨i,zbl.2 hi,by simp [ho]⟩
     rw [this]
    ·have ho:¬ais z r lx ly ux uy i:=fun c=>by
      have:=hio.2 c;simp [this] at h'
     push_cast
     rw [show IntKind.i64.wrap ((i:Int)+1)=((i+1:Nat):Int) by rw [a7 (by omega)]; omega];refine ⟨⟨i+1,by omega,fun j hj'=>?_,rfl⟩,by omega⟩;by_cases hji:j=i
     ·subst hji; exact ho
     ·exact hj j (by omega)
   ·have hi:i=6:=by simp at h; omega
    subst hi
    push_cast
    have:aq z r lx ly ux uy=true:=by
     simp only [aq,hbe,decide_false,zbr,Bool.true_and,zbm,zbl,Bool.not_eq_true',decide_eq_false_iff_not];exact hj
    rw [this]
theorem a3l (z:Ei) (r:Nat):zaz 6 (xo z r 6)=xo z r 6:=rfl
attribute [push_cast high] a3l
theorem a2f (z:Ei) (r:Int) (h0:0≤r) (hk:okc r.toNat z) (lx ly ux uy:Int) (hb:aab z r.toNat) (h1:0≤lx∧lx≤ux∧ux≤1073741824) (h2:0≤ly∧ly≤uy∧uy≤1073741824) :
  a8 P0 118 [cel r z,pv lx ly,pv ux uy] [] (bl (aq z r.toNat (3*lx) (3*ly) (3*ux) (3*uy))) []:=by
 refine ai8 rfl (by decide) ?_
 push_cast [ae9,cel,pv,pnt,zab]
 refine b9 (as':=[pv lx ly,pv ux uy]) rfl ?_;refine a5 (a16 lx ly ux uy (by unfold aiw; omega) (by unfold aiw; omega) (by unfold aiw; omega) (by unfold aiw; omega) h1.2.1 h2.2.1) rfl trivial ?_
 push_cast [bxv]
 refine b9 (as':=[cel r z]) rfl ?_;refine a5 (bjc r z h0 hk) rfl trivial ?_
 push_cast
 have hr:r≤12:=by have:=hk.1; omega
 refine b9 (as':=[z.v,int .i64 r]) rfl ?_;refine a5 (bat z r hk.2.1 ⟨h0,hr⟩) rfl trivial ?_
 push_cast [pnt]
 refine m0 ?_
 push_cast
 refine b9 (as':=[bxv (3*lx) (3*ly) (3*ux) (3*uy),ae1 z r.toNat]) rfl ?_;refine a5 (a2u z r.toNat hk.1 _ _ _ _ hb (by unfold lu; omega) (by unfold lu; omega) (by unfold lu; omega) (by unfold lu; omega)) rfl trivial ?_
 push_cast

def ahc:Mk P0 f67:={ x:=_ }
theorem aj5:d5 67 1 ahc:=c8 func67
def ya:Mk P0 f68:={ x:=_ }
theorem ado:d5 68 2 ya:=c8 func68
def afr:Mk P0 f72:={ x:=_ }
theorem aj1:d5 72 2 afr:=c8 func72
theorem yg {z:Int} (h:0≤z∧z≤18):4096≤(2:Int)^(30-z).toNat∧(2:Int)^(30-z).toNat≤1073741824:=by
 have h1:2^(30-z).toNat≤2^30:=zbs (by decide) (by omega);have h2:2^12≤2^(30-z).toNat:=zbs (by decide) (by omega);have h3:((2^(30-z).toNat:Nat):Int)=(2:Int)^(30-z).toNat:=by simp
 omega
theorem ahh {t:Til} (h:tis t=true):(0≤t.x*2^(30-t.z).toNat∧(t.x+1)*2^(30-t.z).toNat≤1073741824)∧(0≤t.y*2^(30-t.z).toNat∧(t.y+1)*2^(30-t.z).toNat≤1073741824):=by
 simp only [tis,decide_eq_true_eq] at h;obtain ⟨z0,z1,r0,r1,x0,x1,y0,y1⟩:=h;have hs:=yg ⟨z0,z1⟩
 have hpq:(2:Int)^t.z.toNat*2^(30-t.z).toNat=1073741824:=by
  rw [← Int.pow_add,show t.z.toNat+(30-t.z).toNat=30 by omega]; rfl
 have hx:(t.x+1)*2^(30-t.z).toNat≤1073741824:=by rw [← hpq]; exact zbt (by omega) (by omega)
 have hy:(t.y+1)*2^(30-t.z).toNat≤1073741824:=by rw [← hpq]; exact zbt (by omega) (by omega)
 exact ⟨⟨zbn x0 (by omega),hx⟩,zbn y0 (by omega),hy⟩
theorem axb (t:Til) (h:tis t=true):a8 P0 67 [t.v] [] (bxv (t.x*2^(30-t.z).toNat) (t.y*2^(30-t.z).toNat) ((t.x+1)*2^(30-t.z).toNat) ((t.y+1)*2^(30-t.z).toNat)) []:=by
 refine aj5 rfl (by decide) ?_;have hi:=ahh h;have hs:=yg (show 0≤t.z∧t.z≤18 by simp only [tis,decide_eq_true_eq] at h; omega)
 push_cast [ahc,Til.v,bxv,zab]
 refine b9 (as':=[t.v]) rfl ?_;refine a5 (awc t h) rfl trivial ?_
 push_cast
 rw [zav,Int.one_mul,zav,Int.one_mul] at *;rw [a7 (by omega),a7 (by omega)]
theorem arn (z:Ei) (r:Int) (h0:0≤r) (hk:okc r.toNat z) (lx ly ux uy:Int) (hb:aab z r.toNat) (h1:0≤lx∧lx≤ux∧ux≤1073741824) (h2:0≤ly∧ly≤uy∧uy≤1073741824) :
  a8 P0 68 [bxv lx ly ux uy,cel r z] [] (bl (aq z r.toNat (3*lx) (3*ly) (3*ux) (3*uy))) []:=by
 refine ado rfl (by decide) ?_
 push_cast [ya,cel,bxv,zab]
 refine b9 (as':=[cel r z,pv lx ly,pv ux uy]) rfl ?_;refine a5 (a2f z r h0 hk lx ly ux uy hb h1 h2) rfl trivial ?_
 push_cast
theorem a0r (t:Til) (h:tis t=true) (z:Ei) (r:Int) (h0:0≤r) (hk:okc r.toNat z) (hb:aab z r.toNat) :
  a8 P0 72 [t.v,cel r z] [] (bl (tch z r.toNat (2^(30-t.z).toNat) t.x t.y)) []:=by
 refine aj1 rfl (by decide) ?_;have hi:=ahh h;have hz:0≤t.z∧t.z≤18:=by simp only [tis,decide_eq_true_eq] at h; omega
 have hs:=yg hz
 push_cast [afr,Til.v,cel,zab]
 refine u6 (as':=[t.v]) rfl ?_;refine d9 (a14 t) rfl trivial ?_;rw [h]
 push_cast
 refine u6 (as':=[t.v]) rfl ?_;refine d9 (axb t h) rfl trivial ?_
 push_cast [bxv]
 refine u6 (as':=[bxv (t.x*2^(30-t.z).toNat) (t.y*2^(30-t.z).toNat) ((t.x+1)*2^(30-t.z).toNat) ((t.y+1)*2^(30-t.z).toNat),cel r z]) rfl ?_;refine d9 (arn z r h0 hk _ _ _ _ hb ⟨hi.1.1,by rw [zav]; omega,hi.1.2⟩ ⟨hi.2.1,by rw [zav]; omega,hi.2.2⟩) rfl trivial ?_
 push_cast
 exact ⟨by kernel_rfl,rfl⟩

def sg (x:Int):Int:=if x<0 then -1 else if 0<x then 1 else 0


theorem xz (r:Nat) (z:Ei) (h:okc r z):as4 (ao r z)=true∧ei (ao r z)=r∧ah (ao r z) r=z∧ao r z<18446744073709551616:=by
 refine ⟨aug h,(an7 r z h).2,?_,asb r z h⟩;rw [a28 r r z h (zar _),Nat.sub_self]
 rfl
theorem a3k {t:Til} (h:tis t=true):t.ok:=by
 have hb:0≤t.z∧t.z≤18∧0≤t.r∧t.r≤12∧0≤t.x∧t.x<2^t.z.toNat∧0≤t.y∧t.y<2^t.z.toNat:=by simpa [tis] using h
 have hp:=p2 t.z.toNat (by omega);unfold Til.ok in64;omega
theorem ad0 {x y:Int} {z:Ei} {r:Nat} (hr:r≤12) (hw:inW x y) (h:sp x y z r):aab z r:=fun i hi=>by
 have h1:=h.1;have h2:=awy r i hr hi;unfold inW at hw;rw [aw,au];omega
structure TilF (x y:Int) (t:Til) (Z:Ei) (s last:Int):Prop where
 b:0≤t.z∧t.z≤18∧0≤t.r∧t.r≤12
 w:inW x y
 k:okc t.r.toNat Z
 l:sp x y Z t.r.toNat
 h:aab Z t.r.toNat
 s1:4096≤s∧s≤1073741824
 l1:0≤last∧last≤262143
 same:bjr Z t.r.toNat s last=baf Z t.r.toNat s last
 own:(t.x,t.y)∈baf Z t.r.toNat s last

theorem arb (f:Nat→Int):∀k,0<k→∃j,j<k∧mnN f k=f j
 | 0,h=>by omega
 | 1,_=>⟨0,by omega,by rw [mnN,mnN]; omega⟩
 | k+2,_=>by
  obtain ⟨j,hj,e⟩:=arb f (k+1) (by omega);rw [mnN];rcases zbo (mnN f (k+1)) (f (k+1)) with h | h
  ·exact ⟨j,by omega,by omega⟩
  ·exact ⟨k+1,by omega,by omega⟩
theorem aq9 (f:Nat→Int):∀k,0<k→∃j,j<k∧mxN f k=f j
 | 0,h=>by omega
 | 1,_=>⟨0,by omega,by rw [mxN,mxN]; omega⟩
 | k+2,_=>by
  obtain ⟨j,hj,e⟩:=aq9 f (k+1) (by omega);rw [mxN];rcases zbo (mxN f (k+1)) (f (k+1)) with h | h
  ·exact ⟨k+1,by omega,by omega⟩
  ·exact ⟨j,by omega,by omega⟩
section
variable (X Y A B C:Nat→Int)
def sd (i:Nat) (x y:Int):Int:=A i*y-B i*x-C i
def Tch (lx ly ux uy:Int):Prop:=¬(mxN X 6<lx∨ux<mnN X 6)∧¬(mxN Y 6<ly∨uy<mnN Y 6) ∧
 ∀i,i<6→¬(sd A B C i lx ly<0∧sd A B C i ux ly<0∧sd A B C i ux uy<0∧sd A B C i lx uy<0)
variable {X Y A B C}
theorem bey (hc:∀i,i<6→∀j,j<6→0≤sd A B C i (X j) (Y j)) {ly uy:Int} (hy:ly≤uy) (h:¬(mxN Y 6<ly∨uy<mnN Y 6)) :
  ∃P Q W:Int,0<W∧(∀i,i<6→0≤A i*Q-B i*P-C i*W)∧mnN X 6*W≤P∧P≤mxN X 6*W∧ly*W≤Q∧Q≤uy*W:=by
 obtain ⟨j1,h1,e1⟩:=arb Y 6 (by decide);obtain ⟨j2,h2,e2⟩:=aq9 Y 6 (by decide);have a1:=ara X 6 j1 h1;have a2:=ara X 6 j2 h2;have b1:=aq8 X 6 j1 h1;have b2:=aq8 X 6 j2 h2;by_cases c1:ly≤Y j1
 ·refine ⟨X j1,Y j1,1,by omega,fun i hi=>?_,by omega,by omega,by omega,by omega⟩;have:=hc i hi j1 h1;unfold sd at this;omega
 ·by_cases c2:Y j2≤uy
  ·refine ⟨X j2,Y j2,1,by omega,fun i hi=>?_,by omega,by omega,by omega,by omega⟩;have:=hc i hi j2 h2;unfold sd at this;omega
  ·obtain ⟨s,hs⟩:∃s,Y j2-ly=s:=⟨_,rfl⟩
   obtain ⟨t,ht⟩:∃t,ly-Y j1=t:=⟨_,rfl⟩
   have s0:0≤s:=by omega
   have t0:0≤t:=by omega
   refine ⟨s*X j1+t*X j2,ly*(s+t),s+t,by omega,fun i hi=>?_,?_,?_,by omega,?_⟩
   ·have g1:=zbn s0 (hc i hi j1 h1);have g2:=zbn t0 (hc i hi j2 h2);unfold sd at g1 g2
    have e:A i*(ly*(s+t))-B i*(s*X j1+t*X j2)-C i*(s+t)=s*(A i*Y j1-B i*X j1-C i)+t*(A i*Y j2-B i*X j2-C i):=by
     rw [show Y j1=ly-t by omega,show Y j2=ly+s by omega];simp only [zba,Int.mul_sub,zav,Int.sub_mul];simp only [zbp,Int.mul_left_comm,Int.mul_assoc];omega
    rw [e];omega
   ·have g1:=zaw a1 s0;have g2:=zaw a2 t0;rw [zba,zbp _ s,zbp _ t];omega
   ·have g1:=zaw b1 s0;have g2:=zaw b2 t0;rw [zba,zbp _ s,zbp _ t];omega
   ·exact zbt hy (by omega)
theorem axl {a k ly uy W Q:Int} (hW:0<W) (h1:ly*W≤Q) (h2:Q≤uy*W) (n1:a*ly+k<0) (n2:a*uy+k<0):a*Q+k*W<0:=by
 have m1:=zbu n1 hW;have m2:=zbu n2 hW;rw [Int.zero_mul,zav,Int.mul_assoc] at m1 m2;rcases zbo 0 a with h | h
 ·have:=zaw h2 h;omega
 ·have:=zbv h h1;omega
theorem atw (hc:∀i,i<6→∀j,j<6→0≤sd A B C i (X j) (Y j)) {lx ly m ux uy:Int} (h1:lx≤m) (h2:m≤ux) (hy:ly≤uy) (hT:Tch X Y A B C lx ly ux uy) :
  Tch X Y A B C lx ly m uy∨Tch X Y A B C m ly ux uy:=by
 obtain ⟨t1,t2,t3⟩:=hT;obtain ⟨P,Q,W,hW,hf,x1,x2,y1,y2⟩:=bey hc hy t2;apply Classical.byContradiction;intro hn;rw [not_or] at hn;obtain ⟨n1,n2⟩:=hn
 have hl:m*W<P:=by
  unfold Tch at n1;by_cases c:mxN X 6<lx∨m<mnN X 6
  ·have c':m<mnN X 6:=by omega
   have:=zbu c' hW;omega
  ·have:∃i,i<6∧(sd A B C i lx ly<0∧sd A B C i m ly<0∧sd A B C i m uy<0∧sd A B C i lx uy<0):=by
    apply Classical.byContradiction;intro hh;exact n1 ⟨c,t2,fun i hi hq=>hh ⟨i,hi,hq⟩⟩
   obtain ⟨i,hi,q1,q2,q3,q4⟩:=this;have ho:=t3 i hi;have hfi:=hf i hi;unfold sd at *
   have hB:B i<0:=by
    rcases Int.lt_or_le (B i) 0 with hb | hb
    ·exact hb
    ·have:=zaw h2 hb;omega
   rcases Int.lt_or_le (m*W) P with hp | hp
   ·exact hp
   ·have e1:=zbv (zbb hB) hp;have e2:=axl (a:=A i) (k:=- B i*m-C i) hW y1 y2 (by rw [zap]; omega) (by rw [zap]; omega);rw [Int.sub_mul,zap,zap,Int.mul_assoc] at e2;omega
 have hr:P<m*W:=by
  unfold Tch at n2;by_cases c:mxN X 6<m∨ux<mnN X 6
  ·have c':mxN X 6<m:=by omega
   have:=zbu c' hW;omega
  ·have:∃i,i<6∧(sd A B C i m ly<0∧sd A B C i ux ly<0∧sd A B C i ux uy<0∧sd A B C i m uy<0):=by
    apply Classical.byContradiction;intro hh;exact n2 ⟨c,t2,fun i hi hq=>hh ⟨i,hi,hq⟩⟩
   obtain ⟨i,hi,q1,q2,q3,q4⟩:=this;have ho:=t3 i hi;have hfi:=hf i hi;unfold sd at *
   have hB:0<B i:=by
    rcases Int.lt_or_le 0 (B i) with hb | hb
    ·exact hb
    ·have:=zbv hb h1;omega
   rcases Int.lt_or_le P (m*W) with hp | hp
   ·exact hp
   ·have e1:=zaw hp (zbb hB);have e2:=axl (a:=A i) (k:=- B i*m-C i) hW y1 y2 (by rw [zap]; omega) (by rw [zap]; omega);rw [Int.sub_mul,zap,zap,Int.mul_assoc] at e2;omega
 omega
end

def eA (r i:Nat):Int:=kx r ((i+1)%6)-kx r i
def eB (r i:Nat):Int:=ky r ((i+1)%6)-ky r i
def eC (z:Ei) (r i:Nat):Int:=eA r i*hy z r i-eB r i*hx z r i
theorem bdp:∀r,r<13→∀i,i<6→∀j,j<6→0≤eA r i*(ky r j-ky r i)-eB r i*(kx r j-kx r i):=by decide +kernel
theorem a6b {z:Ei} {r:Nat} (hr:r<13):∀i,i<6→∀j,j<6→0≤sd (eA r) (eB r) (eC z r) i (hx z r j) (hy z r j):=fun i hi j hj=>by
 have:=bdp r hr i hi j hj;unfold sd eC;rw [aw z r j,aw z r i,au z r j,au z r i,zba,zba,zba,zba];rw [Int.mul_sub,Int.mul_sub] at this;omega
theorem yd {z:Ei} {r:Nat} {lx ly ux uy:Int}:aq z r lx ly ux uy=true↔Tch (hx z r) (hy z r) (eA r) (eB r) (eC z r) lx ly ux uy:=by
 unfold aq Tch;rw [Bool.and_eq_true,Bool.not_eq_true',decide_eq_false_iff_not,zbm];unfold wg;simp only [Bool.not_eq_true',decide_eq_false_iff_not,zbl,ais,a57];unfold sd eC eA eB;rw [not_or,and_assoc]
theorem aol {X Y A B C:Nat→Int} {lx ly ux uy:Int}:Tch X Y A B C lx ly ux uy↔Tch Y X (fun i=>- B i) (fun i=>- A i) C ly lx uy ux:=by
 unfold Tch sd;simp only [zap];constructor
 ·rintro ⟨h1,h2,h3⟩;exact ⟨h2,h1,fun i hi hq=>h3 i hi (by omega)⟩
 ·rintro ⟨h1,h2,h3⟩;exact ⟨h2,h1,fun i hi hq=>h3 i hi (by omega)⟩
theorem bbd {z:Ei} {r:Nat} (hr:r<13) {lx ly m ux uy:Int} (h1:lx≤m) (h2:m≤ux) (hy:ly≤uy) (h:aq z r lx ly ux uy=true):aq z r lx ly m uy=true∨aq z r m ly ux uy=true:=by
 rw [yd] at h ⊢;rw [yd];exact atw (a6b hr) h1 h2 hy h
theorem bbc {z:Ei} {r:Nat} (hr:r<13) {lx ly m ux uy:Int} (h1:ly≤m) (h2:m≤uy) (hx':lx≤ux) (h:aq z r lx ly ux uy=true):aq z r lx ly ux m=true∨aq z r lx m ux uy=true:=by
 have hc:∀i,i<6→∀j,j<6→0≤sd (fun i=>- eB r i) (fun i=>- eA r i) (eC z r) i (hy z r j) (hx z r j):=fun i hi j hj=>by
  have:=a6b (z:=z) hr i hi j hj;unfold sd at *;rw [zap,zap];omega
 rcases atw hc h1 h2 hx' (aol.1 (yd.1 h)) with h | h
 ·exact .inl (yd.2 (aol.2 h))
 ·exact .inr (yd.2 (aol.2 h))

def ae0:Mk P0 f120:={ x:=_ }
theorem ai0:d5 120 2 ae0:=c8 func120
def ajp:Mk P0 f70:={ x:=_ }
theorem am5:d5 70 1 ajp:=c8 func70
theorem bja (w i:Nat) (hw:w<18446744073709551616) (hi:1≤i∧i≤12):a8 P0 120 [uw w,int .i64 i] [] (uw (dgt w i)) []:=by
 refine ai0 rfl (by decide) ?_;have w1:IntKind.i64.wrap ((i:Int)-1)=(i:Int)-1:=a7 (by omega);have w2:IntKind.i64.wrap (3*((i:Int)-1))=3*((i:Int)-1):=a7 (by omega);have w3:IntKind.i64.wrap (33-3*((i:Int)-1))=36-3*(i:Int):=by rw [a7 (by omega)]; omega
 have w4:IntKind.u64.wrap (36-3*(i:Int))=36-3*(i:Int):=by simp [IntKind.wrap,IntKind.bits,IntKind.signed]; omega
 have e5:IntKind.u64.wrap (zax IntKind.u64.bits ((w:Int).fdiv (2^min (36-3*(i:Int)).toNat IntKind.u64.bits)) &&& zax IntKind.u64.bits 7).toNat=(dgt w i:Int):=by
  rw [amf (k:=36-3*i) (n:=3) (by omega) (by omega) (by decide) (by decide) hw];rw [show 2^(36-3*i)=8^(12-i) by rw [show (8:Nat)=2^3 from rfl,← Nat.pow_mul]; congr 1; omega]
  rfl
 push_cast [ae0,uw,w1,w2,w3,w4,e5,zab]
 omega
set_option maxHeartbeats 1000000 in
theorem as8 (w:Nat) (hw:w<18446744073709551616) (hB:as4 w=true):a8 P0 70 [uw w] [] (.tup [cel (ei w) (ah w (ei w)),int .i64 0]) []:=by
 refine am5 rfl (by decide) ?_;obtain ⟨m1,m2,m3⟩:=(awz w).1 hB
 have e1:(w:Int).fdiv (2^min (zaq 60) IntKind.u64.bits)=1:=by
  have:(w:Int).fdiv (2^min (zaq 60) IntKind.u64.bits)=((w/1152921504606846976:Nat):Int):=be5 (k:=60) rfl (by decide);rw [this,m1]; rfl
 have e2:IntKind.i64.wrap (IntKind.u64.wrap (zax IntKind.u64.bits ((w:Int).fdiv (2^min (zaq 56) IntKind.u64.bits)) &&& zax IntKind.u64.bits 15).toNat)=(ei w:Int):=by
  rw [amf (k:=56) (n:=4) rfl (by decide) (by decide) (by decide) hw];exact a7 (by omega)
 have e3:IntKind.i64.wrap (IntKind.i64.wrap (IntKind.u64.wrap (zax IntKind.u64.bits ((w:Int).fdiv (2^min (zaq 46) IntKind.u64.bits)) &&& zax IntKind.u64.bits 1023).toNat)-512)=(ah w 0).a:=by
  rw [amf (k:=46) (n:=10) rfl (by decide) (by decide) (by decide) hw,show ∀x:Nat,x<1024→IntKind.i64.wrap (IntKind.i64.wrap (x:Int)-512)=x-512 from fun x hx=>by rw [a7 (x:=(x:Int)) (by omega),a7 (by omega)]]
  ·rfl
  ·omega
 have e4:IntKind.i64.wrap (IntKind.i64.wrap (IntKind.u64.wrap (zax IntKind.u64.bits ((w:Int).fdiv (2^min (zaq 36) IntKind.u64.bits)) &&& zax IntKind.u64.bits 1023).toNat)-512)=(ah w 0).b:=by
  rw [amf (k:=36) (n:=10) rfl (by decide) (by decide) (by decide) hw,show ∀x:Nat,x<1024→IntKind.i64.wrap (IntKind.i64.wrap (x:Int)-512)=x-512 from fun x hx=>by rw [a7 (x:=(x:Int)) (by omega),a7 (by omega)]]
  ·rfl
  ·omega
 have g1:((1:Int) != 1)=false:=rfl;have g2:decide ((ei w:Int)>12)=false:=by simp; omega
 simp only [ajp,uw,e1,e2,e3,e4,g1,g2,push_cast,↓reduceIte,reduceCtorEq,zB,zE,zA,zS,zL,zD,zM]
 repeat refine And.intro (by first | decide | omega | exact fun _=>by decide | (simp +contextual; done) | kernel_rfl) ?_
 clear e1 e2 e3 e4
 refine run_loop [(6,false),(0,false),(4,false),(5,false),(2,false)] (fun vs pos los=>∃i:Nat,(1≤i∧i≤13)∧vs=[int .i64 i,int .u64 w,int .i64 (ei w),.ptr 2000000 0 0,.ptr 2000001 0 0]∧pos=[]∧los=[.box [int .i64 (min (i-1) (ei w):Nat),int .i64 (ah w (min (i-1) (ei w))).a,int .i64 (ah w (min (i-1) (ei w))).b],.box [int .i64 0,int .i64 0,int .i64 0]])
  (fun vs _ _=>match vs with | .r (.v (.int _ j))::_=>(13-j).toNat | _=>0) rfl ?_ ?_
 ·simp only [push_cast,↓reduceIte,reduceCtorEq,zB,zE,zA,zS,zL,zD,zM];refine ⟨1,by omega,rfl,?_⟩;rw [show min (1-1) (ei w)=0 by omega]
  rfl
 ·rintro vs pos los ⟨i,i6,rfl,rfl,rfl⟩;obtain ⟨mi,hmi⟩:∃mi,min (i-1) (ei w)=mi:=⟨_,rfl⟩
  rw [hmi];simp only [push_cast,↓reduceIte,reduceCtorEq,zB,zE,zA,zS,zL,zD,zM];refine c7 (fun hi=>?_) (fun hi=>?_)
  ·have hi:i≤12:=by simp at hi; omega
   have hD8:dgt w i<8:=Nat.mod_lt _ (by decide);have wi:IntKind.i64.wrap ((i:Int)+1)=(i:Int)+1:=a7 (by omega);simp only [push_cast,↓reduceIte,reduceCtorEq,zB,zE,zA,zS,zL,zD,zM];refine b9 (as':=[uw w,int .i64 i]) rfl ?_;refine a5 (bja w i hw ⟨i6.1,hi⟩) rfl trivial ?_;by_cases hc:ei w<i
   ·have hd7:=(m3 i i6.1 hi).2 hc;have f1:(((7:Nat):Int) == 7)=true:=rfl;have f1':((7:Int) == 7)=true:=rfl;have f2:decide ((i:Int)>(ei w:Int))=true:=by simp; omega
    have f3:(true != true)=false:=rfl;rw [hd7];simp only [uw,f1,f1',f2,f3,wi,push_cast,↓reduceIte,reduceCtorEq,zB,zE,zA,zS,zL,zD,zM];refine ⟨⟨i+1,by omega,rfl,?_⟩,by omega⟩;rw [show min (i+1-1) (ei w)=mi by omega]
   ·have hd7:dgt w i≠7:=fun e=>hc ((m3 i i6.1 hi).1 e);obtain rfl:mi=i-1:=by omega
    have f1:((dgt w i:Int) == 7)=false:=by simp; omega
    have f2:decide ((i:Int)>(ei w:Int))=false:=by simp; omega
    have f3:(false != false)=false:=rfl;have hz:=a0c w (i-1) (by omega);have hz2:=a0c w i hi;have hzm:((ah w (i-1)).mul fv).In 10000000000000:=(ahr hz (show fv.In 2 by unfold Ei.In; decide)).mono (by decide)
    have hdn:ah w i=ad8 (ah w (i-1)) (dgt w i):=by
     conv=>lhs; rw [show i=i-1+1 by omega]
     rw [ah,show i-1+1=i by omega]
    simp only [uw,f1,f2,f3,wi,push_cast,↓reduceIte,reduceCtorEq,zB,zE,zA,zS,zL,zD,zM];refine b9 (as':=[(ah w (i-1)).v,fv.v]) rfl ?_;refine a5 (ae4 _ _ (hz.mono (by decide)) (show fv.In _ by unfold Ei.In; decide) (hzm.mono (by decide))) rfl trivial ?_;simp only [Ei.v,Ei.rv,push_cast,↓reduceIte,reduceCtorEq,zB,zE,zA,zS,zL,zD,zM];refine c7 (fun hp=>?_) (fun hp=>?_)
    ·have hp':0<dgt w i:=by simp at hp; omega
     have wd:IntKind.i64.wrap (dgt w i:Int)=(dgt w i:Int):=a7 (by omega);have wd1:IntKind.i64.wrap ((dgt w i:Int)-1)=(dgt w i:Int)-1:=a7 (by omega)
     have hch:ad8 (ah w (i-1)) (dgt w i)=((ah w (i-1)).mul fv).add (uni (dgt w i-1)):=by
      unfold ad8;rw [if_neg (by omega)]
     rw [hch] at hdn;simp only [wd,wd1,push_cast,↓reduceIte,reduceCtorEq,zB,zE,zA,zS,zL,zD,zM];refine d9 (az9 ((dgt w i:Int)-1) (by omega)) rfl trivial ?_;rw [show ((dgt w i:Int)-1).toNat=dgt w i-1 by omega];have hu:(uni (dgt w i-1)).In 1:=by unfold uni; split<;>unfold Ei.In<;>decide
     simp only [Ei.v,Ei.rv,push_cast,↓reduceIte,reduceCtorEq,zB,zE,zA,zS,zL,zD,zM];refine u6 (as':=[((ah w (i-1)).mul fv).v,(uni (dgt w i-1)).v]) rfl ?_;refine d9 (a50 _ _ (hzm.mono (by decide)) (hu.mono (by decide)) (by rw [← hdn]; exact hz2.mono (by decide))) rfl trivial ?_;rw [← hdn];simp only [wi,Ei.v,Ei.rv,push_cast,↓reduceIte,reduceCtorEq,zB,zE,zA,zS,zL,zD,zM]
     repeat refine And.intro (by first | decide | omega | exact fun _=>by decide | (simp +contextual; done) | kernel_rfl) ?_
     refine ⟨⟨i+1,by omega,rfl,?_⟩,by omega⟩;rw [show min (i+1-1) (ei w)=i by omega]
    ·have hp':dgt w i=0:=by simp at hp; omega
     have hch:ad8 (ah w (i-1)) (dgt w i)=(ah w (i-1)).mul fv:=by
      unfold ad8;rw [if_pos (by omega)]
     rw [hch] at hdn;simp only [wi,push_cast,↓reduceIte,reduceCtorEq,zB,zE,zA,zS,zL,zD,zM];refine ⟨⟨i+1,by omega,rfl,?_⟩,by omega⟩;rw [show min (i+1-1) (ei w)=i by omega,hdn]
  ·have hi:i=13:=by simp at hi; omega
   subst hi;obtain rfl:mi=ei w:=by omega
   simp only [cel,push_cast,↓reduceIte,reduceCtorEq,zB,zE,zA,zS,zL,zD,zM]

def acs:Mk P0 f216:={ x:=_ }
theorem ag0:d5 216 2 acs:=c8 func216
def aan:Mk P0 f217:={ x:=_ }
theorem afc:d5 217 3 aan:=c8 func217
def sa:Mk P0 f218:={ x:=_ }
theorem ag1:d5 218 3 sa:=c8 func218
abbrev P2:=Int×Int
def pv2 (p:P2):AV:=.r (pnt p.1 p.2)
structure Lin where
 axis:Int
 at':Int
 above:Bool
def Lin.v (l:Lin):AV:=.r (.agg [.v (.int .i64 l.axis),.v (.int .i64 l.at'),.v (.bool l.above)])
def Lin.ok (l:Lin):Prop:=l.axis=0∨l.axis=1
def sel (a:Int) (p:P2):Int:=if a=0 then p.1 else p.2
def q7 (l:Lin) (p:P2):Bool:=if l.above then decide (sel l.axis p≥l.at') else decide (sel l.axis p≤l.at')
def fp (l:Lin) (p q:P2):Bool:=(decide (sel l.axis p<l.at')&&decide (l.at'<sel l.axis q))||(decide (sel l.axis q<l.at')&&decide (l.at'<sel l.axis p))
def s6 (l:Lin) (p q:P2):P2:=
 let d:=sel l.axis q-sel l.axis p
 let e:=(sel (1-l.axis) q-sel (1-l.axis) p)*(l.at'-sel l.axis p)
 let n:=if d<0 then (-e)/(-d) else if 0<d then e/d else 0
 if l.axis=0 then (l.at',p.2+n) else (p.1+n,l.at')
theorem bje (a b c d:Bool):(bif bif a then b else false then true else bif c then d else false)=(a&&b||c&&d):=by cases a<;>cases b<;>cases c<;>cases d<;>rfl
theorem azx (l:Lin) (hl:l.ok) (p:P2):a8 P0 216 [l.v,pv2 p] [] (bl (q7 l p)) []:=by
 refine ag0 rfl (by decide) ?_;obtain ⟨a,c,b⟩:=l;have d:decide ((0:Nat)<2)=true:=rfl;rcases hl with rfl | rfl<;>cases b<;>push_cast [acs,Lin.v,pv2,pnt,q7,sel,zae,zad,Int.reduceEq,zac,if_true,if_false,zbf,zab]
 all_goals (repeat refine And.intro (by first | decide | omega | exact fun _=>by decide | (simp +contextual; done) | kernel_rfl) ?_)
 all_goals first | done | kernel_rfl | rfl
theorem auv (l:Lin) (hl:l.ok) (p q:P2):a8 P0 217 [l.v,pv2 p,pv2 q] [] (bl (fp l p q)) []:=by
 refine afc rfl (by decide) ?_;obtain ⟨a,c,b⟩:=l;rcases hl with rfl | rfl<;>push_cast [aan,Lin.v,pv2,pnt,fp,sel,zae,zad,Int.reduceEq,zac,if_true,if_false,zbf,zab]
 all_goals (repeat refine And.intro (by first | decide | omega | exact fun _=>by decide | (simp +contextual; done) | kernel_rfl) ?_)
 all_goals exact ⟨fun h=>by rw [h]; rfl,by rw [bje]⟩
set_option maxHeartbeats 1000000 in
theorem a0e (l:Lin) (hl:l.ok) (p q:P2) (hc:-9007199254740992≤l.at'∧l.at'≤9007199254740992) (hp:(-1099511627776≤p.1∧p.1≤1099511627776)∧(-1099511627776≤p.2∧p.2≤1099511627776))
  (hq:(-1073741824≤q.1-p.1∧q.1-p.1≤1073741824)∧(-1073741824≤q.2-p.2∧q.2-p.2≤1073741824)) (hb:fp l p q=true) :
  a8 P0 218 [l.v,pv2 p,pv2 q] [] (pv2 (s6 l p q)) []:=by
 refine ag1 rfl (by decide) ?_;obtain ⟨a,c,b⟩:=l;obtain ⟨px,py⟩:=p;obtain ⟨qx,qy⟩:=q;simp only at hc hp hq;rcases hl with h | h<;>simp only at h<;>subst h
 ·have hbt:(px<c∧c<qx)∨(qx<c∧c<px):=by simpa [fp,sel] using hb
  have w1:IntKind.i64.wrap (1-0)=1:=rfl;obtain ⟨d,hD⟩:∃d,qx-px=d:=⟨_,rfl⟩
  have w2:IntKind.i64.wrap (qx-px)=d:=by rw [a7 (by omega)]; exact hD
  have w3:IntKind.i64.wrap (qy-py)=qy-py:=a7 (by omega);have w4:IntKind.i64.wrap (c-px)=c-px:=a7 (by omega);have hm:=gc (x:=qy-py) (y:=c-px) (n:=1073741824) (m:=1073741824) (by omega) (by omega);obtain ⟨e,hE⟩:∃e,(qy-py)*(c-px)=e:=⟨_,rfl⟩
  rw [hE] at hm;have w5:IntKind.i64.wrap ((qy-py)*(c-px))=e:=by rw [hE]; exact a7 (by omega)
  have hcr:s6 ⟨0,c,b⟩ (px,py) (qx,qy)=(c,py+(if qx-px<0 then (-((qy-py)*(c-px)))/(-(qx-px)) else if 0<qx-px then ((qy-py)*(c-px))/(qx-px) else 0)):=rfl;rw [hcr,hE,hD];have wn:IntKind.i64.wrap (0-e)=-e:=by rw [a7 (by omega)]; omega
  have wd:IntKind.i64.wrap (0-d)=-d:=by rw [a7 (by omega)]; omega
  simp only [sa,Lin.v,pv2,pnt,w1,w2,w3,w4,w5,zae,zad,zac,push_cast,↓reduceIte,reduceCtorEq,zB,zE,zA,zS,zL,zD,zM]
  repeat refine And.intro (by first | decide | omega | exact fun _=>by decide | (simp +contextual; done) | kernel_rfl) ?_
  refine c7 (fun hn=>?_) (fun hn=>?_)
  ·have hn':d<0:=by simpa using hn
   have hf:=qd (-e) (-d) (by unfold in64; omega) (by unfold in64; omega);rw [if_pos (by omega),if_pos (by omega)] at hf;rw [if_pos hn'];have hb1:=zbw (-e) (-d);have w6:IntKind.i64.wrap (py+(-e)/(-d))=py+(-e)/(-d):=a7 (by omega);simp only [wn,wd,push_cast,↓reduceIte,reduceCtorEq,zB,zE,zA,zS,zL,zD,zM];refine a5 hf rfl trivial ?_;simp only [w6,w1,zae,zad,zac,push_cast,↓reduceIte,reduceCtorEq,zB,zE,zA,zS,zL,zD,zM]
   repeat refine And.intro (by first | decide | omega | exact fun _=>by decide | (simp +contextual; done) | kernel_rfl) ?_
   first | done | rfl | kernel_rfl
  ·have hn':¬d<0:=by simpa using hn
   have hd0:0<d:=by omega
   have hf:=qd e d (by unfold in64; omega) (by unfold in64; omega);rw [if_pos hd0,if_pos hd0] at hf;rw [if_neg hn',if_pos hd0];have hb1:=zbw e d;have w6:IntKind.i64.wrap (py+e/d)=py+e/d:=a7 (by omega);simp only [wn,wd,push_cast,↓reduceIte,reduceCtorEq,zB,zE,zA,zS,zL,zD,zM];refine a5 hf rfl trivial ?_;simp only [w6,w1,zae,zad,zac,push_cast,↓reduceIte,reduceCtorEq,zB,zE,zA,zS,zL,zD,zM]
   repeat refine And.intro (by first | decide | omega | exact fun _=>by decide | (simp +contextual; done) | kernel_rfl) ?_
   first | done | rfl | kernel_rfl
 ·have hbt:(py<c∧c<qy)∨(qy<c∧c<py):=by simpa [fp,sel] using hb
  have w1:IntKind.i64.wrap (1-1)=0:=rfl;obtain ⟨d,hD⟩:∃d,qy-py=d:=⟨_,rfl⟩
  have w2:IntKind.i64.wrap (qy-py)=d:=by rw [a7 (by omega)]; exact hD
  have w3:IntKind.i64.wrap (qx-px)=qx-px:=a7 (by omega);have w4:IntKind.i64.wrap (c-py)=c-py:=a7 (by omega);have hm:=gc (x:=qx-px) (y:=c-py) (n:=1073741824) (m:=1073741824) (by omega) (by omega);obtain ⟨e,hE⟩:∃e,(qx-px)*(c-py)=e:=⟨_,rfl⟩
  rw [hE] at hm;have w5:IntKind.i64.wrap ((qx-px)*(c-py))=e:=by rw [hE]; exact a7 (by omega)
  have hcr:s6 ⟨1,c,b⟩ (px,py) (qx,qy)=(px+(if qy-py<0 then (-((qx-px)*(c-py)))/(-(qy-py)) else if 0<qy-py then ((qx-px)*(c-py))/(qy-py) else 0),c):=rfl;rw [hcr,hE,hD];have wn:IntKind.i64.wrap (0-e)=-e:=by rw [a7 (by omega)]; omega
  have wd:IntKind.i64.wrap (0-d)=-d:=by rw [a7 (by omega)]; omega
  simp only [sa,Lin.v,pv2,pnt,w1,w2,w3,w4,w5,zae,zad,zac,push_cast,↓reduceIte,reduceCtorEq,zB,zE,zA,zS,zL,zD,zM]
  repeat refine And.intro (by first | decide | omega | exact fun _=>by decide | (simp +contextual; done) | kernel_rfl) ?_
  refine c7 (fun hn=>?_) (fun hn=>?_)
  ·have hn':d<0:=by simpa using hn
   have hf:=qd (-e) (-d) (by unfold in64; omega) (by unfold in64; omega);rw [if_pos (by omega),if_pos (by omega)] at hf;rw [if_pos hn'];have hb1:=zbw (-e) (-d);have w6:IntKind.i64.wrap (px+(-e)/(-d))=px+(-e)/(-d):=a7 (by omega);simp only [wn,wd,push_cast,↓reduceIte,reduceCtorEq,zB,zE,zA,zS,zL,zD,zM];refine a5 hf rfl trivial ?_;simp only [w6,w1,zae,zad,zac,push_cast,↓reduceIte,reduceCtorEq,zB,zE,zA,zS,zL,zD,zM]
   repeat refine And.intro (by first | decide | omega | exact fun _=>by decide | (simp +contextual; done) | kernel_rfl) ?_
   first | done | rfl | kernel_rfl
  ·have hn':¬d<0:=by simpa using hn
   have hd0:0<d:=by omega
   have hf:=qd e d (by unfold in64; omega) (by unfold in64; omega);rw [if_pos hd0,if_pos hd0] at hf;rw [if_neg hn',if_pos hd0];have hb1:=zbw e d;have w6:IntKind.i64.wrap (px+e/d)=px+e/d:=a7 (by omega);simp only [wn,wd,push_cast,↓reduceIte,reduceCtorEq,zB,zE,zA,zS,zL,zD,zM];refine a5 hf rfl trivial ?_;simp only [w6,w1,zae,zad,zac,push_cast,↓reduceIte,reduceCtorEq,zB,zE,zA,zS,zL,zD,zM]
   repeat refine And.intro (by first | decide | omega | exact fun _=>by decide | (simp +contextual; done) | kernel_rfl) ?_
   first | done | rfl | kernel_rfl

def ary:Mk P0 f134:={ x:=_ }
theorem atg:d5 134 1 ary:=c8 func134
def afb:Mk P0 f180:={ x:=_ }
theorem aja:d5 180 2 afb:=c8 func180
def ptR (p:P2):RV:=pnt p.1 p.2
def b8 (l:List P2):AV:=.r (.sl 2 (l.map ptR))
def RgOk (l:List P2):Prop:=l.length≤100∧(∀p∈l,(-1099511627776≤p.1∧p.1≤1099511627776)∧(-1099511627776≤p.2∧p.2≤1099511627776)) ∧
 ∀p∈l,∀q∈l,(-1073741824≤q.1-p.1∧q.1-p.1≤1073741824)∧(-1073741824≤q.2-p.2∧q.2-p.2≤1073741824)
theorem ct {l:List P2} {i:Nat} {p:P2} (h:l[i]?=some p) (z:RV):(l.map ptR).getD ((i:Int)).toNat z=.agg [.v (.int .i64 p.1),.v (.int .i64 p.2)]:=by
 simp [List.getD,h,ptR,pnt]
theorem ca {l:List P2} {i:Nat} {p:P2} (h:l[i]?=some p) (z:RV):(l.map ptR).getD (0+((i:Int)).toNat) z=.agg [.v (.int .i64 p.1),.v (.int .i64 p.2)]:=by rw [zac]; exact ct h z
set_option maxHeartbeats 2000000 in
theorem bac (l:List P2) (h:RgOk l):a8 P0 134 [b8 l] [] (bl true) []:=by
 obtain ⟨h1,h2,h3⟩:=h;refine atg rfl (by decide) ?_;have e1:decide ((l.length:Int)>100)=false:=by simp; omega
 push_cast [ary,b8,zaa,e1,zab]
 refine run_loop [(11,false),(0,false)] (fun vs pos los=>∃a:Nat,a≤2∧vs=[int .i64 a,b8 l]∧pos=[]∧los=[])
  (fun vs _ _=>match vs with | .r (.v (.int _ a))::_=>(2-a).toNat | _=>0) rfl ?_ ?_
 ·push_cast [b8]
  exact ⟨0,by omega,rfl⟩
 ·rintro vs pos los ⟨a,ha,rfl,rfl,rfl⟩
  push_cast [b8,zaa]
  refine c7 (fun hc=>?_) (fun hc=>?_)
  ·have ha2:a<2:=by simp at hc; omega
   have wa:IntKind.i64.wrap ((a:Int)+1)=(a:Int)+1:=a7 (by omega)
   push_cast [b8,zaa]
   refine run_loop [(16,false),(14,false),(15,false),(3,false),(11,false),(0,false)] (fun vs pos los=>∃k:Nat,k≤l.length∧vs=[int .i64 k,b8 l,int .i64 l.length,int .i64 a,int .i64 a,b8 l]∧pos=[]∧los=[])
    (fun vs _ _=>match vs with | .r (.v (.int _ a))::_=>(l.length-a).toNat | _=>0) rfl ?_ ?_
   ·push_cast [b8]
    exact ⟨0,by omega,rfl⟩
   ·rintro vs pos los ⟨k,hk,rfl,rfl,rfl⟩
    push_cast [b8,zaa]
    refine c7 (fun hd=>?_) (fun hd=>?_)
    ·have hk2:k<l.length:=by simpa using hd
     obtain ⟨p,hp⟩:∃p,l[k]?=some p:=⟨l[k],by simp [hk2]⟩
     have hpm:=zam hp;have hpb:=h2 p hpm;have wk:IntKind.i64.wrap ((k:Int)+1)=(k:Int)+1:=a7 (by omega)
     have hsp:∀(x y:Int) (z:AV),[AV.r (.v (.int .i64 x)),AV.r (.v (.int .i64 y))].getD (0+((a:Int)).toNat*1) z=.r (.v (.int .i64 (if a=0 then x else y))):=fun x y z=>by
      rcases (show a=0∨a=1 by omega) with rfl | rfl<;>rfl
     have hsp1:∀(x y:Int) (z:AV),[AV.r (.v (.int .i64 x)),AV.r (.v (.int .i64 y))].getD ((a:Int)).toNat z=.r (.v (.int .i64 (if a=0 then x else y))):=fun x y z=>by
      rcases (show a=0∨a=1 by omega) with rfl | rfl<;>rfl
     obtain ⟨P,hP⟩:∃P,(if a=0 then p.1 else p.2)=P:=⟨_,rfl⟩
     have hPb:-1099511627776≤P∧P≤1099511627776:=by rw [← hP]; split; exact hpb.1; exact hpb.2
     have d1:decide (P < -1099511627776)=false:=by simp; omega
     have d2:decide (P>1099511627776)=false:=by simp; omega
     have wz:((k:Int)-0).toNat=k:=by omega
     push_cast [b8,zaa,ct hp,ca hp,hsp,hsp1,hP,d1,d2]
     repeat refine And.intro (by first | decide | omega | exact fun _=>by decide | (simp +contextual; done) | kernel_rfl) ?_
     refine run_loop [(35,false),(33,false),(34,false),(5,false),(16,false),(14,false),(15,false),(3,false),(11,false),(0,false)] (fun vs pos los=>∃j:Nat,j≤k∧vs=[int .i64 j,b8 (l.take k),int .i64 k,.ptr 2000000 0 0,int .i64 k,b8 l,int .i64 l.length,int .i64 a,int .i64 a,b8 l]∧pos=[]∧los=[.box [int .i64 p.1,int .i64 p.2]])
      (fun vs _ _=>match vs with | .r (.v (.int _ a))::_=>(k-a).toNat | _=>0) rfl ?_ ?_
     ·push_cast [b8,zbx,zaa,List.map_take,zah,zae,List.drop_zero,Nat.min_eq_left (Nat.le_of_lt hk2)]
      exact ⟨0,by omega,by simp⟩
     ·rintro vs pos los ⟨j,hj,rfl,rfl,rfl⟩
      push_cast [b8,zaa]
      refine c7 (fun he=>?_) (fun he=>?_)
      ·have hj2:j<k:=by simpa using he
       have hjl:j<(l.take k).length:=by simp; omega
       obtain ⟨q,hq⟩:∃q,(l.take k)[j]?=some q:=⟨(l.take k)[j],by simp [hj2,show j<l.length by omega]⟩
       have hqm:=List.mem_of_mem_take (zam hq);have hpq:=h3 p hpm q hqm;have wj:IntKind.i64.wrap ((j:Int)+1)=(j:Int)+1:=a7 (by omega);obtain ⟨Q,hQ⟩:∃Q,(if a=0 then q.1 else q.2)=Q:=⟨_,rfl⟩
       have hQb:-1073741824≤Q-P∧Q-P≤1073741824:=by rw [← hQ,← hP]; split; exact hpq.1; exact hpq.2
       have u1:IntKind.i64.wrap (P-Q)=P-Q:=a7 (by omega);have u2:IntKind.i64.wrap (Q-P)=Q-P:=a7 (by omega);have d3:decide (P-Q>1073741824)=false:=by simp; omega
       have d4:decide (Q-P>1073741824)=false:=by simp; omega
       push_cast [b8,zaa,zbx,Nat.min_eq_left (Nat.le_of_lt hk2),ct hq,ca hq,hsp,hsp1,hP,hQ,u1,u2,d3,d4,wj]
       repeat refine And.intro (by first | decide | omega | exact fun _=>by decide | (simp +contextual; done) | kernel_rfl) ?_
       exact ⟨⟨j+1,by omega,by simp⟩,by omega⟩
      ·push_cast [b8,zaa,wk]
       exact ⟨⟨k+1,by omega,by simp⟩,by omega⟩
    ·push_cast [b8,zaa,wa]
     exact ⟨⟨a+1,by omega,rfl⟩,by omega⟩
  ·push_cast [b8,zaa]

def uo (l:Lin) (p q:P2):List P2:=(if q7 l p then [p] else [])++(if fp l p q then [s6 l p q] else [])
def ngh (rg:List P2) (i:Nat):P2:=rg.getD ((i+1)%rg.length) (0,0)
def aa (l:Lin) (rg:List P2):Nat→List P2
 | 0=>[]
 | i+1=>aa l rg i++uo l (rg.getD i (0,0)) (ngh rg i)
def y6 (l:Lin) (rg:List P2):List P2:=aa l rg rg.length
theorem ai7 (l:Lin) (rg:List P2):∀i,(aa l rg i).length≤2*i
 | 0=>by simp [aa]
 | i+1=>by
  have:=ai7 l rg i;rw [aa,zak];unfold uo;rw [zak];split<;>split<;>simp<;>omega
abbrev u4 (o:List P2):Ob:=.row 2 (pnt 0 0) true true (o.map ptR)
theorem o8 (o:List P2):zaz o.length (o.map ptR)=o.map ptR:=zbg (by simp)
set_option maxHeartbeats 4000000 in
theorem cut_t (l : Lin) (hl : l.ok) (hc : -9007199254740992 ≤ l.at' ∧ l.at' ≤ 9007199254740992) (rg : List P2) (h : RgOk rg) {res : AV} {ro : List Ob}
    (hres:(y6 l rg=[]∧res=.nils 2 (pnt 0 0)∧ro=[])∨(y6 l rg≠[]∧res=.own 1000000 0 0 (y6 l rg).length∧ro=[u4 (y6 l rg)])) :
    a8 P0 180 [l.v,b8 rg] [] res ro:=by
  obtain ⟨h1,h2,h3⟩:=h;refine aja rfl (by decide) ?_;have hmx:=j7
  push_cast [afb,b8,Lin.v,zaa,zab]
  refine run_loop [(11, false), (9, false), (10, false), (2, false), (1, false), (5, false)] (fun vs pos los => ∃ i : Nat, i ≤ rg.length ∧ pos = [] ∧
      (aa l rg i=[]∧vs=[int .i64 i,b8 rg,int .i64 rg.length,.ptr 2000000 0 0,b8 rg,.nils 2 (pnt 0 0)]∧los=[.box [int .i64 l.axis,int .i64 l.at',bl l.above]] ∨
       aa l rg i≠[]∧vs=[int .i64 i,b8 rg,int .i64 rg.length,.ptr 2000000 0 0,b8 rg,.own 2000001 0 0 (aa l rg i).length]∧los=[.box [int .i64 l.axis,int .i64 l.at',bl l.above],u4 (aa l rg i)]))
    (fun vs _ _=>match vs with | .r (.v (.int _ a))::_=>(rg.length-a).toNat | _=>0) rfl ?_ ?_
  · push_cast [b8,pnt]
    exact ⟨0,by omega,.inl ⟨rfl,by simp⟩⟩
  · rintro vs pos los ⟨i,hi,rfl,⟨h0,rfl,rfl⟩ | ⟨h0,rfl,rfl⟩⟩
    · have hlen:=ai7 l rg i
      push_cast [b8,pnt,zaa]
      refine c7 (fun hd=>?_) (fun hd=>?_)
      · have hi2:i<rg.length:=by simpa using hd
        obtain ⟨p,hp⟩:∃p,rg[i]?=some p:=⟨rg[i],by simp [hi2]⟩
        obtain ⟨J,hJ⟩:∃J,(i+1)%rg.length=J:=⟨_,rfl⟩
        have hJl:J<rg.length:=by rw [← hJ]; exact Nat.mod_lt _ (by omega)
        obtain ⟨q,hq⟩:∃q,rg[J]?=some q:=⟨rg[J],by simp [hJl]⟩
        have hgi:rg.getD i (0,0)=p:=by rw [zal,hp]; rfl
        have hgn:ngh rg i=q:=by unfold ngh; rw [hJ,zal,hq]; rfl
        have hpm:=zam hp;have hqm:=zam hq;have wi:IntKind.i64.wrap ((i:Int)+1)=(i:Int)+1:=a7 (by omega);have wJ:((i:Int)+1).tmod (rg.length:Int)=(J:Int):=by rw [zce (by omega),← hJ,Int.natCast_emod,Int.natCast_add]; rfl
        have hn0:¬((rg.length:Int)=0):=by omega
        push_cast [b8,zaa,ct hp,ca hp,ct hq,ca hq,wi,wJ,hn0]
        repeat refine And.intro (by first | decide | omega | exact fun _=>by decide | (simp +contextual; done) | kernel_rfl) ?_
        refine b9 (as':=[l.v,pv2 p]) rfl ?_;refine a5 (azx l hl p) rfl trivial ?_;have hbt:=auv l hl p q;have hcr:=fun hb=>a0e l hl p q hc (h2 p hpm) (h3 p hpm q hqm) hb;generalize hcx:s6 l p q=cx at *
        push_cast
        refine c7 (fun hk=>?_) (fun hk=>?_)
        · push_cast [b8,zaa,o8]
          repeat refine And.intro (by first | decide | omega | exact fun _=>by decide | (simp +contextual; done) | kernel_rfl) ?_
          refine b9 (as':=[l.v,pv2 p,pv2 q]) rfl ?_;refine a5 hbt rfl trivial ?_
          push_cast
          refine c7 (fun hb=>?_) (fun hb=>?_)
          · push_cast [b8,zaa,o8]
            refine b9 (as':=[l.v,pv2 p,pv2 q]) rfl ?_;refine a5 (hcr hb) rfl trivial ?_
            push_cast [pv2,pnt,wi,b8,zaa,o8]
            repeat refine And.intro (by first | decide | omega | exact fun _=>by decide | (simp +contextual; done) | kernel_rfl) ?_
            have hN:aa l rg (i+1)=[p,cx]:=by
              rw [aa,hgi,hgn,h0,zbh];unfold uo;rw [if_pos hk,if_pos hb,hcx]
              rfl
            exact ⟨⟨i+1,by omega,.inr ⟨by rw [hN]; simp,by rw [hN]; simp,by rw [hN]; rfl⟩⟩,by omega⟩
          · push_cast [b8,zaa,o8,wi]
            have hN:aa l rg (i+1)=[p]:=by
              rw [aa,hgi,hgn,h0,zbh];unfold uo;rw [if_pos hk,if_neg (by rw [hb]; simp)]
              rfl
            exact ⟨⟨i+1,by omega,.inr ⟨by rw [hN]; simp,by rw [hN]; simp,by rw [hN]; rfl⟩⟩,by omega⟩
        · push_cast [b8,zaa,o8]
          repeat refine And.intro (by first | decide | omega | exact fun _=>by decide | (simp +contextual; done) | kernel_rfl) ?_
          refine b9 (as':=[l.v,pv2 p,pv2 q]) rfl ?_;refine a5 hbt rfl trivial ?_
          push_cast
          refine c7 (fun hb=>?_) (fun hb=>?_)
          · push_cast [b8,zaa,o8]
            refine b9 (as':=[l.v,pv2 p,pv2 q]) rfl ?_;refine a5 (hcr hb) rfl trivial ?_
            push_cast [pv2,pnt,wi,b8,zaa,o8]
            repeat refine And.intro (by first | decide | omega | exact fun _=>by decide | (simp +contextual; done) | kernel_rfl) ?_
            have hN:aa l rg (i+1)=[cx]:=by
              rw [aa,hgi,hgn,h0,zbh];unfold uo;rw [if_neg (by rw [hk]; simp),if_pos hb,hcx]
              rfl
            exact ⟨⟨i+1,by omega,.inr ⟨by rw [hN]; simp,by rw [hN]; simp,by rw [hN]; rfl⟩⟩,by omega⟩
          · push_cast [b8,zaa,o8,wi]
            have hN:aa l rg (i+1)=[]:=by
              rw [aa,hgi,hgn,h0,zbh];unfold uo;rw [if_neg (by rw [hk]; simp),if_neg (by rw [hb]; simp)]
              rfl
            exact ⟨⟨i+1,by omega,.inl ⟨hN,by simp⟩⟩,by omega⟩
      · have hi2:i=rg.length:=by
          have:¬i<rg.length:=by simpa using hd
          omega
        rw [hi2] at h0;rcases hres with ⟨g0,rfl,rfl⟩ | ⟨g0,rfl,rfl⟩
        · push_cast [pnt]
        · exact absurd h0 g0
    · have hlen:=ai7 l rg i
      push_cast [b8,pnt,zaa]
      refine c7 (fun hd=>?_) (fun hd=>?_)
      · have hi2:i<rg.length:=by simpa using hd
        obtain ⟨p,hp⟩:∃p,rg[i]?=some p:=⟨rg[i],by simp [hi2]⟩
        obtain ⟨J,hJ⟩:∃J,(i+1)%rg.length=J:=⟨_,rfl⟩
        have hJl:J<rg.length:=by rw [← hJ]; exact Nat.mod_lt _ (by omega)
        obtain ⟨q,hq⟩:∃q,rg[J]?=some q:=⟨rg[J],by simp [hJl]⟩
        have hgi:rg.getD i (0,0)=p:=by rw [zal,hp]; rfl
        have hgn:ngh rg i=q:=by unfold ngh; rw [hJ,zal,hq]; rfl
        have hpm:=zam hp;have hqm:=zam hq;have wi:IntKind.i64.wrap ((i:Int)+1)=(i:Int)+1:=a7 (by omega);have wJ:((i:Int)+1).tmod (rg.length:Int)=(J:Int):=by rw [zce (by omega),← hJ,Int.natCast_emod,Int.natCast_add]; rfl
        have hn0:¬((rg.length:Int)=0):=by omega
        push_cast [b8,zaa,ct hp,ca hp,ct hq,ca hq,wi,wJ,hn0]
        repeat refine And.intro (by first | decide | omega | exact fun _=>by decide | (simp +contextual; done) | kernel_rfl) ?_
        refine b9 (as':=[l.v,pv2 p]) rfl ?_;refine a5 (azx l hl p) rfl trivial ?_;have hbt:=auv l hl p q;have hcr:=fun hb=>a0e l hl p q hc (h2 p hpm) (h3 p hpm q hqm) hb;generalize hcx:s6 l p q=cx at *
        push_cast
        refine c7 (fun hk=>?_) (fun hk=>?_)
        · push_cast [b8,zaa,o8]
          repeat refine And.intro (by first | decide | omega | exact fun _=>by decide | (simp +contextual; done) | kernel_rfl) ?_
          refine b9 (as':=[l.v,pv2 p,pv2 q]) rfl ?_;refine a5 hbt rfl trivial ?_
          push_cast
          refine c7 (fun hb=>?_) (fun hb=>?_)
          · push_cast [b8,zaa,o8]
            refine b9 (as':=[l.v,pv2 p,pv2 q]) rfl ?_;refine a5 (hcr hb) rfl trivial ?_
            push_cast [pv2,pnt,wi,b8,zaa,o8]
            repeat refine And.intro (by first | decide | omega | exact fun _=>by decide | (simp +contextual; done) | kernel_rfl) ?_
            have hN:aa l rg (i+1)=aa l rg i++[p,cx]:=by
              rw [aa,hgi,hgn];unfold uo;rw [if_pos hk,if_pos hb,hcx]
              rfl
            exact ⟨⟨i+1,by omega,.inr ⟨by rw [hN]; simp [h0],by rw [hN]; simp,by rw [hN]; simp [ptR,pnt]; rw [zbg (by simp)]; simp⟩⟩,by omega⟩
          · push_cast [b8,zaa,o8,wi]
            have hN:aa l rg (i+1)=aa l rg i++[p]:=by
              rw [aa,hgi,hgn];unfold uo;rw [if_pos hk,if_neg (by rw [hb]; simp)]
              rfl
            exact ⟨⟨i+1,by omega,.inr ⟨by rw [hN]; simp [h0],by rw [hN]; simp,by rw [hN]; simp [ptR,pnt]⟩⟩,by omega⟩
        · push_cast [b8,zaa,o8]
          repeat refine And.intro (by first | decide | omega | exact fun _=>by decide | (simp +contextual; done) | kernel_rfl) ?_
          refine b9 (as':=[l.v,pv2 p,pv2 q]) rfl ?_;refine a5 hbt rfl trivial ?_
          push_cast
          refine c7 (fun hb=>?_) (fun hb=>?_)
          · push_cast [b8,zaa,o8]
            refine b9 (as':=[l.v,pv2 p,pv2 q]) rfl ?_;refine a5 (hcr hb) rfl trivial ?_
            push_cast [pv2,pnt,wi,b8,zaa,o8]
            repeat refine And.intro (by first | decide | omega | exact fun _=>by decide | (simp +contextual; done) | kernel_rfl) ?_
            have hN:aa l rg (i+1)=aa l rg i++[cx]:=by
              rw [aa,hgi,hgn];unfold uo;rw [if_neg (by rw [hk]; simp),if_pos hb,hcx]
              rfl
            exact ⟨⟨i+1,by omega,.inr ⟨by rw [hN]; simp [h0],by rw [hN]; simp,by rw [hN]; simp [ptR,pnt]⟩⟩,by omega⟩
          · push_cast [b8,zaa,o8,wi]
            have hN:aa l rg (i+1)=aa l rg i++[]:=by
              rw [aa,hgi,hgn];unfold uo;rw [if_neg (by rw [hk]; simp),if_neg (by rw [hb]; simp)]
              rfl
            exact ⟨⟨i+1,by omega,.inr ⟨by rw [hN]; simp [h0],by rw [hN]; simp,by rw [hN]; simp [ptR,pnt]⟩⟩,by omega⟩
      · have hi2:i=rg.length:=by
          have:¬i<rg.length:=by simpa using hd
          omega
        rw [hi2] at h0 ⊢;rcases hres with ⟨g0,rfl,rfl⟩ | ⟨g0,rfl,rfl⟩
        · exact absurd g0 h0
        · push_cast [pnt,y6]; rfl

def al2:Mk P0 f127:={ x:=_ }
theorem apr:d5 127 4 al2:=c8 func127
def an4:Mk P0 f76:={ x:=_ }
theorem arz:d5 76 3 an4:=c8 func76
theorem bjb (l:Lin) (hl:l.ok) (hc:-9007199254740992≤l.at'∧l.at'≤9007199254740992) (rg:List P2) (h:RgOk rg) :
  a8 P0 180 [l.v,b8 rg] [] (.own 1000000 0 0 (y6 l rg).length) [u4 (y6 l rg)]:=by
 by_cases h0:y6 l rg=[]
 ·have:=asz (cut_t l hl hc rg h (.inl ⟨h0,rfl,rfl⟩));rw [h0];exact this
 ·exact cut_t l hl hc rg h (.inr ⟨h0,rfl,rfl⟩)
theorem apf (l:List P2):∀x∈l.map ptR,dp x:=fun x hx=>by
 obtain ⟨p,_,rfl⟩:=zbc.1 hx;simp [ptR,pnt,dp,pq]
theorem aqd (l:Lin) (hl:l.ok) (hc:-9007199254740992≤l.at'∧l.at'≤9007199254740992) (rg:List P2) (h:RgOk rg) :
  a8 P0 127 [b8 rg,int .i64 l.axis,int .i64 l.at',bl l.above] [] (.own 1000000 0 0 (y6 l rg).length) [u4 (y6 l rg)]:=by
 refine apr rfl (by decide) ?_;have d1:decide (l.axis<0)=false:=by rcases hl with e | e<;>rw [e]<;>rfl
 have d2:decide (l.axis>1)=false:=by rcases hl with e | e<;>rw [e]<;>rfl
 push_cast [al2,b8,d1,d2,zab]
 refine b9 (as':=[b8 rg]) rfl ?_;refine a5 (bac rg h) rfl trivial ?_
 push_cast
 refine b9 (as':=[l.v,b8 rg]) rfl ?_;refine a5 (bjb l hl hc rg h) rfl trivial ?_
 push_cast
def kk (lo hi:P2):List Lin:=[⟨0,lo.1,true⟩,⟨0,hi.1,false⟩,⟨1,lo.2,true⟩,⟨1,hi.2,false⟩]
def fu (lo hi:P2) (rg:List P2) (i:Nat):List P2:=((kk lo hi).take i).foldl (fun r l=>y6 l r) rg
def xw (lo hi:P2) (rg:List P2):List P2:=fu lo hi rg 4
def pp (lo hi:P2):Ob:=.row 3 (.agg [.v (.int .i64 0),.v (.int .i64 0),.v (.bool false)]) true true [.agg [.v (.int .i64 0),.v (.int .i64 lo.1),.v (.bool true)],.agg [.v (.int .i64 0),.v (.int .i64 hi.1),.v (.bool false)],.agg [.v (.int .i64 1),.v (.int .i64 lo.2),.v (.bool true)],.agg [.v (.int .i64 1),.v (.int .i64 hi.2),.v (.bool false)]]
set_option maxHeartbeats 4000000 in
theorem cbox_t (lo hi : P2) (hlo : (-9007199254740992 ≤ lo.1 ∧ lo.1 ≤ 9007199254740992) ∧ (-9007199254740992 ≤ lo.2 ∧ lo.2 ≤ 9007199254740992)) (hhi : (-9007199254740992 ≤ hi.1 ∧ hi.1 ≤ 9007199254740992) ∧ (-9007199254740992 ≤ hi.2 ∧ hi.2 ≤ 9007199254740992))
    (rg:List P2) (h:∀i,i<4→RgOk (fu lo hi rg i)):a8 P0 76 [b8 rg,pv2 lo,pv2 hi] [] (.own 1000000 0 0 (xw lo hi rg).length) [u4 (xw lo hi rg)]:=by
  refine arz rfl (by decide) ?_;simp only [an4,b8,pv2,pnt,zae,zad,zac,push_cast,↓reduceIte,reduceCtorEq,zB,zE,zA,zS,zL,zD,zM]
  repeat refine And.intro (by first | decide | omega | exact fun _=>by decide | (simp +contextual; done) | kernel_rfl) ?_
  refine run_loop [(23, false), (21, false), (22, false), (0, false)] (fun vs pos los => ∃ i : Nat, i ≤ 4 ∧ pos = [] ∧
      (i=0∧vs=[int .i64 i,.own 2000000 0 0 4,int .i64 4,b8 rg]∧los=[pp lo hi] ∨
       i≠0∧vs=[int .i64 i,.own 2000000 0 0 4,int .i64 4,.own 2000001 0 0 (fu lo hi rg i).length]∧los=[pp lo hi,u4 (fu lo hi rg i)]))
    (fun vs _ _=>match vs with | .r (.v (.int _ a))::_=>(4-a).toNat | _=>0) rfl ?_ ?_
  · simp only [b8,pp,push_cast,↓reduceIte,reduceCtorEq,zB,zE,zA,zS,zL,zD,zM];exact ⟨0,by omega,.inl ⟨rfl,by simp⟩⟩
  · have hs:∀(k:Nat) (l:Lin),k<4→(kk lo hi)[k]?=some l→fu lo hi rg (k+1)=y6 l (fu lo hi rg k):=fun k l hk hl=>by
      unfold fu;rw [zas,hl,List.foldl_append]
      rfl
    have hline:∀(k:Nat) (l:Lin),(kk lo hi)[k]?=some l→l.ok∧(-9007199254740992≤l.at'∧l.at'≤9007199254740992):=fun k l hl=>by
      have:=zam hl;simp only [kk,zai,List.not_mem_nil,or_false] at this;rcases this with rfl | rfl | rfl | rfl
      · exact ⟨.inl rfl,hlo.1⟩
      · exact ⟨.inl rfl,hhi.1⟩
      · exact ⟨.inr rfl,hlo.2⟩
      · exact ⟨.inr rfl,hhi.2⟩
    rintro vs pos los ⟨i,hile,rfl,⟨h0,rfl,rfl⟩ | ⟨h0,rfl,rfl⟩⟩
    · subst h0;have hN:fu lo hi rg 0=rg:=rfl;have d0:decide ((0:Int)<4)=true:=rfl;have hl0:=hline 0 _ rfl;have hS:=aqd _ hl0.1 hl0.2 rg (by have:=h 0 (by decide); rwa [hN] at this);have hs0:=hs 0 _ (by decide) rfl;rw [hN] at hs0;have wi:IntKind.i64.wrap ((0:Int)+1)=1:=rfl;simp only [b8,pp,d0,wi,zae,zad,zac,push_cast,↓reduceIte,reduceCtorEq,zB,zE,zA,zS,zL,zD,zM]
      repeat refine And.intro (by first | decide | omega | exact fun _=>by decide | (simp +contextual; done) | kernel_rfl) ?_
      rw [← hs0] at hS;refine a5 hS rfl trivial ?_;simp only [b8,pp,d0,wi,zae,zad,zac,push_cast,↓reduceIte,reduceCtorEq,zB,zE,zA,zS,zL,zD,zM];exact ⟨⟨1,by omega,.inr ⟨by omega,by simp⟩⟩,by decide⟩
    · rcases (show i=1∨i=2∨i=3∨i=4 by omega) with rfl | rfl | rfl | rfl
      · have d0:decide ((1:Int)<4)=true:=rfl;have hl0:=hline 1 _ rfl;have hS:=aqd _ hl0.1 hl0.2 (fu lo hi rg 1) (h 1 (by decide));have hs0:=hs 1 _ (by decide) rfl;rw [← hs0] at hS;have wi:IntKind.i64.wrap ((1:Int)+1)=2:=rfl;simp only [b8,pp,d0,wi,zae,zad,zac,push_cast,↓reduceIte,reduceCtorEq,zB,zE,zA,zS,zL,zD,zM]
        repeat refine And.intro (by first | decide | omega | exact fun _=>by decide | (simp +contextual; done) | kernel_rfl) ?_
        refine ku ?_;simp only [o8,push_cast,↓reduceIte,reduceCtorEq,zB,zE,zA,zS,zL,zD,zM]
        refine nj hS rfl trivial (by simp [v9]) (by
          intro o ho;simp only [zan] at ho;subst ho
          exact apf _) ?_
        simp only [b8,pp,d0,wi,zae,zad,zac,push_cast,↓reduceIte,reduceCtorEq,zB,zE,zA,zS,zL,zD,zM];exact ⟨⟨2,by omega,.inr ⟨by omega,by simp⟩⟩,by decide⟩
      · have d0:decide ((2:Int)<4)=true:=rfl;have hl0:=hline 2 _ rfl;have hS:=aqd _ hl0.1 hl0.2 (fu lo hi rg 2) (h 2 (by decide));have hs0:=hs 2 _ (by decide) rfl;rw [← hs0] at hS;have wi:IntKind.i64.wrap ((2:Int)+1)=3:=rfl;simp only [b8,pp,d0,wi,zae,zad,zac,push_cast,↓reduceIte,reduceCtorEq,zB,zE,zA,zS,zL,zD,zM]
        repeat refine And.intro (by first | decide | omega | exact fun _=>by decide | (simp +contextual; done) | kernel_rfl) ?_
        refine ku ?_;simp only [o8,push_cast,↓reduceIte,reduceCtorEq,zB,zE,zA,zS,zL,zD,zM]
        refine nj hS rfl trivial (by simp [v9]) (by
          intro o ho;simp only [zan] at ho;subst ho
          exact apf _) ?_
        simp only [b8,pp,d0,wi,zae,zad,zac,push_cast,↓reduceIte,reduceCtorEq,zB,zE,zA,zS,zL,zD,zM];exact ⟨⟨3,by omega,.inr ⟨by omega,by simp⟩⟩,by decide⟩
      · have d0:decide ((3:Int)<4)=true:=rfl;have hl0:=hline 3 _ rfl;have hS:=aqd _ hl0.1 hl0.2 (fu lo hi rg 3) (h 3 (by decide));have hs0:=hs 3 _ (by decide) rfl;rw [← hs0] at hS;have wi:IntKind.i64.wrap ((3:Int)+1)=4:=rfl;simp only [b8,pp,d0,wi,zae,zad,zac,push_cast,↓reduceIte,reduceCtorEq,zB,zE,zA,zS,zL,zD,zM]
        repeat refine And.intro (by first | decide | omega | exact fun _=>by decide | (simp +contextual; done) | kernel_rfl) ?_
        refine ku ?_;simp only [o8,push_cast,↓reduceIte,reduceCtorEq,zB,zE,zA,zS,zL,zD,zM]
        refine nj hS rfl trivial (by simp [v9]) (by
          intro o ho;simp only [zan] at ho;subst ho
          exact apf _) ?_
        simp only [b8,pp,d0,wi,zae,zad,zac,push_cast,↓reduceIte,reduceCtorEq,zB,zE,zA,zS,zL,zD,zM];exact ⟨⟨4,by omega,.inr ⟨by omega,by simp⟩⟩,by decide⟩
      · have d0:decide ((4:Int)<4)=false:=rfl;have e4:fu lo hi rg 4=xw lo hi rg:=rfl;simp only [b8,pp,d0,e4,pnt,push_cast,↓reduceIte,reduceCtorEq,zB,zE,zA,zS,zL,zD,zM]
        rfl

def ajv:Mk P0 f78:={ x:=_ }
theorem anb:d5 78 2 ajv:=c8 func78
def go (b:Int) (rg:List P2):List P2:=rg.map fun p=>(p.1/b,p.2/b)
set_option maxHeartbeats 4000000 in
theorem cfloor_r (b : Int) (hb : 1 ≤ b ∧ b ≤ 9007199254740992) (rg : List P2) (h : RgOk rg) {res : AV} {ro : List Ob}
    (hres:(rg=[]∧res=.nils 2 (pnt 0 0)∧ro=[])∨(rg≠[]∧res=.own 1000000 0 0 (go b rg).length∧ro=[u4 (go b rg)])) :
    a8 P0 78 [b8 rg,int .i64 b] [] res ro:=by
  refine anb rfl (by decide) ?_;have hmx:=j7;have hok:=bac rg h;obtain ⟨h1,h2,h3⟩:=h;have d1:decide (b<1)=false:=by simp; omega
  push_cast [ajv,b8,d1,zab]
  refine b9 (as':=[b8 rg]) rfl ?_;refine a5 hok rfl trivial ?_
  push_cast [zaa]
  have hlt:∀i,(go b (rg.take i)).length≤i:=fun i=>by unfold go; simp; omega
  refine run_loop [(23, false), (21, false), (22, false), (1, false), (5, false)] (fun vs pos los => ∃ i : Nat, i ≤ rg.length ∧ pos = [] ∧
      (i=0∧vs=[int .i64 i,b8 rg,int .i64 rg.length,int .i64 b,.nils 2 (pnt 0 0)]∧los=[] ∨
       i≠0∧vs=[int .i64 i,b8 rg,int .i64 rg.length,int .i64 b,.own 2000000 0 0 (go b (rg.take i)).length]∧los=[u4 (go b (rg.take i))]))
    (fun vs _ _=>match vs with | .r (.v (.int _ a))::_=>(rg.length-a).toNat | _=>0) rfl ?_ ?_
  · push_cast [b8,pnt]
    exact ⟨0,by omega,.inl ⟨rfl,by simp⟩⟩
  · rintro vs pos los ⟨i,hi,rfl,⟨h0,rfl,rfl⟩ | ⟨h0,rfl,rfl⟩⟩
    · have hlen:=hlt i
      push_cast [b8,pnt,zaa]
      refine c7 (fun hd=>?_) (fun hd=>?_)
      · have hi2:i<rg.length:=by simpa using hd
        obtain ⟨p,hp⟩:∃p,rg[i]?=some p:=⟨rg[i],by simp [hi2]⟩
        have hpb:=h2 p (zam hp);have wi:IntKind.i64.wrap ((i:Int)+1)=(i:Int)+1:=a7 (by omega);have hf1:=qd p.1 b (by unfold in64; omega) (by unfold in64; omega);have hf2:=qd p.2 b (by unfold in64; omega) (by unfold in64; omega);rw [if_pos (by omega),if_pos (by omega)] at hf1 hf2
        have hN:go b (rg.take (i+1))=[(p.1/b,p.2/b)]:=by
          unfold go;rw [zas,hp,zbd];rw [h0]; rfl
        push_cast [b8,zaa,ct hp,ca hp,wi,zae,zad,zac]
        repeat refine And.intro (by first | decide | omega | exact fun _=>by decide | (simp +contextual; done) | kernel_rfl) ?_
        refine a5 hf1 rfl trivial ?_
        push_cast [b8,zaa,wi,zae,zad,zac]
        repeat refine And.intro (by first | decide | omega | exact fun _=>by decide | (simp +contextual; done) | kernel_rfl) ?_
        refine a5 hf2 rfl trivial ?_
        push_cast [b8,zaa,o8,wi,zae,zad,zac]
        repeat refine And.intro (by first | decide | omega | exact fun _=>by decide | (simp +contextual; done) | kernel_rfl) ?_
        exact ⟨⟨i+1,by omega,.inr ⟨by omega,by rw [hN]; simp,by rw [hN]; simp [ptR,pnt]⟩⟩,by omega⟩
      · have hi2:i=rg.length:=by
          have:¬i<rg.length:=by simpa using hd
          omega
        rcases hres with ⟨g0,rfl,rfl⟩ | ⟨g0,rfl,rfl⟩
        · push_cast [pnt]
        · exact absurd (List.length_eq_zero_iff.1 (by omega)) g0
    · have hlen:=hlt i
      push_cast [b8,pnt,zaa]
      refine c7 (fun hd=>?_) (fun hd=>?_)
      · have hi2:i<rg.length:=by simpa using hd
        obtain ⟨p,hp⟩:∃p,rg[i]?=some p:=⟨rg[i],by simp [hi2]⟩
        have hpb:=h2 p (zam hp);have wi:IntKind.i64.wrap ((i:Int)+1)=(i:Int)+1:=a7 (by omega);have hf1:=qd p.1 b (by unfold in64; omega) (by unfold in64; omega);have hf2:=qd p.2 b (by unfold in64; omega) (by unfold in64; omega);rw [if_pos (by omega),if_pos (by omega)] at hf1 hf2
        have hN:go b (rg.take (i+1))=go b (rg.take i)++[(p.1/b,p.2/b)]:=by
          unfold go;rw [zas,hp,zbd]
          rfl
        push_cast [b8,zaa,ct hp,ca hp,wi,zae,zad,zac]
        repeat refine And.intro (by first | decide | omega | exact fun _=>by decide | (simp +contextual; done) | kernel_rfl) ?_
        refine a5 hf1 rfl trivial ?_
        push_cast [b8,zaa,wi,zae,zad,zac]
        repeat refine And.intro (by first | decide | omega | exact fun _=>by decide | (simp +contextual; done) | kernel_rfl) ?_
        refine a5 hf2 rfl trivial ?_
        push_cast [b8,zaa,o8,wi,zae,zad,zac]
        repeat refine And.intro (by first | decide | omega | exact fun _=>by decide | (simp +contextual; done) | kernel_rfl) ?_
        exact ⟨⟨i+1,by omega,.inr ⟨by omega,by rw [hN]; simp,by rw [hN]; simp [ptR,pnt]⟩⟩,by omega⟩
      · have hi2:i=rg.length:=by
          have:¬i<rg.length:=by simpa using hd
          omega
        rcases hres with ⟨g0,rfl,rfl⟩ | ⟨g0,rfl,rfl⟩
        · exfalso; rw [g0] at hi2; exact h0 hi2
        · rw [hi2,zby]; push_cast [pnt]; rfl

theorem auk {u t D:Int} (h0:0<t) (h1:t<D):(0≤u→0≤u*t/D∧u*t/D≤u)∧(u≤0→u≤u*t/D∧u*t/D≤0):=by
 have hD:0<D:=by omega
 constructor
 ·intro hu;have a:=zbn hu (zbb h0);have b:=zaw (zbb h1) hu;exact ⟨Int.ediv_nonneg a (zbb hD),Int.ediv_le_of_le_mul hD b⟩
 ·intro hu;have a:=zbv hu (zbb h1);have b:=zbt hu (zbb h0);rw [Int.zero_mul] at b;exact ⟨Int.le_ediv_of_mul_le hD a,Int.ediv_le_of_le_mul hD (by rw [Int.zero_mul]; exact b)⟩
def Btw (x a b:Int):Prop:=(a≤x∧x≤b)∨(b≤x∧x≤a)
theorem aup {l:Lin} (hl:l.ok) {p q:P2} (hb:fp l p q=true):Btw (s6 l p q).1 p.1 q.1∧Btw (s6 l p q).2 p.2 q.2:=by
 obtain ⟨a,c,b⟩:=l;obtain ⟨px,py⟩:=p;obtain ⟨qx,qy⟩:=q
 have key:∀(u P Q:Int),(P<c∧c<Q)∨(Q<c∧c<P)→∃n:Int,(if Q-P<0 then (-(u*(c-P)))/(-(Q-P)) else if 0<Q-P then (u*(c-P))/(Q-P) else 0)=n∧((0≤u→0≤n∧n≤u)∧(u≤0→u≤n∧n≤0)):=fun u P Q h=>by
  refine ⟨_,rfl,?_⟩;rcases h with h | h
  ·rw [if_neg (by omega),if_pos (by omega)];exact auk (by omega) (by omega)
  ·rw [if_pos (by omega)];have:=auk (u:=u) (t:=P-c) (D:=P-Q) (by omega) (by omega);rw [show -(u*(c-P))=u*(P-c) by rw [← Int.mul_neg]; congr 1; omega,show -(Q-P)=P-Q by omega];exact this
 rcases hl with h | h<;>simp only at h<;>subst h
 ·have hbt:(px<c∧c<qx)∨(qx<c∧c<px):=by simpa [fp,sel] using hb
  obtain ⟨n,hn,h1,h2⟩:=key (qy-py) px qx hbt;have e:s6 ⟨0,c,b⟩ (px,py) (qx,qy)=(c,py+n):=by rw [← hn]; rfl
  rw [e];unfold Btw;simp only;refine ⟨by omega,?_⟩;rcases zbo 0 (qy-py) with h | h
  ·have:=h1 h; omega
  ·have:=h2 h; omega
 ·have hbt:(py<c∧c<qy)∨(qy<c∧c<py):=by simpa [fp,sel] using hb
  obtain ⟨n,hn,h1,h2⟩:=key (qx-px) py qy hbt;have e:s6 ⟨1,c,b⟩ (px,py) (qx,qy)=(px+n,c):=by rw [← hn]; rfl
  rw [e];unfold Btw;simp only;refine ⟨?_,by omega⟩;rcases zbo 0 (qx-px) with h | h
  ·have:=h1 h; omega
  ·have:=h2 h; omega
def xy (lo hi:P2) (rg:List P2):Prop:=∀p∈rg,(lo.1≤p.1∧p.1≤hi.1)∧(lo.2≤p.2∧p.2≤hi.2)
theorem a0d {l:Lin} (hl:l.ok) {lo hi:P2} {rg:List P2} (h:xy lo hi rg):∀i,i≤rg.length→xy lo hi (aa l rg i)
 | 0,_=>by intro p hp; simp [aa] at hp
 | i+1,hi'=>by
  have ih:=a0d hl h i (by omega)
  have hp0:rg.getD i (0,0)∈rg:=by
   rw [zal,zbq (show i<rg.length by omega)];exact List.getElem_mem _
  have hq0:ngh rg i∈rg:=by
   have:(i+1)%rg.length<rg.length:=Nat.mod_lt _ (by omega);unfold ngh;rw [zal,zbq this];exact List.getElem_mem _
  intro p hp;rw [aa] at hp;rcases zao.1 hp with hp | hp
  ·exact ih p hp
  ·unfold uo at hp;rcases zao.1 hp with hp | hp
   ·split at hp
    ·simp only [zan] at hp;subst hp;exact h _ hp0
    ·cases hp
   ·split at hp
    ·rename_i hb;simp only [zan] at hp;subst hp;obtain ⟨b1,b2⟩:=aup hl hb;have a1:=h _ hp0;have a2:=h _ hq0;unfold Btw at b1 b2;omega
    ·cases hp
theorem ah2 {l:Lin} (hl:l.ok) {lo hi:P2} {rg:List P2} (h:xy lo hi rg):xy lo hi (y6 l rg):=a0d hl h _ (zar _)
theorem a9h (l:Lin) (rg:List P2):(y6 l rg).length≤2*rg.length:=ai7 l rg _
theorem atm {lo hi:P2} {a b:P2} {rg:List P2} (h:xy a b rg):∀i,i≤4→xy a b (fu lo hi rg i)∧(fu lo hi rg i).length≤2^i*rg.length
 | 0,_=>⟨h,by simp [fu]⟩
 | i+1,hi'=>by
  obtain ⟨h1,h2⟩:=atm (lo:=lo) (hi:=hi) h i (by omega);obtain ⟨l,hl⟩:∃l,(kk lo hi)[i]?=some l:=⟨(kk lo hi)[i]'(by simp [kk]; omega),by simp [kk,show i<4 by omega]⟩
  have hok:l.ok:=by
   have:=zam hl;simp only [kk,zai,List.not_mem_nil,or_false] at this;rcases this with rfl | rfl | rfl | rfl
   ·exact .inl rfl
   ·exact .inl rfl
   ·exact .inr rfl
   ·exact .inr rfl
  have e:fu lo hi rg (i+1)=y6 l (fu lo hi rg i):=by
   unfold fu;rw [zas,hl,List.foldl_append]
   rfl
  rw [e];refine ⟨ah2 hok h1,Nat.le_trans (a9h _ _) ?_⟩;rw [Nat.pow_succ,Nat.mul_assoc,Nat.mul_left_comm];omega
theorem bcg {a b:P2} {rg:List P2} (h:xy a b rg) (hl:rg.length≤100) (h1:-1099511627776≤a.1∧b.1≤1099511627776∧b.1-a.1≤1073741824) (h2:-1099511627776≤a.2∧b.2≤1099511627776∧b.2-a.2≤1073741824):RgOk rg:=by
 refine ⟨hl,fun p hp=>?_,fun p hp q hq=>?_⟩
 ·have:=h p hp;omega
 ·have:=h p hp;have:=h q hq;omega
theorem bhp (lo hi:P2) (hlo:(-9007199254740992≤lo.1∧lo.1≤9007199254740992)∧(-9007199254740992≤lo.2∧lo.2≤9007199254740992)) (hhi:(-9007199254740992≤hi.1∧hi.1≤9007199254740992)∧(-9007199254740992≤hi.2∧hi.2≤9007199254740992))
  {a b:P2} {rg:List P2} (h:xy a b rg) (hl:rg.length≤6) (h1:-1099511627776≤a.1∧b.1≤1099511627776∧b.1-a.1≤1073741824) (h2:-1099511627776≤a.2∧b.2≤1099511627776∧b.2-a.2≤1073741824) :
  a8 P0 76 [b8 rg,pv2 lo,pv2 hi] [] (.own 1000000 0 0 (xw lo hi rg).length) [u4 (xw lo hi rg)]∧xy a b (xw lo hi rg)∧RgOk (xw lo hi rg):=by
 have key:∀i,i≤4→RgOk (fu lo hi rg i):=fun i hi'=>by
  obtain ⟨g1,g2⟩:=atm (lo:=lo) (hi:=hi) h i hi';have:2^i≤2^4:=zbs (by decide) hi';have:=Nat.mul_le_mul this hl;exact bcg g1 (by omega) h1 h2
 exact ⟨cbox_t lo hi hlo hhi rg fun i hi'=>key i (by omega),(atm h 4 (zar _)).1,key 4 (zar _)⟩

def alc:Mk P0 f185:={ x:=_ }
theorem apc:d5 185 3 alc:=c8 func185
def ald:Mk P0 f181:={ x:=_ }
theorem apd:d5 181 1 ald:=c8 func181
def fk:Mk P0 f219:={ x:=_ }
theorem pg:d5 219 2 fk:=c8 func219
def eg:Mk P0 f182:={ x:=_ }
theorem mr:d5 182 2 eg:=c8 func182
def ark:Mk P0 f128:={ x:=_ }
theorem as9:d5 128 1 ark:=c8 func128
def adq (a b c:P2):Int:=(b.1-a.1)*(c.2-a.2)-(b.2-a.2)*(c.1-a.1)
def near29 (p:P2):Prop:=(-536870912≤p.1∧p.1≤536870912)∧(-536870912≤p.2∧p.2≤536870912)
theorem bes (a b c:P2) (ha:near29 a) (hb:near29 b) (hc:near29 c):a8 P0 185 [pv2 a,pv2 b,pv2 c] [] (int .i64 (adq a b c)) []:=by
 refine apc rfl (by decide) ?_;unfold near29 at ha hb hc;have w1:IntKind.i64.wrap (b.1-a.1)=b.1-a.1:=a7 (by omega);have w2:IntKind.i64.wrap (c.2-a.2)=c.2-a.2:=a7 (by omega);have w3:IntKind.i64.wrap (b.2-a.2)=b.2-a.2:=a7 (by omega);have w4:IntKind.i64.wrap (c.1-a.1)=c.1-a.1:=a7 (by omega);have m1:=gc (x:=b.1-a.1) (y:=c.2-a.2) (n:=1073741824) (m:=1073741824) (by omega) (by omega);have m2:=gc (x:=b.2-a.2) (y:=c.1-a.1) (n:=1073741824) (m:=1073741824) (by omega) (by omega);have w5:IntKind.i64.wrap ((b.1-a.1)*(c.2-a.2))=(b.1-a.1)*(c.2-a.2):=a7 (by omega);have w6:IntKind.i64.wrap ((b.2-a.2)*(c.1-a.1))=(b.2-a.2)*(c.1-a.1):=a7 (by omega)
 have w7:IntKind.i64.wrap ((b.1-a.1)*(c.2-a.2)-(b.2-a.2)*(c.1-a.1))=adq a b c:=a7 (by omega);simp only [alc,pv2,pnt,w1,w2,w3,w4,w5,w6,w7,zae,zad,zac,push_cast,↓reduceIte,reduceCtorEq,zB,zE,zA,zS,zL,zD,zM]
 decide
theorem bgq (p:P2) (h:near29 p):a8 P0 181 [pv2 p] [] (bl false) []:=by
 refine apd rfl (by decide) ?_;unfold near29 at h;have d1:decide (p.1 < -536870912)=false:=by simp; omega
 have d2:decide (p.1>536870912)=false:=by simp; omega
 have d3:decide (p.2 < -536870912)=false:=by simp; omega
 have d4:decide (p.2>536870912)=false:=by simp; omega
 simp only [ald,pv2,pnt,d1,d2,d3,d4,zae,zad,zac,push_cast,↓reduceIte,reduceCtorEq,zB,zE,zA,zS,zL,zD,zM]
 decide
def ac7:AV:=.fn (.func 181) [] 0
theorem bgp (l:List P2) (hl:l.length≤1000) (h:∀p∈l,near29 p):a8 P0 219 [b8 l,ac7] [] (int .i64 (-1)) []:=by
 refine pg rfl (by decide) ?_
 push_cast [fk,b8,ac7,zaa,zab]
 have hfn:xm P0 181=true:=rfl
 refine run_loop [(8,false),(0,false),(1,false),(7,false)] (fun vs pos los=>∃i:Nat,i≤l.length∧vs=[int .i64 i,b8 l,ac7,int .i64 l.length]∧pos=[]∧los=[])
  (fun vs _ _=>match vs with | .r (.v (.int _ a))::_=>(l.length-a).toNat | _=>0) rfl ?_ ?_
 ·push_cast [b8,ac7]
  exact ⟨0,by omega,rfl⟩
 ·rintro vs pos los ⟨i,hi,rfl,rfl,rfl⟩
  push_cast [b8,ac7,zaa]
  refine c7 (fun hd=>?_) (fun hd=>?_)
  ·have hi2:i<l.length:=by simpa using hd
   obtain ⟨p,hp⟩:∃p,l[i]?=some p:=⟨l[i],by simp [hi2]⟩
   have wi:IntKind.i64.wrap ((i:Int)+1)=(i:Int)+1:=a7 (by omega)
   push_cast [b8,ac7,zaa,ct hp,ca hp,hfn,wi]
   repeat refine And.intro (by first | decide | omega | exact fun _=>by decide | (simp +contextual; done) | kernel_rfl) ?_
   refine b9 (as':=[pv2 p]) rfl ?_;refine a5 (bgq p (h p (zam hp))) rfl trivial ?_
   push_cast [b8,ac7,zaa,wi]
   exact ⟨⟨i+1,by omega,rfl⟩,by omega⟩
  ·push_cast [b8,ac7,zaa]
theorem bgt (l:List P2) (hl:l.length≤1000) (h:∀p∈l,near29 p):a8 P0 182 [b8 l,ac7] [] (bl false) []:=by
 refine mr rfl (by decide) ?_;have d:decide ((-1:Int)≥0)=false:=rfl
 push_cast [eg,b8,ac7,zab]
 refine b9 (as':=[b8 l,ac7]) rfl ?_;refine a5 (bgp l hl h) rfl trivial ?_
 push_cast [d]
theorem bas (l:List P2) (hl:l.length≤1000) (h:∀p∈l,near29 p):a8 P0 128 [b8 l] [] (bl true) []:=by
 refine as9 rfl (by decide) ?_;have d:decide ((l.length:Int)≤1000)=true:=by simp; omega
 push_cast [ark,b8,zaa,d,zab]
 refine b9 (as':=[b8 l,ac7]) rfl ?_;refine a5 (bgt l hl h) rfl trivial ?_
 push_cast

def ajq:Mk P0 f132:={ x:=_ }
theorem am6:d5 132 1 ajq:=c8 func132
def jk (p:P2):List P2→List P2
 | b::a::r=>if adq a b p≤0 then jk p (a::r) else b::a::r
 | s=>s
def af (l:List P2):List P2:=l.foldl (fun s p=>p::jk p s) []
def bo (l:List P2):List P2:=(af l).reverse.dropLast
theorem air (p:P2):∀s,∃k,jk p s=s.drop k∧(s≠[]→jk p s≠[])
 | []=>⟨0,rfl,fun h=>h⟩
 | [a]=>⟨0,rfl,fun h=>h⟩
 | b::a::r=>by
  rw [jk];split
  ·obtain ⟨k,h1,h2⟩:=air p (a::r);exact ⟨k+1,by rw [h1]; rfl,fun _=>h2 (by simp)⟩
  ·exact ⟨0,rfl,fun h=>h⟩
theorem a78 {p q:P2} {s:List P2} (h:q∈jk p s):q∈s:=by
 obtain ⟨k,h1,_⟩:=air p s;rw [h1] at h;exact List.mem_of_mem_drop h
theorem a79 (p:P2) (s:List P2):(jk p s).length≤s.length:=by
 obtain ⟨k,h1,_⟩:=air p s;rw [h1,List.length_drop];omega
theorem ng (l:List P2) (p:P2):af (l++[p])=p::jk p (af l):=by simp [af]
theorem nr {α:Type} {P:List α→Prop} (h0:P []) (h1:∀l p,P l→P (l++[p])) (l:List α):P l:=by
 have key:∀r:List α,P r.reverse:=fun r=>by
  induction r with
  | nil=>simpa using h0
  | cons a r ih=>rw [List.reverse_cons]; exact h1 _ _ ih
 have:=key l.reverse
 rwa [List.reverse_reverse] at this
theorem avr (l:List P2):∀{q:P2},q∈af l→q∈l:=by
 refine nr (P:=fun l=>∀{q:P2},q∈af l→q∈l) (fun h=>h) (fun l p ih=>?_) l;intro q h;rw [ng] at h;rcases zai.1 h with rfl | h
 ·simp
 ·exact List.mem_append_left _ (ih (a78 h))
theorem aer (l:List P2):(af l).length≤l.length:=by
 refine nr (P:=fun l=>(af l).length≤l.length) (by simp [af]) (fun l p ih=>?_) l;rw [ng,zaf,zak];have:=a79 p (af l);simp;omega

def Uni (f:P2→Bool) (l:List P2):Prop:=∃(v:Bool) (A B C:List P2),l=A++(B++C)∧(∀a∈A,f a=v)∧(∀b∈B,f b=!v)∧(∀c∈C,f c=v)
def prs (nx:P2):List P2→List (P2×P2)
 | []=>[]
 | [p]=>[(p,nx)]
 | p::q::r=>(p,q)::prs nx (q::r)
theorem azc (nx:P2):∀l,(prs nx l).length=l.length
 | []=>rfl
 | [_]=>rfl
 | p::q::r=>by rw [prs,zaf,azc nx (q::r)]; rfl
theorem abh (nx:P2):∀(A:List P2) (b:P2) (B:List P2),prs nx (A++b::B)=prs b A++prs nx (b::B)
 | [],b,B=>rfl
 | [a],b,B=>rfl
 | a::a'::A,b,B=>by
  have:=abh nx (a'::A) b B;simp only [zbz,prs] at this ⊢;rw [this]
theorem azd (nx:P2):∀(l:List P2) (i:Nat),(prs nx l)[i]?=(l[i]?).map fun p=>(p,(l[i+1]?).getD nx)
 | [],i=>by simp [prs]
 | [p],0=>by simp [prs]
 | [p],i+1=>by simp [prs]
 | p::q::r,0=>by simp [prs]
 | p::q::r,i+1=>by
  rw [prs,List.getElem?_cons_succ,azd nx (q::r) i];simp
def qj (l:Lin) (p q:P2):List P2:=if fp l p q then [s6 l p q] else []
def cu (l:Lin) (x:List (P2×P2)):List P2:=x.flatMap fun p=>p.1::qj l p.1 p.2
theorem abg (l:Lin) (x y:List (P2×P2)):cu l (x++y)=cu l x++cu l y:=by simp [cu]
theorem aru (l:Lin) (rg:List P2) (h:P2) (hh:rg.head?=some h):∀i,i≤rg.length→aa l rg i=((prs h rg).take i).flatMap fun p=>uo l p.1 p.2
 | 0,_=>by simp [aa]
 | i+1,hi=>by
  have hlt:i<rg.length:=by omega
  have hg:=azd h rg i;rw [zbq hlt,Option.map_some] at hg
  have hq:(rg[i+1]?).getD h=ngh rg i:=by
   unfold ngh;rw [zal];by_cases h1:i+1<rg.length
   ·rw [Nat.mod_eq_of_lt h1,zbq h1]
    rfl
   ·have h2:i+1=rg.length:=by omega
    rw [List.getElem?_eq_none (by omega),h2,Nat.mod_self];cases rg with
    | nil=>simp at hlt
    | cons a r=>simp at hh; subst hh; rfl
  rw [hq] at hg;have hp:rg.getD i (0,0)=rg[i]:=by rw [zal,zbq hlt]; rfl
  rw [aa,aru l rg h hh i (by omega),hp,zas,hg,List.flatMap_append];simp
theorem agw (l:Lin) (hl:l.ok) (p q:P2):q7 l (s6 l p q)=true:=by
 obtain ⟨a,c,b⟩:=l;rcases hl with h | h<;>simp only at h<;>subst h<;>cases b<;>simp [q7,s6,sel]
theorem ab8 (l:Lin) (hl:l.ok) (rg:List P2) (h:P2) (hh:rg.head?=some h):y6 l rg=(cu l (prs h rg)).filter (q7 l):=by
 unfold y6;rw [aru l rg h hh _ (zar _),zbg (by rw [azc]; exact zar _)];unfold cu;generalize prs h rg=x
 induction x with
 | nil=>rfl
 | cons p x ih=>
  rw [List.flatMap_cons,List.flatMap_cons,zbi,ih];congr 1;unfold uo qj;rw [List.filter_cons];by_cases hk:q7 l p.1=true
  ·rw [if_pos hk,if_pos hk];split
   ·simp [agw l hl]
   ·simp
  ·rw [if_neg hk,if_neg hk];split
   ·simp [agw l hl]
   ·simp
def thr (a c:Int) (p:P2):Bool:=decide (sel a p≤c)
theorem bbg {x p q:P2} {a c:Int} (h:Btw (sel a x) (sel a p) (sel a q)):(thr a c x=thr a c p∨thr a c x=thr a c q):=by
 unfold Btw at h;unfold thr;by_cases h1:sel a p≤c<;>by_cases h2:sel a q≤c
 ·left; rw [decide_eq_true h1,decide_eq_true (by omega)]
 ·by_cases h3:sel a x≤c
  ·left; rw [decide_eq_true h1,decide_eq_true h3]
  ·right; rw [decide_eq_false h2,decide_eq_false h3]
 ·by_cases h3:sel a x≤c
  ·right; rw [decide_eq_true h2,decide_eq_true h3]
  ·left; rw [decide_eq_false h1,decide_eq_false h3]
 ·left; rw [decide_eq_false h1,decide_eq_false (by omega)]
theorem a58 {l:Lin} (hl:l.ok) {p q:P2} (hb:fp l p q=true) (a:Int):Btw (sel a (s6 l p q)) (sel a p) (sel a q):=by
 obtain ⟨h1,h2⟩:=aup hl hb;unfold sel;split
 ·exact h1
 ·exact h2
theorem az0 {l:Lin} (hl:l.ok) {p q x:P2} (hx:x∈qj l p q) (a c:Int):thr a c x=thr a c p∨thr a c x=thr a c q:=by
 unfold qj at hx;split at hx
 ·rename_i hb;simp only [zan] at hx;subst hx;exact bbg (a58 hl hb a)
 ·cases hx
theorem abe {l:Lin} (hl:l.ok) (a c:Int) (v:Bool) (nx:P2):∀(A:List P2),(∀p∈A,thr a c p=v)→∃A' T,cu l (prs nx A)=A'++T∧(∀p∈A',thr a c p=v)∧(T=[]∨∃x,T=[x]∧(thr a c x=v∨thr a c x=thr a c nx))
 | [],_=>⟨[],[],rfl,by simp,.inl rfl⟩
 | [p],h=>by
  have hp:=h p (by simp);refine ⟨[p],qj l p nx,by simp [cu,prs],by simpa using hp,?_⟩;have hi:=fun x (hx:x∈qj l p nx)=>az0 hl hx a c;unfold qj at hi ⊢;split
  ·rename_i hb;rw [if_pos hb] at hi;have:=hi (s6 l p nx) (by simp);rw [hp] at this;exact .inr ⟨_,rfl,this⟩
  ·exact .inl rfl
 | p::q::r,h=>by
  obtain ⟨A',T,h1,h2,h3⟩:=abe hl a c v nx (q::r) fun x hx=>h x (by simp at hx ⊢; exact .inr hx);have hp:=h p (by simp);have hq:=h q (by simp);refine ⟨p::(qj l p q++A'),T,?_,?_,h3⟩
  ·rw [prs,show cu l ((p,q)::prs nx (q::r))=p::(qj l p q++cu l (prs nx (q::r))) by simp [cu],h1];simp
  ·intro x hx;rcases zai.1 hx with rfl | hx
   ·exact hp
   ·rcases zao.1 hx with hx | hx
    ·rcases az0 hl hx a c with e | e
     ·rw [e,hp]
     ·rw [e,hq]
    ·exact h2 x hx
theorem ahe {f:P2→Bool} {v:Bool} {A B C:List P2} (hA:∀a∈A,f a=v) (hB:∀b∈B,f b=!v) (hC:∀c∈C,f c=v):Uni f (A++(B++C)):=⟨v,A,B,C,rfl,hA,hB,hC⟩
theorem amt {a b:Bool} (h:a≠b):a=!b:=by cases a<;>cases b<;>simp_all
theorem ayu {f:P2→Bool} {v:Bool} {A' T B' S:List P2} (hA:∀p∈A',f p=v) (hT:T=[]∨∃x,T=[x]) (hB:∀p∈B',f p=!v) (hS:S=[]∨∃x,S=[x]):Uni f ((A'++T)++(B'++S)):=by
 have put:∀(A'' B'':List P2),(∀p∈A'',f p=v)→(∀p∈B'',f p=!v)→Uni f (A''++(B''++S)):=fun A'' B'' h1 h2=>by
  rcases hS with rfl | ⟨x,rfl⟩
  ·exact ahe (v:=v) h1 h2 (C:=[]) (by simp)
  ·by_cases hx:f x=v
   ·exact ahe (v:=v) h1 h2 (C:=[x]) (by simpa using hx)
   ·have:=ahe (v:=v) (f:=f) (A:=A'') (B:=B''++[x]) (C:=[]) h1 (fun p hp=>by
     rcases zao.1 hp with hp | hp
     ·exact h2 p hp
     ·simp only [zan] at hp; subst hp; exact amt hx) (by simp)
    simpa using this
 rcases hT with rfl | ⟨x,rfl⟩
 ·rw [zay]; exact put A' B' hA hB
 ·by_cases hx:f x=v
  ·exact put (A'++[x]) B' (fun p hp=>by
    rcases zao.1 hp with hp | hp
    ·exact hA p hp
    ·simp only [zan] at hp; subst hp; exact hx) hB
  ·have:=put A' (x::B') hA (fun p hp=>by
    rcases zai.1 hp with rfl | hp
    ·exact amt hx
    ·exact hB p hp)
   simpa using this
theorem akw {T:List P2} {P:P2→Prop} (h:T=[]∨∃x,T=[x]∧P x):T=[]∨∃x,T=[x]:=h.imp id fun ⟨x,e,_⟩=>⟨x,e⟩
theorem bba {l:Lin} (hl:l.ok) (a c:Int) {rg:List P2} {h:P2} (hh:rg.head?=some h) (hu:Uni (thr a c) rg):Uni (thr a c) (cu l (prs h rg)):=by
 obtain ⟨v,A,B,C,rfl,hA,hB,hC⟩:=hu
 have two:∀(v:Bool) (A B:List P2),(∀p∈A,thr a c p=v)→(∀p∈B,thr a c p=!v)→(A++B).head?=some h→Uni (thr a c) (cu l (prs h (A++B))):=fun v A B hA hB hh=>by
  cases B with
  | nil=>
   rw [zay] at hh ⊢;obtain ⟨A',T,e,g1,g2⟩:=abe hl a c v h A hA;rw [e];have:=ayu (f:=thr a c) (v:=v) (A':=A') (T:=T) (B':=[]) (S:=[]) g1 (akw g2) (by simp) (.inl rfl);simpa using this
  | cons b B=>
   rw [abh,abg];obtain ⟨A',T,e1,g1,g2⟩:=abe hl a c v b A hA;obtain ⟨B',S,e2,k1,k2⟩:=abe hl a c (!v) h (b::B) hB;rw [e1,e2];exact ayu g1 (akw g2) k1 (akw k2)
 cases C with
 | nil=>rw [zay] at hh ⊢; exact two v A B hA hB hh
 | cons c0 C=>
  cases B with
  | nil=>
   have hAC:∀p∈A++(c0::C),thr a c p=v:=fun p hp=>(zao.1 hp).elim (hA p) (hC p);have:=two v (A++(c0::C)) [] hAC (by simp) (by simpa using hh);simpa using this
  | cons b B=>
   cases A with
   | nil=>
    have:=two (!v) (b::B) (c0::C) hB (by rw [Bool.not_not]; exact hC) (by simpa using hh);simpa using this
   | cons a0 A=>
    have h0:h=a0:=by simpa using hh.symm
    subst h0;have hhv:thr a c h=v:=hA h (by simp);rw [show (b::B)++(c0::C)=b::(B++c0::C) from rfl,abh,abg];rw [show b::(B++c0::C)=(b::B)++c0::C from rfl,abh,abg];obtain ⟨A',T,e1,g1,g2⟩:=abe hl a c v b (h::A) hA;obtain ⟨B',S,e2,k1,k2⟩:=abe hl a c (!v) c0 (b::B) hB;obtain ⟨C',Q,e3,q1,q2⟩:=abe hl a c v h (c0::C) hC;rw [e1,e2,e3]
    have hCQ:∀p∈C'++Q,thr a c p=v:=fun p hp=>by
     rcases zao.1 hp with hp | hp
     ·exact q1 p hp
     ·rcases q2 with rfl | ⟨x,rfl,hx⟩
      ·cases hp
      ·simp only [zan] at hp;subst hp;rcases hx with hx | hx
       ·exact hx
       ·rw [hx,hhv]
    obtain ⟨A2,B2,hab,hA2,hB2⟩:∃A2 B2,A'++T++B'=A2++B2∧(∀p∈A2,thr a c p=v)∧(∀p∈B2,thr a c p=!v):=by
     rcases akw g2 with rfl | ⟨x,rfl⟩
     ·exact ⟨A',B',by simp,g1,k1⟩
     ·by_cases hx:thr a c x=v
      ·exact ⟨A'++[x],B',rfl,fun p hp=>by
        rcases zao.1 hp with hp | hp
        ·exact g1 p hp
        ·simp only [zan] at hp; subst hp; exact hx,k1⟩
      ·exact ⟨A',x::B',by simp,g1,fun p hp=>by
        rcases zai.1 hp with rfl | hp
        ·exact amt hx
        ·exact k1 p hp⟩
    obtain ⟨B3,C3,hbc,hB3,hC3⟩:∃B3 C3,B2++S++(C'++Q)=B3++C3∧(∀p∈B3,thr a c p=!v)∧(∀p∈C3,thr a c p=v):=by
     rcases akw k2 with rfl | ⟨x,rfl⟩
     ·exact ⟨B2,C'++Q,by simp,hB2,hCQ⟩
     ·by_cases hx:thr a c x=v
      ·exact ⟨B2,x::(C'++Q),by simp,hB2,fun p hp=>by
        rcases zai.1 hp with rfl | hp
        ·exact hx
        ·exact hCQ p hp⟩
      ·exact ⟨B2++[x],C'++Q,rfl,fun p hp=>by
        rcases zao.1 hp with hp | hp
        ·exact hB2 p hp
        ·simp only [zan] at hp; subst hp; exact amt hx,hCQ⟩
    have:A'++T++(B'++S++(C'++Q))=A2++(B3++C3):=by
     rw [← hbc,← zbj,← zbj,← zbj,← zbj,hab];simp
    rw [this];exact ahe hA2 hB3 hC3
theorem a0w {f g:P2→Bool} {l:List P2} (h:Uni f l):Uni f (l.filter g):=by
 obtain ⟨v,A,B,C,rfl,hA,hB,hC⟩:=h;rw [zbi,zbi];exact ahe (fun p hp=>hA p (zca.1 hp).1) (fun p hp=>hB p (zca.1 hp).1) fun p hp=>hC p (zca.1 hp).1
def apv (rg:List P2):Prop:=∀a c,Uni (thr a c) rg
theorem a80 {l:Lin} (hl:l.ok) {rg:List P2} (h:apv rg):apv (y6 l rg):=fun a c=>by
 cases hr:rg.head? with
 | none=>
  have:rg=[]:=by cases rg with
   | nil=>rfl
   | cons=>simp at hr
  subst this;exact ahe (v:=true) (A:=[]) (B:=[]) (C:=[]) (by simp) (by simp) (by simp)
 | some p=>
  rw [ab8 l hl rg p hr];exact a0w (bba hl a c hr (h a c))
theorem yh {l:Lin} (nx:P2) (K:P2→Bool) (hK:∀p q,fp l p q=true→K p≠K q) (v:Bool):∀(A:List P2),(∀p∈A,K p=v)→((cu l (prs nx A)).filter K).length≤(if v=true then A.length else 0)+(if K nx=v then 0 else 1)∧(A=[]→(cu l (prs nx A)).filter K=[])
 | [],_=>by simp [cu,prs]
 | [p],h=>by
  have hp:=h p (by simp);refine ⟨?_,by simp⟩;rw [show cu l (prs nx [p])=p::qj l p nx by simp [cu,prs],List.filter_cons,hp]
  have hi:(qj l p nx).length≤if K nx=v then 0 else 1:=by
   unfold qj;split
   ·rename_i hb;have:=hK p nx hb;rw [if_neg (fun e=>this (by rw [hp,e]))];simp
   ·simp
  have hf:=List.length_filter_le K (qj l p nx);cases v with
  | true=>simp only [if_true,zaf,zab]; omega
  | false=>simp only [zbf,if_false]; omega
 | p::q::r,h=>by
  have hp:=h p (by simp);have hq:=h q (by simp);obtain ⟨ih,_⟩:=yh nx K hK v (q::r) fun x hx=>h x (by simp at hx ⊢; exact .inr hx);refine ⟨?_,by simp⟩
  have hi:qj l p q=[]:=by
   unfold qj;split
   ·rename_i hb;exact absurd (hp.trans hq.symm) (hK p q hb)
   ·rfl
  rw [prs,show cu l ((p,q)::prs nx (q::r))=p::(qj l p q++cu l (prs nx (q::r))) by simp [cu],hi,zbh,List.filter_cons,hp];cases v with
  | true=>simp only [if_true,zaf] at ih ⊢; omega
  | false=>simp only [zbf,if_false] at ih ⊢; exact ih
theorem bdo {l:Lin} (hl:l.ok) {rg:List P2} (h:apv rg):(y6 l rg).length≤rg.length+1:=by
 have hKd:∀p q,fp l p q=true→q7 l p≠q7 l q:=fun p q hb=>by
  unfold fp at hb;unfold q7;simp only [Bool.or_eq_true,Bool.and_eq_true,decide_eq_true_eq] at hb;split
  ·rcases hb with hb | hb
   ·rw [decide_eq_false (by omega),decide_eq_true (by omega)]; simp
   ·rw [decide_eq_true (by omega),decide_eq_false (by omega)]; simp
  ·rcases hb with hb | hb
   ·rw [decide_eq_true (by omega),decide_eq_false (by omega)]; simp
   ·rw [decide_eq_false (by omega),decide_eq_true (by omega)]; simp
 have hu:Uni (q7 l) rg:=by
  unfold q7;cases ha:l.above with
  | true=>
   obtain ⟨v,A,B,C,e,h1,h2,h3⟩:=h l.axis (l.at'-1)
   have key:∀p,(if true=true then decide (sel l.axis p≥l.at') else decide (sel l.axis p≤l.at'))=!thr l.axis (l.at'-1) p:=fun p=>by
    unfold thr;rw [if_pos rfl];by_cases hq:sel l.axis p≥l.at'
    ·rw [decide_eq_true hq,decide_eq_false (by omega)]; rfl
    ·rw [decide_eq_false hq,decide_eq_true (by omega)]; rfl
   exact ⟨!v,A,B,C,e,fun p hp=>(key p).trans (by rw [h1 p hp]),fun p hp=>(key p).trans (by rw [h2 p hp]),fun p hp=>(key p).trans (by rw [h3 p hp])⟩
  | false=>
   have:=h l.axis l.at';exact this
 cases hr:rg.head? with
 | none=>
  have:rg=[]:=by cases rg with
   | nil=>rfl
   | cons=>simp at hr
  subst this;simp [y6,aa]
 | some h0=>
  rw [ab8 l hl rg h0 hr];generalize q7 l=K at hKd hu ⊢;obtain ⟨v,A,B,C,rfl,hA,hB,hC⟩:=hu
  have two:∀(v:Bool) (A B:List P2),(∀p∈A,K p=v)→(∀p∈B,K p=!v)→(A++B).head?=some h0→((cu l (prs h0 (A++B))).filter K).length≤(A++B).length+1:=fun v A B hA hB hh=>by
   cases B with
   | nil=>
    rw [zay] at hh ⊢;have:=(yh h0 K hKd v A hA).1;have hv:K h0=v:=hA h0 (List.mem_of_mem_head? hh);rw [if_pos hv] at this;split at this<;>omega
   | cons b B=>
    rw [abh,abg,zbi,zak,zak];cases A with
    | nil=>
     have h1:h0=b:=by simpa using hh.symm
     subst h1;have k2:=(yh h0 K hKd (!v) (h0::B) hB).1;rw [if_pos (hB h0 (by simp))] at k2;simp only [prs,cu,List.flatMap_nil,List.filter_nil,zab];have:((cu l (prs h0 (h0::B))).filter K).length≤(h0::B).length+1:=by split at k2<;>omega
     simp only [cu] at this;omega
    | cons a0 A=>
     have h1:h0=a0:=by simpa using hh.symm
     subst h1;have k1:=(yh b K hKd v (h0::A) hA).1;have k2:=(yh h0 K hKd (!v) (b::B) hB).1;simp only [zaf] at k1 k2 ⊢;cases v<;>simp only [if_true,zbr,Bool.not_true,zbf,if_false] at k1 k2<;>(split at k1<;>split at k2<;>omega)
  cases C with
  | nil=>rw [zay] at hr ⊢; exact two v A B hA hB hr
  | cons c0 C=>
   cases B with
   | nil=>
    have:=two v (A++(c0::C)) [] (fun p hp=>(zao.1 hp).elim (hA p) (hC p)) (by simp) (by simpa using hr);simpa using this
   | cons b B=>
    cases A with
    | nil=>
     have:=two (!v) (b::B) (c0::C) hB (by rw [Bool.not_not]; exact hC) (by simpa using hr);simpa using this
    | cons a0 A=>
     have h1:h0=a0:=by simpa using hr.symm
     subst h1;rw [show (b::B)++(c0::C)=b::(B++c0::C) from rfl,abh,abg,zbi];rw [show b::(B++c0::C)=(b::B)++c0::C from rfl,abh,abg,zbi];have k1:=(yh b K hKd v (h0::A) hA).1;have k2:=(yh c0 K hKd (!v) (b::B) hB).1;have k3:=(yh h0 K hKd v (c0::C) hC).1;rw [if_pos (hA h0 (by simp))] at k3;simp only [zak,zaf] at k1 k2 k3 ⊢;cases v<;>simp only [if_true,zbr,Bool.not_true,zbf,if_false] at k1 k2 k3<;>(split at k1<;>split at k2<;>omega)
theorem atk {lo hi:P2} {rg:List P2} (h:apv rg):∀i,i≤4→apv (fu lo hi rg i)∧(fu lo hi rg i).length≤rg.length+i
 | 0,_=>⟨h,by simp [fu]⟩
 | i+1,hi'=>by
  obtain ⟨h1,h2⟩:=atk (lo:=lo) (hi:=hi) h i (by omega);obtain ⟨l,hl⟩:∃l,(kk lo hi)[i]?=some l:=⟨(kk lo hi)[i]'(by simp [kk]; omega),by simp [kk,show i<4 by omega]⟩
  have hok:l.ok:=by
   have:=zam hl;simp only [kk,zai,List.not_mem_nil,or_false] at this;rcases this with rfl | rfl | rfl | rfl
   ·exact .inl rfl
   ·exact .inl rfl
   ·exact .inr rfl
   ·exact .inr rfl
  have e:fu lo hi rg (i+1)=y6 l (fu lo hi rg i):=by
   unfold fu;rw [zas,hl,List.foldl_append]
   rfl
  rw [e];have:=bdo hok h1;exact ⟨a80 hok h1,by omega⟩

def acq:Mk P0 f245:={ x:=_ }
theorem agx:d5 245 1 acq:=c8 func245
def aam:Mk P0 f228:={ x:=_ }
theorem afa:d5 228 2 aam:=c8 func228
def mb:Mk P0 f184:={ x:=_ }
theorem vt:d5 184 2 mb:=c8 func184
def yo:Mk P0 f130:={ x:=_ }
theorem ad2:d5 130 2 yo:=c8 func130
def ada (x y:Int):Int:=if x<y then -1 else if y<x then 1 else 0
theorem a5m (x:Int):a8 P0 245 [int .i64 x] [] (bl false) []:=by
 refine agx rfl (by decide) ?_;have h:(x != x)=false:=by simp
 push_cast [acq,h,zab]
theorem a6d (x y:Int):a8 P0 228 [int .i64 x,int .i64 y] [] (int .i64 (ada x y)) []:=by
 refine afa rfl (by decide) ?_;unfold ada
 push_cast [aam,zab]
 refine a5 (a5m x) rfl trivial ?_
 push_cast
 refine a5 (a5m y) rfl trivial ?_
 push_cast
 refine c7 (fun h1=>?_) (fun h1=>?_)
 ·rw [if_pos (of_decide_eq_true h1)]
  push_cast
 ·have h1:=of_decide_eq_false h1;rw [if_neg h1]
  push_cast
  refine c7 (fun h2=>?_) (fun h2=>?_)
  ·rw [if_pos (of_decide_eq_true h2)]
   push_cast
  ·rw [if_neg (of_decide_eq_false h2)]
   push_cast
def apq (p q:P2):Int:=if ada p.1 q.1≠0 then ada p.1 q.1 else ada p.2 q.2
theorem bfc (p q:P2):a8 P0 184 [.own 1000000 0 0 2,.own 1000001 0 0 2] [.box [int .i64 p.1,int .i64 p.2],.box [int .i64 q.1,int .i64 q.2]] (int .i64 (apq p q)) [.box [int .i64 p.1,int .i64 p.2],.box [int .i64 q.1,int .i64 q.2]]:=by
 refine vt rfl (by simp) ?_;simp only [mb,push_cast,↓reduceIte,reduceCtorEq,zB,zE,zA,zS,zL,zD,zM]
 refine run_loop [(0,false),(1,false),(9,false),(10,false),(11,false)] (fun vs pos los=>∃i:Nat,i≤2∧(1≤i→ada p.1 q.1=0)∧(2≤i→ada p.2 q.2=0)∧vs=[.own 1000000 0 0 2,.own 1000001 0 0 2,.own 1000000 0 0 2,int .i64 2,int .i64 i]∧pos=[.box [int .i64 p.1,int .i64 p.2],.box [int .i64 q.1,int .i64 q.2]]∧los=[])
  (fun vs _ _=>match vs with | [_,_,_,_,.r (.v (.int _ a))]=>(2-a).toNat | _=>0) rfl ?_ ?_
 ·simp only [push_cast,↓reduceIte,reduceCtorEq,zB,zE,zA,zS,zL,zD,zM];exact ⟨0,by omega,by omega,by omega,rfl⟩
 ·rintro vs pos los ⟨i,hi,k1,k2,rfl,rfl,rfl⟩;have d:∀k:Nat,k<2→decide (((k:Nat):Int)<2)=true∧decide (((k:Nat):Int)≥2)=false:=fun k hk=>⟨decide_eq_true (by omega),decide_eq_false (by omega)⟩
  rcases (show i=0∨i=1∨i=2 by omega) with rfl | rfl | rfl
  ·have d1:=(d 0 (by omega)).1;have d2:=(d 0 (by omega)).2;have t0:zaq ((0:Nat):Int)=0:=rfl;have w1:IntKind.i64.wrap (((0:Nat):Int)+1)=((1:Nat):Int):=rfl;have z1:decide ((0:Int)<2)=true:=rfl;have z2:decide ((0:Int)≥2)=false:=rfl;have z0:zaq (0:Int)=0:=rfl;have zw:IntKind.i64.wrap ((0:Int)+1)=1:=rfl;simp only [z1,z2,z0,zw,push_cast,↓reduceIte,reduceCtorEq,zB,zE,zA,zS,zL,zD,zM]
   repeat refine And.intro (by first | decide | omega | exact fun _=>by decide | (simp +contextual; done) | kernel_rfl) ?_
   refine a5 (a6d p.1 q.1) rfl trivial ?_;simp only [push_cast,↓reduceIte,reduceCtorEq,zB,zE,zA,zS,zL,zD,zM];refine c7 (fun hc=>?_) (fun hc=>?_)
   ·have hc:ada p.1 q.1≠0:=by simpa using hc
    simp only [push_cast,↓reduceIte,reduceCtorEq,zB,zE,zA,zS,zL,zD,zM];unfold apq;rw [if_pos hc]
   ·have hc:ada p.1 q.1=0:=by simpa using hc
    simp only [zw,push_cast,↓reduceIte,reduceCtorEq,zB,zE,zA,zS,zL,zD,zM];exact ⟨⟨1,by omega,fun _=>hc,by omega,rfl⟩,by omega⟩
  ·have z1:decide ((1:Int)<2)=true:=rfl;have z2:decide ((1:Int)≥2)=false:=rfl;have z0:zaq (1:Int)=1:=rfl;have zw:IntKind.i64.wrap ((1:Int)+1)=2:=rfl;simp only [z1,z2,z0,zw,push_cast,↓reduceIte,reduceCtorEq,zB,zE,zA,zS,zL,zD,zM]
   repeat refine And.intro (by first | decide | omega | exact fun _=>by decide | (simp +contextual; done) | kernel_rfl) ?_
   refine a5 (a6d p.2 q.2) rfl trivial ?_;simp only [push_cast,↓reduceIte,reduceCtorEq,zB,zE,zA,zS,zL,zD,zM];refine c7 (fun hc=>?_) (fun hc=>?_)
   ·have hc:ada p.2 q.2≠0:=by simpa using hc
    simp only [push_cast,↓reduceIte,reduceCtorEq,zB,zE,zA,zS,zL,zD,zM];unfold apq;rw [if_neg (by rw [k1 (by omega)]; simp)]
   ·have hc:ada p.2 q.2=0:=by simpa using hc
    simp only [zw,push_cast,↓reduceIte,reduceCtorEq,zB,zE,zA,zS,zL,zD,zM];exact ⟨⟨2,by omega,fun _=>k1 (by omega),fun _=>hc,rfl⟩,by omega⟩
  ·have z1:decide ((2:Int)<2)=false:=rfl;simp only [z1,push_cast,↓reduceIte,reduceCtorEq,zB,zE,zA,zS,zL,zD,zM];unfold apq;rw [if_neg (by rw [k1 (by omega)]; simp),k2 (by omega)]
theorem a6w (p q:P2):a8 P0 130 [pv2 p,pv2 q] [] (int .i64 (apq p q)) []:=by
 have hmax:=j7;refine ad2 rfl (by decide) ?_
 push_cast [yo,pv2,pnt,zab]
 refine ⟨by omega,by omega,?_⟩;refine d9 (bfc p q) rfl ⟨rfl,rfl,trivial⟩ ?_
 push_cast
 kernel_rfl

def qi:Mk P0 f220:={ x:=_ }
theorem va:d5 220 4 qi:=c8 func220
def ltP (p q:P2):Bool:=decide (apq p q<0)
def mv (x:P2):List P2→List P2
 | []=>[x]
 | e::r=>if ltP x e=true then e::mv x r else x::e::r
def acz (l:List P2):List P2:=l.foldl (fun s x=>mv x s) []
def y8 (l:List P2):List P2:=(acz l).reverse
theorem aw1 (x:P2):∀s,(mv x s).length=s.length+1
 | []=>rfl
 | e::r=>by
  rw [mv];split
  ·simp [aw1 x r]
  ·simp
theorem acg (l:List P2) (p:P2):acz (l++[p])=mv p (acz l):=by simp [acz]
theorem avs (l:List P2):(acz l).length=l.length:=by
 refine nr (P:=fun l=>(acz l).length=l.length) rfl (fun l p ih=>?_) l;rw [acg,aw1,ih,zak]
 rfl
theorem ach (l:List P2):(y8 l).length=l.length:=by rw [y8,zcf,avs]
def agF:AV:=.fn (.func 130) [] 0
def o6 (l:List P2):Ob:=.row 2 (pnt 0 0) false true (l.map ptR)
theorem bbq (A T:List P2) (e x:P2):(((A++e::x::T).map ptR).set (A.length+1) (ptR e)).set A.length (ptR x)=(A++x::e::T).map ptR:=by
 have h1:(A++e::x::T).set (A.length+1) e=A++e::e::T:=by simp
 have h2:(A++e::e::T).set A.length x=A++x::e::T:=by simp
 rw [← zbk,h1,← zbk,h2]
theorem ab4 (A T:List P2) (e:P2) (z:RV):((A++e::T).map ptR).getD A.length z=ptR e:=by
 rw [zal]; simp
theorem au7 (A T:List P2) (e x:P2) (z:RV):((A++e::x::T).map ptR).getD (A.length+1) z=ptR x:=by
 rw [zal]; simp
set_option maxHeartbeats 4000000 in
theorem bgi (l:List P2) (hl:1≤l.length∧l.length≤1000):a8 P0 220 [.own 1000000 0 0 l.length,int .i64 0,int .i64 l.length,agF] [o6 l] (.tup []) [o6 (y8 l)]:=by
 refine va rfl (by simp) ?_;have hfn:xm P0 130=true:=rfl;have w0:IntKind.i64.wrap ((0:Int)+1)=1:=rfl
 push_cast [qi,agF,o6,w0,zab,zaf]
 refine run_loop [(0,false),(1,false),(2,false),(3,false),(8,false)] (fun vs pos los=>∃i:Nat,1≤i∧i≤l.length∧vs=[.own 1000000 0 0 l.length,int .i64 0,int .i64 l.length,agF,int .i64 i]∧pos=[o6 (y8 (l.take i)++l.drop i)]∧los=[])
  (fun vs _ _=>match vs with | [_,_,_,_,.r (.v (.int _ a))]=>(l.length-a).toNat | _=>0) rfl ?_ ?_
 ·push_cast
  obtain ⟨p,r,rfl⟩:∃p r,l=p::r:=by
   cases l with
   | nil=>simp at hl
   | cons p r=>exact ⟨p,r,rfl⟩
  exact ⟨1,by omega,by omega,rfl,rfl⟩
 ·rintro vs pos los ⟨i,i1,i2,rfl,rfl,rfl⟩
  push_cast [agF,o6]
  refine c7 (fun hi=>?_) (fun hi=>?_)
  ·have hi:i<l.length:=by have:=of_decide_eq_true hi; omega
   have wi:IntKind.i64.wrap ((i:Int)+1)=(i:Int)+1:=a7 (by omega);obtain ⟨x,hx⟩:∃x,l[i]=x:=⟨_,rfl⟩
   have htk:l.take (i+1)=l.take i++[x]:=by rw [zcg hi,hx]
   have hdr:l.drop i=x::l.drop (i+1):=by rw [List.drop_eq_getElem_cons hi,hx]
   obtain ⟨s,hs⟩:∃s,acz (l.take i)=s:=⟨_,rfl⟩
   have hsl:s.length=i:=by rw [← hs,avs,zbx]; omega
   have hsort:y8 (l.take i)=s.reverse:=by rw [y8,hs]
   have hsort2:y8 (l.take (i+1))=(mv x s).reverse:=by rw [y8,htk,acg,hs]
   obtain ⟨D,hD⟩:∃D,l.drop (i+1)=D:=⟨_,rfl⟩
   rw [hsort,hdr,hD]
   push_cast
   refine run_loop [(0,false),(1,false),(2,false),(3,false),(8,false),(9,false)] (fun vs pos los=>∃(m r:List P2),s=m++r∧mv x s=m++mv x r∧vs=[.own 1000000 0 0 l.length,int .i64 0,int .i64 l.length,agF,int .i64 i,int .i64 r.length]∧pos=[o6 (r.reverse++x::(m.reverse++D))]∧los=[])
    (fun vs _ _=>match vs with | [_,_,_,_,_,.r (.v (.int _ a))]=>a.toNat | _=>0) rfl ?_ ?_
   ·push_cast [agF,o6]
    exact ⟨[],s,rfl,rfl,by rw [hsl],rfl⟩
   ·rintro vs pos los ⟨m,r,hm,hins,rfl,rfl,rfl⟩
    have hend:∀T,T=r.reverse++x::(m.reverse++D)→mv x r=x::r→T=y8 (l.take (i+1))++D:=fun T hT hr=>by
     rw [hT,hsort2,hins,hr];simp
    cases r with
    | nil=>
     have z0:decide ((0:Int)>0)=false:=rfl
     push_cast [agF,o6,z0,wi,zab]
     refine And.intro (by kernel_rfl) ⟨⟨i+1,by omega,by omega,by simp,?_⟩,by omega⟩;rw [hend _ rfl rfl,hD]
    | cons e r=>
     have hrl:r.length<i:=by rw [← hsl,hm]; simp; omega
     have z1:decide (((r.length:Nat):Int)+1>0)=true:=decide_eq_true (by omega);have wj:IntKind.i64.wrap (((r.length:Nat):Int)+1-1)=(r.length:Int):=by rw [a7 (by omega)]; omega
     have hag:=a6w x e;have hR:(e::r).reverse++x::(m.reverse++D)=r.reverse++e::x::(m.reverse++D):=by simp
     obtain ⟨T,hT⟩:∃T,m.reverse++D=T:=⟨_,rfl⟩
     obtain ⟨A,hA⟩:∃A,r.reverse=A:=⟨_,rfl⟩
     have hAl:A.length=r.length:=by rw [← hA]; simp
     rw [hR,hT,hA];have ge:=ab4 A (x::T) e;have gx:=au7 A T e x;rw [hAl] at ge gx;have hpe:ptR e=.agg [.v (.int .i64 e.1),.v (.int .i64 e.2)]:=rfl;have hpx:ptR x=.agg [.v (.int .i64 x.1),.v (.int .i64 x.2)]:=rfl
     push_cast [agF,o6,z1,wj,ge,gx,hpe,hpx,hfn,zaf,zah,zaj,zac]
     refine ⟨⟨by omega,by omega⟩,⟨by omega,by omega⟩,?_⟩;refine u6 (as':=[pv2 x,pv2 e]) rfl ?_;refine d9 hag rfl trivial ?_
     push_cast [agF,o6,z1,wj,ge,gx,hpe,hpx,hfn,zaf,zah,zaj,zac]
     refine And.intro (by kernel_rfl) ?_;refine c7 (fun hc=>?_) (fun hc=>?_)
     ·have hlt:ltP x e=true:=hc;have hset:=bbq A T e x;rw [hAl,hpe,hpx] at hset
      have ge2:∀z,(((A++e::x::T).map ptR).set (r.length+1) (.agg [.v (.int .i64 e.1),.v (.int .i64 e.2)])).getD r.length z=.agg [.v (.int .i64 e.1),.v (.int .i64 e.2)]:=fun z=>by
       rw [zal,List.getElem?_set_ne (by omega),← zal,ge];exact hpe
      push_cast [agF,o6,wj,ge,gx,ge2,hpe,hpx,hset,d7,zaf,zah,zaj,zac]
      repeat refine And.intro (by first | exact ⟨by omega,by omega⟩ | kernel_rfl) ?_
      refine ⟨⟨m++[e],r,by rw [hm]; simp,by rw [hins,mv,if_pos hlt]; simp,by simp,?_⟩,by omega⟩;rw [← hA,← hT];simp
     ·have hlt:ltP x e=false:=hc
      push_cast [wi]
      refine ⟨⟨i+1,by omega,by omega,by simp,?_⟩,by omega⟩;have:=hend (A++e::x::T) (by rw [← hA,← hT]; simp) (by rw [mv,hlt]; rfl);rw [this,hD]
  ·have hi:i=l.length:=by have:=of_decide_eq_false hi; omega
   subst hi
   push_cast
   rw [zby,List.drop_length,zay]

def rk:Mk P0 f183:={ x:=_ }
theorem vz:d5 183 5 rk:=c8 func183
def rb:Mk P0 f129:={ x:=_ }
theorem vr:d5 129 2 rb:=c8 func129
def adi:Mk P0 f133:={ x:=_ }
theorem ahk:d5 133 1 adi:=c8 func133
def a2v (n:Nat):Nat:=if n=0 then 0 else Nat.log2 n+1
theorem a82 (n:Nat) (hn:n<16):a8 P0 214 [int .u64 n] [] (int .i64 (a2v n)) []:=by
 refine adl rfl (by decide) ?_;have g1:decide ((n:Int)≥4294967296)=false:=by simp; omega
 have g2:decide ((n:Int)≥65536)=false:=by simp; omega
 have g3:decide ((n:Int)≥256)=false:=by simp; omega
 have w:IntKind.u8.wrap (n:Int)=n:=by simp [IntKind.wrap,IntKind.bits,IntKind.signed]; omega
 push_cast [adb,g1,g2,g3,w,zah,zab]
 refine ⟨⟨by omega,(show (n:Int)<((256:Nat):Int) by omega)⟩,?_⟩;refine congrArg (fun z=>AV.r (.v (.int .i64 z))) ?_;clear g1 g2 g3 w
 revert n
 decide +kernel
theorem a5n (n:Nat) (hn:n<16):a8 P0 169 [int .u64 n] [] (int .i64 (a2v n)) []:=by
 refine agi rfl (by decide) ?_;have w:IntKind.u64.wrap (n:Int)=n:=by rw [IntKind.wrap_u64]; omega
 push_cast [ag3,w,zab]
 refine a5 (a82 n hn) rfl trivial ?_
 push_cast
theorem bfp (l:List P2) (hl:1≤l.length∧l.length≤12) (lim:Int):a8 P0 183 [.own 1000000 0 0 l.length,int .i64 0,int .i64 l.length,int .i64 lim,agF] [o6 l] (.tup []) [o6 (y8 l)]:=by
 refine vz rfl (by simp) ?_
 push_cast [rk,agF,o6,zab,zaf]
 refine run_loop [(0,false),(1,false),(2,false),(3,false),(4,false),(10,false),(11,false)] (fun vs pos los=>vs=[.own 1000000 0 0 l.length,int .i64 0,int .i64 l.length,int .i64 lim,agF,bl true,bl true]∧pos=[o6 l]∧los=[])
  (fun _ _ _=>0) rfl ?_ ?_
 ·push_cast [agF,o6]
 ·rintro vs pos los ⟨rfl,rfl,rfl⟩;have w0:IntKind.i64.wrap ((l.length:Int)-0)=(l.length:Int):=by rw [a7 (by omega)]; omega
  have d0:decide ((l.length:Int)≤12)=true:=decide_eq_true (by omega)
  push_cast [agF,o6,w0,d0]
  refine agh ?_
  push_cast
  refine b9 (as':=[.own 1000000 0 0 l.length,int .i64 0,int .i64 l.length,agF]) rfl ?_;refine a5 (po:=[o6 l]) (bgi l (by omega)) rfl ⟨⟨rfl,by simp [ach]⟩,trivial⟩ ?_
  push_cast [o6,zaf,zab]
theorem be1 (l:List P2) (hl:1≤l.length∧l.length≤12):a8 P0 129 [.own 1000000 0 0 l.length,agF] [o6 l] (.tup []) [o6 (y8 l)]:=by
 refine vr rfl (by simp) ?_;have w:IntKind.u64.wrap ((l.length:Nat):Int)=(l.length:Int):=by rw [IntKind.wrap_u64]; omega
 push_cast [rb,agF,o6,w,zab,zaf]
 refine a5 (a5n l.length (by omega)) rfl trivial ?_
 push_cast
 refine agh ?_
 push_cast
 refine b9 (as':=[.own 1000000 0 0 l.length,int .i64 0,int .i64 l.length,int .i64 (a2v l.length),agF]) rfl ?_;refine a5 (po:=[o6 l]) (bfp l hl _) rfl ⟨⟨rfl,by simp [ach]⟩,trivial⟩ ?_
 push_cast [o6,zaf,zab]
set_option maxHeartbeats 2000000 in
theorem bgo (l G:List P2) (hl:l.length≤1000):a8 P0 133 [.own 1000000 0 0 l.length] [o6 (l++G)] (.tup []) [o6 (l.reverse++G)]:=by
 refine ahk rfl (by simp) ?_;have w0:IntKind.i64.wrap ((l.length:Int)-1)=(l.length:Int)-1:=a7 (by omega)
 push_cast [adi,o6,w0,zab,zaf]
 refine run_loop [(0,false),(2,false),(3,false)] (fun vs pos los=>∃(A M B:List P2),A.length=B.length∧l.reverse=A++(M.reverse++B)∧vs=[.own 1000000 0 0 l.length,int .i64 A.length,int .i64 ((l.length:Int)-1-A.length)]∧pos=[o6 (A++(M++(B++G)))]∧los=[])
  (fun vs _ _=>match vs with | [_,_,.r (.v (.int _ a))]=>a.toNat | _=>0) rfl ?_ ?_
 ·push_cast [o6]
  refine ⟨[],l,[],rfl,by simp,?_,?_⟩
  ·simp
  ·simp
 ·rintro vs pos los ⟨A,M,B,hAB,hrev,rfl,rfl,rfl⟩
  have hlen:l.length=A.length+(M.length+B.length):=by
   have:=congrArg List.length hrev;simpa using this
  push_cast [o6]
  refine c7 (fun hc=>?_) (fun hc=>?_)
  ·have hc:=of_decide_eq_true hc
   obtain ⟨p,M',q,rfl⟩:∃p M' q,M=p::(M'++[q]):=by
    cases M with
    | nil=>simp at hlen; omega
    | cons p M=>
     rcases List.eq_nil_or_concat M with rfl | ⟨M',q,rfl⟩
     ·simp at hlen; omega
     ·exact ⟨p,M',q,by simp⟩
   obtain ⟨J,hJ⟩:∃J:Nat,J=A.length+M'.length+1:=⟨_,rfl⟩
   simp only [zaf,zak,zab] at hlen;have hj:((l.length:Nat):Int)-1-(A.length:Int)=(J:Int):=by omega
   obtain ⟨T,hT⟩:∃T,B++G=T:=⟨_,rfl⟩
   have hrow:A++(p::(M'++[q])++(B++G))=A++p::(M'++q::T):=by rw [hT]; simp
   have gp:∀z,((A++p::(M'++q::T)).map ptR).getD A.length z=.agg [.v (.int .i64 p.1),.v (.int .i64 p.2)]:=fun z=>ab4 A _ p z
   have gq:∀z,((A++p::(M'++q::T)).map ptR).getD J z=.agg [.v (.int .i64 q.1),.v (.int .i64 q.2)]:=fun z=>by
    have:=ab4 (A++p::M') T q z;rw [show A++p::(M'++q::T)=(A++p::M')++q::T by simp,hJ];simp only [zak,zaf] at this;rw [show A.length+M'.length+1=A.length+(M'.length+1) by omega];exact this
   have s1:((A++p::(M'++q::T)).map ptR).set A.length (.agg [.v (.int .i64 q.1),.v (.int .i64 q.2)])=(A++q::(M'++q::T)).map ptR:=by
    rw [show (RV.agg [.v (.int .i64 q.1),.v (.int .i64 q.2)])=ptR q from rfl,← zbk];congr 1;simp
   have gq2:∀z,((A++q::(M'++q::T)).map ptR).getD J z=.agg [.v (.int .i64 q.1),.v (.int .i64 q.2)]:=fun z=>by
    have:=ab4 (A++q::M') T q z;rw [show A++q::(M'++q::T)=(A++q::M')++q::T by simp,hJ];simp only [zak,zaf] at this;rw [show A.length+M'.length+1=A.length+(M'.length+1) by omega];exact this
   have s2:((A++q::(M'++q::T)).map ptR).set J (.agg [.v (.int .i64 p.1),.v (.int .i64 p.2)])=(A++q::(M'++p::T)).map ptR:=by
    rw [show (RV.agg [.v (.int .i64 p.1),.v (.int .i64 p.2)])=ptR p from rfl,← zbk];congr 1
    have h1:((A++q::M')++q::T).set J p=(A++q::M')++p::T:=by
     rw [show J=(A++q::M').length by simp; omega];simp
    rw [show A++q::(M'++q::T)=(A++q::M')++q::T by simp,h1];simp
   have wi:IntKind.i64.wrap ((A.length:Int)+1)=(A.length:Int)+1:=a7 (by omega);have wj:IntKind.i64.wrap ((J:Int)-1)=(J:Int)-1:=a7 (by omega);rw [hj,hrow]
   push_cast [o6,gp,gq,gq2,s1,s2,wi,wj,d7,zah,zaj,zac]
   repeat refine And.intro (by first | exact ⟨by omega,by omega⟩ | kernel_rfl) ?_
   refine ⟨⟨A++[q],M',p::B,by simp; omega,by rw [hrev]; simp,?_,?_⟩,by omega⟩
   ·simp;omega
   ·rw [← hT]; simp
  ·have hc:=of_decide_eq_false hc
   push_cast
   rw [hrev]
   have hM:M.reverse=M:=by
    rcases M with _ | ⟨p,_ | ⟨q,M⟩⟩
    ·rfl
    ·rfl
    ·simp at hlen; omega
   rw [hM];simp

def rz:Mk P0 f131:={ x:=_ }
theorem wc:d5 131 1 rz:=c8 func131
def my (u:P2):List P2→List P2
 | []=>[]
 | q::r=>if q=u then my u r else q::my q r
def ci:List P2→List P2
 | []=>[]
 | p::r=>p::my p r
theorem apo:∀(u:P2) (l:List P2),(my u l).length≤l.length
 | u,[]=>zar _
 | u,q::r=>by
  rw [my];split
  ·have:=apo u r; simp; omega
  ·have:=apo q r; simp; omega
theorem aly (l:List P2):(ci l).length≤l.length:=by
 cases l with
 | nil=>exact zar _
 | cons p r=>have:=apo p r; simp [ci]; exact this
theorem a2d (p q:P2):(p.1 == q.1&&p.2 == q.2)=decide (p=q):=by
 rw [Bool.eq_iff_iff];simp [Prod.ext_iff]
theorem bbl (o W:List P2) (k n:Nat) (hk:k=o.length) (hn:n=W.length):spl ((o++W).map ptR) k (zcb n (.agg [.v (.int .i64 0),.v (.int .i64 0)]))=(o++zcb n (0,0)).map ptR:=by
 subst hk; subst hn;unfold spl d7;rw [zbd,List.take_left' (by simp),List.drop_of_length_le (by simp),zay,zbd,List.map_replicate]
 rfl
set_option maxHeartbeats 4000000 in
theorem bg6 (l:List P2) (hl:1≤l.length∧l.length≤1000):a8 P0 131 [.own 1000000 0 0 l.length] [o6 l] (.own 1000000 0 0 (ci l).length) [o6 (ci l++zcb (l.length-(ci l).length) (0,0))]:=by
 refine wc rfl (by simp) ?_;simp only [rz,o6,push_cast,↓reduceIte,reduceCtorEq,zB,zE,zA,zS,zL,zD,zM];refine c7 (fun h2=>?_) (fun h2=>?_)
 ·have h2:=of_decide_eq_true h2
  obtain ⟨p,rfl⟩:∃p,l=[p]:=by
   rcases l with _ | ⟨p,_ | ⟨q,r⟩⟩
   ·simp at hl
   ·exact ⟨p,rfl⟩
   ·simp at h2; omega
  simp only [push_cast,↓reduceIte,reduceCtorEq,zB,zE,zA,zS,zL,zD,zM];exact ⟨rfl,rfl⟩
 ·have h2:=of_decide_eq_false h2;simp only [push_cast,↓reduceIte,reduceCtorEq,zB,zE,zA,zS,zL,zD,zM]
  refine run_loop [(0,false),(3,false)] (fun vs pos los=>∃(A:List P2) (x:P2) (T:List P2),l=A++x::T∧ci l=A++x::my x T∧vs=[.own 1000000 0 0 l.length,int .i64 ((A.length:Int)+1)]∧pos=[o6 (A++x::T)]∧los=[])
   (fun vs _ _=>match vs with | [_,.r (.v (.int _ a))]=>(l.length-a).toNat | _=>0) rfl ?_ ?_
  ·simp only [o6,push_cast,↓reduceIte,reduceCtorEq,zB,zE,zA,zS,zL,zD,zM]
   obtain ⟨p,r,rfl⟩:∃p r,l=p::r:=by
    cases l with
    | nil=>simp at hl
    | cons p r=>exact ⟨p,r,rfl⟩
   exact ⟨[],p,r,rfl,rfl,rfl,rfl⟩
  ·rintro vs pos los ⟨A,x,T,hlA,hcA,rfl,rfl,rfl⟩;have hlen:l.length=A.length+1+T.length:=by rw [hlA]; simp; omega
   simp only [o6,push_cast,↓reduceIte,reduceCtorEq,zB,zE,zA,zS,zL,zD,zM];cases T with
   | nil=>
    have z0:decide (((A.length:Nat):Int)+1<((l.length:Nat):Int))=false:=decide_eq_false (by simp at hlen; omega);simp only [z0,push_cast,↓reduceIte,reduceCtorEq,zB,zE,zA,zS,zL,zD,zM];rw [hcA];have h1:(A++x::my x []).length=l.length:=by rw [hlA]; rfl
    rw [h1,Nat.sub_self];simp [my]
   | cons y T=>
    simp only [zaf] at hlen;have z0:decide (((A.length:Nat):Int)+1<((l.length:Nat):Int))=true:=decide_eq_true (by omega);have wk:IntKind.i64.wrap (((A.length:Nat):Int)+1-1)=(A.length:Int):=by rw [a7 (by omega)]; omega
    have wk2:IntKind.i64.wrap (((A.length:Nat):Int)+1+1)=(A.length:Int)+2:=by
     have:A.length<1000:=by omega
     rw [a7 (by omega)]; omega
    have gx:∀z,((A++x::y::T).map ptR).getD A.length z=.agg [.v (.int .i64 x.1),.v (.int .i64 x.2)]:=fun z=>ab4 A _ x z;have gy:∀z,((A++x::y::T).map ptR).getD (A.length+1) z=.agg [.v (.int .i64 y.1),.v (.int .i64 y.2)]:=fun z=>au7 A _ x y z;have heq:=a2d y x;simp only [z0,wk,gx,gy,zah,zaj,zac,push_cast,↓reduceIte,reduceCtorEq,zB,zE,zA,zS,zL,zD,zM];refine And.intro ⟨by omega,by omega⟩ ?_;refine And.intro ⟨by omega,by omega⟩ ?_;refine And.intro (by kernel_rfl) ?_;refine c7 (fun hyx=>?_) (fun hyx=>?_)
    ·have hyx:y=x:=of_decide_eq_true (heq.symm.trans hyx);subst hyx;obtain ⟨k0,hk0⟩:∃k0,A.length+1=k0:=⟨_,rfl⟩
     have hk1:((A.length:Nat):Int)+1=(k0:Int):=by omega
     have hk2:((A.length:Nat):Int)+2=(k0:Int)+1:=by omega
     simp only [o6,hk0,hk1,zah,zaj,zac,push_cast,↓reduceIte,reduceCtorEq,zB,zE,zA,zS,zL,zD,zM];obtain ⟨n0,hn0⟩:∃n0:Nat,((l.length:Int)-(k0:Int)).toNat=n0:=⟨_,rfl⟩
     have hnn:n0=T.length+1:=by omega
     refine And.intro ⟨by omega,by omega,by omega⟩ ?_;simp only [hn0]
     refine run_loop [(0,false),(3,false),(4,false),(5,false)] (fun vs pos los=>∃(C W T2:List P2) (u:P2) (k k2:Nat),k=C.length+1∧k0+k2=C.length+1+W.length+1∧1≤k2∧C.length+1+W.length+1+T2.length=l.length∧ci l=C++u::my u T2∧vs=[.own 1000000 0 0 l.length,int .i64 k,.own 1000000 0 k0 n0,int .i64 k2]∧pos=[o6 ((C++[u])++(W++u::T2))]∧los=[])
      (fun vs _ _=>match vs with | [_,_,_,.r (.v (.int _ a))]=>(l.length-a).toNat | _=>0) rfl ?_ ?_
     ·simp only [o6,push_cast,↓reduceIte,reduceCtorEq,zB,zE,zA,zS,zL,zD,zM];refine ⟨A,[],T,y,k0,1,by omega,by simp; omega,by omega,by simp; omega,?_,rfl,?_⟩
      ·rw [hcA,my,if_pos rfl]
      ·simp
     ·rintro vs pos los ⟨C,W,T2,u,k,k2,hk,hkk,hk21,hL,hcC,rfl,rfl,rfl⟩;simp only [o6,push_cast,↓reduceIte,reduceCtorEq,zB,zE,zA,zS,zL,zD,zM];cases T2 with
      | nil=>
       simp only [zab] at hL;have z1:decide (((k2:Nat):Int)<((n0:Nat):Int))=false:=decide_eq_false (by omega);simp only [z1,o6,zah,zaj,zac,push_cast,↓reduceIte,reduceCtorEq,zB,zE,zA,zS,zL,zD,zM];have hcC2:ci l=C++[u]:=hcC;have hcl:(ci l).length=C.length+1:=by rw [hcC2]; simp
       refine ⟨⟨by omega,by omega,by omega⟩,⟨by omega,by omega,by omega,by omega⟩,?_,?_⟩
       ·rw [hcl,show (zaq 0)=0 from rfl,show ((k:Int)-0).toNat=C.length+1 by omega]
       ·rw [bbl (C++[u]) (W++[u]) k _ (by simp; omega) (by simp; omega),hcl,hcC2,show ((l.length:Int)-(k:Int)).toNat=l.length-(C.length+1) by omega]
      | cons v T3=>
       simp only [zaf] at hL;have z1:decide (((k2:Nat):Int)<((n0:Nat):Int))=true:=decide_eq_true (by omega);have wk4:IntKind.i64.wrap (((k2:Nat):Int)-1)=((k2-1:Nat):Int):=by rw [a7 (by omega)]; omega
       have wk5:IntKind.i64.wrap (((k2:Nat):Int)+1)=((k2+1:Nat):Int):=by rw [a7 (by omega)]; omega
       have wk6:IntKind.i64.wrap (((k:Nat):Int)+1)=((k+1:Nat):Int):=by rw [a7 (by omega)]; omega
       have gu:∀z,(((C++[u])++(W++u::v::T3)).map ptR).getD (k0+(k2-1)) z=.agg [.v (.int .i64 u.1),.v (.int .i64 u.2)]:=fun z=>by
        rw [← zbj,show k0+(k2-1)=((C++[u])++W).length by simp; omega];exact ab4 _ _ u z
       have gv:∀z,(((C++[u])++(W++u::v::T3)).map ptR).getD (k0+k2) z=.agg [.v (.int .i64 v.1),.v (.int .i64 v.2)]:=fun z=>by
        rw [← zbj,show k0+k2=((C++[u])++W).length+1 by simp; omega];exact au7 _ _ u v z
       simp only [z1,wk4,wk5,wk6,gu,gv,o6,zah,zaj,zac,push_cast,↓reduceIte,reduceCtorEq,zB,zE,zA,zS,zL,zD,zM];refine And.intro ⟨by omega,by omega⟩ ?_;refine And.intro ⟨by omega,by omega⟩ ?_;refine And.intro (by kernel_rfl) ?_;have heq2:=a2d v u;refine c7 (fun hvu=>?_) (fun hvu=>?_)
       ·have hvu:v≠u:=by
         have h3:(v.1 == u.1&&v.2 == u.2)=false:=by
          generalize (v.1 == u.1&&v.2 == u.2)=q at hvu;cases q
          ·rfl
          ·cases hvu
         exact of_decide_eq_false (heq2.symm.trans h3)
        obtain ⟨W',hW',hset⟩:∃W':List P2,W'.length=W.length∧(((C++[u])++(W++u::v::T3)).map ptR).set k (.agg [.v (.int .i64 v.1),.v (.int .i64 v.2)])=(((C++[u])++[v])++(W'++v::T3)).map ptR:=by
         subst hk;rw [show (RV.agg [.v (.int .i64 v.1),.v (.int .i64 v.2)])=ptR v from rfl,← zbk];cases W with
         | nil=>exact ⟨[],rfl,by congr 1; simp⟩
         | cons w W2=>exact ⟨W2++[u],by simp,by congr 1; simp⟩
        obtain ⟨q,hq⟩:∃q:P2,∀z,(((C++[u])++(W++u::v::T3)).map ptR).getD k z=.agg [.v (.int .i64 q.1),.v (.int .i64 q.2)]:=by
         rw [show k=(C++[u]).length by simp; omega];cases W with
         | nil=>exact ⟨u,ab4 _ _ u⟩
         | cons w W2=>exact ⟨w,ab4 _ _ w⟩
        simp only [wk5,wk6,gv,hq,hset,o6,zah,zaj,zac,push_cast,↓reduceIte,reduceCtorEq,zB,zE,zA,zS,zL,zD,zM]
        repeat refine And.intro (by first | exact ⟨by omega,by omega⟩ | kernel_rfl) ?_
        refine ⟨⟨C++[u],W',T3,v,k+1,k2+1,by simp; omega,by simp; omega,by omega,by simp; omega,?_,by simp,rfl⟩,by omega⟩;rw [hcC,my,if_neg hvu];simp
       ·have hvu:v=u:=by
         have h3:(v.1 == u.1&&v.2 == u.2)=true:=by
          generalize (v.1 == u.1&&v.2 == u.2)=q at hvu;cases q
          ·cases hvu
          ·rfl
         exact of_decide_eq_true (heq2.symm.trans h3)
        subst hvu;simp only [wk5,o6,zah,zaj,zac,push_cast,↓reduceIte,reduceCtorEq,zB,zE,zA,zS,zL,zD,zM];refine ⟨⟨C,W++[v],T3,v,k,k2+1,by omega,by simp; omega,by omega,by simp; omega,?_,by simp,by simp⟩,by omega⟩;rw [hcC,my,if_pos rfl]
    ·have hyx:y≠x:=of_decide_eq_false (heq.symm.trans hyx);have wk3:IntKind.i64.wrap (((A.length:Nat):Int)+1+1)=(A.length:Int)+1+1:=by rw [wk2]; omega
     simp only [wk3,o6,zah,zaj,zac,push_cast,↓reduceIte,reduceCtorEq,zB,zE,zA,zS,zL,zD,zM];refine ⟨⟨A++[x],y,T,by rw [hlA]; simp,?_,by simp,by simp⟩,by omega⟩;rw [hcA,my,if_neg hyx];simp

theorem av8 (p a:P2):jk p [a]=[a]:=rfl
set_option maxHeartbeats 4000000 in
theorem a0h (l:List P2) (hl:1≤l.length∧l.length≤1000) (hn:∀p∈l,near29 p):a8 P0 132 [b8 l] [] (.own 1000000 0 0 ((af l).length-1)) [u4 (af l).reverse]:=by
  refine am6 rfl (by decide) ?_;have hmx:=j7;have hsl:∀i,(af (l.take i)).length≤i:=fun i=>by have:=aer (l.take i); simp at this; omega
  simp only [ajq,b8,push_cast,↓reduceIte,reduceCtorEq,zB,zE,zA,zS,zL,zD,zM]
  refine run_loop [(8, false), (6, false), (7, false), (3, false)] (fun vs pos los => ∃ i : Nat, i ≤ l.length ∧ pos = [] ∧
      (i=0∧vs=[int .i64 i,b8 l,int .i64 l.length,.nils 2 (pnt 0 0)]∧los=[] ∨
       i≠0∧vs=[int .i64 i,b8 l,int .i64 l.length,.own 2000000 0 0 (af (l.take i)).length]∧los=[u4 (af (l.take i)).reverse]))
    (fun vs _ _=>match vs with | .r (.v (.int _ a))::_=>(l.length-a).toNat | _=>0) rfl ?_ ?_
  · simp only [b8,pnt,push_cast,↓reduceIte,reduceCtorEq,zB,zE,zA,zS,zL,zD,zM];exact ⟨0,by omega,.inl ⟨rfl,by simp⟩⟩
  · rintro vs pos los ⟨i,hi,rfl,⟨h0,rfl,rfl⟩ | ⟨h0,rfl,rfl⟩⟩
    · simp only [b8,pnt,push_cast,↓reduceIte,reduceCtorEq,zB,zE,zA,zS,zL,zD,zM];refine c7 (fun hd=>?_) (fun hd=>?_)
      · have hi2:i<l.length:=by simpa using hd
        obtain ⟨p,hp⟩:∃p,l[i]?=some p:=⟨l[i],by simp [hi2]⟩
        have wi:IntKind.i64.wrap ((i:Int)+1)=(i:Int)+1:=a7 (by omega);have z0:decide ((0:Int)>1)=false:=rfl
        have hN:af (l.take (i+1))=[p]:=by
          subst h0;rw [zas,hp];simp [af,jk]
        simp only [b8,pnt,zaa,ct hp,ca hp,wi,z0,zae,zad,zac,push_cast,↓reduceIte,reduceCtorEq,zB,zE,zA,zS,zL,zD,zM]
        repeat refine And.intro (by first | decide | omega | exact fun _=>by decide | (simp +contextual; done) | kernel_rfl) ?_
        refine run_loop [(8,false),(6,false),(7,false),(3,false),(5,false)] (fun vs pos los=>vs=[int .i64 i,b8 l,int .i64 l.length,.nils 2 (pnt 0 0),.ptr 2000000 0 0]∧pos=[]∧los=[.box [int .i64 p.1,int .i64 p.2]])
          (fun _ _ _=>0) rfl ?_ ?_
        · simp only [b8,pnt,ptR,push_cast,↓reduceIte,reduceCtorEq,zB,zE,zA,zS,zL,zD,zM]
        · rintro vs pos los ⟨rfl,rfl,rfl⟩;simp only [b8,pnt,z0,wi,push_cast,↓reduceIte,reduceCtorEq,zB,zE,zA,zS,zL,zD,zM];refine And.intro (by kernel_rfl) (And.intro (by simp) (And.intro (by omega) ⟨⟨i+1,by omega,.inr ⟨by omega,?_,?_⟩⟩,by omega⟩))
          · rw [hN]; simp
          · rw [hN]; simp [ptR,pnt]
      · have hi2:¬i<l.length:=by simpa using hd
        exact absurd hi2 (by omega)
    · have hlen:=hsl i;obtain ⟨S,hS⟩:∃S,af (l.take i)=S:=⟨_,rfl⟩
      have hSn:S≠[]:=by
        rw [← hS];obtain ⟨j,rfl⟩:∃j,i=j+1:=⟨i-1,by omega⟩
        rw [zcg (by omega),ng];simp
      have hSm:∀q∈S,near29 q:=fun q hq=>hn q (List.mem_of_mem_take (avr _ (hS▸hq)));rw [hS];rw [hS] at hlen;simp only [b8,pnt,push_cast,↓reduceIte,reduceCtorEq,zB,zE,zA,zS,zL,zD,zM];refine c7 (fun hd=>?_) (fun hd=>?_)
      · have hi2:i<l.length:=by simpa using hd
        obtain ⟨p,hp⟩:∃p,l[i]?=some p:=⟨l[i],by simp [hi2]⟩
        have hpn:near29 p:=hn p (zam hp);have wi:IntKind.i64.wrap ((i:Int)+1)=(i:Int)+1:=a7 (by omega)
        have hN:af (l.take (i+1))=p::jk p S:=by
          rw [zas,hp,← hS];exact ng _ p
        simp only [b8,pnt,zaa,ct hp,ca hp,wi,zae,zad,zac,push_cast,↓reduceIte,reduceCtorEq,zB,zE,zA,zS,zL,zD,zM]
        repeat refine And.intro (by first | decide | omega | exact fun _=>by decide | (simp +contextual; done) | kernel_rfl) ?_
        refine run_loop [(8,false),(6,false),(7,false),(3,false),(5,false)] (fun vs pos los=>∃(s G:List P2),s≠[]∧S.reverse=s.reverse++G∧jk p S=jk p s∧vs=[int .i64 i,b8 l,int .i64 l.length,.own 2000000 0 0 s.length,.ptr 2000001 0 0]∧pos=[]∧los=[u4 (s.reverse++G),.box [int .i64 p.1,int .i64 p.2]])
          (fun vs _ _=>match vs with | [_,_,_,.own _ _ _ n,_]=>n | _=>0) rfl ?_ ?_
        · simp only [b8,pnt,ptR,push_cast,↓reduceIte,reduceCtorEq,zB,zE,zA,zS,zL,zD,zM];exact ⟨S,[],hSn,by simp,rfl,rfl,by simp [pnt,ptR]⟩
        · rintro vs pos los ⟨s,G,hs,hSG,hpop,rfl,rfl,rfl⟩
          have hsS:s.length≤S.length:=by
            have:=congrArg List.length hSG;simp at this;omega
          have hsm:∀q∈s,near29 q:=fun q hq=>hSm q (by
            have:q∈S.reverse:=by rw [hSG]; simp [hq]
            simpa using this)
          have hend:∀n,n=s.length→zaz n ((s.reverse++G).map ptR)=s.reverse.map ptR:=fun n hn=>by
            rw [zbd,List.take_left' (by simp [hn])]
          rcases s with _ | ⟨b,_ | ⟨a,r⟩⟩
          · exact absurd rfl hs
          · have z0:decide ((1:Int)>1)=false:=rfl;simp only [b8,pnt,z0,wi,push_cast,↓reduceIte,reduceCtorEq,zB,zE,zA,zS,zL,zD,zM];refine And.intro (by kernel_rfl) (And.intro (by simp) (And.intro (by omega) ⟨⟨i+1,by omega,.inr ⟨by omega,?_,?_⟩⟩,by omega⟩))
            · rw [hN,hpop,av8]; simp
            · rw [hN,hpop,av8,hend 1 rfl]; simp [ptR,pnt]
          · have z0:decide (((r.length:Nat):Int)+1+1>1)=true:=decide_eq_true (by omega);simp only [zaf] at hsS;have wk1:IntKind.i64.wrap (((r.length:Nat):Int)+1+1-2)=(r.length:Int):=by rw [a7 (by omega)]; omega
            have wk2:IntKind.i64.wrap (((r.length:Nat):Int)+1+1-1)=(r.length:Int)+1:=by rw [a7 (by omega)]; omega
            obtain ⟨A,hA⟩:∃A,r.reverse=A:=⟨_,rfl⟩
            have hAl:A.length=r.length:=by rw [← hA]; simp
            have hR:(b::a::r).reverse++G=A++a::b::G:=by rw [← hA]; simp
            have ga:=ab4 A (b::G) a;have gb:=au7 A G a b;rw [hAl] at ga gb;have hpa:ptR a=.agg [.v (.int .i64 a.1),.v (.int .i64 a.2)]:=rfl;have hpb:ptR b=.agg [.v (.int .i64 b.1),.v (.int .i64 b.2)]:=rfl;have htn:=bes a b p (hsm a (by simp)) (hsm b (by simp)) hpn;rw [hR] at hend ⊢;simp only [b8,pnt,z0,wi,wk1,wk2,ga,gb,hpa,hpb,zah,zaj,zac,push_cast,↓reduceIte,reduceCtorEq,zB,zE,zA,zS,zL,zD,zM];refine And.intro ⟨by omega,by omega⟩ ?_;refine And.intro ⟨by omega,by omega⟩ ?_;refine u6 (as':=[pv2 a,pv2 b,pv2 p]) rfl ?_;refine d9 htn rfl trivial ?_;simp only [b8,pnt,z0,wi,wk1,wk2,ga,gb,hpa,hpb,zah,zaj,zac,push_cast,↓reduceIte,reduceCtorEq,zB,zE,zA,zS,zL,zD,zM];refine And.intro (by kernel_rfl) ?_
            refine c7 (fun hc=>?_) (fun hc=>?_)
            · have hc:=of_decide_eq_true hc;simp only [b8,pnt,wi,wk2,zah,zaj,zac,push_cast,↓reduceIte,reduceCtorEq,zB,zE,zA,zS,zL,zD,zM];refine ⟨⟨by omega,by omega,by omega,by omega⟩,⟨a::r,b::G,by simp,by rw [hSG,hR,← hA]; simp,?_,?_,?_⟩,by omega⟩
              · rw [hpop,jk,if_pos hc]
              · rw [show ((r.length:Int)+1-0).toNat=r.length+1 by omega]; simp
              · rw [← hA]; simp [u4,pnt]
            · have hc:=of_decide_eq_false hc;simp only [b8,pnt,wi,wk2,zah,zaj,zac,push_cast,↓reduceIte,reduceCtorEq,zB,zE,zA,zS,zL,zD,zM];have hN2:af (l.take (i+1))=p::b::a::r:=by rw [hN,hpop,jk,if_neg hc]
              refine ⟨by simp,⟨by omega,by omega⟩,⟨i+1,by omega,.inr ⟨by omega,?_,?_⟩⟩,by omega⟩
              · rw [hN2]; simp
              · rw [hN2,hend (r.length+1+1) rfl]; simp [u4,pnt,ptR]
      · have hi2:i=l.length:=by
          have:¬i<l.length:=by simpa using hd
          omega
        have hS2:af l=S:=by rw [← hS,hi2,zby]
        have hSp:1≤S.length:=by
          cases S with
          | nil=>exact absurd rfl hSn
          | cons b r=>simp
        have wk:IntKind.i64.wrap ((S.length:Int)-1)=(S.length:Int)-1:=a7 (by omega);rw [hS2];simp only [b8,pnt,wk,zah,zaj,zac,push_cast,↓reduceIte,reduceCtorEq,zB,zE,zA,zS,zL,zD,zM];exact ⟨⟨by omega,by omega,by omega,by omega⟩,by rw [show (zaq 0)=0 from rfl,show ((S.length:Int)-1-0).toNat=S.length-1 by omega],rfl⟩

def ai2:Mk P0 f77:={ x:=_ }
theorem ahw:d5 77 1 ai2:=c8 func77
def ol (rg:List P2):List P2:=if (ci (y8 rg)).length<3 then [] else if (bo (ci (y8 rg))++bo (ci (y8 rg)).reverse).length<3 then [] else bo (ci (y8 rg))++bo (ci (y8 rg)).reverse
theorem ao9 {x q:P2}:∀{s:List P2},q∈mv x s→q=x∨q∈s
 | [],h=>by simp [mv] at h; exact .inl h
 | e::r,h=>by
  rw [mv] at h;split at h
  ·rcases zai.1 h with rfl | h
   ·simp
   ·rcases ao9 h with rfl | h
    ·simp
    ·simp [h]
  ·simpa using h
theorem a7i (l:List P2):∀{q:P2},q∈acz l→q∈l:=by
 refine nr (P:=fun l=>∀{q:P2},q∈acz l→q∈l) (fun h=>h) (fun l p ih=>?_) l;intro q h;rw [acg] at h;rcases ao9 h with rfl | h
 ·simp
 ·exact List.mem_append_left _ (ih h)
theorem akl {l:List P2} {q:P2} (h:q∈y8 l):q∈l:=a7i l (by simpa [y8] using h)
theorem apn {q:P2}:∀{u:P2} {l:List P2},q∈my u l→q∈l
 | u,[],h=>h
 | u,v::r,h=>by
  rw [my] at h;split at h
  ·exact zat _ (apn h)
  ·rcases zai.1 h with rfl | h
   ·simp
   ·exact zat _ (apn h)
theorem alx {q:P2} {l:List P2} (h:q∈ci l):q∈l:=by
 cases l with
 | nil=>exact h
 | cons v r=>
  rcases zai.1 h with rfl | h
  ·simp
  ·exact zat _ (apn h)
theorem aul (l:List P2):∀o∈[u4 l],ea o:=fun o ho=>by
 rw [zan.1 ho];intro x hx;obtain ⟨p,_,rfl⟩:=zbc.1 hx;exact ⟨trivial,trivial,trivial⟩
theorem ad9 (l:List P2):(af l).length-1=(bo l).length:=by simp [bo]
theorem an5 (l:List P2):zaz (bo l).length ((af l).reverse.map ptR)=(bo l).map ptR:=by
 rw [← List.map_take];congr 1;rw [bo,List.dropLast_eq_take,zbx,Nat.min_eq_left (by simp)]
set_option maxHeartbeats 4000000 in
theorem hull_t (rg : List P2) (hl : 1 ≤ rg.length ∧ rg.length ≤ 12) (hn : ∀ p ∈ rg, near29 p) {res : AV} {ro : List Ob}
    (hres:(ol rg=[]∧res=.nils 2 (pnt 0 0)∧ro=[])∨(ol rg≠[]∧res=.own 1000000 0 0 (ol rg).length∧ro=[u4 (ol rg)])) :
    a8 P0 77 [b8 rg] [] res ro:=by
  refine ahw rfl (by decide) ?_;have hmx:=j7;have hok:=bas rg (by omega) hn
  push_cast [ai2,b8,zab]
  refine b9 (as':=[b8 rg]) rfl ?_;refine a5 hok rfl trivial ?_
  push_cast [zaa]
  refine run_loop [(12, false), (10, false), (11, false), (3, false)] (fun vs pos los => ∃ i : Nat, i ≤ rg.length ∧ pos = [] ∧
      (i=0∧vs=[int .i64 i,b8 rg,int .i64 rg.length,.nils 2 (pnt 0 0)]∧los=[] ∨
       i≠0∧vs=[int .i64 i,b8 rg,int .i64 rg.length,.own 2000000 0 0 i]∧los=[u4 (rg.take i)]))
    (fun vs _ _=>match vs with | .r (.v (.int _ a))::_=>(rg.length-a).toNat | _=>0) rfl ?_ ?_
  · push_cast [b8,pnt]
    exact ⟨0,by omega,.inl ⟨rfl,by simp⟩⟩
  · rintro vs pos los ⟨i,hi,rfl,⟨h0,rfl,rfl⟩ | ⟨h0,rfl,rfl⟩⟩
    · push_cast [b8,pnt,zaa]
      refine c7 (fun hd=>?_) (fun hd=>?_)
      · have hi2:i<rg.length:=by simpa using hd
        obtain ⟨p,hp⟩:∃p,rg[i]?=some p:=⟨rg[i],by simp [hi2]⟩
        have wi:IntKind.i64.wrap ((i:Int)+1)=(i:Int)+1:=a7 (by omega)
        have hN:rg.take (i+1)=[p]:=by
          rw [zas,hp,h0]; rfl
        push_cast [b8,zaa,ct hp,ca hp,wi,zae,zad,zac]
        repeat refine And.intro (by first | decide | omega | exact fun _=>by decide | (simp +contextual; done) | kernel_rfl) ?_
        exact ⟨⟨i+1,by omega,.inr ⟨by omega,by simp [h0],by rw [hN]; simp [ptR,pnt]⟩⟩,by omega⟩
      · have hi2:¬i<rg.length:=by simpa using hd
        exact absurd hi2 (by omega)
    · push_cast [b8,pnt,zaa]
      refine c7 (fun hd=>?_) (fun hd=>?_)
      · have hi2:i<rg.length:=by simpa using hd
        obtain ⟨p,hp⟩:∃p,rg[i]?=some p:=⟨rg[i],by simp [hi2]⟩
        have wi:IntKind.i64.wrap ((i:Int)+1)=(i:Int)+1:=a7 (by omega)
        have hN:rg.take (i+1)=rg.take i++[p]:=by
          rw [zas,hp]; rfl
        have htk:zaz i ((rg.take i).map ptR)=(rg.take i).map ptR:=zbg (by simp; omega)
        push_cast [b8,zaa,ct hp,ca hp,htk,wi,zae,zad,zac]
        repeat refine And.intro (by first | decide | omega | exact fun _=>by decide | (simp +contextual; done) | kernel_rfl) ?_
        exact ⟨⟨i+1,by omega,.inr ⟨by omega,by simp,by rw [hN]; simp [ptR,pnt]⟩⟩,by omega⟩
      · have hi2:i=rg.length:=by
          have:¬i<rg.length:=by simpa using hd
          omega
        subst hi2;rw [zby]
        push_cast [b8,pnt,zaa]
        have hne:rg.map ptR≠[]:=by
          intro h;have:=congrArg List.length h;simp at this;rw [this] at hl;simp at hl
        refine a2q 2000000 0 2 _ (rg.map ptR) rfl hne ?_
        push_cast [pnt]
        refine b9 (as':=[.own 1000000 0 0 rg.length,agF]) rfl ?_;refine a5 (po:=[o6 rg]) (be1 rg hl) rfl ⟨⟨rfl,by simp [ach]⟩,trivial⟩ ?_
        push_cast [o6,pnt,zaf,zab]
        refine agh ?_
        push_cast [pnt]
        obtain ⟨s,hs⟩:∃s,y8 rg=s:=⟨_,rfl⟩
        have hsl:s.length=rg.length:=by rw [← hs,ach]
        have hsn:∀p∈s,near29 p:=fun p hp=>hn p (akl (hs▸hp));unfold ol at hres;rw [hs] at hres ⊢;refine b9 (as':=[.own 1000000 0 0 s.length]) (by rw [hsl]) ?_;refine a5 (po:=[o6 s]) (bg6 s (by omega)) rfl ⟨⟨rfl,by have:=aly s; simp; omega⟩,trivial⟩ ?_;obtain ⟨c,hc⟩:∃c,ci s=c:=⟨_,rfl⟩
        have hcl:c.length≤s.length:=by rw [← hc]; exact aly s
        have hcn:∀p∈c,near29 p:=fun p hp=>hsn p (alx (hc▸hp));rw [hc] at hres ⊢;obtain ⟨G,hG⟩:∃G,zcb (s.length-c.length) ((0,0):P2)=G:=⟨_,rfl⟩
        rw [hG]
        push_cast [o6,pnt,zaf,zab]
        refine c7 (fun hd=>?_) (fun hd=>?_)
        · have hd:c.length<3:=by have:=of_decide_eq_true hd; omega
          rw [if_pos hd] at hres;rcases hres with ⟨_,rfl,rfl⟩ | ⟨h,_⟩
          · push_cast [pnt]
          · exact absurd rfl h
        · have hd:¬c.length<3:=by have:=of_decide_eq_false hd; omega
          rw [if_neg hd] at hres
          push_cast [pnt]
          have htk:∀A:List P2,A.length=c.length→zaz c.length ((A++G).map ptR)=A.map ptR:=fun A hA=>by
            rw [zbd,List.take_left' (by simp [hA])]
          refine ku ?_;rw [htk c rfl]
          push_cast [pnt]
          refine b9 (as':=[b8 c]) rfl ?_;refine nj (a0h c (by omega) hcn) rfl trivial trivial (aul _) ?_
          push_cast [o6,u4,pnt,zaf,zab]
          refine agh ?_
          push_cast [pnt]
          refine b9 (as':=[.own 1000000 0 0 c.length]) rfl ?_;refine a5 (po:=[o6 (c++G)]) (bgo c G (by omega)) rfl ⟨⟨rfl,by simp⟩,trivial⟩ ?_
          push_cast [o6,u4,pnt,zaf,zab]
          refine ku ?_;rw [htk c.reverse (by simp)]
          push_cast [pnt]
          refine b9 (as':=[b8 c.reverse]) rfl ?_;refine nj (a0h c.reverse (by simp; omega) (fun p hp=>hcn p (by simpa using hp))) rfl trivial trivial (aul _) ?_;have e1:=ad9 c;have e2:=ad9 c.reverse;have e3:=an5 c;have e4:=an5 c.reverse
          push_cast [o6,u4,pnt,e1,e2,e3,e4,zaf,zab,zaa]
          have b1:=aer c;have b2:=aer c.reverse;rw [zcf] at b2;refine And.intro ⟨by omega,by omega⟩ ?_;refine c7 (fun hq=>?_) (fun hq=>?_)
          · have hq:(bo c++bo c.reverse).length<3:=by have:=of_decide_eq_true hq; rw [zak]; omega
            rw [if_pos hq] at hres;rcases hres with ⟨_,rfl,rfl⟩ | ⟨h,_⟩
            · push_cast [pnt]
            · exact absurd rfl h
          · have hq:¬(bo c++bo c.reverse).length<3:=by have:=of_decide_eq_false hq; rw [zak]; omega
            rw [if_neg hq] at hres;rcases hres with ⟨h,_,_⟩ | ⟨_,rfl,rfl⟩
            · rw [h] at hq;exact absurd (by simp) hq
            · push_cast [u4,pnt,zak]
              simp

def jl (p q:P2):Prop:=p.1<q.1∨(p.1=q.1∧p.2≤q.2)
theorem azg {D o:P2→P2→Prop} (hr:∀a,D a a) (ht:∀a b c,D a b→D b c→D a c) (hD:∀a b p,o a b→o b p→adq a b p≤0→D a b∨D p b) (p:P2) :
  ∀s:List P2,(p::s).Pairwise (fun b a=>o a b)→∀q∈s,∃c∈p::jk p s,D c q
 | [],_,q,hq=>by simp at hq
 | [a],_,q,hq=>⟨q,zat _ hq,hr q⟩
 | b::a::r,hs,q,hq=>by
  rw [jk];have h1:=zbe.1 hs;have h2:=zbe.1 h1.2;split
  ·rename_i hc;have ih:=azg hr ht hD p (a::r) (zbe.2 ⟨fun x hx=>h1.1 x (zat _ hx),h2.2⟩);rcases zai.1 hq with rfl | hq
   ·rcases hD a q p (h2.1 a (by simp)) (h1.1 q (by simp)) hc with h | h
    ·obtain ⟨c,hc1,hc2⟩:=ih a (by simp);exact ⟨c,hc1,ht _ _ _ hc2 h⟩
    ·exact ⟨p,by simp,h⟩
   ·exact ih q hq
  ·exact ⟨q,zat _ hq,hr q⟩
theorem a77 (p:P2) (s:List P2):(jk p s).Sublist s:=by
 obtain ⟨k,h1,_⟩:=air p s;rw [h1];exact List.drop_sublist k s
theorem a7h (l:List P2):(af l).Sublist l.reverse:=by
 refine nr (P:=fun l=>(af l).Sublist l.reverse) (List.Sublist.refl _) (fun l p ih=>?_) l;rw [ng,List.reverse_append];exact List.Sublist.cons_cons p ((a77 p _).trans ih)
theorem ay1 {D o:P2→P2→Prop} (hr:∀a,D a a) (ht:∀a b c,D a b→D b c→D a c) (hD:∀a b p,o a b→o b p→adq a b p≤0→D a b∨D p b) (l:List P2) :
  l.Pairwise o→∀q∈l,∃c∈af l,D c q:=by
 refine nr (P:=fun l=>l.Pairwise o→∀q∈l,∃c∈af l,D c q) (fun _ q hq=>by simp at hq) (fun l p ih=>?_) l;intro hs q hq;rw [ng];have h1:=List.pairwise_append.1 hs
 have hrev:(p::l.reverse).Pairwise (fun b a=>o a b):=by
  refine zbe.2 ⟨fun x hx=>h1.2.2 x (by simpa using hx) p (by simp),?_⟩;exact List.pairwise_reverse.2 h1.1
 rcases zao.1 hq with hq | hq
 ·obtain ⟨c,hc1,hc2⟩:=ih h1.1 q hq;obtain ⟨c',hc3,hc4⟩:=azg hr ht hD p (af l) (hrev.sublist (List.Sublist.cons_cons p (a7h l))) c hc1;exact ⟨c',hc3,ht _ _ _ hc4 hc2⟩
 ·rw [zan.1 hq];exact ⟨p,by simp,hr p⟩
theorem av9 (x p:P2):∀T:List P2,∃T',jk x (T++[p])=T'++[p]
 | []=>⟨[],rfl⟩
 | [a]=>by
  simp only [zbz,zbh];rw [jk];split
  ·exact ⟨[],rfl⟩
  ·exact ⟨[a],rfl⟩
 | b::a::r=>by
  simp only [zbz];rw [jk];split
  ·exact av9 x p (a::r)
  ·exact ⟨b::a::r,rfl⟩
theorem ay2 (p:P2) (rest:List P2):∃T,af (p::rest)=T++[p]∧(rest≠[]→T≠[]):=by
 refine nr (P:=fun rest=>∃T,af (p::rest)=T++[p]∧(rest≠[]→T≠[])) ⟨[],rfl,fun h=>absurd rfl h⟩ (fun l x ih=>?_) rest;obtain ⟨T,hT,_⟩:=ih;obtain ⟨T',hT'⟩:=av9 x p T;refine ⟨x::T',?_,fun _=>by simp⟩;rw [← zbz,ng,hT,hT']
 rfl
theorem a5d (p q:P2):ltP p q=true↔(p.1<q.1∨(p.1=q.1∧p.2<q.2)):=by
 unfold ltP apq ada;rw [decide_eq_true_iff];split<;>split<;>(try split)<;>(try split)<;>omega
theorem alb (x:P2):∀(s:List P2) (q:P2),q=x∨q∈s→q∈mv x s
 | [],q,h=>by simpa [mv] using h
 | e::r,q,h=>by
  rw [mv];split
  ·rcases h with rfl | h
   ·exact zat _ (alb q r q (.inl rfl))
   ·rcases zai.1 h with rfl | h
    ·simp
    ·exact zat _ (alb x r q (.inr h))
  ·simpa using h
theorem a04 {l:List P2} {q:P2} (h:q∈l):q∈y8 l:=by
 have key:∀l:List P2,∀q∈l,q∈acz l:=fun l=>by
  refine nr (P:=fun l=>∀q∈l,q∈acz l) (fun q h=>h) (fun l p ih q hq=>?_) l;rw [acg];refine alb _ _ _ ?_;rcases zao.1 hq with h | h
  ·exact .inr (ih q h)
  ·exact .inl (by simpa using h)
 unfold y8;simpa using key l q h
theorem aw0 (x:P2):∀s:List P2,s.Pairwise (fun b a=>jl a b)→(mv x s).Pairwise (fun b a=>jl a b)
 | [],_=>by simp [mv]
 | e::r,h=>by
  have h1:=zbe.1 h;rw [mv];split
  ·rename_i hlt;have hlt:=(a5d x e).1 hlt;refine zbe.2 ⟨fun y hy=>?_,aw0 x r h1.2⟩;rcases ao9 hy with rfl | hy
   ·unfold jl; omega
   ·exact h1.1 y hy
  ·rename_i hlt;have hlt:¬(x.1<e.1∨(x.1=e.1∧x.2<e.2)):=fun h=>hlt ((a5d x e).2 h);refine zbe.2 ⟨fun y hy=>?_,h⟩;rcases zai.1 hy with rfl | hy
   ·unfold jl; omega
   ·have:=h1.1 y hy;unfold jl at this ⊢; omega
theorem a3r (l:List P2):(y8 l).Pairwise jl:=by
 unfold y8;refine List.pairwise_reverse.2 ?_;refine nr (P:=fun l=>(acz l).Pairwise (fun b a=>jl a b)) List.Pairwise.nil (fun l p ih=>?_) l;rw [acg];exact aw0 p _ ih
theorem apm:∀(u:P2) (l:List P2),(my u l).Sublist l
 | u,[]=>List.Sublist.refl _
 | u,q::r=>by
  rw [my];split
  ·exact (apm u r).cons q
  ·exact (apm q r).cons_cons q
theorem a6c (l:List P2):(ci l).Sublist l:=by
 cases l with
 | nil=>exact List.Sublist.refl _
 | cons p r=>exact (apm p r).cons_cons p
theorem al0:∀(u:P2) (l:List P2) (q:P2),q∈l→q=u∨q∈my u l
 | u,[],q,h=>by simp at h
 | u,v::r,q,h=>by
  rw [my];split
  ·rename_i hv;rcases zai.1 h with h | h
   ·exact .inl (h.trans hv)
   ·exact al0 u r q h
  ·rcases zai.1 h with h | h
   ·exact .inr (by simp [h])
   ·rcases al0 v r q h with h | h
    ·exact .inr (by simp [h])
    ·exact .inr (zat _ h)
theorem a2g {l:List P2} {q:P2} (h:q∈l):q∈ci l:=by
 cases l with
 | nil=>exact h
 | cons p r=>
  show q∈p::my p r;rcases zai.1 h with h | h
  ·simp [h]
  ·rcases al0 p r q h with h | h
   ·simp [h]
   ·exact zat _ h

def shP (d p:P2):P2:=(p.1+d.1,p.2+d.2)

theorem a9i {l:Lin} (hl:l.ok) (p q:P2):sel l.axis (s6 l p q)=l.at':=by
 rcases hl with h | h<;>simp [s6,sel,h]

def a7b (v:Bool) (bs:List Bool):Bool:=((bs.dropWhile (· == v)).dropWhile (· == !v)).all (· == v)
theorem a7a (f:P2→Bool) (l:List P2) (v:Bool) (h:a7b v (l.map f)=true):Uni f l:=by
 refine ⟨v,l.takeWhile (fun p=>f p == v),(l.dropWhile (fun p=>f p == v)).takeWhile (fun p=>f p == !v),(l.dropWhile (fun p=>f p == v)).dropWhile (fun p=>f p == !v),?_,?_,?_,?_⟩
 ·rw [List.takeWhile_append_dropWhile,List.takeWhile_append_dropWhile]
 ·intro a ha;have:=List.all_takeWhile (p:=fun p=>f p == v) (l:=l);have:=zbm.1 this a ha;simpa using this
 ·intro a ha;have:=List.all_takeWhile (p:=fun p=>f p == !v) (l:=l.dropWhile (fun p=>f p == v));have:=zbm.1 this a ha;simpa using this
 ·intro a ha;unfold a7b at h;rw [List.dropWhile_map,List.dropWhile_map,List.all_map] at h;have:=zbm.1 h a ha;simpa using this
theorem ay3 (a b c X t:Int) (h:b=a+c):a7b (decide (X+a≤t)) [decide (X+a≤t),decide (X+b≤t),decide (X+c≤t),decide (X + -a≤t),decide (X + -b≤t),decide (X + -c≤t)]=true:=by
 subst h
 cases h0:decide (X+a≤t)<;>cases h1:decide (X+(a+c)≤t)<;>cases h2:decide (X+c≤t)<;>cases h3:decide (X + -a≤t)<;>cases h4:decide (X + -(a+c)≤t)<;>cases h5:decide (X + -c≤t) <;>
  first
  | rfl
  | (exfalso; simp only [decide_eq_true_iff,decide_eq_false_iff_not] at h0 h1 h2 h3 h4 h5; omega)
def ac6 (z:Ei) (r:Nat):List P2:=(List.range 6).map fun i=>(hx z r i,hy z r i)
theorem bgr (z:Ei) (r:Nat):xo z r 6=(ac6 z r).map ptR:=by
 unfold xo ac6;rw [List.map_map]
 rfl
theorem aw6 (z:Ei) (r:Nat):(ac6 z r).length=6:=by simp [ac6]
theorem bgg (r:Nat) (hr:r≤12):(kx r 1=kx r 0+kx r 2∧kx r 3=-kx r 0∧kx r 4=-kx r 1∧kx r 5=-kx r 2)∧(ky r 1=ky r 0+ky r 2∧ky r 3=-ky r 0∧ky r 4=-ky r 1∧ky r 5=-ky r 2):=by
 have:∀j:Fin 13,(kx j.val 1=kx j.val 0+kx j.val 2∧kx j.val 3=-kx j.val 0∧kx j.val 4=-kx j.val 1∧kx j.val 5=-kx j.val 2)∧(ky j.val 1=ky j.val 0+ky j.val 2∧ky j.val 3=-ky j.val 0∧ky j.val 4=-ky j.val 1∧ky j.val 5=-ky j.val 2):=by decide +kernel
 exact this ⟨r,by omega⟩
theorem aw5 (z:Ei) (r:Nat) (hr:r≤12) (d:P2):apv ((ac6 z r).map (shP d)):=fun a c=>by
 obtain ⟨⟨x1,x3,x4,x5⟩,y1,y3,y4,y5⟩:=bgg r hr;have e:((ac6 z r).map (shP d)).map (thr a c)=[thr a c (hx z r 0+d.1,hy z r 0+d.2),thr a c (hx z r 1+d.1,hy z r 1+d.2),thr a c (hx z r 2+d.1,hy z r 2+d.2),thr a c (hx z r 3+d.1,hy z r 3+d.2),thr a c (hx z r 4+d.1,hy z r 4+d.2),thr a c (hx z r 5+d.1,hy z r 5+d.2)]:=rfl;refine a7a _ _ (thr a c (hx z r 0+d.1,hy z r 0+d.2)) ?_;rw [e];unfold thr sel;by_cases ha:a=0
 ·simp only [if_pos ha,aw,x3,x4,x5];have:=ay3 (kx r 0) (kx r 1) (kx r 2) (3*cx z r+d.1) c x1;simp only [show ∀k:Int,3*cx z r+k+d.1=3*cx z r+d.1+k from fun k=>by omega];exact this
 ·simp only [if_neg ha,au,y3,y4,y5];have:=ay3 (ky r 0) (ky r 1) (ky r 2) (3*cy z r+d.2) c y1;simp only [show ∀k:Int,3*cy z r+k+d.2=3*cy z r+d.2+k from fun k=>by omega];exact this
theorem bgj:a8 P0 220 [b8 [],int .i64 0,int .i64 0,agF] [] (.tup []) []:=by
 refine va rfl (by simp) ?_
 push_cast [qi,agF,b8,zau,zab]
 refine run_loop [(0,false),(1,false),(2,false),(3,false),(8,false)] (fun vs pos los=>vs=[b8 [],int .i64 0,int .i64 0,agF,int .i64 1]∧pos=[]∧los=[]) (fun _ _ _=>0) rfl ?_ ?_
 ·push_cast [agF,pnt,b8,zau]
  rfl
 ·rintro vs pos los ⟨rfl,rfl,rfl⟩;have z0:decide ((1:Int)<0)=false:=rfl
  push_cast [agF,pnt,b8,zau,z0]
theorem bfq (lim:Int):a8 P0 183 [b8 [],int .i64 0,int .i64 0,int .i64 lim,agF] [] (.tup []) []:=by
 refine vz rfl (by simp) ?_;simp only [rk,agF,pnt,b8,push_cast,↓reduceIte,reduceCtorEq,zB,zE,zA,zS,zL,zD,zM];refine run_loop [(0,false),(1,false),(2,false),(3,false),(4,false),(10,false),(11,false)] (fun vs pos los=>vs=[b8 [],int .i64 0,int .i64 0,int .i64 lim,agF,bl true,bl true]∧pos=[]∧los=[]) (fun _ _ _=>0) rfl ?_ ?_
 ·simp only [agF,pnt,b8,push_cast,↓reduceIte,reduceCtorEq,zB,zE,zA,zS,zL,zD,zM]
 ·rintro vs pos los ⟨rfl,rfl,rfl⟩;have w0:IntKind.i64.wrap ((0:Int)-0)=0:=rfl;have d0:decide ((0:Int)≤12)=true:=rfl;simp only [agF,pnt,b8,w0,d0,push_cast,↓reduceIte,reduceCtorEq,zB,zE,zA,zS,zL,zD,zM];refine b9 (as':=[b8 [],int .i64 0,int .i64 0,agF]) rfl ?_;refine a5 bgj rfl trivial ?_;simp only [push_cast,↓reduceIte,reduceCtorEq,zB,zE,zA,zS,zL,zD,zM]
theorem be2:a8 P0 129 [b8 [],agF] [] (.tup []) []:=by
 refine vr rfl (by simp) ?_;have w:IntKind.u64.wrap 0=0:=rfl;have h:=a5n 0 (by decide)
 push_cast [rb,agF,pnt,b8,zau,w,zab]
 refine b9 (as':=[int .u64 ((0:Nat):Int)]) rfl ?_;refine a5 h rfl trivial ?_
 push_cast
 refine b9 (as':=[b8 [],int .i64 0,int .i64 0,int .i64 (a2v 0),agF]) rfl ?_;refine a5 (bfq _) rfl trivial ?_
 push_cast
theorem bg7:a8 P0 131 [b8 []] [] (b8 []) []:=by
 refine wc rfl (by simp) ?_;have z0:decide ((0:Int)<2)=true:=rfl
 push_cast [rz,pnt,b8,z0,zau,zab]
theorem bgn:a8 P0 77 [b8 []] [] (.nils 2 (pnt 0 0)) []:=by
 refine ahw rfl (by decide) ?_;have hok:=bas [] (by simp) (fun p hp=>by simp at hp)
 push_cast [ai2,b8,zau,zab]
 refine b9 (as':=[b8 []]) rfl ?_;refine a5 hok rfl trivial ?_
 push_cast [zaa]
 refine run_loop [(12,false),(10,false),(11,false),(3,false)] (fun vs pos los=>vs=[int .i64 0,b8 [],int .i64 0,.nils 2 (pnt 0 0)]∧pos=[]∧los=[]) (fun _ _ _=>0) rfl ?_ ?_
 ·push_cast [b8,pnt,zau]
  try rfl
 ·rintro vs pos los ⟨rfl,rfl,rfl⟩;have z0:decide ((0:Int)<0)=false:=rfl
  push_cast [b8,pnt,z0,zau]
  refine b9 (as':=[b8 [],agF]) rfl ?_;refine a5 be2 rfl trivial ?_
  push_cast [pnt]
  refine b9 (as':=[b8 []]) rfl ?_;refine a5 bg7 rfl trivial ?_;have z1:decide ((0:Int)<3)=true:=rfl
  push_cast [pnt,b8,z1,zau,zab]

def aji:Mk P0 f39:={ x:=_ }
theorem amx:d5 39 2 aji:=c8 func39
theorem age {l:Lin} (hl:l.ok) {rg:List P2} {p:P2} (h:p∈y6 l rg):q7 l p=true:=by
 cases rg with
 | nil=>simp [y6,aa] at h
 | cons a r=>
  rw [ab8 l hl (a::r) a rfl] at h;exact (zca.1 h).2
theorem a0i (lo hi:P2) {a b:P2} {rg:List P2} (h:xy a b rg):xy lo hi (xw lo hi rg):=by
 have e:xw lo hi rg=y6 ⟨1,hi.2,false⟩ (y6 ⟨1,lo.2,true⟩ (y6 ⟨0,hi.1,false⟩ (y6 ⟨0,lo.1,true⟩ rg))):=rfl
 have h1:xy (lo.1,a.2) (b.1,b.2) (y6 ⟨0,lo.1,true⟩ rg):=fun p hp=>by
  have k:=age (l:=⟨0,lo.1,true⟩) (.inl rfl) hp;have i:=ah2 (l:=⟨0,lo.1,true⟩) (.inl rfl) h p hp;simp [q7,sel] at k;simp only;omega
 have h2:xy (lo.1,a.2) (hi.1,b.2) (y6 ⟨0,hi.1,false⟩ (y6 ⟨0,lo.1,true⟩ rg)):=fun p hp=>by
  have k:=age (l:=⟨0,hi.1,false⟩) (.inl rfl) hp;have i:=ah2 (l:=⟨0,hi.1,false⟩) (.inl rfl) h1 p hp;simp [q7,sel] at k;simp only at i ⊢;omega
 have h3:xy (lo.1,lo.2) (hi.1,b.2) (y6 ⟨1,lo.2,true⟩ (y6 ⟨0,hi.1,false⟩ (y6 ⟨0,lo.1,true⟩ rg))):=fun p hp=>by
  have k:=age (l:=⟨1,lo.2,true⟩) (.inr rfl) hp;have i:=ah2 (l:=⟨1,lo.2,true⟩) (.inr rfl) h2 p hp;simp [q7,sel] at k;simp only at i ⊢;omega
 rw [e];intro p hp;have k:=age (l:=⟨1,hi.2,false⟩) (.inr rfl) hp;have i:=ah2 (l:=⟨1,hi.2,false⟩) (.inr rfl) h3 p hp;simp [q7,sel] at k;simp only at i ⊢;omega
def bq (t:Til):Int:=2^(18-t.z).toNat
def aim (t:Til):Int:=2^(30-t.z).toNat
def oc (t:Til) (z:Ei):List P2:=(ac6 z t.r.toNat).map (shP (-(3*(t.x*aim t)),-(3*(t.y*aim t))))
def agl (t:Til) (z:Ei):List P2:=xw (-192*bq t,-192*bq t) (12480*bq t,12480*bq t) (oc t z)
def aj (t:Til) (z:Ei):List P2:=if tch z t.r.toNat (2^(30-t.z).toNat) t.x t.y=true then ol (go (3*bq t) (agl t z)) else []
set_option maxHeartbeats 1000000 in
theorem avj (t:Til) (h:tis t=true) (hf:fine t=false) (z:Ei) (hk:okc t.r.toNat z) (hz:z.In 1073741824) (hb:aab z t.r.toNat) {res:AV} {ro:List Ob}
  (hres:(aj t z=[]∧res=.nils 2 (pnt 0 0)∧ro=[])∨(aj t z≠[]∧res=.own 1000000 0 0 (aj t z).length∧ro=[u4 (aj t z)])) :
  a8 P0 39 [t.v,uw (ao t.r.toNat z)] [] res ro:=by
 refine amx rfl (by decide) ?_;have hr:0≤t.z∧t.z≤18∧0≤t.r∧t.r≤12∧0≤t.x∧t.x<2^t.z.toNat∧0≤t.y∧t.y<2^t.z.toNat:=by simpa [tis] using h
 have ho:=a3k h;have hOk:=bfv t ho;rw [h,hf] at hOk;obtain ⟨w1,w2,w3,w4⟩:=xz t.r.toNat z hk;have hic:=as8 (ao t.r.toNat z) w4 w1;rw [w2,w3,Int.toNat_of_nonneg hr.2.2.1] at hic;have e1:(t.r == t.r)=true:=by simp
 have htc:=a0r t h z t.r hr.2.2.1 hk hb
 push_cast [aji,Til.v,uw,zab]
 refine b9 (as':=[uw (ao t.r.toNat z)]) rfl ?_;refine a5 hic rfl trivial ?_
 push_cast [cel]
 refine b9 (as':=[t.v]) rfl ?_;refine a5 hOk rfl trivial ?_;have n0:((0:Int) != 0)=false:=rfl;have n1:(t.r != t.r)=false:=by simp
 push_cast [n0,n1]
 refine b9 (as':=[t.v,cel t.r z]) rfl ?_;refine a5 htc rfl trivial ?_
 push_cast
 cases hT:tch z t.r.toNat (2^(30-t.z).toNat) t.x t.y with
 | false=>
  have hN:aj t z=[]:=by
   unfold aj;rw [hT];exact if_neg (by decide)
  rcases hres with ⟨_,rfl,rfl⟩ | ⟨h,_⟩
  ·push_cast [pnt]
  ·exact absurd hN h
 | true=>
  have hN:aj t z=ol (go (3*bq t) (agl t z)):=by
   unfold aj;rw [hT];exact if_pos rfl
  rw [hN] at hres
  push_cast
  refine b9 (as':=[z.v,int .i64 t.r]) rfl ?_;refine a5 (bat z t.r hz ⟨hr.2.2.1,hr.2.2.2.1⟩) rfl trivial ?_
  push_cast [pnt]
  refine b9 (as':=[t.v]) rfl ?_;refine a5 (awc t h) rfl trivial ?_;rw [bgr]
  push_cast [pnt]
  have hin:=ahh h;have hsd:=yg ⟨hr.1,hr.2.1⟩;obtain ⟨X0,hX0⟩:∃X0,t.x*2^(30-t.z).toNat=X0:=⟨_,rfl⟩
  obtain ⟨Y0,hY0⟩:∃Y0,t.y*2^(30-t.z).toNat=Y0:=⟨_,rfl⟩
  obtain ⟨S0,hS0⟩:∃S0:Int,2^(30-t.z).toNat=S0:=⟨_,rfl⟩
  rw [zav,Int.one_mul,zav,Int.one_mul] at hin;rw [hX0,hY0,hS0] at hin;rw [hS0] at hsd;have hRP:oc t z=(ac6 z t.r.toNat).map (shP (-(3*X0),-(3*Y0))):=by unfold oc aim; rw [hX0,hY0]
  obtain ⟨R,hR⟩:∃R,ac6 z t.r.toNat=R:=⟨_,rfl⟩
  have hRl:R.length=6:=by rw [← hR,aw6]
  have hRb:∀p∈R,(-4294967296≤p.1∧p.1≤4294967296)∧(-4294967296≤p.2∧p.2≤4294967296):=fun p hp=>by
   rw [← hR] at hp;obtain ⟨i,hi,rfl⟩:=zbc.1 hp;exact hb i (zbl.1 hi)
  rw [hX0,hY0,hS0,hR];rw [hR] at hRP;obtain ⟨d,hd⟩:∃d:P2,(-(3*X0),-(3*Y0))=d:=⟨_,rfl⟩
  rw [hd] at hRP
  refine run_loop [(55,false),(54,false),(7,false),(9,false),(10,false),(2,false)] (fun vs pos los=>∃i:Nat,i≤6∧vs=[int .i64 i,int .i64 6,.own 2000000 0 0 6,int .i64 X0,int .i64 Y0,.ptr 2000001 0 0]∧pos=[]∧los=[u4 ((R.take i).map (shP d)++R.drop i),.box [int .i64 t.z,int .i64 t.x,int .i64 t.y,int .i64 t.r]])
   (fun vs _ _=>match vs with | .r (.v (.int _ a))::_=>(6-a).toNat | _=>0) rfl ?_ ?_
  ·push_cast [u4,pnt]
   exact ⟨0,by omega,rfl,by simp⟩
  ·rintro vs pos los ⟨i,hi,rfl,rfl,rfl⟩
   push_cast [u4,pnt]
   refine c7 (fun hd6=>?_) (fun hd6=>?_)
   ·have hi2:i<6:=by have:=of_decide_eq_true hd6; omega
    obtain ⟨p,hp⟩:∃p,R[i]'(by omega)=p:=⟨_,rfl⟩
    have hpb:=hRb p (hp▸List.getElem_mem _);have wi:IntKind.i64.wrap ((i:Int)+1)=(i:Int)+1:=a7 (by omega);have hdr:R.drop i=p::R.drop (i+1):=by rw [List.drop_eq_getElem_cons (by omega),hp]
    have htk:(R.take (i+1)).map (shP d)=(R.take i).map (shP d)++[shP d p]:=by rw [zcg (by omega),hp,zbd]; rfl
    obtain ⟨A,hA⟩:∃A,(R.take i).map (shP d)=A:=⟨_,rfl⟩
    have hAl:A.length=i:=by rw [← hA]; simp; omega
    obtain ⟨T,hT⟩:∃T,R.drop (i+1)=T:=⟨_,rfl⟩
    rw [hdr,hA,hT]
    have hg:∀q:P2,∀z,((A++q::T).map ptR).getD i z=.agg [.v (.int .i64 q.1),.v (.int .i64 q.2)]:=fun q z=>by
     rw [← hAl]; exact ab4 A T q z
    have hs:∀(q:P2) (a b:Int),((A++q::T).map ptR).set i (.agg [.v (.int .i64 a),.v (.int .i64 b)])=(A++(a,b)::T).map ptR:=fun q a b=>by
     rw [show (RV.agg [.v (.int .i64 a),.v (.int .i64 b)])=ptR (a,b) from rfl,← zbk,← hAl];congr 1;simp
    have m1:IntKind.i64.wrap (3*X0)=3*X0:=a7 (by omega);have m2:IntKind.i64.wrap (3*Y0)=3*Y0:=a7 (by omega);have m3:IntKind.i64.wrap (p.1-3*X0)=p.1-3*X0:=a7 (by omega);have m4:IntKind.i64.wrap (p.2-3*Y0)=p.2-3*Y0:=a7 (by omega)
    push_cast [u4,pnt,hg,hs,m1,m2,m3,m4,wi,d7,zae,zad,zac,Nat.zero_mul,Nat.mul_one,List.getD_cons_zero,List.getD_cons_succ,List.set_cons_zero,List.set_cons_succ,zah,zaj,zac]
    repeat refine And.intro (by first | exact ⟨by omega,by omega⟩ | kernel_rfl) ?_
    refine ⟨⟨i+1,by omega,by simp,?_⟩,by omega⟩;rw [htk,hA,hT,← hd];simp [u4,pnt,shP,Int.sub_eq_add_neg]
   ·have hi2:i=6:=by have:=of_decide_eq_false hd6; omega
    subst hi2
    have hfin:(R.take 6).map (shP d)++R.drop 6=oc t z:=by
     rw [hRP,zbg (by omega),List.drop_of_length_le (by omega),zay]
    rw [hfin];have hut:=a3h t hr.1 hr.2.1
    have hu1:1≤bq t∧bq t≤262144:=by
     have h1:2^(18-t.z).toNat≤2^18:=zbs (by decide) (by omega);have h3:((2^(18-t.z).toNat:Nat):Int)=(2:Int)^(18-t.z).toNat:=by simp
     have h4:0<2^(18-t.z).toNat:=Nat.pow_pos (by decide);unfold bq;omega
    push_cast
    refine b9 (as':=[t.v]) rfl ?_;refine a5 hut rfl trivial ?_;rw [show (2:Int)^(18-t.z).toNat=bq t from rfl];obtain ⟨U,hU⟩:∃U,bq t=U:=⟨_,rfl⟩
    rw [hU] at hu1 hres ⊢;have m1:IntKind.i64.wrap (-192*U)=-192*U:=a7 (by omega);have m2:IntKind.i64.wrap (12480*U)=12480*U:=a7 (by omega);have m3:IntKind.i64.wrap (3*U)=3*U:=a7 (by omega)
    push_cast [u4,pnt,m1,m2,m3]
    have hk0:=awy t.r.toNat 0 (by omega) (by decide);have hb0:=hb 0 (by decide);rw [aw,au] at hb0
    have hRI:xy (3*cx z t.r.toNat-100000000-3*X0,3*cy z t.r.toNat-100000000-3*Y0) (3*cx z t.r.toNat+100000000-3*X0,3*cy z t.r.toNat+100000000-3*Y0) (oc t z):=fun p hp=>by
     rw [hRP,← hR,← hd] at hp;obtain ⟨q,hq,rfl⟩:=zbc.1 hp;obtain ⟨i,hi,rfl⟩:=zbc.1 hq;have hk:=awy t.r.toNat i (by omega) (zbl.1 hi);simp only [shP,aw,au];omega
    have hRL:(oc t z).length=6:=by rw [hRP]; simp [hRl]
    have hHu:apv (oc t z):=by rw [hRP,← hR]; exact aw5 z _ (by omega) d
    obtain ⟨c1,c2,c3⟩:=bhp (-192*U,-192*U) (12480*U,12480*U) (by simp only; omega) (by simp only; omega) hRI (by omega) (by simp only; omega) (by simp only; omega);have c4:=a0i (-192*U,-192*U) (12480*U,12480*U) hRI
    have c5:(xw (-192*U,-192*U) (12480*U,12480*U) (oc t z)).length≤10:=by
     have:=(atk (lo:=(-192*U,-192*U)) (hi:=(12480*U,12480*U)) hHu 4 (zar _)).2;rw [hRL] at this;exact this
    have hW:agl t z=xw (-192*U,-192*U) (12480*U,12480*U) (oc t z):=by unfold agl; rw [hU]
    rw [← hW] at c1 c2 c3 c4 c5;obtain ⟨W,hW2⟩:∃W,agl t z=W:=⟨_,rfl⟩
    rw [hW2] at c1 c2 c3 c4 c5 hres;have htk6:zaz 6 ((oc t z).map ptR)=(oc t z).map ptR:=zbg (by simp [hRL]);refine m0 ?_;rw [htk6]
    push_cast [pnt]
    refine b9 (as':=[b8 (oc t z),pv2 (-192*U,-192*U),pv2 (12480*U,12480*U)]) rfl ?_;refine a5 c1 rfl trivial ?_
    push_cast [u4,pnt,m3]
    refine m0 ?_
    try rw [o8]
    push_cast [pnt]
    refine b9 (as':=[b8 W,int .i64 (3*U)]) rfl ?_;by_cases hWe:W=[]
    ·refine a5 (cfloor_r (3*U) (by omega) W c3 (.inl ⟨hWe,rfl,rfl⟩)) rfl trivial ?_
     push_cast [pnt]
     refine b9 (as':=[b8 []]) rfl ?_;refine a5 bgn rfl trivial ?_;have h0:ol (go (3*U) W)=[]:=by rw [hWe]; rfl
     rw [h0] at hres;rcases hres with ⟨_,rfl,rfl⟩ | ⟨h,_⟩
     ·push_cast [pnt]
     ·exact absurd rfl h
    ·refine a5 (cfloor_r (3*U) (by omega) W c3 (.inr ⟨hWe,rfl,rfl⟩)) rfl trivial ?_
     push_cast [u4,pnt]
     refine m0 ?_
     try rw [o8]
     push_cast [pnt]
     refine b9 (as':=[b8 (go (3*U) W)]) rfl ?_;have hFl:(go (3*U) W).length=W.length:=by simp [go]
     have hWl:1≤W.length:=by
      cases W with
      | nil=>exact absurd rfl hWe
      | cons a r=>simp
     have hFn:∀p∈go (3*U) W,near29 p:=fun p hp=>by
      obtain ⟨q,hq,rfl⟩:=zbc.1 hp;have:=c4 q hq;simp only at this;have e1:-64≤q.1/(3*U):=(zcc (by omega)).2 (by omega);have e2:q.1/(3*U)<4161:=(zcd (by omega)).2 (by omega);have e3:-64≤q.2/(3*U):=(zcc (by omega)).2 (by omega);have e4:q.2/(3*U)<4161:=(zcd (by omega)).2 (by omega);unfold near29;simp only;omega
     rcases hres with ⟨a,rfl,rfl⟩ | ⟨a,rfl,rfl⟩
     ·refine a5 (hull_t (go (3*U) W) (by omega) hFn (.inl ⟨a,rfl,rfl⟩)) rfl trivial ?_
      push_cast [u4,pnt]
     ·refine a5 (hull_t (go (3*U) W) (by omega) hFn (.inr ⟨a,rfl,rfl⟩)) rfl trivial ?_
      push_cast [u4,pnt]
theorem avk (t:Til) (h:tis t=true) (hf:fine t=false) (z:Ei) (hk:okc t.r.toNat z) (hb:aab z t.r.toNat) :
  a8 P0 39 [t.v,uw (ao t.r.toNat z)] [] (.own 1000000 0 0 (aj t z).length) [u4 (aj t z)]:=by
 by_cases h0:aj t z=[]
 ·have:=asz (avj t h hf z hk hk.2.1 hb (.inl ⟨h0,rfl,rfl⟩));rw [h0];exact this
 ·exact avj t h hf z hk hk.2.1 hb (.inr ⟨h0,rfl,rfl⟩)
theorem a81 (rg:List P2):(ol rg).length≤2*rg.length:=by
 have h1:=aly (y8 rg);rw [ach] at h1;have h2:=aer (ci (y8 rg));have h3:=aer (ci (y8 rg)).reverse;rw [zcf] at h3;have h4:=ad9 (ci (y8 rg));have h5:=ad9 (ci (y8 rg)).reverse;unfold ol;split
 ·simp
 ·split
  ·simp
  ·rw [zak]; omega
theorem atx (t:Til) (hr:t.r≤12) (z:Ei):(aj t z).length≤20:=by
 unfold aj;split
 ·refine Nat.le_trans (a81 _) ?_
  have h1:(agl t z).length≤10:=by
   have:=(atk (lo:=(-192*bq t,-192*bq t)) (hi:=(12480*bq t,12480*bq t)) (aw5 z t.r.toNat (by omega) (-(3*(t.x*aim t)),-(3*(t.y*aim t)))) 4 (zar _)).2;rw [zaa,aw6] at this;exact this
  have:(go (3*bq t) (agl t z)).length=(agl t z).length:=by simp [go]
  omega
 ·simp
theorem a5l {rg:List P2} {q:P2} (h:q∈ol rg):q∈rg:=by
 have hc:∀l:List P2,q∈bo l→q∈l:=fun l hq=>avr l (by
  unfold bo at hq
  first
  | exact List.mem_of_mem_tail (by simpa using hq)
  | exact List.mem_of_mem_dropLast (by simpa using hq)
  | (simp at hq; exact List.mem_of_mem_tail hq))
 unfold ol at h;split at h
 ·simp at h
 ·split at h
  ·simp at h
  ·rcases zao.1 h with h | h
   ·exact akl (alx (hc _ h))
   ·exact akl (alx (List.mem_reverse.1 (hc _ h)))
theorem a7l (t:Til) (h:0≤t.z∧t.z≤18) (z:Ei) (hb:∀p∈oc t z,(-1099511627776≤p.1∧p.1≤1099511627776)∧(-1099511627776≤p.2∧p.2≤1099511627776)):∀p∈aj t z,(-64≤p.1∧p.1≤4160)∧(-64≤p.2∧p.2≤4160):=fun p hp=>by
 have hu1:1≤bq t:=by
  have h3:((2^(18-t.z).toNat:Nat):Int)=(2:Int)^(18-t.z).toNat:=by simp
  have h4:0<2^(18-t.z).toNat:=Nat.pow_pos (by decide);unfold bq;omega
 unfold aj at hp;split at hp
 ·have hp2:=a5l hp;obtain ⟨q,hq,rfl⟩:=zbc.1 hp2;have hw:=a0i (a:=(-1099511627776,-1099511627776)) (b:=(1099511627776,1099511627776)) (-192*bq t,-192*bq t) (12480*bq t,12480*bq t) hb q hq;simp only at hw;generalize bq t=U at *;have e1:-64≤q.1/(3*U):=(zcc (by omega)).2 (by omega);have e2:q.1/(3*U)<4161:=(zcd (by omega)).2 (by omega);have e3:-64≤q.2/(3*U):=(zcc (by omega)).2 (by omega);have e4:q.2/(3*U)<4161:=(zcd (by omega)).2 (by omega);simp only;omega
 ·simp at hp

def akd:Mk P0 f156:={ x:=_ }
theorem aof:d5 156 2 akd:=c8 func156
def ahi:Mk P0 f157:={ x:=_ }
theorem akk:d5 157 2 ahi:=c8 func157
def ahf:Mk P0 f159:={ x:=_ }
theorem akc:d5 159 3 ahf:=c8 func159
def akb:Mk P0 f112:={ x:=_ }
theorem aoe:d5 112 2 akb:=c8 func112
structure Ky where
 c:Int
 v:Int
 d:Int
deriving DecidableEq
def Ky.rv (k:Ky):RV:=.agg [.v (.int .u64 k.c),.v (.int .i64 k.v),.v (.int .i64 k.d)]
def Ky.av (k:Ky):AV:=.r k.rv
def kl (a b:Ky):Bool:=if a.c≠b.c then decide (a.c<b.c) else if a.v≠b.v then decide (a.v<b.v) else decide (a.d<b.d)
theorem aez (a b:Ky):a8 P0 156 [a.av,b.av] [] (bl (kl a b)) []:=by
 refine aof rfl (by decide) ?_
 push_cast [akd,Ky.av,Ky.rv,kl,zab]
 refine c7 (fun h1=>?_) (fun h1=>?_)
 ·push_cast
  simp at h1;refine la ?_;simp [h1]
 ·push_cast
  simp at h1;refine c7 (fun h2=>?_) (fun h2=>?_)
  ·push_cast
   simp at h2;refine la ?_;simp [h1,h2]
  ·push_cast
   simp at h2;refine la ?_;simp [h1,h2]

theorem avv (F:FuncId) (A B:List AV) (hA:m5 A=[]) (hB:m5 B=[]) (hfn:xm P0 F=true) (p:Nat→Bool) (n r:Nat) (hn:n≤maxLen) (hr:r≤n)
  (h0:∀i,i<r→p i=false) (h1:∀i,r≤i→i<n→p i=true)
  (hF:∀i:Nat,i<n→a8 P0 F [int .i64 i,.ptr 1000000 0 0,.ptr 1000001 0 0] [.box A,.box B] (bl (p i)) [.box A,.box B]) :
  a8 P0 157 [int .i64 n,.fn (.func F) [.ptr 1000000 0 0,.ptr 1000001 0 0] 0] [.box A,.box B] (int .i64 r) [.box A,.box B]:=by
 refine akk rfl (by simp) ?_;simp only [ahi,push_cast,↓reduceIte,reduceCtorEq,zB,zE,zA,zS,zL,zD,zM];have hmax:=j7;have iA:∀F,imL F A=A:=fun F=>rn F A hA;have iB:∀F,imL F B=B:=fun F=>rn F B hB
 refine run_loop [(1,false),(5,false),(6,false)] (fun vs pos los=>∃(lo hi:Int),0≤lo∧lo≤r∧(r:Int)≤hi∧hi≤n ∧
  vs=[.fn (.func F) [.ptr 1000000 0 0,.ptr 1000001 0 0] 0,int .i64 lo,int .i64 hi]∧pos=[.box A,.box B]∧los=[])
  (fun vs _ _=>match vs with | [_,.r (.v (.int _ a)),.r (.v (.int _ b))]=>(b-a).toNat | _=>0) rfl ?_ ?_
 ·simp only [hA,hB,iA,iB,hfn,push_cast,↓reduceIte,reduceCtorEq,zB,zE,zA,zS,zL,zD,zM];refine ⟨0,n,by omega,by omega,by omega,by omega,?_⟩;simp
 ·rintro vs pos los ⟨lo,hi,l0,lr,rh,hn',rfl,rfl,rfl⟩;simp only [hA,hB,iA,iB,hfn,push_cast,↓reduceIte,reduceCtorEq,zB,zE,zA,zS,zL,zD,zM];refine c7 (fun h=>?_) (fun h=>?_)
  ·simp only [hA,hB,iA,iB,hfn,push_cast,↓reduceIte,reduceCtorEq,zB,zE,zA,zS,zL,zD,zM];have hlt:lo<hi:=by simpa using h
   have hmx:(n:Int)≤9223372036854775807:=by have:=hn; simp only [maxLen] at this; omega
   have hw2:IntKind.u64.wrap (IntKind.i64.wrap (lo+hi))=lo+hi:=by rw [IntKind.wrap_i64,IntKind.wrap_u64]; omega
   have hs:(lo+hi).fdiv (2^min (zaq 1) IntKind.u64.bits)=(lo+hi)/2:=au2 (lo+hi) 1 (by decide);have hw3:IntKind.i64.wrap ((lo+hi)/2)=(lo+hi)/2:=a7 ⟨by omega,by omega⟩;obtain ⟨M,hM⟩:∃M:Nat,(lo+hi)/2=M:=⟨((lo+hi)/2).toNat,by omega⟩
   rw [hM] at hw3;simp only [hw2,hs,hM,hw3];refine ⟨by decide,a5 (hF M (by omega)) rfl ⟨rfl,rfl,trivial⟩ ?_⟩;simp only [hA,hB,iA,iB,hfn,push_cast,↓reduceIte,reduceCtorEq,zB,zE,zA,zS,zL,zD,zM];have hw4:IntKind.i64.wrap ((M:Int)+1)=M+1:=a7 ⟨by omega,by omega⟩;refine c7 (fun h2=>?_) (fun h2=>?_)
   ·simp only [hA,hB,iA,iB,hfn,hw4,push_cast,↓reduceIte,reduceCtorEq,zB,zE,zA,zS,zL,zD,zM];have hp:p M=false:=by simpa using h2
    have hMr:M<r:=Nat.lt_of_not_le fun hle=>by rw [h1 M hle (by omega)] at hp; cases hp
    refine ⟨⟨M+1,hi,by omega,by omega,by omega,by omega,?_⟩,by omega⟩;simp
   ·simp only [hA,hB,iA,iB,hfn,push_cast,↓reduceIte,reduceCtorEq,zB,zE,zA,zS,zL,zD,zM];have hp:p M=true:=by simpa using h2
    have hMr:r≤M:=Nat.le_of_not_lt fun hlt=>by rw [h0 M hlt] at hp; cases hp
    refine ⟨⟨lo,M,by omega,by omega,by omega,by omega,?_⟩,by omega⟩;simp
  ·simp only [hA,hB,iA,iB,hfn,push_cast,↓reduceIte,reduceCtorEq,zB,zE,zA,zS,zL,zD,zM];have hlt:¬lo<hi:=by simpa using h
   have e:lo=r:=by omega
   rw [e]

def l9 (l:List Ky):RV:=.sl 3 (l.map Ky.rv)
def Ky.cs (k:Ky):List AV:=[int .u64 k.c,int .i64 k.v,int .i64 k.d]
theorem bdh (l:List Ky) (k q:Ky) (i:Nat) (hi:i<l.length) (hq:l[i]?=some q) (hl:l.length≤maxLen):a8 P0 159 [int .i64 i,.ptr 1000000 0 0,.ptr 1000001 0 0] [.box [.r (l9 l)],.box k.cs]
  (bl (!kl q k)) [.box [.r (l9 l)],.box k.cs]:=by
 refine akc rfl (by simp) ?_
 have hg:(l.map Ky.rv).getD ((i:Int)).toNat (.agg [.v (.int .u64 0),.v (.int .i64 0),.v (.int .i64 0)])=.agg [.v (.int .u64 q.c),.v (.int .i64 q.v),.v (.int .i64 q.d)]:=by
  simp [List.getD,hq,Ky.rv]
 push_cast [ahf,l9,Ky.cs,zab,zaa,hg]
 refine And.intro ⟨by omega,by omega⟩ ?_;refine d9 (aez q k) rfl trivial ?_
 push_cast
 kernel_rfl
structure Plc (l:List Ky) (k:Ky) (r:Nat):Prop where
 le:r≤l.length
 lo:∀(i:Nat) (q:Ky),i<r→l[i]?=some q→kl q k=true
 hi:∀(i:Nat) (q:Ky),r≤i→l[i]?=some q→kl q k=false
theorem bg0 (l:List Ky) (k:Ky) (r:Nat) (hp:Plc l k r) (hl:l.length≤maxLen):a8 P0 112 [.r (l9 l),k.av] []
  (.tup [int .i64 r,bl (decide (l[r]?=some k))]) []:=by
 refine aoe rfl (by decide) ?_
 have hF:∀i:Nat,i<l.length→a8 P0 159 [int .i64 i,.ptr 1000000 0 0,.ptr 1000001 0 0] [.box [.r (l9 l)],.box k.cs] (bl ((fun i=>match l[i]? with | some q=>!kl q k | none=>true) i)) [.box [.r (l9 l)],.box k.cs]:=fun i hi=>by
  have hq:l[i]?=some l[i]:=by simp [hi]
  simp only [hq];exact bdh l k _ i hi hq hl
 have hS:=avv 159 [.r (l9 l)] k.cs rfl rfl rfl (fun i=>match l[i]? with | some q=>!kl q k | none=>true) l.length r hl hp.le (fun i hi=>by
  have hq:l[i]?=some (l[i]'(by have:=hp.le; omega)):=by simp [show i<l.length by have:=hp.le; omega]
  simp only [hq,hp.lo i _ hi hq]; rfl) (fun i hi hn=>by
  have hq:l[i]?=some l[i]:=by simp [hn]
  simp only [hq,hp.hi i _ hi hq]; rfl) hF
 push_cast [akb,l9,Ky.av,Ky.rv,zab,zaa]
 refine a5 hS rfl ⟨rfl,rfl,trivial⟩ ?_;obtain ⟨q,hqd⟩:∃q:Ky,q=(l[r]?).getD ⟨0,0,0⟩:=⟨_,rfl⟩
 have hg:(l.map Ky.rv).getD ((r:Int)).toNat (.agg [.v (.int .u64 0),.v (.int .i64 0),.v (.int .i64 0)])=.agg [.v (.int .u64 q.c),.v (.int .i64 q.v),.v (.int .i64 q.d)]:=by
  rw [hqd];rcases hr:l[r]? with _ | q0<;>simp [List.getD,hr,Ky.rv]
 push_cast [l9,Ky.cs,zaa,hg]
 refine ⟨fun h=>⟨by omega,by simpa using h⟩,by kernel_rfl,?_⟩;congr 4;rcases hr:l[r]? with _ | q0
 ·have:¬r<l.length:=fun h=>by simp [h] at hr
  simp [this]
 ·have h1:=(List.getElem?_eq_some_iff.1 hr).1;have h2:q=q0:=by rw [hqd,hr]; rfl
  subst h2;simp [h1];cases q; cases k;simp
  rfl

end
end Go.Ev

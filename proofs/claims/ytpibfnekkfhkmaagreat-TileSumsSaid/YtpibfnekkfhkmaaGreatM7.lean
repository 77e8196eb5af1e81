import Derived.Test.YtpibfnekkfhkmaaGreatM6
open Nat renaming reduceBEq → zB, reduceEqDiff → zE, reduceAdd → zA, reduceSub → zS, reduceLT → zL, reduceLeDiff → zD, reduceMul → zM
open Go.Proofs.Tryz renaming prog → P0
open Go.Proofs.Tryz
open List renaming length_map → zaa, length_nil → zab, length_cons → zah, mem_cons → zai, getD_eq_getElem?_getD → zak, mem_of_getElem? → zal, length_append → zam, mem_singleton → zan, mem_append → zao, take_add_one → zat, mem_cons_of_mem → zau, append_nil → zaw, pairwise_cons → zba, nil_append → zbf, map_append → zbg, filter_append → zbh, append_assoc → zbi, getElem?_eq_getElem → zbn, map_set → zbo, mem_range → zbr, length_take → zbw, take_of_length_le → zbx, take_length → zby, cons_append → zbz, replicate → zca
open Nat renaming zero_add → zac, le_refl → zav, pow_le_pow_right → zbj, min_eq_left → zbp
open Int renaming reduceToNat → zad, toNat_zero → zae, toNat_natCast → zaf, toNat_natCast_add_one → zaj, neg_mul → zaq, mul_le_mul_of_nonneg_left → zar, toNat → zas, le_of_lt → zax, le_total → zay, mul_add → zaz, mul_comm → zbb, mul_le_mul_of_nonpos_left → zbc, add_mul → zbd, mul_assoc → zbk, tmod_eq_emod_of_nonneg → zbl, mul_nonneg → zbm, mul_le_mul_of_nonneg_right → zbt, mul_lt_mul_of_pos_right → zbu, natAbs_ediv_le_natAbs → zbv
open BitVec renaming ofInt → zap
open Bool renaming false_eq_true → zbe, not_eq_true' → zbq, not_false → zbs
namespace Go.Ev
set_option maxRecDepth 100000
noncomputable section
open Go
set_option linter.unusedSectionVars false
set_option linter.unnecessarySimpa false
set_option linter.unusedSimpArgs false
set_option linter.unusedVariables false
def aaj:Mk P0 f27:={ x:=_ }
theorem afp:d5 27 3 aaj:=c8 func27
def aat:Mk P0 f163:={ x:=_ }
theorem afy:d5 163 3 aat:=c8 func163
def aol:Mk P0 f115:={ x:=_ }
theorem ar9:d5 115 1 aol:=c8 func115
def awc (x y:Int) (r:Nat):Nat:=x8 r (g9 x y r)
theorem a4q (x y r:Int) (h:inW x y) (hr:0≤r∧r≤12):a8 P0 27 [int .i64 x,int .i64 y,int .i64 r] [] (uw (awc x y r.toNat)) []:=by
 refine afp rfl (by decide) ?_
 push_cast [aaj,zab]
 refine a7 (bde x y r h hr) rfl trivial ?_
 push_cast [Ei.v,Ei.rv]
 refine b7 (as':=[cel r (g9 x y r.toNat)]) rfl ?_;refine a7 (bdb r (g9 x y r.toNat) hr.1 (ri x y r.toNat h.1 h.2 (by omega))) rfl trivial ?_
 push_cast [uw]
 rfl
def yl (w i:Nat):Nat:=w/8^(13-i)*8^(13-i)
theorem a1i (w i:Nat) (h1:1≤i) (hi:i≤12):yl w i ||| dgt w i*2^(36-3*i)=yl w (i+1):=by
 unfold yl dgt;have e1:13-(i+1)=12-i:=by omega
 have e2:13-i=12-i+1:=by omega
 have e3:2^(36-3*i)=8^(12-i):=by rw [show (8:Nat)=2^3 from rfl,← Nat.pow_mul]; congr 1; omega
 have e4:(8:Nat)^(12-i+1)=2^(3*(12-i+1)):=by rw [show (8:Nat)=2^3 from rfl,← Nat.pow_mul]
 rw [e1,e2,e3,Nat.or_comm,show w/8^(12-i+1)*8^(12-i+1)=w/8^(12-i+1)*2^(3*(12-i+1)) by rw [e4],ye]
 ·rw [← e4,Nat.pow_succ,← Nat.div_div_eq_div_mul];have hq:=Nat.div_add_mod (w/8^(12-i)) 8;generalize w/8^(12-i)=q at *;generalize 8^(12-i)=m at *;rw [Nat.mul_comm m 8,← Nat.mul_assoc,← Nat.add_mul,Nat.mul_comm (q/8) 8,hq]
 ·rw [← e4,Nat.pow_succ,Nat.mul_comm];exact Nat.mul_lt_mul_of_pos_left (Nat.mod_lt _ (by decide)) (p8 _)
theorem a3w (w:Nat):yl w 13=w:=by simp [yl]
theorem a3v (r:Nat) (z:Ei) (hr:r≤12) (A B:Nat) (hA:A<1024) (hB:B<1024) (hA':(anc r z).a+512=A) (hB':(anc r z).b+512=B) :
  (((1152921504606846976 ||| r*2^56) ||| A*2^46) ||| B*2^36)=yl (x8 r z) 1:=by
 unfold yl;rw [show 13-1=12 by rfl,show (8:Nat)^12=68719476736 by decide,ai3 r z hr,od,hA',hB',zaf,zaf]
 have s1:1152921504606846976 ||| r*2^56=(16+r)*2^56:=by
  rw [Nat.or_comm,show (1152921504606846976:Nat)=1*2^60 by decide,ye (show r*2^56<2^60 by omega)];omega
 have s2:(16+r)*2^56 ||| A*2^46=((16+r)*1024+A)*2^46:=by
  rw [Nat.or_comm,ye (show A*2^46<2^56 by omega)];omega
 have s3:((16+r)*1024+A)*2^46 ||| B*2^36=(((16+r)*1024+A)*1024+B)*2^36:=by
  rw [Nat.or_comm,ye (show B*2^36<2^46 by omega)];omega
 rw [s1,s2,s3]
theorem a7u {w:Nat} (h:w<18446744073709551616) (i:Nat):yl w i<18446744073709551616:=Nat.lt_of_le_of_lt (Nat.div_mul_le_self _ _) h
theorem bbc (w d r:Nat) (hw:w<18446744073709551616) (hd:d<8) (h1:1≤r) (hr:r≤12):a8 P0 163 [.ptr 1000000 0 0,int .i64 r,int .u64 d] [.box [uw w]] (.tup []) [.box [uw (w ||| d*2^(36-3*r))]]:=by
 refine afy rfl (by simp) ?_
 push_cast [aat,uw,zah,zab]
 have e1:IntKind.i64.wrap ((r:Int)-1)=(r:Int)-1:=a5 (by omega);have e2:IntKind.i64.wrap (3*((r:Int)-1))=3*((r:Int)-1):=a5 (by omega);have e3:IntKind.i64.wrap (33-3*((r:Int)-1))=((36-3*r:Nat):Int):=by rw [a5 (by omega)]; omega
 have hp:2^(36-3*r)≤2^33:=zbj (by decide) (by omega);have hm:d*2^(36-3*r)≤7*2^(36-3*r):=Nat.mul_le_mul_right _ (by omega);rw [e1,e2,e3,show IntKind.u64.wrap ((36-3*r:Nat):Int)=((36-3*r:Nat):Int) from aa7 (by omega),ad5 (zaf _) (by omega) (by omega),ajl hw (by omega)]
 repeat refine And.intro (by first | decide | omega | exact fun _=>by decide | (simp +contextual; done) | kernel_rfl) ?_
 rfl
theorem a97 (r:Nat) (z:Ei) (l:List AV) (h:l.length≤13):List.map AV.r (aeh r z 0)++List.drop (0+(aeh r z 0).length) l=ck r z 0:=by
 rw [List.drop_of_length_le (by simp [aeh]; omega),zaw];simp [aeh,ck]
theorem a96 (r:Nat) (z:Ei) (j:Nat) (h1:1≤j) (h2:j≤r) (hr:r≤12):(ck r z 0).getD j AV.undef=int .i64 (dg (anc (r-j) z)):=by
 rw [zak];unfold ck;rw [List.getElem?_map,List.getElem?_range (by omega)];simp only [Option.map_some,Option.getD_some];rw [if_pos (by omega)]
theorem bfe (r:Int) (z:Ei) (h0:0≤r) (hk:okc r.toNat z):a8 P0 115 [cel r z] [] (.tup [uw (x8 r.toNat z),int .i64 0]) []:=by
 refine ar9 rfl (by decide) ?_;obtain ⟨hs,hbb⟩:=a2e h0 hk;have hwl:=amy r.toNat z hk;obtain ⟨r12,hz,ha,hb⟩:=id hk;simp only [aol,cel,push_cast,↓reduceIte,reduceCtorEq,zB,zE,zA,zS,zL,zD,zM];refine b7 (as':=[cel r z]) rfl ?_;refine a7 (ba0 r z hs) rfl trivial ?_;rw [hbb];simp only [Ei.v,Ei.rv,push_cast,↓reduceIte,reduceCtorEq,zB,zE,zA,zS,zL,zD,zM];obtain ⟨A,hA⟩:∃A:Nat,(anc r.toNat z).a+512=A:=⟨((anc r.toNat z).a+512).toNat,by omega⟩
 obtain ⟨B,hB⟩:∃B:Nat,(anc r.toNat z).b+512=B:=⟨((anc r.toNat z).b+512).toNat,by omega⟩
 have hone:=a3v r.toNat z r12 A B (by omega) (by omega) hA hB;obtain ⟨R,rfl⟩:∃R:Nat,r=R:=⟨r.toNat,by omega⟩
 rw [zaf] at *;rw [hA,hB,show IntKind.i64.wrap (A:Int)=A from a5 (by omega),show IntKind.i64.wrap (B:Int)=B from a5 (by omega),aa7 (show A<18446744073709551616 by omega),aa7 (show B<18446744073709551616 by omega),aa7 (show R<18446744073709551616 by omega)];rw [ad5 (k:=56) rfl (by decide) (by omega),ad5 (k:=46) rfl (by decide) (by omega),ad5 (k:=36) rfl (by decide) (by omega),show (1152921504606846976:Int)=((1152921504606846976:Nat):Int) from rfl];have l1:1152921504606846976 ||| R*2^56<18446744073709551616:=Nat.or_lt_two_pow (n:=64) (by omega) (by omega);have l2:1152921504606846976 ||| R*2^56 ||| A*2^46<18446744073709551616:=Nat.or_lt_two_pow (n:=64) l1 (by omega)
 rw [ajl (by omega) (by omega),ajl l1 (by omega),ajl l2 (by omega),hone];have hdl:=xk R z 0;simp only [a97 R z [AV.r (RV.v (Value.int IntKind.i64 0)),AV.r (RV.v (Value.int IntKind.i64 0)),AV.r (RV.v (Value.int IntKind.i64 0)),AV.r (RV.v (Value.int IntKind.i64 0)),AV.r (RV.v (Value.int IntKind.i64 0)),AV.r (RV.v (Value.int IntKind.i64 0)),AV.r (RV.v (Value.int IntKind.i64 0)),AV.r (RV.v (Value.int IntKind.i64 0)),AV.r (RV.v (Value.int IntKind.i64 0)),AV.r (RV.v (Value.int IntKind.i64 0)),AV.r (RV.v (Value.int IntKind.i64 0)),AV.r (RV.v (Value.int IntKind.i64 0)),AV.r (RV.v (Value.int IntKind.i64 0))] (by simp)]
 repeat refine And.intro (by first | decide | (simp [aeh]; done) | kernel_rfl) ?_
 refine run_loop [(9,false),(1,false),(5,false),(7,false),(8,false)] (fun vs pos los=>∃i:Nat,(1≤i∧i≤13)∧vs=[int .i64 i,.ptr 2000000 0 0,.ptr 2000001 0 0,.ptr 2000002 0 0,.fn (.func 163) [.ptr 2000002 0 0] 1]∧pos=[] ∧
  los=[.box [int .i64 R,int .i64 z.a,int .i64 z.b],.box (ck R z 0),.box [uw (yl (x8 R z) i)]])
  (fun vs _ _=>match vs with | .r (.v (.int _ j))::_=>(13-j).toNat | _=>0) rfl ?_ ?_
 ·simp only [agt,ajr,uw,push_cast,↓reduceIte,reduceCtorEq,zB,zE,zA,zS,zL,zD,zM];exact ⟨1,by omega,rfl,rfl⟩
 ·rintro vs pos los ⟨i,hi,rfl,rfl,rfl⟩;simp only [uw,push_cast,↓reduceIte,reduceCtorEq,zB,zE,zA,zS,zL,zD,zM];refine b9 (fun h=>?_) (fun h=>?_)
  ·have hi12:i≤12:=by simp at h; omega
   have hul:=a7u hwl i;have hst:=a1i (x8 R z) i hi.1 hi12;simp only [push_cast,↓reduceIte,reduceCtorEq,zB,zE,zA,zS,zL,zD,zM];refine b9 (fun hc=>?_) (fun hc=>?_)
   ·have hc':R<i:=by simp at hc; omega
    simp only [push_cast,↓reduceIte,reduceCtorEq,zB,zE,zA,zS,zL,zD,zM];refine ⟨by kernel_rfl,?_⟩;refine b7 (as':=[.ptr 1000000 0 0,int .i64 i,int .u64 (7:Nat)]) rfl ?_;refine a7 (bbc (yl (x8 R z) i) 7 i hul (by decide) hi.1 hi12) rfl ⟨rfl,trivial⟩ ?_;rw [aql R i z hc' hi12] at hst;rw [hst];simp only [agt,ajr,uw,push_cast,↓reduceIte,reduceCtorEq,zB,zE,zA,zS,zL,zD,zM];rw [show IntKind.i64.wrap ((i:Int)+1)=((i+1:Nat):Int) by rw [a5 (by omega)]; omega];exact ⟨⟨i+1,by omega,rfl,rfl⟩,by omega⟩
   ·have hc':i≤R:=by simp at hc; omega
    have hd:=dg_lt (anc (R-i) z);simp only [zaf,zac,Nat.mul_one,a96 R z i hi.1 hc' r12,hdl,push_cast,↓reduceIte,reduceCtorEq,zB,zE,zA,zS,zL,zD,zM];rw [aa7 (show dg (anc (R-i) z)<18446744073709551616 by omega)]
    repeat refine And.intro (by first | decide | omega | exact fun _=>by decide | (simp +contextual; done) | kernel_rfl) ?_
    refine a7 (bbc (yl (x8 R z) i) (dg (anc (R-i) z)) i hul (by omega) hi.1 hi12) rfl ⟨rfl,trivial⟩ ?_;rw [aov R i z r12 hi.1 hc'] at hst;rw [hst];simp only [agt,ajr,uw,push_cast,↓reduceIte,reduceCtorEq,zB,zE,zA,zS,zL,zD,zM];rw [show IntKind.i64.wrap ((i:Int)+1)=((i+1:Nat):Int) by rw [a5 (by omega)]; omega];exact ⟨⟨i+1,by omega,rfl,rfl⟩,by omega⟩
  ·have hi13:i=13:=by simp at h; omega
   subst hi13;simp only [a3w,uw,push_cast,↓reduceIte,reduceCtorEq,zB,zE,zA,zS,zL,zD,zM]


theorem az1 (t:Til):a8 P0 41 [t.v] [] (bl (tis t)) []:=by
 refine ahq rfl (by decide) ?_;by_cases h1:0≤t.z∧t.z≤18
 ·have e1:decide (t.z≥0)=true:=by simp [h1.1]
  have e2:decide (t.z≤18)=true:=by simp [h1.2]
  have hs:=azv t.z h1.1 (by omega);by_cases h2:0≤t.x
  ·have e3:decide (t.x≥0)=true:=by simp [h2]
   by_cases h3:t.x<2^t.z.toNat
   ·have e4:decide (t.x<2^t.z.toNat)=true:=by simp [h3]
    by_cases h4:0≤t.y
    ·have e5:decide (t.y≥0)=true:=by simp [h4]
     push_cast [aj,Til.v,zab,e1,e2,e3]
     refine d9 hs rfl trivial ?_
     push_cast [e4,e5]
     refine d9 hs rfl trivial ?_
     push_cast [e4,e5]
     refine ⟨by kernel_rfl,?_⟩;refine fo ?_;simp [tis];omega
    ·have e5:decide (t.y≥0)=false:=by simp; omega
     have e6:tis t=false:=by simp [tis]; omega
     push_cast [aj,Til.v,zab,e1,e2,e3]
     refine d9 hs rfl trivial ?_
     push_cast [e4,e5,e6]
     (show _=true); kernel_rfl
   ·have e4:decide (t.x<2^t.z.toNat)=false:=by simp; omega
    have e6:tis t=false:=by simp [tis]; omega
    push_cast [aj,Til.v,zab,e1,e2,e3]
    refine d9 hs rfl trivial ?_
    push_cast [e4,e6]
    (show _=true); kernel_rfl
  ·have e3:decide (t.x≥0)=false:=by simp; omega
   have e6:tis t=false:=by simp [tis]; omega
   push_cast [aj,Til.v,zab,e1,e2,e3,e6]
   (show _=true); kernel_rfl
 ·have e6:tis t=false:=by simp [tis]; omega
  by_cases h0:0≤t.z
  ·have e1:decide (t.z≥0)=true:=by simp [h0]
   have e2:decide (t.z≤18)=false:=by simp; omega
   push_cast [aj,Til.v,zab,e1,e2,e6]
   (show _=true); kernel_rfl
  ·have e1:decide (t.z≥0)=false:=by simp; omega
   push_cast [aj,Til.v,zab,e1,e6]
   (show _=true); kernel_rfl

theorem az2 (t:Til) (ht:t.ok):a8 P0 42 [t.v] [] (bl (fine t)) []:=by
 refine ahr rfl (by decide) ?_
 push_cast [acw,Til.v,zab]
 refine q8 (as':=[t.v]) rfl ?_;refine d9 (az1 t) rfl trivial ?_;cases hti:tis t with
 | false=>
  push_cast
  exact ⟨by kernel_rfl,by simp [fine,hti]⟩
 | true=>
  have hr:0≤t.z∧t.z≤18∧0≤t.r∧t.r≤12:=by simp [tis] at hti; omega
  have w1:IntKind.i64.wrap (12-t.r)=12-t.r:=a5 (by omega);have w2:IntKind.i64.wrap (18-t.z)=18-t.z:=a5 (by omega);have w3:IntKind.i64.wrap (2*(18-t.z))=2*(18-t.z):=a5 (by omega);have h7:=p7 (12-t.r).toNat (by omega);have h2:=p2 (2*(18-t.z)).toNat (by omega)
  have hq:(2:Int)^(2*(18-t.z)).toNat=2^(18-t.z).toNat*2^(18-t.z).toNat:=by
   rw [← Int.pow_add]; congr 1; omega
  push_cast [w1,w2,w3]
  refine d9 (azw (12-t.r) (by omega) (by omega)) rfl trivial ?_
  push_cast [w1,w2,w3]
  refine d9 (azv (2*(18-t.z)) (by omega) (by omega)) rfl trivial ?_
  push_cast [w1,w2,w3]
  refine ⟨by kernel_rfl,?_⟩;rw [a5 (by omega),a5 (by omega)];refine fo ?_;rw [hq,← zbk];simp [fine,hti]
theorem am1 (a n:Int) (hn:0<n):-n<a.tmod n∧a.tmod n<n∧(a.tmod n+n)%n=a%n:=by
 have h0:=Int.emod_nonneg a (show n≠0 by omega);have h1:=Int.emod_lt_of_pos a hn;rw [Int.tmod_eq_emod];split
 ·refine ⟨by omega,by omega,?_⟩;rw [show a%n-((0:Nat):Int)+n=a%n+n by omega,Int.add_emod_right,Int.emod_emod]
 ·rename_i h;have h2:a%n≠0:=fun h3=>h (.inr (Int.dvd_of_emod_eq_zero h3));refine ⟨by omega,by omega,?_⟩;rw [show a%n-(n.natAbs:Int)+n=a%n by omega,Int.emod_emod]
def er (z:Int):Nat→Nat
 | 0=>0
 | n+1=>if fine ⟨z,0,0,(n+1:Nat)⟩ then er z n else n+1
def u3 (x y z r:Int):Til:=⟨z%19,(x%1073741824)/2^(30-z%19).toNat,(y%1073741824)/2^(30-z%19).toNat,er (z%19) (r%13).toNat⟩
theorem amo (z:Int):∀n,er z n≤n
 | 0=>zav _
 | n+1=>by
  have:=amo z n;unfold er;split<;>omega
theorem awi (x y z r:Int):tis (u3 x y z r)=true:=by
 have h1:=amo (z%19) (r%13).toNat;have hz:0≤z%19∧z%19≤18:=by omega
 have hp:=p2 (30-z%19).toNat (by omega);have hq:=p2 (z%19).toNat (by omega)
 have hpq:(2:Int)^(30-z%19).toNat*2^(z%19).toNat=1073741824:=by
  rw [← Int.pow_add,show (30-z%19).toNat+(z%19).toNat=30 by omega]; rfl
 have key:∀a:Int,0≤(a%1073741824)/2^(30-z%19).toNat∧(a%1073741824)/2^(30-z%19).toNat<2^(z%19).toNat:=fun a=>by
  refine ⟨Int.ediv_nonneg (by omega) (by omega),?_⟩;rw [Int.ediv_lt_iff_lt_mul (by omega),zbb,hpq];omega
 have kx:=key x;have ky:=key y;have hc:(0:Int)≤(er (z%19) (r%13).toNat:Nat)∧((er (z%19) (r%13).toNat:Nat):Int)≤12:=by omega
 exact decide_eq_true ⟨hz.1,hz.2,hc.1,hc.2,kx.1,kx.2,ky.1,ky.2⟩
theorem asl (z:Int):∀n,(er z n=0)∨fine ⟨z,0,0,(er z n:Nat)⟩=false
 | 0=>.inl rfl
 | n+1=>by
  unfold er;split
  ·exact asl z n
  ·rename_i h;right;simpa using h
theorem bd8 {a b:Til} (hz:a.z=b.z) (hr:a.r=b.r) (ha:tis a=true) (hb:tis b=true):fine a=fine b:=by
 simp only [fine,ha,hb,hz,hr]
theorem avh {t:Til} (h:t.r=0):fine t=false:=by
 cases hti:tis t with
 | false=>simp [fine,hti]
 | true=>
  have hr:0≤t.z∧t.z≤18:=by simp [tis] at hti; omega
  have hq:(2:Int)^(18-t.z).toNat≤262144:=by
   have h1:2^(18-t.z).toNat≤2^18:=zbj (by decide) (by omega);have h3:((2^(18-t.z).toNat:Nat):Int)=(2:Int)^(18-t.z).toNat:=by simp
   omega
  have hp:=p2 (18-t.z).toNat (by omega);have hm:16*(2:Int)^(18-t.z).toNat*2^(18-t.z).toNat≤4194304*262144:=Int.mul_le_mul (by omega) hq (by omega) (by omega);simp only [fine,hti,h,Bool.true_and,decide_eq_false_iff_not];have:(7:Int)^(12-(0:Int)).toNat=13841287201:=by decide
  omega
theorem bd9 (x y z r:Int):fine (u3 x y z r)=false:=by
 rcases asl (z%19) (r%13).toNat with h | h
 ·exact avh (by simp [u3,h])
 ·by_cases h0:er (z%19) (r%13).toNat=0
  ·exact avh (by simp [u3,h0])
  ·rw [← h];have h1:=amo (z%19) (r%13).toNat;have hp:=p2 (z%19).toNat (by omega);refine bd8 rfl rfl (awi x y z r) ?_;simp only [tis,decide_eq_true_eq];omega
theorem av5 (x:Int) (hx:in64 x):IntKind.i64.wrap ((zap IntKind.i64.bits x &&& zap IntKind.i64.bits 1073741823).toNat)=x%1073741824:=by
 have e:(zap 64 1073741823).toNat=2^30-1:=by decide
 rw [show IntKind.i64.bits=64 from rfl,BitVec.toNat_and,e,Nat.and_two_pow_sub_one_eq_mod,BitVec.toNat_ofInt];rw [a5 (by unfold in64 at hx; omega)];omega
theorem bfl (x y z r:Int) (hx:in64 x) (hy:in64 y) (hz:in64 z) (hr:in64 r):a8 P0 26 [int .i64 x,int .i64 y,int .i64 z,int .i64 r] [] (u3 x y z r).v []:=by
 refine aga rfl (by decide) ?_;have m1:IntKind.i64.wrap (z.tmod 19+19)=z.tmod 19+19:=a5 (by have:=am1 z 19 (by decide); omega)
 have m2:(z.tmod 19+19).tmod 19=z%19:=by
  have:=am1 z 19 (by decide);rw [zbl (by omega),this.2.2]
 have m3:IntKind.i64.wrap (r.tmod 13+13)=r.tmod 13+13:=a5 (by have:=am1 r 13 (by decide); omega)
 have m4:(r.tmod 13+13).tmod 13=r%13:=by
  have:=am1 r 13 (by decide);rw [zbl (by omega),this.2.2]
 simp only [aa5,m1,m2,m3,m4,push_cast,↓reduceIte,reduceCtorEq,zB,zE,zA,zS,zL,zD,zM];refine ⟨by decide,by decide,by decide,by decide,?_⟩;generalize hzz:z%19=z';have hz':0≤z'∧z'≤18:=by omega
 have hp:=p2 z'.toNat (by omega)
 refine run_loop [(0,false),(1,false),(2,false),(3,false),(8,false)] (fun vs pos los=>∃n:Nat,n≤12∧er z' n=er z' (r%13).toNat ∧
  vs=[int .i64 x,int .i64 y,int .i64 z',int .i64 n,.ptr 2000000 0 0]∧pos=[]∧los=[.box [int .i64 0,int .i64 0,int .i64 0,int .i64 0]])
  (fun vs _ _=>match vs with | _::_::_ :: .r (.v (.int _ j))::_=>j.toNat | _=>0) rfl ?_ ?_
 ·simp only [push_cast,↓reduceIte,reduceCtorEq,zB,zE,zA,zS,zL,zD,zM];exact ⟨(r%13).toNat,by omega,rfl,by rw [Int.toNat_of_nonneg (by omega)]⟩
 ·rintro vs pos los ⟨n,hn,hc,rfl,rfl,rfl⟩
  have fin:u3 x y z r=⟨z',(x%1073741824)/2^(30-z').toNat,(y%1073741824)/2^(30-z').toNat,(er z' n:Nat)⟩:=by
   simp only [u3,hzz,hc]
  have w1:IntKind.i64.wrap (30-z')=30-z':=a5 (by omega)
  have sh:∀a:Int,a.fdiv (2^min (30-z').toNat IntKind.i64.bits)=a/2^(30-z').toNat:=fun a=>by
   rw [show min (30-z').toNat IntKind.i64.bits=(30-z').toNat from zbp (by simp [IntKind.bits]; omega)];exact Int.fdiv_eq_ediv_of_nonneg _ (zax (Int.pow_pos (by decide)))
  cases n with
  | zero=>
   simp only [Int.reduceLT,gt_iff_lt,Int.lt_irrefl,av5 x hx,av5 y hy,w1,sh,fin,Til.v,er,push_cast,↓reduceIte,reduceCtorEq,zB,zE,zA,zS,zL,zD,zM];refine ⟨by omega,by omega,?_⟩
   (show _=true); kernel_rfl
  | succ n=>
   have e1:decide (((n+1:Nat):Int)>0)=true:=by simp
   have w2:IntKind.i64.wrap (((n+1:Nat):Int)-1)=n:=by rw [a5 (by omega)]; omega
   generalize hm:((n+1:Nat):Int)=m;rw [hm] at e1 w2;simp only [e1,push_cast,↓reduceIte,reduceCtorEq,zB,zE,zA,zS,zL,zD,zM];refine b7 (as':=[Til.v ⟨z',0,0,m⟩]) rfl ?_;refine a7 (az2 ⟨z',0,0,m⟩ ⟨by unfold in64; dsimp; omega,by show in64 0; decide,by show in64 0; decide,by unfold in64; dsimp; omega⟩) rfl trivial ?_;cases hf:fine ⟨z',0,0,m⟩ with
   | true=>
    simp only [w2,push_cast,↓reduceIte,reduceCtorEq,zB,zE,zA,zS,zL,zD,zM];refine ⟨⟨n,by omega,?_,rfl⟩,by omega⟩;rw [← hc];simp only [er,hm,hf,if_true]
   | false=>
    have hk:er z' (n+1)=n+1:=by simp [er,hm,hf]
    rw [hk,hm] at fin;simp only [av5 x hx,av5 y hy,w1,sh,fin,Til.v,push_cast,↓reduceIte,reduceCtorEq,zB,zE,zA,zS,zL,zD,zM];refine ⟨by omega,by omega,?_⟩
    (show _=true); kernel_rfl


def mnN (f:Nat→Int):Nat→Int
 | 0=>f 0
 | k+1=>min (mnN f k) (f k)
def mxN (f:Nat→Int):Nat→Int
 | 0=>f 0
 | k+1=>max (mxN f k) (f k)
theorem arz (f:Nat→Int) (k i:Nat) (h:i<k):mnN f k≤f i:=by
 induction k with
 | zero=>omega
 | succ k ih=>
  rw [mnN];by_cases hi:i=k
  ·subst hi; omega
  ·have:=ih (by omega); omega
theorem arx (f:Nat→Int) (k i:Nat) (h:i<k):f i≤mxN f k:=by
 induction k with
 | zero=>omega
 | succ k ih=>
  rw [mxN];by_cases hi:i=k
  ·subst hi; omega
  ·have:=ih (by omega); omega
def wc (z:Ei) (r:Nat) (lx ly ux uy:Int):Prop:=(mxN (hx z r) 6<lx∨ux<mnN (hx z r) 6)∨(mxN (hy z r) 6<ly∨uy<mnN (hy z r) 6)
instance (z:Ei) (r:Nat) (lx ly ux uy:Int):Decidable (wc z r lx ly ux uy):=inferInstanceAs (Decidable (_∨_))
def ajk (z:Ei) (r:Nat) (lx ly ux uy:Int) (i:Nat):Prop:=crs z r i ((i+1)%6) lx ly<0∧crs z r i ((i+1)%6) ux ly<0∧crs z r i ((i+1)%6) ux uy<0∧crs z r i ((i+1)%6) lx uy<0
instance (z:Ei) (r:Nat) (lx ly ux uy:Int) (i:Nat):Decidable (ajk z r lx ly ux uy i):=inferInstanceAs (Decidable (_∧_))
def ak (z:Ei) (r:Nat) (lx ly ux uy:Int):Bool:=!decide (wc z r lx ly ux uy)&&(List.range 6).all fun i=>!decide (ajk z r lx ly ux uy i)
theorem a7d {z:Ei} {r:Nat} {lx ly ux uy:Int} (h:wc z r lx ly ux uy):ak z r lx ly ux uy=false:=by simp [ak,h]
theorem a6z (A B x y lx ly ux uy:Int) (h1:lx≤x∧x≤ux) (h2:ly≤y∧y≤uy) :
  A*y-B*x≤A*ly-B*lx∨A*y-B*x≤A*ly-B*ux∨A*y-B*x≤A*uy-B*ux∨A*y-B*x≤A*uy-B*lx:=by
 have ay:A*y≤A*ly∨A*y≤A*uy:=by
  rcases zay 0 A with h | h
  ·exact .inr (zar h2.2 h)
  ·exact .inl (zbc h h2.1)
 have bx:B*lx≤B*x∨B*ux≤B*x:=by
  rcases zay 0 B with h | h
  ·exact .inl (zar h1.1 h)
  ·exact .inr (zbc h h1.2)
 omega
theorem a6w (z:Ei) (r i j:Nat) (x y:Int):crs z r i j x y=((kx r j-kx r i)*y-(ky r j-ky r i)*x)-((kx r j-kx r i)*hy z r i-(ky r j-ky r i)*hx z r i):=by
 unfold crs;rw [Int.mul_sub,Int.mul_sub];omega
theorem a5m {x y:Int} {z:Ei} {r:Nat} (h:sk x y z r) {lx ly ux uy:Int} (h1:lx≤3*x∧3*x≤ux) (h2:ly≤3*y∧3*y≤uy):ak z r lx ly ux uy=true:=by
 obtain ⟨_,hc,⟨a,a6,ha⟩,⟨b,b6,hb⟩,⟨c,c6,hcc⟩,⟨d,d6,hd⟩⟩:=h;have e1:=arz (hx z r) 6 a a6;have e2:=arx (hx z r) 6 b b6;have e3:=arz (hy z r) 6 c c6;have e4:=arx (hy z r) 6 d d6;simp only [ak,Bool.and_eq_true,zbq,decide_eq_false_iff_not,List.all_eq_true,zbr];refine ⟨by unfold wc; omega,fun i hi=>?_⟩;have:=hc i hi;have hu:=a6z (kx r ((i+1)%6)-kx r i) (ky r ((i+1)%6)-ky r i) (3*x) (3*y) lx ly ux uy h1 h2;simp only [ajk,a6w] at this ⊢;omega
def rng (a b:Int):List Int:=(List.range (b+1-a).toNat).map fun i:Nat=>a+(i:Int)
def bj7 (p:Int→Int→Bool) (a b k:Int):List (Int×Int):=((rng a b).filter fun i=>p i k).map fun i=>(i,k)
def bba (p:Int→Int→Bool) (a b c d:Int):List (Int×Int):=(rng c d).flatMap (bj7 p a b)
def tlo (m s last:Int):Int:=min (max (m.tdiv (3*s)-1) 0) last
def thi (m s last:Int):Int:=min (max (m.tdiv (3*s)+1) 0) last
def dlo (m s:Int):Int:=max (m.tdiv (3*s)-2) 0
def dhi (m s last:Int):Int:=min (m.tdiv (3*s)+2) last
def tch (z:Ei) (r:Nat) (s i k:Int):Bool:=ak z r (3*(i*s)) (3*(k*s)) (3*((i+1)*s)) (3*((k+1)*s))
def bbd (z:Ei) (r:Nat) (s last:Int):List (Int×Int):=bba (tch z r s) (tlo (mnN (hx z r) 6) s last) (thi (mxN (hx z r) 6) s last) (tlo (mnN (hy z r) 6) s last) (thi (mxN (hy z r) 6) s last)
def bka (z:Ei) (r:Nat) (s last:Int):List (Int×Int):=bba (tch z r s) (dlo (mnN (hx z r) 6) s) (dhi (mxN (hx z r) 6) s last) (dlo (mnN (hy z r) 6) s) (dhi (mxN (hy z r) 6) s last)

def adt:Mk P0 f165:={ x:=_ }
theorem aiv:d5 165 2 adt:=c8 func165
def aad:Mk P0 f235:={ x:=_ }
theorem afh:d5 235 1 aad:=c8 func235
def aaw:Mk P0 f202:={ x:=_ }
theorem af1:d5 202 2 aaw:=c8 func202
def aac:Mk P0 f203:={ x:=_ }
theorem afg:d5 203 3 aac:=c8 func203
def aab:Mk P0 f167:={ x:=_ }
theorem aff:d5 167 2 aab:=c8 func167
def afi:Mk P0 f118:={ x:=_ }
theorem aj2:d5 118 3 afi:=c8 func118
def pv (x y:Int):AV:=.r (pnt x y)
def bxv (lx ly ux uy:Int):AV:=.r (.agg [.v (.int .i64 lx),.v (.int .i64 ly),.v (.int .i64 ux),.v (.int .i64 uy)])
def ajp (x:Int):Prop:=-2147483648≤x∧x≤2147483648
def ibx (lx ly ux uy i:Int):List AV:=if i=0 then [int .i64 0,int .i64 0,int .i64 0,int .i64 0] else if i=1 then [int .i64 (3*lx),int .i64 0,int .i64 (3*ux),int .i64 0] else [int .i64 (3*lx),int .i64 (3*ly),int .i64 (3*ux),int .i64 (3*uy)]
theorem bjr (lx ly ux uy:Int):ibx lx ly ux uy 0=[int .i64 0,int .i64 0,int .i64 0,int .i64 0]:=rfl
theorem bjq (lx ly ux uy:Int):ibx lx ly ux uy 1=[int .i64 (3*lx),int .i64 0,int .i64 (3*ux),int .i64 0]:=rfl
theorem bjp (lx ly ux uy:Int):ibx lx ly ux uy 2=[int .i64 (3*lx),int .i64 (3*ly),int .i64 (3*ux),int .i64 (3*uy)]:=rfl
theorem a2w (lx ly ux uy:Int) (h1:ajp lx) (h2:ajp ly) (h3:ajp ux) (h4:ajp uy) (hx:lx≤ux) (hy:ly≤uy):a8 P0 165 [pv lx ly,pv ux uy] [] (.tup [bxv (3*lx) (3*ly) (3*ux) (3*uy),bl true]) []:=by
 refine aiv rfl (by decide) ?_
 push_cast [adt,pv,pnt,bxv,zab]
 unfold ajp at h1 h2 h3 h4
 refine run_loop [(8,false),(6,false),(4,false),(3,false),(2,false)] (fun vs pos los=>∃i:Int,(i=0∨i=1∨i=2)∧vs=[int .i64 i,.ptr 2000000 0 0,.ptr 2000001 0 0,.ptr 2000002 0 0,.ptr 2000003 0 0]∧pos=[] ∧
  los=[.box (ibx lx ly ux uy i),.box [int .i64 0,int .i64 0,int .i64 0,int .i64 0],.box [int .i64 ux,int .i64 uy],.box [int .i64 lx,int .i64 ly]])
  (fun vs _ _=>match vs with | .r (.v (.int _ j))::_=>(2-j).toNat | _=>0) rfl ?_ ?_
 ·push_cast
  exact ⟨0,by omega,rfl,rfl⟩
 ·rintro vs pos los ⟨i,rfl | rfl | rfl,rfl,rfl,rfl⟩
  ·have g1:decide (lx < -2147483648)=false:=by simp; omega
   have g2:decide (ux>2147483648)=false:=by simp; omega
   have g3:decide (ux<lx)=false:=by simp; omega
   have g0:decide ((0:Int)<2)=true:=rfl;have e1:IntKind.i64.wrap (3*lx)=3*lx:=a5 (by omega);have e2:IntKind.i64.wrap (3*ux)=3*ux:=a5 (by omega);have e3:IntKind.i64.wrap (0+1)=1:=by decide
   push_cast [bjr,g0,g1,g2,g3,e1,e2,e3,zad]
   repeat refine And.intro (by first | decide | kernel_rfl) ?_
   exact ⟨⟨1,by omega,rfl,rfl⟩,by decide⟩
  ·have g1:decide (ly < -2147483648)=false:=by simp; omega
   have g2:decide (uy>2147483648)=false:=by simp; omega
   have g3:decide (uy<ly)=false:=by simp; omega
   have g0:decide ((1:Int)<2)=true:=rfl;have e1:IntKind.i64.wrap (3*ly)=3*ly:=a5 (by omega);have e2:IntKind.i64.wrap (3*uy)=3*uy:=a5 (by omega);have e3:IntKind.i64.wrap (1+1)=2:=by decide
   push_cast [bjq,g0,g1,g2,g3,e1,e2,e3,zad]
   repeat refine And.intro (by first | decide | kernel_rfl) ?_
   exact ⟨⟨2,by omega,rfl,rfl⟩,by decide⟩
  ·have g0:decide ((2:Int)<2)=false:=rfl
   push_cast [bjp,g0,zad]
theorem a6y (lx ly ux uy:Int):a8 P0 235 [bxv lx ly ux uy] [] (.own 1000000 0 0 4) [.row 2 (pnt 0 0) true true [pnt lx ly,pnt ux ly,pnt ux uy,pnt lx uy]]:=by
 refine afh rfl (by decide) ?_
 push_cast [aad,pnt,bxv,zab,zad]
 decide
theorem yi (z:Ei) (r:Nat):((xh z r 6).length:Int)=6:=by rw [ax4]; rfl
theorem aeu (z:Ei) (r n i:Nat) (h:i<n) (d:RV):(xh z r n).getD i d=.agg [.v (.int .i64 (hx z r i)),.v (.int .i64 (hy z r i))]:=by
 rw [zak];simp [xh,h,a2z,pnt]
def zq (z:Ei) (r:Nat):Prop:=∀i,i<6→(-4294967296≤hx z r i∧hx z r i≤4294967296)∧(-4294967296≤hy z r i∧hy z r i≤4294967296)
abbrev afa (z:Ei) (r:Nat):AV:=.r (.sl 2 (xh z r 6))
theorem bam (z:Ei) (r:Nat) (lx ly ux uy:Int) (hb:zq z r):a8 P0 202 [bxv lx ly ux uy,afa z r] [] (bl (decide (wc z r lx ly ux uy))) []:=by
 refine af1 rfl (by decide) ?_;simp only [aaw,bxv,push_cast,↓reduceIte,reduceCtorEq,zB,zE,zA,zS,zL,zD,zM]
 refine run_loop [(10,false),(2,false),(1,false)] (fun vs pos los=>∃i:Int,(i=0∨(i=1∧¬(mxN (hx z r) 6<lx∨ux<mnN (hx z r) 6))∨(i=2∧¬wc z r lx ly ux uy))∧vs=[int .i64 i,.ptr 2000000 0 0,afa z r]∧pos=[] ∧
  los=[.box [int .i64 lx,int .i64 ly,int .i64 ux,int .i64 uy]])
  (fun vs _ _=>match vs with | .r (.v (.int _ j))::_=>(2-j).toNat | _=>0) rfl ?_ ?_
 ·simp only [push_cast,↓reduceIte,reduceCtorEq,zB,zE,zA,zS,zL,zD,zM];exact ⟨0,by omega,rfl⟩
 ·rintro vs pos los ⟨i,hi | hi | hi,rfl,rfl,rfl⟩
  ·obtain rfl:=hi;have g0:decide ((0:Int)<2)=true:=rfl;simp only [g0,yi,aeu z r 6 0 (by decide),zad,push_cast,↓reduceIte,reduceCtorEq,zB,zE,zA,zS,zL,zD,zM]
   repeat refine And.intro (by first | decide | kernel_rfl) ?_
   refine run_loop [(25,false),(24,false),(23,false),(6,false),(7,false),(5,false),(2,false),(1,false),(10,false)] (fun vs pos los=>∃k:Nat,k≤6∧vs=[int .i64 k,int .i64 6,afa z r,int .i64 (mnN (hx z r) k),int .i64 (mxN (hx z r) k),int .i64 0,.ptr 2000000 0 0,afa z r,int .i64 0]∧pos=[] ∧
    los=[.box [int .i64 lx,int .i64 ly,int .i64 ux,int .i64 uy]])
    (fun vs _ _=>match vs with | .r (.v (.int _ j))::_=>(6-j).toNat | _=>0) rfl ?_ ?_
   ·simp only [push_cast,↓reduceIte,reduceCtorEq,zB,zE,zA,zS,zL,zD,zM];exact ⟨0,by omega,rfl⟩
   ·rintro vs pos los ⟨k,hk,rfl,rfl,rfl⟩;simp only [push_cast,↓reduceIte,reduceCtorEq,zB,zE,zA,zS,zL,zD,zM];refine b9 (fun h=>?_) (fun h=>?_)
    ·have hi:k<6:=by simp at h; omega
     simp only [yi,zaf,aeu z r 6 k hi,zad,push_cast,↓reduceIte,reduceCtorEq,zB,zE,zA,zS,zL,zD,zM];rw [show IntKind.i64.wrap ((k:Int)+1)=((k+1:Nat):Int) by rw [a5 (by omega)]; omega];refine ⟨by omega,by decide,by decide,by kernel_rfl,⟨k+1,by omega,rfl⟩,by omega⟩
    ·have hi:k=6:=by simp at h; omega
     subst hi;simp only [zad,push_cast,↓reduceIte,reduceCtorEq,zB,zE,zA,zS,zL,zD,zM]
     repeat refine And.intro (by first | decide | exact fun _=>by decide | (simp +contextual; done) | kernel_rfl) ?_
     refine b9 (fun h=>?_) (fun h=>?_)
     ·have hbe:mxN (hx z r) 6<lx∨ux<mnN (hx z r) 6:=by simpa using h
      simp only [push_cast,↓reduceIte,reduceCtorEq,zB,zE,zA,zS,zL,zD,zM];rw [decide_eq_true (show wc z r lx ly ux uy from .inl hbe)]
     ·have hne:¬(mxN (hx z r) 6<lx∨ux<mnN (hx z r) 6):=by
       have:=h;simp at this;omega
      simp only [push_cast,↓reduceIte,reduceCtorEq,zB,zE,zA,zS,zL,zD,zM];refine ⟨⟨1,.inr (.inl ⟨rfl,hne⟩),rfl⟩,by decide⟩
  ·obtain ⟨rfl,hn⟩:=hi;have g0:decide ((1:Int)<2)=true:=rfl;simp only [g0,yi,aeu z r 6 0 (by decide),zad,push_cast,↓reduceIte,reduceCtorEq,zB,zE,zA,zS,zL,zD,zM]
   repeat refine And.intro (by first | decide | kernel_rfl) ?_
   refine run_loop [(25,false),(24,false),(23,false),(6,false),(7,false),(5,false),(2,false),(1,false),(10,false)] (fun vs pos los=>∃k:Nat,k≤6∧vs=[int .i64 k,int .i64 6,afa z r,int .i64 (mnN (hy z r) k),int .i64 (mxN (hy z r) k),int .i64 1,.ptr 2000000 0 0,afa z r,int .i64 1]∧pos=[] ∧
    los=[.box [int .i64 lx,int .i64 ly,int .i64 ux,int .i64 uy]])
    (fun vs _ _=>match vs with | .r (.v (.int _ j))::_=>(6-j).toNat | _=>0) rfl ?_ ?_
   ·simp only [push_cast,↓reduceIte,reduceCtorEq,zB,zE,zA,zS,zL,zD,zM];exact ⟨0,by omega,rfl⟩
   ·rintro vs pos los ⟨k,hk,rfl,rfl,rfl⟩;simp only [push_cast,↓reduceIte,reduceCtorEq,zB,zE,zA,zS,zL,zD,zM];refine b9 (fun h=>?_) (fun h=>?_)
    ·have hi:k<6:=by simp at h; omega
     simp only [yi,zaf,aeu z r 6 k hi,zad,push_cast,↓reduceIte,reduceCtorEq,zB,zE,zA,zS,zL,zD,zM];rw [show IntKind.i64.wrap ((k:Int)+1)=((k+1:Nat):Int) by rw [a5 (by omega)]; omega];refine ⟨by omega,by decide,by decide,by kernel_rfl,⟨k+1,by omega,rfl⟩,by omega⟩
    ·have hi:k=6:=by simp at h; omega
     subst hi;simp only [zad,push_cast,↓reduceIte,reduceCtorEq,zB,zE,zA,zS,zL,zD,zM]
     repeat refine And.intro (by first | decide | exact fun _=>by decide | (simp +contextual; done) | kernel_rfl) ?_
     refine b9 (fun h=>?_) (fun h=>?_)
     ·have hbe:mxN (hy z r) 6<ly∨uy<mnN (hy z r) 6:=by simpa using h
      simp only [push_cast,↓reduceIte,reduceCtorEq,zB,zE,zA,zS,zL,zD,zM];rw [decide_eq_true (show wc z r lx ly ux uy from .inr hbe)]
     ·have hne:¬(mxN (hy z r) 6<ly∨uy<mnN (hy z r) 6):=by
       have:=h;simp at this;omega
      simp only [push_cast,↓reduceIte,reduceCtorEq,zB,zE,zA,zS,zL,zD,zM];refine ⟨⟨2,.inr (.inr ⟨rfl,fun hc=>hc.elim hn hne⟩),rfl⟩,by decide⟩
  ·obtain ⟨rfl,hn⟩:=hi;have g0:decide ((2:Int)<2)=false:=rfl;simp only [g0,push_cast,↓reduceIte,reduceCtorEq,zB,zE,zA,zS,zL,zD,zM];rw [decide_eq_false hn]
def li (x:Int):Prop:=-4294967296≤x∧x≤4294967296
def ap0 (x:Int):Prop:=-268435456≤x∧x≤268435456
def crP (p0 p1 q0 q1 x y:Int):Int:=(q0-p0)*(y-p1)-(q1-p1)*(x-p0)
theorem bht {p0 p1 q0 q1 x y:Int} (h0:li p0) (h1:li p1) (d0:ap0 (q0-p0)) (d1:ap0 (q1-p1)) (hx:li x) (hy:li y) :
  IntKind.i64.wrap (IntKind.i64.wrap (IntKind.i64.wrap (q0-p0)*IntKind.i64.wrap (y-p1))-IntKind.i64.wrap (IntKind.i64.wrap (q1-p1)*IntKind.i64.wrap (x-p0)))=crP p0 p1 q0 q1 x y:=by
 unfold li at h0 h1 hx hy;unfold ap0 at d0 d1;have m1:=fm (n:=268435456) (m:=8589934592) d0 (y:=y-p1) (by omega);have m2:=fm (n:=268435456) (m:=8589934592) d1 (y:=x-p0) (by omega);unfold crP;rw [show IntKind.i64.wrap (q0-p0)=q0-p0 from a5 (by omega),show IntKind.i64.wrap (q1-p1)=q1-p1 from a5 (by omega),show IntKind.i64.wrap (y-p1)=y-p1 from a5 (by omega),show IntKind.i64.wrap (x-p0)=x-p0 from a5 (by omega)];generalize (q0-p0)*(y-p1)=A at *;generalize (q1-p1)*(x-p0)=B at *;rw [show IntKind.i64.wrap A=A from a5 (by omega),show IntKind.i64.wrap B=B from a5 (by omega),a5 (by omega)]
def cnx (lx ux:Int) (i:Nat):Int:=if i=0∨i=3 then lx else ux
def cny (ly uy:Int) (i:Nat):Int:=if i=0∨i=1 then ly else uy
def cnL (lx ly ux uy:Int):List RV:=[pnt lx ly,pnt ux ly,pnt ux uy,pnt lx uy]
theorem bhw (lx ly ux uy:Int) (i:Nat) (h:i<4) (d:RV):(cnL lx ly ux uy).getD i d=.agg [.v (.int .i64 (cnx lx ux i)),.v (.int .i64 (cny ly uy i))]:=by
 rcases (show i=0∨i=1∨i=2∨i=3 by omega) with rfl | rfl | rfl | rfl<;>rfl
def atk (p0 p1 q0 q1 lx ly ux uy:Int):Prop:=∀i,i<4→crP p0 p1 q0 q1 (cnx lx ux i) (cny ly uy i)<0
instance (p0 p1 q0 q1 lx ly ux uy:Int):Decidable (atk p0 p1 q0 q1 lx ly ux uy):=inferInstanceAs (Decidable (∀i,i<4→_))
theorem a5r (lx ly ux uy p0 p1 q0 q1:Int) (h1:li lx) (h2:li ly) (h3:li ux) (h4:li uy) (h5:li p0) (h6:li p1) (d0:ap0 (q0-p0)) (d1:ap0 (q1-p1)) :
  a8 P0 203 [bxv lx ly ux uy,pv p0 p1,pv q0 q1] [] (bl (decide (atk p0 p1 q0 q1 lx ly ux uy))) []:=by
 refine afg rfl (by decide) ?_
 push_cast [aac,bxv,pv,pnt,zab]
 refine b7 (as':=[bxv lx ly ux uy]) rfl ?_;refine a7 (a6y lx ly ux uy) rfl trivial ?_
 push_cast [pnt]
 refine run_loop [(12,false),(11,false),(10,false),(5,false),(4,false)] (fun vs pos los=>∃i:Nat,i≤4∧(∀j,j<i→crP p0 p1 q0 q1 (cnx lx ux j) (cny ly uy j)<0)∧vs=[int .i64 i,int .i64 4,.own 2000000 0 0 4,.ptr 2000001 0 0,.ptr 2000002 0 0]∧pos=[] ∧
  los=[.row 2 (.agg [.v (.int .i64 0),.v (.int .i64 0)]) true true (cnL lx ly ux uy),.box [int .i64 q0,int .i64 q1],.box [int .i64 p0,int .i64 p1]])
  (fun vs _ _=>match vs with | .r (.v (.int _ j))::_=>(4-j).toNat | _=>0) rfl ?_ ?_
 ·push_cast
  exact ⟨0,by omega,fun j hj=>by omega,rfl,rfl⟩
 ·rintro vs pos los ⟨i,i4,hj,rfl,rfl,rfl⟩
  push_cast
  refine b9 (fun h=>?_) (fun h=>?_)
  ·have hi:i<4:=by simp at h; omega
   have hcx:li (cnx lx ux i):=by unfold cnx; split<;>assumption
   have hcy:li (cny ly uy i):=by unfold cny; split<;>assumption
   push_cast [zaf,zac,bhw lx ly ux uy i hi,bht h5 h6 d0 d1 hcx hcy,zad]
   refine ⟨by omega,?_⟩
   repeat refine And.intro (by first | decide | omega | kernel_rfl) ?_
   refine b9 (fun h'=>?_) (fun h'=>?_)
   ·have hc:¬crP p0 p1 q0 q1 (cnx lx ux i) (cny ly uy i)<0:=by simp at h'; omega
    push_cast
    rw [decide_eq_false (show ¬atk p0 p1 q0 q1 lx ly ux uy from fun c=>hc (c i hi))]
   ·have hc:crP p0 p1 q0 q1 (cnx lx ux i) (cny ly uy i)<0:=by simp at h'; omega
    push_cast
    rw [show IntKind.i64.wrap ((i:Int)+1)=((i+1:Nat):Int) by rw [a5 (by omega)]; omega];refine ⟨⟨i+1,by omega,fun j hj'=>?_,rfl⟩,by omega⟩;by_cases hji:j=i
    ·subst hji; exact hc
    ·exact hj j (by omega)
  ·have hi:i=4:=by simp at h; omega
   subst hi
   push_cast
   rw [decide_eq_true (show atk p0 p1 q0 q1 lx ly ux uy from hj)]
theorem a9a (z:Ei) (r i j:Nat) (lx ly ux uy:Int) (hj:j=(i+1)%6):atk (hx z r i) (hy z r i) (hx z r j) (hy z r j) lx ly ux uy↔ajk z r lx ly ux uy i:=by
 subst hj
 have e:∀x y,crP (hx z r i) (hy z r i) (hx z r ((i+1)%6)) (hy z r ((i+1)%6)) x y=crs z r i ((i+1)%6) x y:=fun x y=>by
  simp only [crP,crs];rw [show hx z r ((i+1)%6)-hx z r i=kx r ((i+1)%6)-kx r i by rw [ao,ao]; omega,show hy z r ((i+1)%6)-hy z r i=ky r ((i+1)%6)-ky r i by rw [an,an]; omega]
 simp only [atk,ajk,e];constructor
 ·intro h;exact ⟨h 0 (by decide),h 1 (by decide),h 2 (by decide),h 3 (by decide)⟩
 ·rintro ⟨h0,h1,h2,h3⟩ k hk;rcases (show k=0∨k=1∨k=2∨k=3 by omega) with rfl | rfl | rfl | rfl
  ·exact h0
  ·exact h1
  ·exact h2
  ·exact h3
theorem a3h (z:Ei) (r:Nat) (hr:r≤12) (lx ly ux uy:Int) (hb:zq z r) (h1:li lx) (h2:li ly) (h3:li ux) (h4:li uy):a8 P0 167 [bxv lx ly ux uy,afa z r] [] (bl (ak z r lx ly ux uy)) []:=by
 refine aff rfl (by decide) ?_
 push_cast [aab,bxv,zab]
 refine b7 (as':=[bxv lx ly ux uy,afa z r]) rfl ?_;refine a7 (bam z r lx ly ux uy hb) rfl trivial ?_;by_cases hbe:wc z r lx ly ux uy
 ·rw [decide_eq_true hbe]
  push_cast
  rw [a7d hbe]
 ·rw [decide_eq_false hbe]
  push_cast [yi]
  refine run_loop [(12,false),(11,false),(10,false),(2,false),(1,false)] (fun vs pos los=>∃i:Nat,i≤6∧(∀j,j<i→¬ajk z r lx ly ux uy j)∧vs=[int .i64 i,int .i64 6,afa z r,.ptr 2000000 0 0,afa z r]∧pos=[] ∧
   los=[.box [int .i64 lx,int .i64 ly,int .i64 ux,int .i64 uy]])
   (fun vs _ _=>match vs with | .r (.v (.int _ j))::_=>(6-j).toNat | _=>0) rfl ?_ ?_
  ·push_cast
   exact ⟨0,by omega,fun j hj=>by omega,rfl⟩
  ·rintro vs pos los ⟨i,i6,hj,rfl,rfl,rfl⟩
   push_cast
   refine b9 (fun h=>?_) (fun h=>?_)
   ·have hi:i<6:=by simp at h; omega
    obtain ⟨J,hJ⟩:∃J,J=(i+1)%6:=⟨_,rfl⟩
    have hJ6:J<6:=by omega
    have hm:(IntKind.i64.wrap ((i:Int)+1)).tmod 6=(J:Int):=by
     rw [a5 (by omega),zbl (by omega)]; omega
    push_cast [yi,hm,zaf,aeu z r 6 i hi,aeu z r 6 J hJ6,zad]
    refine ⟨by omega,?_⟩
    repeat refine And.intro (by first | decide | omega | kernel_rfl) ?_
    refine q8 (as':=[bxv lx ly ux uy,pv (hx z r i) (hy z r i),pv (hx z r J) (hy z r J)]) rfl ?_;have k1:=axv r i hr hi;have k2:=axv r J hr hJ6;refine d9 (a5r lx ly ux uy _ _ _ _ h1 h2 h3 h4 (hb i hi).1 (hb i hi).2 (by rw [ao,ao]; unfold ap0; omega) (by rw [an,an]; unfold ap0; omega)) rfl trivial ?_
    push_cast
    repeat refine And.intro (by first | decide | omega | kernel_rfl) ?_
    have hio:=a9a z r i J lx ly ux uy hJ;refine b9 (fun h'=>?_) (fun h'=>?_)
    ·have ho:ajk z r lx ly ux uy i:=hio.1 (by simpa using h')
     push_cast
     have:ak z r lx ly ux uy=false:=by
      simp only [ak,hbe,decide_false,zbs,Bool.true_and];rw [List.all_eq_false];exact ⟨i,zbr.2 hi,by simp [ho]⟩
     rw [this]
    ·have ho:¬ajk z r lx ly ux uy i:=fun c=>by
      have:=hio.2 c;simp [this] at h'
     push_cast
     rw [show IntKind.i64.wrap ((i:Int)+1)=((i+1:Nat):Int) by rw [a5 (by omega)]; omega];refine ⟨⟨i+1,by omega,fun j hj'=>?_,rfl⟩,by omega⟩;by_cases hji:j=i
     ·subst hji; exact ho
     ·exact hj j (by omega)
   ·have hi:i=6:=by simp at h; omega
    subst hi
    push_cast
    have:ak z r lx ly ux uy=true:=by
     simp only [ak,hbe,decide_false,zbs,Bool.true_and,List.all_eq_true,zbr,zbq,decide_eq_false_iff_not];exact hj
    rw [this]
theorem a38 (z:Ei) (r:Nat):List.take 6 (xh z r 6)=xh z r 6:=rfl
attribute [push_cast high] a38
theorem a23 (z:Ei) (r:Int) (h0:0≤r) (hk:okc r.toNat z) (lx ly ux uy:Int) (hb:zq z r.toNat) (h1:0≤lx∧lx≤ux∧ux≤1073741824) (h2:0≤ly∧ly≤uy∧uy≤1073741824) :
  a8 P0 118 [cel r z,pv lx ly,pv ux uy] [] (bl (ak z r.toNat (3*lx) (3*ly) (3*ux) (3*uy))) []:=by
 refine aj2 rfl (by decide) ?_
 push_cast [afi,cel,pv,pnt,zab]
 refine b7 (as':=[pv lx ly,pv ux uy]) rfl ?_;refine a7 (a2w lx ly ux uy (by unfold ajp; omega) (by unfold ajp; omega) (by unfold ajp; omega) (by unfold ajp; omega) h1.2.1 h2.2.1) rfl trivial ?_
 push_cast [bxv]
 refine b7 (as':=[cel r z]) rfl ?_;refine a7 (bjv r z h0 hk) rfl trivial ?_
 push_cast
 have hr:r≤12:=by have:=hk.1; omega
 refine b7 (as':=[z.v,int .i64 r]) rfl ?_;refine a7 (bbs z r hk.2.1 ⟨h0,hr⟩) rfl trivial ?_
 push_cast [pnt]
 refine l9 ?_
 push_cast
 refine b7 (as':=[bxv (3*lx) (3*ly) (3*ux) (3*uy),afa z r.toNat]) rfl ?_;refine a7 (a3h z r.toNat hk.1 _ _ _ _ hb (by unfold li; omega) (by unfold li; omega) (by unfold li; omega) (by unfold li; omega)) rfl trivial ?_
 push_cast

def ah4:Mk P0 f67:={ x:=_ }
theorem ak0:d5 67 1 ah4:=c8 func67
def xq:Mk P0 f68:={ x:=_ }
theorem adz:d5 68 2 xq:=c8 func68
def agb:Mk P0 f72:={ x:=_ }
theorem akw:d5 72 2 agb:=c8 func72
theorem xy {z:Int} (h:0≤z∧z≤18):4096≤(2:Int)^(30-z).toNat∧(2:Int)^(30-z).toNat≤1073741824:=by
 have h1:2^(30-z).toNat≤2^30:=zbj (by decide) (by omega);have h2:2^12≤2^(30-z).toNat:=zbj (by decide) (by omega);have h3:((2^(30-z).toNat:Nat):Int)=(2:Int)^(30-z).toNat:=by simp
 omega
theorem aib {t:Til} (h:tis t=true):(0≤t.x*2^(30-t.z).toNat∧(t.x+1)*2^(30-t.z).toNat≤1073741824)∧(0≤t.y*2^(30-t.z).toNat∧(t.y+1)*2^(30-t.z).toNat≤1073741824):=by
 simp only [tis,decide_eq_true_eq] at h;obtain ⟨z0,z1,r0,r1,x0,x1,y0,y1⟩:=h;have hs:=xy ⟨z0,z1⟩
 have hpq:(2:Int)^t.z.toNat*2^(30-t.z).toNat=1073741824:=by
  rw [← Int.pow_add,show t.z.toNat+(30-t.z).toNat=30 by omega]; rfl
 have hx:(t.x+1)*2^(30-t.z).toNat≤1073741824:=by rw [← hpq]; exact zbt (by omega) (by omega)
 have hy:(t.y+1)*2^(30-t.z).toNat≤1073741824:=by rw [← hpq]; exact zbt (by omega) (by omega)
 exact ⟨⟨zbm x0 (by omega),hx⟩,zbm y0 (by omega),hy⟩
theorem ax7 (t:Til) (h:tis t=true):a8 P0 67 [t.v] [] (bxv (t.x*2^(30-t.z).toNat) (t.y*2^(30-t.z).toNat) ((t.x+1)*2^(30-t.z).toNat) ((t.y+1)*2^(30-t.z).toNat)) []:=by
 refine ak0 rfl (by decide) ?_;have hi:=aib h;have hs:=xy (show 0≤t.z∧t.z≤18 by simp only [tis,decide_eq_true_eq] at h; omega)
 push_cast [ah4,Til.v,bxv,zab]
 refine b7 (as':=[t.v]) rfl ?_;refine a7 (aw9 t h) rfl trivial ?_
 push_cast
 rw [zbd,Int.one_mul,zbd,Int.one_mul] at *;rw [a5 (by omega),a5 (by omega)]
theorem asd (z:Ei) (r:Int) (h0:0≤r) (hk:okc r.toNat z) (lx ly ux uy:Int) (hb:zq z r.toNat) (h1:0≤lx∧lx≤ux∧ux≤1073741824) (h2:0≤ly∧ly≤uy∧uy≤1073741824) :
  a8 P0 68 [bxv lx ly ux uy,cel r z] [] (bl (ak z r.toNat (3*lx) (3*ly) (3*ux) (3*uy))) []:=by
 refine adz rfl (by decide) ?_
 push_cast [xq,cel,bxv,zab]
 refine b7 (as':=[cel r z,pv lx ly,pv ux uy]) rfl ?_;refine a7 (a23 z r h0 hk lx ly ux uy hb h1 h2) rfl trivial ?_
 push_cast
theorem a1k (t:Til) (h:tis t=true) (z:Ei) (r:Int) (h0:0≤r) (hk:okc r.toNat z) (hb:zq z r.toNat) :
  a8 P0 72 [t.v,cel r z] [] (bl (tch z r.toNat (2^(30-t.z).toNat) t.x t.y)) []:=by
 refine akw rfl (by decide) ?_;have hi:=aib h;have hz:0≤t.z∧t.z≤18:=by simp only [tis,decide_eq_true_eq] at h; omega
 have hs:=xy hz
 push_cast [agb,Til.v,cel,zab]
 refine q8 (as':=[t.v]) rfl ?_;refine d9 (a2u t) rfl trivial ?_;rw [h]
 push_cast
 refine q8 (as':=[t.v]) rfl ?_;refine d9 (ax7 t h) rfl trivial ?_
 push_cast [bxv]
 refine q8 (as':=[bxv (t.x*2^(30-t.z).toNat) (t.y*2^(30-t.z).toNat) ((t.x+1)*2^(30-t.z).toNat) ((t.y+1)*2^(30-t.z).toNat),cel r z]) rfl ?_;refine d9 (asd z r h0 hk _ _ _ _ hb ⟨hi.1.1,by rw [zbd]; omega,hi.1.2⟩ ⟨hi.2.1,by rw [zbd]; omega,hi.2.2⟩) rfl trivial ?_
 push_cast
 exact ⟨by kernel_rfl,rfl⟩

def aak:Mk P0 f20:={ x:=_ }
theorem afq:d5 20 1 aak:=c8 func20
def sg (x:Int):Int:=if x<0 then -1 else if 0<x then 1 else 0
theorem a4x (t:Til) (ht:t.ok):a8 P0 20 [t.v] [] (int .i64 (if tis t then (if fine t then 14 else 0) else 1)) []:=by
 refine afq rfl (by decide) ?_
 push_cast [aak,Til.v,zab]
 refine b7 (as':=[t.v]) rfl ?_;refine a7 (az1 t) rfl trivial ?_;cases hti:tis t with
 | false=>push_cast
 | true=>
  push_cast
  refine b7 (as':=[t.v]) rfl ?_;refine a7 (az2 t ht) rfl trivial ?_;cases hf:fine t<;>push_cast


theorem xp (r:Nat) (z:Ei) (h:okc r z):atu (x8 r z)=true∧ec (x8 r z)=r∧z8 (x8 r z) r=z∧x8 r z<18446744073709551616:=by
 refine ⟨avb h,(aou r z h).2,?_,amy r z h⟩;rw [a3u r r z h (zav _),Nat.sub_self]
 rfl
theorem a37 {t:Til} (h:tis t=true):t.ok:=by
 have hb:0≤t.z∧t.z≤18∧0≤t.r∧t.r≤12∧0≤t.x∧t.x<2^t.z.toNat∧0≤t.y∧t.y<2^t.z.toNat:=by simpa [tis] using h
 have hp:=p2 t.z.toNat (by omega);unfold Til.ok in64;omega
theorem aeb {x y:Int} {z:Ei} {r:Nat} (hr:r≤12) (hw:inW x y) (h:sk x y z r):zq z r:=fun i hi=>by
 have h1:=h.1;have h2:=axv r i hr hi;unfold inW at hw;rw [ao,an];omega
structure TilF (x y:Int) (t:Til) (Z:Ei) (s last:Int):Prop where
 b:0≤t.z∧t.z≤18∧0≤t.r∧t.r≤12
 w:inW x y
 k:okc t.r.toNat Z
 l:sk x y Z t.r.toNat
 h:zq Z t.r.toNat
 s1:4096≤s∧s≤1073741824
 l1:0≤last∧last≤262143
 same:bka Z t.r.toNat s last=bbd Z t.r.toNat s last
 own:(t.x,t.y)∈bbd Z t.r.toNat s last

theorem ar0 (f:Nat→Int):∀k,0<k→∃j,j<k∧mnN f k=f j
 | 0,h=>by omega
 | 1,_=>⟨0,by omega,by rw [mnN,mnN]; omega⟩
 | k+2,_=>by
  obtain ⟨j,hj,e⟩:=ar0 f (k+1) (by omega);rw [mnN];rcases zay (mnN f (k+1)) (f (k+1)) with h | h
  ·exact ⟨j,by omega,by omega⟩
  ·exact ⟨k+1,by omega,by omega⟩
theorem ary (f:Nat→Int):∀k,0<k→∃j,j<k∧mxN f k=f j
 | 0,h=>by omega
 | 1,_=>⟨0,by omega,by rw [mxN,mxN]; omega⟩
 | k+2,_=>by
  obtain ⟨j,hj,e⟩:=ary f (k+1) (by omega);rw [mxN];rcases zay (mxN f (k+1)) (f (k+1)) with h | h
  ·exact ⟨k+1,by omega,by omega⟩
  ·exact ⟨j,by omega,by omega⟩
section
variable (X Y A B C:Nat→Int)
def sd (i:Nat) (x y:Int):Int:=A i*y-B i*x-C i
def Tch (lx ly ux uy:Int):Prop:=¬(mxN X 6<lx∨ux<mnN X 6)∧¬(mxN Y 6<ly∨uy<mnN Y 6) ∧
 ∀i,i<6→¬(sd A B C i lx ly<0∧sd A B C i ux ly<0∧sd A B C i ux uy<0∧sd A B C i lx uy<0)
variable {X Y A B C}
theorem bfn (hc:∀i,i<6→∀j,j<6→0≤sd A B C i (X j) (Y j)) {ly uy:Int} (hy:ly≤uy) (h:¬(mxN Y 6<ly∨uy<mnN Y 6)) :
  ∃P Q W:Int,0<W∧(∀i,i<6→0≤A i*Q-B i*P-C i*W)∧mnN X 6*W≤P∧P≤mxN X 6*W∧ly*W≤Q∧Q≤uy*W:=by
 obtain ⟨j1,h1,e1⟩:=ar0 Y 6 (by decide);obtain ⟨j2,h2,e2⟩:=ary Y 6 (by decide);have a1:=arz X 6 j1 h1;have a2:=arz X 6 j2 h2;have b1:=arx X 6 j1 h1;have b2:=arx X 6 j2 h2;by_cases c1:ly≤Y j1
 ·refine ⟨X j1,Y j1,1,by omega,fun i hi=>?_,by omega,by omega,by omega,by omega⟩;have:=hc i hi j1 h1;unfold sd at this;omega
 ·by_cases c2:Y j2≤uy
  ·refine ⟨X j2,Y j2,1,by omega,fun i hi=>?_,by omega,by omega,by omega,by omega⟩;have:=hc i hi j2 h2;unfold sd at this;omega
  ·obtain ⟨s,hs⟩:∃s,Y j2-ly=s:=⟨_,rfl⟩
   obtain ⟨t,ht⟩:∃t,ly-Y j1=t:=⟨_,rfl⟩
   have s0:0≤s:=by omega
   have t0:0≤t:=by omega
   refine ⟨s*X j1+t*X j2,ly*(s+t),s+t,by omega,fun i hi=>?_,?_,?_,by omega,?_⟩
   ·have g1:=zbm s0 (hc i hi j1 h1);have g2:=zbm t0 (hc i hi j2 h2);unfold sd at g1 g2
    have e:A i*(ly*(s+t))-B i*(s*X j1+t*X j2)-C i*(s+t)=s*(A i*Y j1-B i*X j1-C i)+t*(A i*Y j2-B i*X j2-C i):=by
     rw [show Y j1=ly-t by omega,show Y j2=ly+s by omega];simp only [zaz,Int.mul_sub,zbd,Int.sub_mul];simp only [zbb,Int.mul_left_comm,zbk];omega
    rw [e];omega
   ·have g1:=zar a1 s0;have g2:=zar a2 t0;rw [zaz,zbb _ s,zbb _ t];omega
   ·have g1:=zar b1 s0;have g2:=zar b2 t0;rw [zaz,zbb _ s,zbb _ t];omega
   ·exact zbt hy (by omega)
theorem ayg {a k ly uy W Q:Int} (hW:0<W) (h1:ly*W≤Q) (h2:Q≤uy*W) (n1:a*ly+k<0) (n2:a*uy+k<0):a*Q+k*W<0:=by
 have m1:=zbu n1 hW;have m2:=zbu n2 hW;rw [Int.zero_mul,zbd,zbk] at m1 m2;rcases zay 0 a with h | h
 ·have:=zar h2 h;omega
 ·have:=zbc h h1;omega
theorem auo (hc:∀i,i<6→∀j,j<6→0≤sd A B C i (X j) (Y j)) {lx ly m ux uy:Int} (h1:lx≤m) (h2:m≤ux) (hy:ly≤uy) (hT:Tch X Y A B C lx ly ux uy) :
  Tch X Y A B C lx ly m uy∨Tch X Y A B C m ly ux uy:=by
 obtain ⟨t1,t2,t3⟩:=hT;obtain ⟨P,Q,W,hW,hf,x1,x2,y1,y2⟩:=bfn hc hy t2;apply Classical.byContradiction;intro hn;rw [not_or] at hn;obtain ⟨n1,n2⟩:=hn
 have hl:m*W<P:=by
  unfold Tch at n1;by_cases c:mxN X 6<lx∨m<mnN X 6
  ·have c':m<mnN X 6:=by omega
   have:=zbu c' hW;omega
  ·have:∃i,i<6∧(sd A B C i lx ly<0∧sd A B C i m ly<0∧sd A B C i m uy<0∧sd A B C i lx uy<0):=by
    apply Classical.byContradiction;intro hh;exact n1 ⟨c,t2,fun i hi hq=>hh ⟨i,hi,hq⟩⟩
   obtain ⟨i,hi,q1,q2,q3,q4⟩:=this;have ho:=t3 i hi;have hfi:=hf i hi;unfold sd at *
   have hB:B i<0:=by
    rcases Int.lt_or_le (B i) 0 with hb | hb
    ·exact hb
    ·have:=zar h2 hb;omega
   rcases Int.lt_or_le (m*W) P with hp | hp
   ·exact hp
   ·have e1:=zbc (zax hB) hp;have e2:=ayg (a:=A i) (k:=- B i*m-C i) hW y1 y2 (by rw [zaq]; omega) (by rw [zaq]; omega);rw [Int.sub_mul,zaq,zaq,zbk] at e2;omega
 have hr:P<m*W:=by
  unfold Tch at n2;by_cases c:mxN X 6<m∨ux<mnN X 6
  ·have c':mxN X 6<m:=by omega
   have:=zbu c' hW;omega
  ·have:∃i,i<6∧(sd A B C i m ly<0∧sd A B C i ux ly<0∧sd A B C i ux uy<0∧sd A B C i m uy<0):=by
    apply Classical.byContradiction;intro hh;exact n2 ⟨c,t2,fun i hi hq=>hh ⟨i,hi,hq⟩⟩
   obtain ⟨i,hi,q1,q2,q3,q4⟩:=this;have ho:=t3 i hi;have hfi:=hf i hi;unfold sd at *
   have hB:0<B i:=by
    rcases Int.lt_or_le 0 (B i) with hb | hb
    ·exact hb
    ·have:=zbc hb h1;omega
   rcases Int.lt_or_le P (m*W) with hp | hp
   ·exact hp
   ·have e1:=zar hp (zax hB);have e2:=ayg (a:=A i) (k:=- B i*m-C i) hW y1 y2 (by rw [zaq]; omega) (by rw [zaq]; omega);rw [Int.sub_mul,zaq,zaq,zbk] at e2;omega
 omega
end

def eA (r i:Nat):Int:=kx r ((i+1)%6)-kx r i
def eB (r i:Nat):Int:=ky r ((i+1)%6)-ky r i
def eC (z:Ei) (r i:Nat):Int:=eA r i*hy z r i-eB r i*hx z r i
theorem beh:∀r,r<13→∀i,i<6→∀j,j<6→0≤eA r i*(ky r j-ky r i)-eB r i*(kx r j-kx r i):=by decide +kernel
theorem a60 {z:Ei} {r:Nat} (hr:r<13):∀i,i<6→∀j,j<6→0≤sd (eA r) (eB r) (eC z r) i (hx z r j) (hy z r j):=fun i hi j hj=>by
 have:=beh r hr i hi j hj;unfold sd eC;rw [ao z r j,ao z r i,an z r j,an z r i,zaz,zaz,zaz,zaz];rw [Int.mul_sub,Int.mul_sub] at this;omega
theorem xw {z:Ei} {r:Nat} {lx ly ux uy:Int}:ak z r lx ly ux uy=true↔Tch (hx z r) (hy z r) (eA r) (eB r) (eC z r) lx ly ux uy:=by
 unfold ak Tch;rw [Bool.and_eq_true,zbq,decide_eq_false_iff_not,List.all_eq_true];unfold wc;simp only [zbq,decide_eq_false_iff_not,zbr,ajk,a6w];unfold sd eC eA eB;rw [not_or,and_assoc]
theorem apa {X Y A B C:Nat→Int} {lx ly ux uy:Int}:Tch X Y A B C lx ly ux uy↔Tch Y X (fun i=>- B i) (fun i=>- A i) C ly lx uy ux:=by
 unfold Tch sd;simp only [zaq];constructor
 ·rintro ⟨h1,h2,h3⟩;exact ⟨h2,h1,fun i hi hq=>h3 i hi (by omega)⟩
 ·rintro ⟨h1,h2,h3⟩;exact ⟨h2,h1,fun i hi hq=>h3 i hi (by omega)⟩
theorem bcc {z:Ei} {r:Nat} (hr:r<13) {lx ly m ux uy:Int} (h1:lx≤m) (h2:m≤ux) (hy:ly≤uy) (h:ak z r lx ly ux uy=true):ak z r lx ly m uy=true∨ak z r m ly ux uy=true:=by
 rw [xw] at h ⊢;rw [xw];exact auo (a60 hr) h1 h2 hy h
theorem bcb {z:Ei} {r:Nat} (hr:r<13) {lx ly m ux uy:Int} (h1:ly≤m) (h2:m≤uy) (hx':lx≤ux) (h:ak z r lx ly ux uy=true):ak z r lx ly ux m=true∨ak z r lx m ux uy=true:=by
 have hc:∀i,i<6→∀j,j<6→0≤sd (fun i=>- eB r i) (fun i=>- eA r i) (eC z r) i (hy z r j) (hx z r j):=fun i hi j hj=>by
  have:=a60 (z:=z) hr i hi j hj;unfold sd at *;rw [zaq,zaq];omega
 rcases auo hc h1 h2 hx' (apa.1 (xw.1 h)) with h | h
 ·exact .inl (xw.2 (apa.2 h))
 ·exact .inr (xw.2 (apa.2 h))

def ae9:Mk P0 f120:={ x:=_ }
theorem ajt:d5 120 2 ae9:=c8 func120
def akk:Mk P0 f70:={ x:=_ }
theorem anu:d5 70 1 akk:=c8 func70
theorem bjt (w i:Nat) (hw:w<18446744073709551616) (hi:1≤i∧i≤12):a8 P0 120 [uw w,int .i64 i] [] (uw (dgt w i)) []:=by
 refine ajt rfl (by decide) ?_;have w1:IntKind.i64.wrap ((i:Int)-1)=(i:Int)-1:=a5 (by omega);have w2:IntKind.i64.wrap (3*((i:Int)-1))=3*((i:Int)-1):=a5 (by omega);have w3:IntKind.i64.wrap (33-3*((i:Int)-1))=36-3*(i:Int):=by rw [a5 (by omega)]; omega
 have w4:IntKind.u64.wrap (36-3*(i:Int))=36-3*(i:Int):=by simp [IntKind.wrap,IntKind.bits,IntKind.signed]; omega
 have e5:IntKind.u64.wrap (zap IntKind.u64.bits ((w:Int).fdiv (2^min (36-3*(i:Int)).toNat IntKind.u64.bits)) &&& zap IntKind.u64.bits 7).toNat=(dgt w i:Int):=by
  rw [am4 (k:=36-3*i) (n:=3) (by omega) (by omega) (by decide) (by decide) hw];rw [show 2^(36-3*i)=8^(12-i) by rw [show (8:Nat)=2^3 from rfl,← Nat.pow_mul]; congr 1; omega]
  rfl
 push_cast [ae9,uw,w1,w2,w3,w4,e5,zab]
 omega
set_option maxHeartbeats 1000000 in
theorem aty (w:Nat) (hw:w<18446744073709551616) (hB:atu w=true):a8 P0 70 [uw w] [] (.tup [cel (ec w) (z8 w (ec w)),int .i64 0]) []:=by
 refine anu rfl (by decide) ?_;obtain ⟨m1,m2,m3⟩:=(axw w).1 hB
 have e1:(w:Int).fdiv (2^min (zas 60) IntKind.u64.bits)=1:=by
  have:(w:Int).fdiv (2^min (zas 60) IntKind.u64.bits)=((w/1152921504606846976:Nat):Int):=bfu (k:=60) rfl (by decide);rw [this,m1]; rfl
 have e2:IntKind.i64.wrap (IntKind.u64.wrap (zap IntKind.u64.bits ((w:Int).fdiv (2^min (zas 56) IntKind.u64.bits)) &&& zap IntKind.u64.bits 15).toNat)=(ec w:Int):=by
  rw [am4 (k:=56) (n:=4) rfl (by decide) (by decide) (by decide) hw];exact a5 (by omega)
 have e3:IntKind.i64.wrap (IntKind.i64.wrap (IntKind.u64.wrap (zap IntKind.u64.bits ((w:Int).fdiv (2^min (zas 46) IntKind.u64.bits)) &&& zap IntKind.u64.bits 1023).toNat)-512)=(z8 w 0).a:=by
  rw [am4 (k:=46) (n:=10) rfl (by decide) (by decide) (by decide) hw,show ∀x:Nat,x<1024→IntKind.i64.wrap (IntKind.i64.wrap (x:Int)-512)=x-512 from fun x hx=>by rw [a5 (x:=(x:Int)) (by omega),a5 (by omega)]]
  ·rfl
  ·omega
 have e4:IntKind.i64.wrap (IntKind.i64.wrap (IntKind.u64.wrap (zap IntKind.u64.bits ((w:Int).fdiv (2^min (zas 36) IntKind.u64.bits)) &&& zap IntKind.u64.bits 1023).toNat)-512)=(z8 w 0).b:=by
  rw [am4 (k:=36) (n:=10) rfl (by decide) (by decide) (by decide) hw,show ∀x:Nat,x<1024→IntKind.i64.wrap (IntKind.i64.wrap (x:Int)-512)=x-512 from fun x hx=>by rw [a5 (x:=(x:Int)) (by omega),a5 (by omega)]]
  ·rfl
  ·omega
 have g1:((1:Int) != 1)=false:=rfl;have g2:decide ((ec w:Int)>12)=false:=by simp; omega
 simp only [akk,uw,e1,e2,e3,e4,g1,g2,push_cast,↓reduceIte,reduceCtorEq,zB,zE,zA,zS,zL,zD,zM]
 repeat refine And.intro (by first | decide | omega | exact fun _=>by decide | (simp +contextual; done) | kernel_rfl) ?_
 clear e1 e2 e3 e4
 refine run_loop [(6,false),(0,false),(4,false),(5,false),(2,false)] (fun vs pos los=>∃i:Nat,(1≤i∧i≤13)∧vs=[int .i64 i,int .u64 w,int .i64 (ec w),.ptr 2000000 0 0,.ptr 2000001 0 0]∧pos=[]∧los=[.box [int .i64 (min (i-1) (ec w):Nat),int .i64 (z8 w (min (i-1) (ec w))).a,int .i64 (z8 w (min (i-1) (ec w))).b],.box [int .i64 0,int .i64 0,int .i64 0]])
  (fun vs _ _=>match vs with | .r (.v (.int _ j))::_=>(13-j).toNat | _=>0) rfl ?_ ?_
 ·simp only [push_cast,↓reduceIte,reduceCtorEq,zB,zE,zA,zS,zL,zD,zM];refine ⟨1,by omega,rfl,?_⟩;rw [show min (1-1) (ec w)=0 by omega]
  rfl
 ·rintro vs pos los ⟨i,i6,rfl,rfl,rfl⟩;obtain ⟨mi,hmi⟩:∃mi,min (i-1) (ec w)=mi:=⟨_,rfl⟩
  rw [hmi];simp only [push_cast,↓reduceIte,reduceCtorEq,zB,zE,zA,zS,zL,zD,zM];refine b9 (fun hi=>?_) (fun hi=>?_)
  ·have hi:i≤12:=by simp at hi; omega
   have hD8:dgt w i<8:=Nat.mod_lt _ (by decide);have wi:IntKind.i64.wrap ((i:Int)+1)=(i:Int)+1:=a5 (by omega);simp only [push_cast,↓reduceIte,reduceCtorEq,zB,zE,zA,zS,zL,zD,zM];refine b7 (as':=[uw w,int .i64 i]) rfl ?_;refine a7 (bjt w i hw ⟨i6.1,hi⟩) rfl trivial ?_;by_cases hc:ec w<i
   ·have hd7:=(m3 i i6.1 hi).2 hc;have f1:(((7:Nat):Int) == 7)=true:=rfl;have f1':((7:Int) == 7)=true:=rfl;have f2:decide ((i:Int)>(ec w:Int))=true:=by simp; omega
    have f3:(true != true)=false:=rfl;rw [hd7];simp only [uw,f1,f1',f2,f3,wi,push_cast,↓reduceIte,reduceCtorEq,zB,zE,zA,zS,zL,zD,zM];refine ⟨⟨i+1,by omega,rfl,?_⟩,by omega⟩;rw [show min (i+1-1) (ec w)=mi by omega]
   ·have hd7:dgt w i≠7:=fun e=>hc ((m3 i i6.1 hi).1 e);obtain rfl:mi=i-1:=by omega
    have f1:((dgt w i:Int) == 7)=false:=by simp; omega
    have f2:decide ((i:Int)>(ec w:Int))=false:=by simp; omega
    have f3:(false != false)=false:=rfl;have hz:=a05 w (i-1) (by omega);have hz2:=a05 w i hi;have hzm:((z8 w (i-1)).mul ar).In 10000000000000:=(acm hz (show ar.In 2 by unfold Ei.In; decide)).mono (by decide)
    have hdn:z8 w i=aej (z8 w (i-1)) (dgt w i):=by
     conv=>lhs; rw [show i=i-1+1 by omega]
     rw [z8,show i-1+1=i by omega]
    simp only [uw,f1,f2,f3,wi,push_cast,↓reduceIte,reduceCtorEq,zB,zE,zA,zS,zL,zD,zM];refine b7 (as':=[(z8 w (i-1)).v,ar.v]) rfl ?_;refine a7 (afd _ _ (hz.mono (by decide)) (show ar.In _ by unfold Ei.In; decide) (hzm.mono (by decide))) rfl trivial ?_;simp only [Ei.v,Ei.rv,push_cast,↓reduceIte,reduceCtorEq,zB,zE,zA,zS,zL,zD,zM];refine b9 (fun hp=>?_) (fun hp=>?_)
    ·have hp':0<dgt w i:=by simp at hp; omega
     have wd:IntKind.i64.wrap (dgt w i:Int)=(dgt w i:Int):=a5 (by omega);have wd1:IntKind.i64.wrap ((dgt w i:Int)-1)=(dgt w i:Int)-1:=a5 (by omega)
     have hch:aej (z8 w (i-1)) (dgt w i)=((z8 w (i-1)).mul ar).add (uni (dgt w i-1)):=by
      unfold aej;rw [if_neg (by omega)]
     rw [hch] at hdn;simp only [wd,wd1,push_cast,↓reduceIte,reduceCtorEq,zB,zE,zA,zS,zL,zD,zM];refine d9 (a02 ((dgt w i:Int)-1) (by omega)) rfl trivial ?_;rw [show ((dgt w i:Int)-1).toNat=dgt w i-1 by omega];have hu:(uni (dgt w i-1)).In 1:=by unfold uni; split<;>unfold Ei.In<;>decide
     simp only [Ei.v,Ei.rv,push_cast,↓reduceIte,reduceCtorEq,zB,zE,zA,zS,zL,zD,zM];refine q8 (as':=[((z8 w (i-1)).mul ar).v,(uni (dgt w i-1)).v]) rfl ?_;refine d9 (a6q _ _ (hzm.mono (by decide)) (hu.mono (by decide)) (by rw [← hdn]; exact hz2.mono (by decide))) rfl trivial ?_;rw [← hdn];simp only [wi,Ei.v,Ei.rv,push_cast,↓reduceIte,reduceCtorEq,zB,zE,zA,zS,zL,zD,zM]
     repeat refine And.intro (by first | decide | omega | exact fun _=>by decide | (simp +contextual; done) | kernel_rfl) ?_
     refine ⟨⟨i+1,by omega,rfl,?_⟩,by omega⟩;rw [show min (i+1-1) (ec w)=i by omega]
    ·have hp':dgt w i=0:=by simp at hp; omega
     have hch:aej (z8 w (i-1)) (dgt w i)=(z8 w (i-1)).mul ar:=by
      unfold aej;rw [if_pos (by omega)]
     rw [hch] at hdn;simp only [wi,push_cast,↓reduceIte,reduceCtorEq,zB,zE,zA,zS,zL,zD,zM];refine ⟨⟨i+1,by omega,rfl,?_⟩,by omega⟩;rw [show min (i+1-1) (ec w)=i by omega,hdn]
  ·have hi:i=13:=by simp at hi; omega
   subst hi;obtain rfl:mi=ec w:=by omega
   simp only [cel,push_cast,↓reduceIte,reduceCtorEq,zB,zE,zA,zS,zL,zD,zM]

def acu:Mk P0 f216:={ x:=_ }
theorem ahm:d5 216 2 acu:=c8 func216
def aag:Mk P0 f217:={ x:=_ }
theorem afl:d5 217 3 aag:=c8 func217
def ry:Mk P0 f218:={ x:=_ }
theorem ahn:d5 218 3 ry:=c8 func218
abbrev P2:=Int×Int
def pv2 (p:P2):AV:=.r (pnt p.1 p.2)
structure Lin where
 axis:Int
 at':Int
 above:Bool
def Lin.v (l:Lin):AV:=.r (.agg [.v (.int .i64 l.axis),.v (.int .i64 l.at'),.v (.bool l.above)])
def Lin.ok (l:Lin):Prop:=l.axis=0∨l.axis=1
def sel (a:Int) (p:P2):Int:=if a=0 then p.1 else p.2
def p9 (l:Lin) (p:P2):Bool:=if l.above then decide (sel l.axis p≥l.at') else decide (sel l.axis p≤l.at')
def fi (l:Lin) (p q:P2):Bool:=(decide (sel l.axis p<l.at')&&decide (l.at'<sel l.axis q))||(decide (sel l.axis q<l.at')&&decide (l.at'<sel l.axis p))
def s6 (l:Lin) (p q:P2):P2:=
 let d:=sel l.axis q-sel l.axis p
 let e:=(sel (1-l.axis) q-sel (1-l.axis) p)*(l.at'-sel l.axis p)
 let n:=if d<0 then (-e)/(-d) else if 0<d then e/d else 0
 if l.axis=0 then (l.at',p.2+n) else (p.1+n,l.at')
theorem bjx (a b c d:Bool):(bif bif a then b else false then true else bif c then d else false)=(a&&b||c&&d):=by cases a<;>cases b<;>cases c<;>cases d<;>rfl
theorem a0q (l:Lin) (hl:l.ok) (p:P2):a8 P0 216 [l.v,pv2 p] [] (bl (p9 l p)) []:=by
 refine ahm rfl (by decide) ?_;obtain ⟨a,c,b⟩:=l;have d:decide ((0:Nat)<2)=true:=rfl;rcases hl with rfl | rfl<;>cases b<;>push_cast [acu,Lin.v,pv2,pnt,p9,sel,zae,zad,Int.reduceEq,zac,if_true,if_false,zbe,zab]
 all_goals (repeat refine And.intro (by first | decide | omega | exact fun _=>by decide | (simp +contextual; done) | kernel_rfl) ?_)
 all_goals first | done | kernel_rfl | rfl
theorem avq (l:Lin) (hl:l.ok) (p q:P2):a8 P0 217 [l.v,pv2 p,pv2 q] [] (bl (fi l p q)) []:=by
 refine afl rfl (by decide) ?_;obtain ⟨a,c,b⟩:=l;rcases hl with rfl | rfl<;>push_cast [aag,Lin.v,pv2,pnt,fi,sel,zae,zad,Int.reduceEq,zac,if_true,if_false,zbe,zab]
 all_goals (repeat refine And.intro (by first | decide | omega | exact fun _=>by decide | (simp +contextual; done) | kernel_rfl) ?_)
 all_goals exact ⟨fun h=>by rw [h]; rfl,by rw [bjx]⟩
set_option maxHeartbeats 1000000 in
theorem a08 (l:Lin) (hl:l.ok) (p q:P2) (hc:-9007199254740992≤l.at'∧l.at'≤9007199254740992) (hp:(-1099511627776≤p.1∧p.1≤1099511627776)∧(-1099511627776≤p.2∧p.2≤1099511627776))
  (hq:(-1073741824≤q.1-p.1∧q.1-p.1≤1073741824)∧(-1073741824≤q.2-p.2∧q.2-p.2≤1073741824)) (hb:fi l p q=true) :
  a8 P0 218 [l.v,pv2 p,pv2 q] [] (pv2 (s6 l p q)) []:=by
 refine ahn rfl (by decide) ?_;obtain ⟨a,c,b⟩:=l;obtain ⟨px,py⟩:=p;obtain ⟨qx,qy⟩:=q;simp only at hc hp hq;rcases hl with h | h<;>simp only at h<;>subst h
 ·have hbt:(px<c∧c<qx)∨(qx<c∧c<px):=by simpa [fi,sel] using hb
  have w1:IntKind.i64.wrap (1-0)=1:=rfl;obtain ⟨d,hD⟩:∃d,qx-px=d:=⟨_,rfl⟩
  have w2:IntKind.i64.wrap (qx-px)=d:=by rw [a5 (by omega)]; exact hD
  have w3:IntKind.i64.wrap (qy-py)=qy-py:=a5 (by omega);have w4:IntKind.i64.wrap (c-px)=c-px:=a5 (by omega);have hm:=fm (x:=qy-py) (y:=c-px) (n:=1073741824) (m:=1073741824) (by omega) (by omega);obtain ⟨e,hE⟩:∃e,(qy-py)*(c-px)=e:=⟨_,rfl⟩
  rw [hE] at hm;have w5:IntKind.i64.wrap ((qy-py)*(c-px))=e:=by rw [hE]; exact a5 (by omega)
  have hcr:s6 ⟨0,c,b⟩ (px,py) (qx,qy)=(c,py+(if qx-px<0 then (-((qy-py)*(c-px)))/(-(qx-px)) else if 0<qx-px then ((qy-py)*(c-px))/(qx-px) else 0)):=rfl;rw [hcr,hE,hD];have wn:IntKind.i64.wrap (0-e)=-e:=by rw [a5 (by omega)]; omega
  have wd:IntKind.i64.wrap (0-d)=-d:=by rw [a5 (by omega)]; omega
  simp only [ry,Lin.v,pv2,pnt,w1,w2,w3,w4,w5,zae,zad,zac,push_cast,↓reduceIte,reduceCtorEq,zB,zE,zA,zS,zL,zD,zM]
  repeat refine And.intro (by first | decide | omega | exact fun _=>by decide | (simp +contextual; done) | kernel_rfl) ?_
  refine b9 (fun hn=>?_) (fun hn=>?_)
  ·have hn':d<0:=by simpa using hn
   have hf:=pz (-e) (-d) (by unfold in64; omega) (by unfold in64; omega);rw [if_pos (by omega),if_pos (by omega)] at hf;rw [if_pos hn'];have hb1:=zbv (-e) (-d);have w6:IntKind.i64.wrap (py+(-e)/(-d))=py+(-e)/(-d):=a5 (by omega);simp only [wn,wd,push_cast,↓reduceIte,reduceCtorEq,zB,zE,zA,zS,zL,zD,zM];refine a7 hf rfl trivial ?_;simp only [w6,w1,zae,zad,zac,push_cast,↓reduceIte,reduceCtorEq,zB,zE,zA,zS,zL,zD,zM]
   repeat refine And.intro (by first | decide | omega | exact fun _=>by decide | (simp +contextual; done) | kernel_rfl) ?_
   first | done | rfl | kernel_rfl
  ·have hn':¬d<0:=by simpa using hn
   have hd0:0<d:=by omega
   have hf:=pz e d (by unfold in64; omega) (by unfold in64; omega);rw [if_pos hd0,if_pos hd0] at hf;rw [if_neg hn',if_pos hd0];have hb1:=zbv e d;have w6:IntKind.i64.wrap (py+e/d)=py+e/d:=a5 (by omega);simp only [wn,wd,push_cast,↓reduceIte,reduceCtorEq,zB,zE,zA,zS,zL,zD,zM];refine a7 hf rfl trivial ?_;simp only [w6,w1,zae,zad,zac,push_cast,↓reduceIte,reduceCtorEq,zB,zE,zA,zS,zL,zD,zM]
   repeat refine And.intro (by first | decide | omega | exact fun _=>by decide | (simp +contextual; done) | kernel_rfl) ?_
   first | done | rfl | kernel_rfl
 ·have hbt:(py<c∧c<qy)∨(qy<c∧c<py):=by simpa [fi,sel] using hb
  have w1:IntKind.i64.wrap (1-1)=0:=rfl;obtain ⟨d,hD⟩:∃d,qy-py=d:=⟨_,rfl⟩
  have w2:IntKind.i64.wrap (qy-py)=d:=by rw [a5 (by omega)]; exact hD
  have w3:IntKind.i64.wrap (qx-px)=qx-px:=a5 (by omega);have w4:IntKind.i64.wrap (c-py)=c-py:=a5 (by omega);have hm:=fm (x:=qx-px) (y:=c-py) (n:=1073741824) (m:=1073741824) (by omega) (by omega);obtain ⟨e,hE⟩:∃e,(qx-px)*(c-py)=e:=⟨_,rfl⟩
  rw [hE] at hm;have w5:IntKind.i64.wrap ((qx-px)*(c-py))=e:=by rw [hE]; exact a5 (by omega)
  have hcr:s6 ⟨1,c,b⟩ (px,py) (qx,qy)=(px+(if qy-py<0 then (-((qx-px)*(c-py)))/(-(qy-py)) else if 0<qy-py then ((qx-px)*(c-py))/(qy-py) else 0),c):=rfl;rw [hcr,hE,hD];have wn:IntKind.i64.wrap (0-e)=-e:=by rw [a5 (by omega)]; omega
  have wd:IntKind.i64.wrap (0-d)=-d:=by rw [a5 (by omega)]; omega
  simp only [ry,Lin.v,pv2,pnt,w1,w2,w3,w4,w5,zae,zad,zac,push_cast,↓reduceIte,reduceCtorEq,zB,zE,zA,zS,zL,zD,zM]
  repeat refine And.intro (by first | decide | omega | exact fun _=>by decide | (simp +contextual; done) | kernel_rfl) ?_
  refine b9 (fun hn=>?_) (fun hn=>?_)
  ·have hn':d<0:=by simpa using hn
   have hf:=pz (-e) (-d) (by unfold in64; omega) (by unfold in64; omega);rw [if_pos (by omega),if_pos (by omega)] at hf;rw [if_pos hn'];have hb1:=zbv (-e) (-d);have w6:IntKind.i64.wrap (px+(-e)/(-d))=px+(-e)/(-d):=a5 (by omega);simp only [wn,wd,push_cast,↓reduceIte,reduceCtorEq,zB,zE,zA,zS,zL,zD,zM];refine a7 hf rfl trivial ?_;simp only [w6,w1,zae,zad,zac,push_cast,↓reduceIte,reduceCtorEq,zB,zE,zA,zS,zL,zD,zM]
   repeat refine And.intro (by first | decide | omega | exact fun _=>by decide | (simp +contextual; done) | kernel_rfl) ?_
   first | done | rfl | kernel_rfl
  ·have hn':¬d<0:=by simpa using hn
   have hd0:0<d:=by omega
   have hf:=pz e d (by unfold in64; omega) (by unfold in64; omega);rw [if_pos hd0,if_pos hd0] at hf;rw [if_neg hn',if_pos hd0];have hb1:=zbv e d;have w6:IntKind.i64.wrap (px+e/d)=px+e/d:=a5 (by omega);simp only [wn,wd,push_cast,↓reduceIte,reduceCtorEq,zB,zE,zA,zS,zL,zD,zM];refine a7 hf rfl trivial ?_;simp only [w6,w1,zae,zad,zac,push_cast,↓reduceIte,reduceCtorEq,zB,zE,zA,zS,zL,zD,zM]
   repeat refine And.intro (by first | decide | omega | exact fun _=>by decide | (simp +contextual; done) | kernel_rfl) ?_
   first | done | rfl | kernel_rfl

def aso:Mk P0 f134:={ x:=_ }
theorem at8:d5 134 1 aso:=c8 func134
def afk:Mk P0 f180:={ x:=_ }
theorem aj4:d5 180 2 afk:=c8 func180
def ptR (p:P2):RV:=pnt p.1 p.2
def c7 (l:List P2):AV:=.r (.sl 2 (l.map ptR))
def RgOk (l:List P2):Prop:=l.length≤100∧(∀p∈l,(-1099511627776≤p.1∧p.1≤1099511627776)∧(-1099511627776≤p.2∧p.2≤1099511627776)) ∧
 ∀p∈l,∀q∈l,(-1073741824≤q.1-p.1∧q.1-p.1≤1073741824)∧(-1073741824≤q.2-p.2∧q.2-p.2≤1073741824)
theorem ct {l:List P2} {i:Nat} {p:P2} (h:l[i]?=some p) (z:RV):(l.map ptR).getD ((i:Int)).toNat z=.agg [.v (.int .i64 p.1),.v (.int .i64 p.2)]:=by
 simp [List.getD,h,ptR,pnt]
theorem bw {l:List P2} {i:Nat} {p:P2} (h:l[i]?=some p) (z:RV):(l.map ptR).getD (0+((i:Int)).toNat) z=.agg [.v (.int .i64 p.1),.v (.int .i64 p.2)]:=by rw [zac]; exact ct h z
set_option maxHeartbeats 2000000 in
theorem bbb (l:List P2) (h:RgOk l):a8 P0 134 [c7 l] [] (bl true) []:=by
 obtain ⟨h1,h2,h3⟩:=h;refine at8 rfl (by decide) ?_;have e1:decide ((l.length:Int)>100)=false:=by simp; omega
 push_cast [aso,c7,zaa,e1,zab]
 refine run_loop [(11,false),(0,false)] (fun vs pos los=>∃a:Nat,a≤2∧vs=[int .i64 a,c7 l]∧pos=[]∧los=[])
  (fun vs _ _=>match vs with | .r (.v (.int _ a))::_=>(2-a).toNat | _=>0) rfl ?_ ?_
 ·push_cast [c7]
  exact ⟨0,by omega,rfl⟩
 ·rintro vs pos los ⟨a,ha,rfl,rfl,rfl⟩
  push_cast [c7,zaa]
  refine b9 (fun hc=>?_) (fun hc=>?_)
  ·have ha2:a<2:=by simp at hc; omega
   have wa:IntKind.i64.wrap ((a:Int)+1)=(a:Int)+1:=a5 (by omega)
   push_cast [c7,zaa]
   refine run_loop [(16,false),(14,false),(15,false),(3,false),(11,false),(0,false)] (fun vs pos los=>∃k:Nat,k≤l.length∧vs=[int .i64 k,c7 l,int .i64 l.length,int .i64 a,int .i64 a,c7 l]∧pos=[]∧los=[])
    (fun vs _ _=>match vs with | .r (.v (.int _ a))::_=>(l.length-a).toNat | _=>0) rfl ?_ ?_
   ·push_cast [c7]
    exact ⟨0,by omega,rfl⟩
   ·rintro vs pos los ⟨k,hk,rfl,rfl,rfl⟩
    push_cast [c7,zaa]
    refine b9 (fun hd=>?_) (fun hd=>?_)
    ·have hk2:k<l.length:=by simpa using hd
     obtain ⟨p,hp⟩:∃p,l[k]?=some p:=⟨l[k],by simp [hk2]⟩
     have hpm:=zal hp;have hpb:=h2 p hpm;have wk:IntKind.i64.wrap ((k:Int)+1)=(k:Int)+1:=a5 (by omega)
     have hsp:∀(x y:Int) (z:AV),[AV.r (.v (.int .i64 x)),AV.r (.v (.int .i64 y))].getD (0+((a:Int)).toNat*1) z=.r (.v (.int .i64 (if a=0 then x else y))):=fun x y z=>by
      rcases (show a=0∨a=1 by omega) with rfl | rfl<;>rfl
     have hsp1:∀(x y:Int) (z:AV),[AV.r (.v (.int .i64 x)),AV.r (.v (.int .i64 y))].getD ((a:Int)).toNat z=.r (.v (.int .i64 (if a=0 then x else y))):=fun x y z=>by
      rcases (show a=0∨a=1 by omega) with rfl | rfl<;>rfl
     obtain ⟨P,hP⟩:∃P,(if a=0 then p.1 else p.2)=P:=⟨_,rfl⟩
     have hPb:-1099511627776≤P∧P≤1099511627776:=by rw [← hP]; split; exact hpb.1; exact hpb.2
     have d1:decide (P < -1099511627776)=false:=by simp; omega
     have d2:decide (P>1099511627776)=false:=by simp; omega
     have wz:((k:Int)-0).toNat=k:=by omega
     push_cast [c7,zaa,ct hp,bw hp,hsp,hsp1,hP,d1,d2]
     repeat refine And.intro (by first | decide | omega | exact fun _=>by decide | (simp +contextual; done) | kernel_rfl) ?_
     refine run_loop [(35,false),(33,false),(34,false),(5,false),(16,false),(14,false),(15,false),(3,false),(11,false),(0,false)] (fun vs pos los=>∃j:Nat,j≤k∧vs=[int .i64 j,c7 (l.take k),int .i64 k,.ptr 2000000 0 0,int .i64 k,c7 l,int .i64 l.length,int .i64 a,int .i64 a,c7 l]∧pos=[]∧los=[.box [int .i64 p.1,int .i64 p.2]])
      (fun vs _ _=>match vs with | .r (.v (.int _ a))::_=>(k-a).toNat | _=>0) rfl ?_ ?_
     ·push_cast [c7,zbw,zaa,List.map_take,zaf,zae,List.drop_zero,zbp (Nat.le_of_lt hk2)]
      exact ⟨0,by omega,by simp⟩
     ·rintro vs pos los ⟨j,hj,rfl,rfl,rfl⟩
      push_cast [c7,zaa]
      refine b9 (fun he=>?_) (fun he=>?_)
      ·have hj2:j<k:=by simpa using he
       have hjl:j<(l.take k).length:=by simp; omega
       obtain ⟨q,hq⟩:∃q,(l.take k)[j]?=some q:=⟨(l.take k)[j],by simp [hj2,show j<l.length by omega]⟩
       have hqm:=List.mem_of_mem_take (zal hq);have hpq:=h3 p hpm q hqm;have wj:IntKind.i64.wrap ((j:Int)+1)=(j:Int)+1:=a5 (by omega);obtain ⟨Q,hQ⟩:∃Q,(if a=0 then q.1 else q.2)=Q:=⟨_,rfl⟩
       have hQb:-1073741824≤Q-P∧Q-P≤1073741824:=by rw [← hQ,← hP]; split; exact hpq.1; exact hpq.2
       have u1:IntKind.i64.wrap (P-Q)=P-Q:=a5 (by omega);have u2:IntKind.i64.wrap (Q-P)=Q-P:=a5 (by omega);have d3:decide (P-Q>1073741824)=false:=by simp; omega
       have d4:decide (Q-P>1073741824)=false:=by simp; omega
       push_cast [c7,zaa,zbw,zbp (Nat.le_of_lt hk2),ct hq,bw hq,hsp,hsp1,hP,hQ,u1,u2,d3,d4,wj]
       repeat refine And.intro (by first | decide | omega | exact fun _=>by decide | (simp +contextual; done) | kernel_rfl) ?_
       exact ⟨⟨j+1,by omega,by simp⟩,by omega⟩
      ·push_cast [c7,zaa,wk]
       exact ⟨⟨k+1,by omega,by simp⟩,by omega⟩
    ·push_cast [c7,zaa,wa]
     exact ⟨⟨a+1,by omega,rfl⟩,by omega⟩
  ·push_cast [c7,zaa]

def ul (l:Lin) (p q:P2):List P2:=(if p9 l p then [p] else [])++(if fi l p q then [s6 l p q] else [])
def ngh (rg:List P2) (i:Nat):P2:=rg.getD ((i+1)%rg.length) (0,0)
def z9 (l:Lin) (rg:List P2):Nat→List P2
 | 0=>[]
 | i+1=>z9 l rg i++ul l (rg.getD i (0,0)) (ngh rg i)
def x6 (l:Lin) (rg:List P2):List P2:=z9 l rg rg.length
theorem aj1 (l:Lin) (rg:List P2):∀i,(z9 l rg i).length≤2*i
 | 0=>by simp [z9]
 | i+1=>by
  have:=aj1 l rg i;rw [z9,zam];unfold ul;rw [zam];split<;>split<;>simp<;>omega
abbrev u5 (o:List P2):Ob:=.row 2 (pnt 0 0) true true (o.map ptR)
theorem o7 (o:List P2):List.take o.length (o.map ptR)=o.map ptR:=zbx (by simp)
set_option maxHeartbeats 4000000 in
theorem cut_t (l : Lin) (hl : l.ok) (hc : -9007199254740992 ≤ l.at' ∧ l.at' ≤ 9007199254740992) (rg : List P2) (h : RgOk rg) {res : AV} {ro : List Ob}
    (hres:(x6 l rg=[]∧res=.nils 2 (pnt 0 0)∧ro=[])∨(x6 l rg≠[]∧res=.own 1000000 0 0 (x6 l rg).length∧ro=[u5 (x6 l rg)])) :
    a8 P0 180 [l.v,c7 rg] [] res ro:=by
  obtain ⟨h1,h2,h3⟩:=h;refine aj4 rfl (by decide) ?_;have hmx:=k7
  push_cast [afk,c7,Lin.v,zaa,zab]
  refine run_loop [(11, false), (9, false), (10, false), (2, false), (1, false), (5, false)] (fun vs pos los => ∃ i : Nat, i ≤ rg.length ∧ pos = [] ∧
      (z9 l rg i=[]∧vs=[int .i64 i,c7 rg,int .i64 rg.length,.ptr 2000000 0 0,c7 rg,.nils 2 (pnt 0 0)]∧los=[.box [int .i64 l.axis,int .i64 l.at',bl l.above]] ∨
       z9 l rg i≠[]∧vs=[int .i64 i,c7 rg,int .i64 rg.length,.ptr 2000000 0 0,c7 rg,.own 2000001 0 0 (z9 l rg i).length]∧los=[.box [int .i64 l.axis,int .i64 l.at',bl l.above],u5 (z9 l rg i)]))
    (fun vs _ _=>match vs with | .r (.v (.int _ a))::_=>(rg.length-a).toNat | _=>0) rfl ?_ ?_
  · push_cast [c7,pnt]
    exact ⟨0,by omega,.inl ⟨rfl,by simp⟩⟩
  · rintro vs pos los ⟨i,hi,rfl,⟨h0,rfl,rfl⟩ | ⟨h0,rfl,rfl⟩⟩
    · have hlen:=aj1 l rg i
      push_cast [c7,pnt,zaa]
      refine b9 (fun hd=>?_) (fun hd=>?_)
      · have hi2:i<rg.length:=by simpa using hd
        obtain ⟨p,hp⟩:∃p,rg[i]?=some p:=⟨rg[i],by simp [hi2]⟩
        obtain ⟨J,hJ⟩:∃J,(i+1)%rg.length=J:=⟨_,rfl⟩
        have hJl:J<rg.length:=by rw [← hJ]; exact Nat.mod_lt _ (by omega)
        obtain ⟨q,hq⟩:∃q,rg[J]?=some q:=⟨rg[J],by simp [hJl]⟩
        have hgi:rg.getD i (0,0)=p:=by rw [zak,hp]; rfl
        have hgn:ngh rg i=q:=by unfold ngh; rw [hJ,zak,hq]; rfl
        have hpm:=zal hp;have hqm:=zal hq;have wi:IntKind.i64.wrap ((i:Int)+1)=(i:Int)+1:=a5 (by omega);have wJ:((i:Int)+1).tmod (rg.length:Int)=(J:Int):=by rw [zbl (by omega),← hJ,Int.natCast_emod,Int.natCast_add]; rfl
        have hn0:¬((rg.length:Int)=0):=by omega
        push_cast [c7,zaa,ct hp,bw hp,ct hq,bw hq,wi,wJ,hn0]
        repeat refine And.intro (by first | decide | omega | exact fun _=>by decide | (simp +contextual; done) | kernel_rfl) ?_
        refine b7 (as':=[l.v,pv2 p]) rfl ?_;refine a7 (a0q l hl p) rfl trivial ?_;have hbt:=avq l hl p q;have hcr:=fun hb=>a08 l hl p q hc (h2 p hpm) (h3 p hpm q hqm) hb;generalize hcx:s6 l p q=cx at *
        push_cast
        refine b9 (fun hk=>?_) (fun hk=>?_)
        · push_cast [c7,zaa,o7]
          repeat refine And.intro (by first | decide | omega | exact fun _=>by decide | (simp +contextual; done) | kernel_rfl) ?_
          refine b7 (as':=[l.v,pv2 p,pv2 q]) rfl ?_;refine a7 hbt rfl trivial ?_
          push_cast
          refine b9 (fun hb=>?_) (fun hb=>?_)
          · push_cast [c7,zaa,o7]
            refine b7 (as':=[l.v,pv2 p,pv2 q]) rfl ?_;refine a7 (hcr hb) rfl trivial ?_
            push_cast [pv2,pnt,wi,c7,zaa,o7]
            repeat refine And.intro (by first | decide | omega | exact fun _=>by decide | (simp +contextual; done) | kernel_rfl) ?_
            have hN:z9 l rg (i+1)=[p,cx]:=by
              rw [z9,hgi,hgn,h0,zbf];unfold ul;rw [if_pos hk,if_pos hb,hcx]
              rfl
            exact ⟨⟨i+1,by omega,.inr ⟨by rw [hN]; simp,by rw [hN]; simp,by rw [hN]; rfl⟩⟩,by omega⟩
          · push_cast [c7,zaa,o7,wi]
            have hN:z9 l rg (i+1)=[p]:=by
              rw [z9,hgi,hgn,h0,zbf];unfold ul;rw [if_pos hk,if_neg (by rw [hb]; simp)]
              rfl
            exact ⟨⟨i+1,by omega,.inr ⟨by rw [hN]; simp,by rw [hN]; simp,by rw [hN]; rfl⟩⟩,by omega⟩
        · push_cast [c7,zaa,o7]
          repeat refine And.intro (by first | decide | omega | exact fun _=>by decide | (simp +contextual; done) | kernel_rfl) ?_
          refine b7 (as':=[l.v,pv2 p,pv2 q]) rfl ?_;refine a7 hbt rfl trivial ?_
          push_cast
          refine b9 (fun hb=>?_) (fun hb=>?_)
          · push_cast [c7,zaa,o7]
            refine b7 (as':=[l.v,pv2 p,pv2 q]) rfl ?_;refine a7 (hcr hb) rfl trivial ?_
            push_cast [pv2,pnt,wi,c7,zaa,o7]
            repeat refine And.intro (by first | decide | omega | exact fun _=>by decide | (simp +contextual; done) | kernel_rfl) ?_
            have hN:z9 l rg (i+1)=[cx]:=by
              rw [z9,hgi,hgn,h0,zbf];unfold ul;rw [if_neg (by rw [hk]; simp),if_pos hb,hcx]
              rfl
            exact ⟨⟨i+1,by omega,.inr ⟨by rw [hN]; simp,by rw [hN]; simp,by rw [hN]; rfl⟩⟩,by omega⟩
          · push_cast [c7,zaa,o7,wi]
            have hN:z9 l rg (i+1)=[]:=by
              rw [z9,hgi,hgn,h0,zbf];unfold ul;rw [if_neg (by rw [hk]; simp),if_neg (by rw [hb]; simp)]
              rfl
            exact ⟨⟨i+1,by omega,.inl ⟨hN,by simp⟩⟩,by omega⟩
      · have hi2:i=rg.length:=by
          have:¬i<rg.length:=by simpa using hd
          omega
        rw [hi2] at h0;rcases hres with ⟨g0,rfl,rfl⟩ | ⟨g0,rfl,rfl⟩
        · push_cast [pnt]
        · exact absurd h0 g0
    · have hlen:=aj1 l rg i
      push_cast [c7,pnt,zaa]
      refine b9 (fun hd=>?_) (fun hd=>?_)
      · have hi2:i<rg.length:=by simpa using hd
        obtain ⟨p,hp⟩:∃p,rg[i]?=some p:=⟨rg[i],by simp [hi2]⟩
        obtain ⟨J,hJ⟩:∃J,(i+1)%rg.length=J:=⟨_,rfl⟩
        have hJl:J<rg.length:=by rw [← hJ]; exact Nat.mod_lt _ (by omega)
        obtain ⟨q,hq⟩:∃q,rg[J]?=some q:=⟨rg[J],by simp [hJl]⟩
        have hgi:rg.getD i (0,0)=p:=by rw [zak,hp]; rfl
        have hgn:ngh rg i=q:=by unfold ngh; rw [hJ,zak,hq]; rfl
        have hpm:=zal hp;have hqm:=zal hq;have wi:IntKind.i64.wrap ((i:Int)+1)=(i:Int)+1:=a5 (by omega);have wJ:((i:Int)+1).tmod (rg.length:Int)=(J:Int):=by rw [zbl (by omega),← hJ,Int.natCast_emod,Int.natCast_add]; rfl
        have hn0:¬((rg.length:Int)=0):=by omega
        push_cast [c7,zaa,ct hp,bw hp,ct hq,bw hq,wi,wJ,hn0]
        repeat refine And.intro (by first | decide | omega | exact fun _=>by decide | (simp +contextual; done) | kernel_rfl) ?_
        refine b7 (as':=[l.v,pv2 p]) rfl ?_;refine a7 (a0q l hl p) rfl trivial ?_;have hbt:=avq l hl p q;have hcr:=fun hb=>a08 l hl p q hc (h2 p hpm) (h3 p hpm q hqm) hb;generalize hcx:s6 l p q=cx at *
        push_cast
        refine b9 (fun hk=>?_) (fun hk=>?_)
        · push_cast [c7,zaa,o7]
          repeat refine And.intro (by first | decide | omega | exact fun _=>by decide | (simp +contextual; done) | kernel_rfl) ?_
          refine b7 (as':=[l.v,pv2 p,pv2 q]) rfl ?_;refine a7 hbt rfl trivial ?_
          push_cast
          refine b9 (fun hb=>?_) (fun hb=>?_)
          · push_cast [c7,zaa,o7]
            refine b7 (as':=[l.v,pv2 p,pv2 q]) rfl ?_;refine a7 (hcr hb) rfl trivial ?_
            push_cast [pv2,pnt,wi,c7,zaa,o7]
            repeat refine And.intro (by first | decide | omega | exact fun _=>by decide | (simp +contextual; done) | kernel_rfl) ?_
            have hN:z9 l rg (i+1)=z9 l rg i++[p,cx]:=by
              rw [z9,hgi,hgn];unfold ul;rw [if_pos hk,if_pos hb,hcx]
              rfl
            exact ⟨⟨i+1,by omega,.inr ⟨by rw [hN]; simp [h0],by rw [hN]; simp,by rw [hN]; simp [ptR,pnt]; rw [zbx (by simp)]; simp⟩⟩,by omega⟩
          · push_cast [c7,zaa,o7,wi]
            have hN:z9 l rg (i+1)=z9 l rg i++[p]:=by
              rw [z9,hgi,hgn];unfold ul;rw [if_pos hk,if_neg (by rw [hb]; simp)]
              rfl
            exact ⟨⟨i+1,by omega,.inr ⟨by rw [hN]; simp [h0],by rw [hN]; simp,by rw [hN]; simp [ptR,pnt]⟩⟩,by omega⟩
        · push_cast [c7,zaa,o7]
          repeat refine And.intro (by first | decide | omega | exact fun _=>by decide | (simp +contextual; done) | kernel_rfl) ?_
          refine b7 (as':=[l.v,pv2 p,pv2 q]) rfl ?_;refine a7 hbt rfl trivial ?_
          push_cast
          refine b9 (fun hb=>?_) (fun hb=>?_)
          · push_cast [c7,zaa,o7]
            refine b7 (as':=[l.v,pv2 p,pv2 q]) rfl ?_;refine a7 (hcr hb) rfl trivial ?_
            push_cast [pv2,pnt,wi,c7,zaa,o7]
            repeat refine And.intro (by first | decide | omega | exact fun _=>by decide | (simp +contextual; done) | kernel_rfl) ?_
            have hN:z9 l rg (i+1)=z9 l rg i++[cx]:=by
              rw [z9,hgi,hgn];unfold ul;rw [if_neg (by rw [hk]; simp),if_pos hb,hcx]
              rfl
            exact ⟨⟨i+1,by omega,.inr ⟨by rw [hN]; simp [h0],by rw [hN]; simp,by rw [hN]; simp [ptR,pnt]⟩⟩,by omega⟩
          · push_cast [c7,zaa,o7,wi]
            have hN:z9 l rg (i+1)=z9 l rg i++[]:=by
              rw [z9,hgi,hgn];unfold ul;rw [if_neg (by rw [hk]; simp),if_neg (by rw [hb]; simp)]
              rfl
            exact ⟨⟨i+1,by omega,.inr ⟨by rw [hN]; simp [h0],by rw [hN]; simp,by rw [hN]; simp [ptR,pnt]⟩⟩,by omega⟩
      · have hi2:i=rg.length:=by
          have:¬i<rg.length:=by simpa using hd
          omega
        rw [hi2] at h0 ⊢;rcases hres with ⟨g0,rfl,rfl⟩ | ⟨g0,rfl,rfl⟩
        · exact absurd g0 h0
        · push_cast [pnt,x6]; rfl

def amr:Mk P0 f127:={ x:=_ }
theorem aqf:d5 127 4 amr:=c8 func127
def aor:Mk P0 f76:={ x:=_ }
theorem asp:d5 76 3 aor:=c8 func76
theorem bju (l:Lin) (hl:l.ok) (hc:-9007199254740992≤l.at'∧l.at'≤9007199254740992) (rg:List P2) (h:RgOk rg) :
  a8 P0 180 [l.v,c7 rg] [] (.own 1000000 0 0 (x6 l rg).length) [u5 (x6 l rg)]:=by
 by_cases h0:x6 l rg=[]
 ·have:=atr (cut_t l hl hc rg h (.inl ⟨h0,rfl,rfl⟩));rw [h0];exact this
 ·exact cut_t l hl hc rg h (.inr ⟨h0,rfl,rfl⟩)
theorem ap4 (l:List P2):∀x∈l.map ptR,jc x:=fun x hx=>by
 obtain ⟨p,_,rfl⟩:=List.mem_map.1 hx;simp [ptR,pnt,jc,pj]
theorem aq0 (l:Lin) (hl:l.ok) (hc:-9007199254740992≤l.at'∧l.at'≤9007199254740992) (rg:List P2) (h:RgOk rg) :
  a8 P0 127 [c7 rg,int .i64 l.axis,int .i64 l.at',bl l.above] [] (.own 1000000 0 0 (x6 l rg).length) [u5 (x6 l rg)]:=by
 refine aqf rfl (by decide) ?_;have d1:decide (l.axis<0)=false:=by rcases hl with e | e<;>rw [e]<;>rfl
 have d2:decide (l.axis>1)=false:=by rcases hl with e | e<;>rw [e]<;>rfl
 push_cast [amr,c7,d1,d2,zab]
 refine b7 (as':=[c7 rg]) rfl ?_;refine a7 (bbb rg h) rfl trivial ?_
 push_cast
 refine b7 (as':=[l.v,c7 rg]) rfl ?_;refine a7 (bju l hl hc rg h) rfl trivial ?_
 push_cast
def kg (lo hi:P2):List Lin:=[⟨0,lo.1,true⟩,⟨0,hi.1,false⟩,⟨1,lo.2,true⟩,⟨1,hi.2,false⟩]
def fj (lo hi:P2) (rg:List P2) (i:Nat):List P2:=((kg lo hi).take i).foldl (fun r l=>x6 l r) rg
def xm (lo hi:P2) (rg:List P2):List P2:=fj lo hi rg 4
def pi (lo hi:P2):Ob:=.row 3 (.agg [.v (.int .i64 0),.v (.int .i64 0),.v (.bool false)]) true true [.agg [.v (.int .i64 0),.v (.int .i64 lo.1),.v (.bool true)],.agg [.v (.int .i64 0),.v (.int .i64 hi.1),.v (.bool false)],.agg [.v (.int .i64 1),.v (.int .i64 lo.2),.v (.bool true)],.agg [.v (.int .i64 1),.v (.int .i64 hi.2),.v (.bool false)]]
set_option maxHeartbeats 4000000 in
theorem cbox_t (lo hi : P2) (hlo : (-9007199254740992 ≤ lo.1 ∧ lo.1 ≤ 9007199254740992) ∧ (-9007199254740992 ≤ lo.2 ∧ lo.2 ≤ 9007199254740992)) (hhi : (-9007199254740992 ≤ hi.1 ∧ hi.1 ≤ 9007199254740992) ∧ (-9007199254740992 ≤ hi.2 ∧ hi.2 ≤ 9007199254740992))
    (rg:List P2) (h:∀i,i<4→RgOk (fj lo hi rg i)):a8 P0 76 [c7 rg,pv2 lo,pv2 hi] [] (.own 1000000 0 0 (xm lo hi rg).length) [u5 (xm lo hi rg)]:=by
  refine asp rfl (by decide) ?_;simp only [aor,c7,pv2,pnt,zae,zad,zac,push_cast,↓reduceIte,reduceCtorEq,zB,zE,zA,zS,zL,zD,zM]
  repeat refine And.intro (by first | decide | omega | exact fun _=>by decide | (simp +contextual; done) | kernel_rfl) ?_
  refine run_loop [(23, false), (21, false), (22, false), (0, false)] (fun vs pos los => ∃ i : Nat, i ≤ 4 ∧ pos = [] ∧
      (i=0∧vs=[int .i64 i,.own 2000000 0 0 4,int .i64 4,c7 rg]∧los=[pi lo hi] ∨
       i≠0∧vs=[int .i64 i,.own 2000000 0 0 4,int .i64 4,.own 2000001 0 0 (fj lo hi rg i).length]∧los=[pi lo hi,u5 (fj lo hi rg i)]))
    (fun vs _ _=>match vs with | .r (.v (.int _ a))::_=>(4-a).toNat | _=>0) rfl ?_ ?_
  · simp only [c7,pi,push_cast,↓reduceIte,reduceCtorEq,zB,zE,zA,zS,zL,zD,zM];exact ⟨0,by omega,.inl ⟨rfl,by simp⟩⟩
  · have hs:∀(k:Nat) (l:Lin),k<4→(kg lo hi)[k]?=some l→fj lo hi rg (k+1)=x6 l (fj lo hi rg k):=fun k l hk hl=>by
      unfold fj;rw [zat,hl,List.foldl_append]
      rfl
    have hline:∀(k:Nat) (l:Lin),(kg lo hi)[k]?=some l→l.ok∧(-9007199254740992≤l.at'∧l.at'≤9007199254740992):=fun k l hl=>by
      have:=zal hl;simp only [kg,zai,List.not_mem_nil,or_false] at this;rcases this with rfl | rfl | rfl | rfl
      · exact ⟨.inl rfl,hlo.1⟩
      · exact ⟨.inl rfl,hhi.1⟩
      · exact ⟨.inr rfl,hlo.2⟩
      · exact ⟨.inr rfl,hhi.2⟩
    rintro vs pos los ⟨i,hile,rfl,⟨h0,rfl,rfl⟩ | ⟨h0,rfl,rfl⟩⟩
    · subst h0;have hN:fj lo hi rg 0=rg:=rfl;have d0:decide ((0:Int)<4)=true:=rfl;have hl0:=hline 0 _ rfl;have hS:=aq0 _ hl0.1 hl0.2 rg (by have:=h 0 (by decide); rwa [hN] at this);have hs0:=hs 0 _ (by decide) rfl;rw [hN] at hs0;have wi:IntKind.i64.wrap ((0:Int)+1)=1:=rfl;simp only [c7,pi,d0,wi,zae,zad,zac,push_cast,↓reduceIte,reduceCtorEq,zB,zE,zA,zS,zL,zD,zM]
      repeat refine And.intro (by first | decide | omega | exact fun _=>by decide | (simp +contextual; done) | kernel_rfl) ?_
      rw [← hs0] at hS;refine a7 hS rfl trivial ?_;simp only [c7,pi,d0,wi,zae,zad,zac,push_cast,↓reduceIte,reduceCtorEq,zB,zE,zA,zS,zL,zD,zM];exact ⟨⟨1,by omega,.inr ⟨by omega,by simp⟩⟩,by decide⟩
    · rcases (show i=1∨i=2∨i=3∨i=4 by omega) with rfl | rfl | rfl | rfl
      · have d0:decide ((1:Int)<4)=true:=rfl;have hl0:=hline 1 _ rfl;have hS:=aq0 _ hl0.1 hl0.2 (fj lo hi rg 1) (h 1 (by decide));have hs0:=hs 1 _ (by decide) rfl;rw [← hs0] at hS;have wi:IntKind.i64.wrap ((1:Int)+1)=2:=rfl;simp only [c7,pi,d0,wi,zae,zad,zac,push_cast,↓reduceIte,reduceCtorEq,zB,zE,zA,zS,zL,zD,zM]
        repeat refine And.intro (by first | decide | omega | exact fun _=>by decide | (simp +contextual; done) | kernel_rfl) ?_
        refine ox ?_;simp only [o7,push_cast,↓reduceIte,reduceCtorEq,zB,zE,zA,zS,zL,zD,zM]
        refine rz hS rfl trivial (by simp [bn]) (by
          intro o ho;simp only [zan] at ho;subst ho
          exact ap4 _) ?_
        simp only [c7,pi,d0,wi,zae,zad,zac,push_cast,↓reduceIte,reduceCtorEq,zB,zE,zA,zS,zL,zD,zM];exact ⟨⟨2,by omega,.inr ⟨by omega,by simp⟩⟩,by decide⟩
      · have d0:decide ((2:Int)<4)=true:=rfl;have hl0:=hline 2 _ rfl;have hS:=aq0 _ hl0.1 hl0.2 (fj lo hi rg 2) (h 2 (by decide));have hs0:=hs 2 _ (by decide) rfl;rw [← hs0] at hS;have wi:IntKind.i64.wrap ((2:Int)+1)=3:=rfl;simp only [c7,pi,d0,wi,zae,zad,zac,push_cast,↓reduceIte,reduceCtorEq,zB,zE,zA,zS,zL,zD,zM]
        repeat refine And.intro (by first | decide | omega | exact fun _=>by decide | (simp +contextual; done) | kernel_rfl) ?_
        refine ox ?_;simp only [o7,push_cast,↓reduceIte,reduceCtorEq,zB,zE,zA,zS,zL,zD,zM]
        refine rz hS rfl trivial (by simp [bn]) (by
          intro o ho;simp only [zan] at ho;subst ho
          exact ap4 _) ?_
        simp only [c7,pi,d0,wi,zae,zad,zac,push_cast,↓reduceIte,reduceCtorEq,zB,zE,zA,zS,zL,zD,zM];exact ⟨⟨3,by omega,.inr ⟨by omega,by simp⟩⟩,by decide⟩
      · have d0:decide ((3:Int)<4)=true:=rfl;have hl0:=hline 3 _ rfl;have hS:=aq0 _ hl0.1 hl0.2 (fj lo hi rg 3) (h 3 (by decide));have hs0:=hs 3 _ (by decide) rfl;rw [← hs0] at hS;have wi:IntKind.i64.wrap ((3:Int)+1)=4:=rfl;simp only [c7,pi,d0,wi,zae,zad,zac,push_cast,↓reduceIte,reduceCtorEq,zB,zE,zA,zS,zL,zD,zM]
        repeat refine And.intro (by first | decide | omega | exact fun _=>by decide | (simp +contextual; done) | kernel_rfl) ?_
        refine ox ?_;simp only [o7,push_cast,↓reduceIte,reduceCtorEq,zB,zE,zA,zS,zL,zD,zM]
        refine rz hS rfl trivial (by simp [bn]) (by
          intro o ho;simp only [zan] at ho;subst ho
          exact ap4 _) ?_
        simp only [c7,pi,d0,wi,zae,zad,zac,push_cast,↓reduceIte,reduceCtorEq,zB,zE,zA,zS,zL,zD,zM];exact ⟨⟨4,by omega,.inr ⟨by omega,by simp⟩⟩,by decide⟩
      · have d0:decide ((4:Int)<4)=false:=rfl;have e4:fj lo hi rg 4=xm lo hi rg:=rfl;simp only [c7,pi,d0,e4,pnt,push_cast,↓reduceIte,reduceCtorEq,zB,zE,zA,zS,zL,zD,zM]
        rfl

def akq:Mk P0 f78:={ x:=_ }
theorem an1:d5 78 2 akq:=c8 func78
def gh (b:Int) (rg:List P2):List P2:=rg.map fun p=>(p.1/b,p.2/b)
set_option maxHeartbeats 4000000 in
theorem cfloor_r (b : Int) (hb : 1 ≤ b ∧ b ≤ 9007199254740992) (rg : List P2) (h : RgOk rg) {res : AV} {ro : List Ob}
    (hres:(rg=[]∧res=.nils 2 (pnt 0 0)∧ro=[])∨(rg≠[]∧res=.own 1000000 0 0 (gh b rg).length∧ro=[u5 (gh b rg)])) :
    a8 P0 78 [c7 rg,int .i64 b] [] res ro:=by
  refine an1 rfl (by decide) ?_;have hmx:=k7;have hok:=bbb rg h;obtain ⟨h1,h2,h3⟩:=h;have d1:decide (b<1)=false:=by simp; omega
  push_cast [akq,c7,d1,zab]
  refine b7 (as':=[c7 rg]) rfl ?_;refine a7 hok rfl trivial ?_
  push_cast [zaa]
  have hlt:∀i,(gh b (rg.take i)).length≤i:=fun i=>by unfold gh; simp; omega
  refine run_loop [(23, false), (21, false), (22, false), (1, false), (5, false)] (fun vs pos los => ∃ i : Nat, i ≤ rg.length ∧ pos = [] ∧
      (i=0∧vs=[int .i64 i,c7 rg,int .i64 rg.length,int .i64 b,.nils 2 (pnt 0 0)]∧los=[] ∨
       i≠0∧vs=[int .i64 i,c7 rg,int .i64 rg.length,int .i64 b,.own 2000000 0 0 (gh b (rg.take i)).length]∧los=[u5 (gh b (rg.take i))]))
    (fun vs _ _=>match vs with | .r (.v (.int _ a))::_=>(rg.length-a).toNat | _=>0) rfl ?_ ?_
  · push_cast [c7,pnt]
    exact ⟨0,by omega,.inl ⟨rfl,by simp⟩⟩
  · rintro vs pos los ⟨i,hi,rfl,⟨h0,rfl,rfl⟩ | ⟨h0,rfl,rfl⟩⟩
    · have hlen:=hlt i
      push_cast [c7,pnt,zaa]
      refine b9 (fun hd=>?_) (fun hd=>?_)
      · have hi2:i<rg.length:=by simpa using hd
        obtain ⟨p,hp⟩:∃p,rg[i]?=some p:=⟨rg[i],by simp [hi2]⟩
        have hpb:=h2 p (zal hp);have wi:IntKind.i64.wrap ((i:Int)+1)=(i:Int)+1:=a5 (by omega);have hf1:=pz p.1 b (by unfold in64; omega) (by unfold in64; omega);have hf2:=pz p.2 b (by unfold in64; omega) (by unfold in64; omega);rw [if_pos (by omega),if_pos (by omega)] at hf1 hf2
        have hN:gh b (rg.take (i+1))=[(p.1/b,p.2/b)]:=by
          unfold gh;rw [zat,hp,zbg];rw [h0]; rfl
        push_cast [c7,zaa,ct hp,bw hp,wi,zae,zad,zac]
        repeat refine And.intro (by first | decide | omega | exact fun _=>by decide | (simp +contextual; done) | kernel_rfl) ?_
        refine a7 hf1 rfl trivial ?_
        push_cast [c7,zaa,wi,zae,zad,zac]
        repeat refine And.intro (by first | decide | omega | exact fun _=>by decide | (simp +contextual; done) | kernel_rfl) ?_
        refine a7 hf2 rfl trivial ?_
        push_cast [c7,zaa,o7,wi,zae,zad,zac]
        repeat refine And.intro (by first | decide | omega | exact fun _=>by decide | (simp +contextual; done) | kernel_rfl) ?_
        exact ⟨⟨i+1,by omega,.inr ⟨by omega,by rw [hN]; simp,by rw [hN]; simp [ptR,pnt]⟩⟩,by omega⟩
      · have hi2:i=rg.length:=by
          have:¬i<rg.length:=by simpa using hd
          omega
        rcases hres with ⟨g0,rfl,rfl⟩ | ⟨g0,rfl,rfl⟩
        · push_cast [pnt]
        · exact absurd (List.length_eq_zero_iff.1 (by omega)) g0
    · have hlen:=hlt i
      push_cast [c7,pnt,zaa]
      refine b9 (fun hd=>?_) (fun hd=>?_)
      · have hi2:i<rg.length:=by simpa using hd
        obtain ⟨p,hp⟩:∃p,rg[i]?=some p:=⟨rg[i],by simp [hi2]⟩
        have hpb:=h2 p (zal hp);have wi:IntKind.i64.wrap ((i:Int)+1)=(i:Int)+1:=a5 (by omega);have hf1:=pz p.1 b (by unfold in64; omega) (by unfold in64; omega);have hf2:=pz p.2 b (by unfold in64; omega) (by unfold in64; omega);rw [if_pos (by omega),if_pos (by omega)] at hf1 hf2
        have hN:gh b (rg.take (i+1))=gh b (rg.take i)++[(p.1/b,p.2/b)]:=by
          unfold gh;rw [zat,hp,zbg]
          rfl
        push_cast [c7,zaa,ct hp,bw hp,wi,zae,zad,zac]
        repeat refine And.intro (by first | decide | omega | exact fun _=>by decide | (simp +contextual; done) | kernel_rfl) ?_
        refine a7 hf1 rfl trivial ?_
        push_cast [c7,zaa,wi,zae,zad,zac]
        repeat refine And.intro (by first | decide | omega | exact fun _=>by decide | (simp +contextual; done) | kernel_rfl) ?_
        refine a7 hf2 rfl trivial ?_
        push_cast [c7,zaa,o7,wi,zae,zad,zac]
        repeat refine And.intro (by first | decide | omega | exact fun _=>by decide | (simp +contextual; done) | kernel_rfl) ?_
        exact ⟨⟨i+1,by omega,.inr ⟨by omega,by rw [hN]; simp,by rw [hN]; simp [ptR,pnt]⟩⟩,by omega⟩
      · have hi2:i=rg.length:=by
          have:¬i<rg.length:=by simpa using hd
          omega
        rcases hres with ⟨g0,rfl,rfl⟩ | ⟨g0,rfl,rfl⟩
        · exfalso; rw [g0] at hi2; exact h0 hi2
        · rw [hi2,zby]; push_cast [pnt]; rfl

theorem avf {u t D:Int} (h0:0<t) (h1:t<D):(0≤u→0≤u*t/D∧u*t/D≤u)∧(u≤0→u≤u*t/D∧u*t/D≤0):=by
 have hD:0<D:=by omega
 constructor
 ·intro hu;have a:=zbm hu (zax h0);have b:=zar (zax h1) hu;exact ⟨Int.ediv_nonneg a (zax hD),Int.ediv_le_of_le_mul hD b⟩
 ·intro hu;have a:=zbc hu (zax h1);have b:=zbt hu (zax h0);rw [Int.zero_mul] at b;exact ⟨Int.le_ediv_of_mul_le hD a,Int.ediv_le_of_le_mul hD (by rw [Int.zero_mul]; exact b)⟩
def Btw (x a b:Int):Prop:=(a≤x∧x≤b)∨(b≤x∧x≤a)
theorem avk {l:Lin} (hl:l.ok) {p q:P2} (hb:fi l p q=true):Btw (s6 l p q).1 p.1 q.1∧Btw (s6 l p q).2 p.2 q.2:=by
 obtain ⟨a,c,b⟩:=l;obtain ⟨px,py⟩:=p;obtain ⟨qx,qy⟩:=q
 have key:∀(u P Q:Int),(P<c∧c<Q)∨(Q<c∧c<P)→∃n:Int,(if Q-P<0 then (-(u*(c-P)))/(-(Q-P)) else if 0<Q-P then (u*(c-P))/(Q-P) else 0)=n∧((0≤u→0≤n∧n≤u)∧(u≤0→u≤n∧n≤0)):=fun u P Q h=>by
  refine ⟨_,rfl,?_⟩;rcases h with h | h
  ·rw [if_neg (by omega),if_pos (by omega)];exact avf (by omega) (by omega)
  ·rw [if_pos (by omega)];have:=avf (u:=u) (t:=P-c) (D:=P-Q) (by omega) (by omega);rw [show -(u*(c-P))=u*(P-c) by rw [← Int.mul_neg]; congr 1; omega,show -(Q-P)=P-Q by omega];exact this
 rcases hl with h | h<;>simp only at h<;>subst h
 ·have hbt:(px<c∧c<qx)∨(qx<c∧c<px):=by simpa [fi,sel] using hb
  obtain ⟨n,hn,h1,h2⟩:=key (qy-py) px qx hbt;have e:s6 ⟨0,c,b⟩ (px,py) (qx,qy)=(c,py+n):=by rw [← hn]; rfl
  rw [e];unfold Btw;simp only;refine ⟨by omega,?_⟩;rcases zay 0 (qy-py) with h | h
  ·have:=h1 h; omega
  ·have:=h2 h; omega
 ·have hbt:(py<c∧c<qy)∨(qy<c∧c<py):=by simpa [fi,sel] using hb
  obtain ⟨n,hn,h1,h2⟩:=key (qx-px) py qy hbt;have e:s6 ⟨1,c,b⟩ (px,py) (qx,qy)=(px+n,c):=by rw [← hn]; rfl
  rw [e];unfold Btw;simp only;refine ⟨?_,by omega⟩;rcases zay 0 (qx-px) with h | h
  ·have:=h1 h; omega
  ·have:=h2 h; omega
def xo (lo hi:P2) (rg:List P2):Prop:=∀p∈rg,(lo.1≤p.1∧p.1≤hi.1)∧(lo.2≤p.2∧p.2≤hi.2)
theorem a07 {l:Lin} (hl:l.ok) {lo hi:P2} {rg:List P2} (h:xo lo hi rg):∀i,i≤rg.length→xo lo hi (z9 l rg i)
 | 0,_=>by intro p hp; simp [z9] at hp
 | i+1,hi'=>by
  have ih:=a07 hl h i (by omega)
  have hp0:rg.getD i (0,0)∈rg:=by
   rw [zak,zbn (show i<rg.length by omega)];exact List.getElem_mem _
  have hq0:ngh rg i∈rg:=by
   have:(i+1)%rg.length<rg.length:=Nat.mod_lt _ (by omega);unfold ngh;rw [zak,zbn this];exact List.getElem_mem _
  intro p hp;rw [z9] at hp;rcases zao.1 hp with hp | hp
  ·exact ih p hp
  ·unfold ul at hp;rcases zao.1 hp with hp | hp
   ·split at hp
    ·simp only [zan] at hp;subst hp;exact h _ hp0
    ·cases hp
   ·split at hp
    ·rename_i hb;simp only [zan] at hp;subst hp;obtain ⟨b1,b2⟩:=avk hl hb;have a1:=h _ hp0;have a2:=h _ hq0;unfold Btw at b1 b2;omega
    ·cases hp
theorem aiu {l:Lin} (hl:l.ok) {lo hi:P2} {rg:List P2} (h:xo lo hi rg):xo lo hi (x6 l rg):=a07 hl h _ (zav _)
theorem a98 (l:Lin) (rg:List P2):(x6 l rg).length≤2*rg.length:=aj1 l rg _
theorem aue {lo hi:P2} {a b:P2} {rg:List P2} (h:xo a b rg):∀i,i≤4→xo a b (fj lo hi rg i)∧(fj lo hi rg i).length≤2^i*rg.length
 | 0,_=>⟨h,by simp [fj]⟩
 | i+1,hi'=>by
  obtain ⟨h1,h2⟩:=aue (lo:=lo) (hi:=hi) h i (by omega);obtain ⟨l,hl⟩:∃l,(kg lo hi)[i]?=some l:=⟨(kg lo hi)[i]'(by simp [kg]; omega),by simp [kg,show i<4 by omega]⟩
  have hok:l.ok:=by
   have:=zal hl;simp only [kg,zai,List.not_mem_nil,or_false] at this;rcases this with rfl | rfl | rfl | rfl
   ·exact .inl rfl
   ·exact .inl rfl
   ·exact .inr rfl
   ·exact .inr rfl
  have e:fj lo hi rg (i+1)=x6 l (fj lo hi rg i):=by
   unfold fj;rw [zat,hl,List.foldl_append]
   rfl
  rw [e];refine ⟨aiu hok h1,Nat.le_trans (a98 _ _) ?_⟩;rw [Nat.pow_succ,Nat.mul_assoc,Nat.mul_left_comm];omega
theorem bdg {a b:P2} {rg:List P2} (h:xo a b rg) (hl:rg.length≤100) (h1:-1099511627776≤a.1∧b.1≤1099511627776∧b.1-a.1≤1073741824) (h2:-1099511627776≤a.2∧b.2≤1099511627776∧b.2-a.2≤1073741824):RgOk rg:=by
 refine ⟨hl,fun p hp=>?_,fun p hp q hq=>?_⟩
 ·have:=h p hp;omega
 ·have:=h p hp;have:=h q hq;omega
theorem bie (lo hi:P2) (hlo:(-9007199254740992≤lo.1∧lo.1≤9007199254740992)∧(-9007199254740992≤lo.2∧lo.2≤9007199254740992)) (hhi:(-9007199254740992≤hi.1∧hi.1≤9007199254740992)∧(-9007199254740992≤hi.2∧hi.2≤9007199254740992))
  {a b:P2} {rg:List P2} (h:xo a b rg) (hl:rg.length≤6) (h1:-1099511627776≤a.1∧b.1≤1099511627776∧b.1-a.1≤1073741824) (h2:-1099511627776≤a.2∧b.2≤1099511627776∧b.2-a.2≤1073741824) :
  a8 P0 76 [c7 rg,pv2 lo,pv2 hi] [] (.own 1000000 0 0 (xm lo hi rg).length) [u5 (xm lo hi rg)]∧xo a b (xm lo hi rg)∧RgOk (xm lo hi rg):=by
 have key:∀i,i≤4→RgOk (fj lo hi rg i):=fun i hi'=>by
  obtain ⟨g1,g2⟩:=aue (lo:=lo) (hi:=hi) h i hi';have:2^i≤2^4:=zbj (by decide) hi';have:=Nat.mul_le_mul this hl;exact bdg g1 (by omega) h1 h2
 exact ⟨cbox_t lo hi hlo hhi rg fun i hi'=>key i (by omega),(aue h 4 (zav _)).1,key 4 (zav _)⟩

def al3:Mk P0 f185:={ x:=_ }
theorem ap1:d5 185 3 al3:=c8 func185
def al4:Mk P0 f181:={ x:=_ }
theorem ap2:d5 181 1 al4:=c8 func181
def ff:Mk P0 f219:={ x:=_ }
theorem pe:d5 219 2 ff:=c8 func219
def dz:Mk P0 f182:={ x:=_ }
theorem mj:d5 182 2 dz:=c8 func182
def asa:Mk P0 f128:={ x:=_ }
theorem atz:d5 128 1 asa:=c8 func128
def ad1 (a b c:P2):Int:=(b.1-a.1)*(c.2-a.2)-(b.2-a.2)*(c.1-a.1)
def near29 (p:P2):Prop:=(-536870912≤p.1∧p.1≤536870912)∧(-536870912≤p.2∧p.2≤536870912)
theorem bfi (a b c:P2) (ha:near29 a) (hb:near29 b) (hc:near29 c):a8 P0 185 [pv2 a,pv2 b,pv2 c] [] (int .i64 (ad1 a b c)) []:=by
 refine ap1 rfl (by decide) ?_;unfold near29 at ha hb hc;have w1:IntKind.i64.wrap (b.1-a.1)=b.1-a.1:=a5 (by omega);have w2:IntKind.i64.wrap (c.2-a.2)=c.2-a.2:=a5 (by omega);have w3:IntKind.i64.wrap (b.2-a.2)=b.2-a.2:=a5 (by omega);have w4:IntKind.i64.wrap (c.1-a.1)=c.1-a.1:=a5 (by omega);have m1:=fm (x:=b.1-a.1) (y:=c.2-a.2) (n:=1073741824) (m:=1073741824) (by omega) (by omega);have m2:=fm (x:=b.2-a.2) (y:=c.1-a.1) (n:=1073741824) (m:=1073741824) (by omega) (by omega);have w5:IntKind.i64.wrap ((b.1-a.1)*(c.2-a.2))=(b.1-a.1)*(c.2-a.2):=a5 (by omega);have w6:IntKind.i64.wrap ((b.2-a.2)*(c.1-a.1))=(b.2-a.2)*(c.1-a.1):=a5 (by omega)
 have w7:IntKind.i64.wrap ((b.1-a.1)*(c.2-a.2)-(b.2-a.2)*(c.1-a.1))=ad1 a b c:=a5 (by omega);simp only [al3,pv2,pnt,w1,w2,w3,w4,w5,w6,w7,zae,zad,zac,push_cast,↓reduceIte,reduceCtorEq,zB,zE,zA,zS,zL,zD,zM]
 decide
theorem bhe (p:P2) (h:near29 p):a8 P0 181 [pv2 p] [] (bl false) []:=by
 refine ap2 rfl (by decide) ?_;unfold near29 at h;have d1:decide (p.1 < -536870912)=false:=by simp; omega
 have d2:decide (p.1>536870912)=false:=by simp; omega
 have d3:decide (p.2 < -536870912)=false:=by simp; omega
 have d4:decide (p.2>536870912)=false:=by simp; omega
 simp only [al4,pv2,pnt,d1,d2,d3,d4,zae,zad,zac,push_cast,↓reduceIte,reduceCtorEq,zB,zE,zA,zS,zL,zD,zM]
 decide
def adh:AV:=.fn (.func 181) [] 0
theorem bhd (l:List P2) (hl:l.length≤1000) (h:∀p∈l,near29 p):a8 P0 219 [c7 l,adh] [] (int .i64 (-1)) []:=by
 refine pe rfl (by decide) ?_
 push_cast [ff,c7,adh,zaa,zab]
 have hfn:zp P0 181=true:=rfl
 refine run_loop [(8,false),(0,false),(1,false),(7,false)] (fun vs pos los=>∃i:Nat,i≤l.length∧vs=[int .i64 i,c7 l,adh,int .i64 l.length]∧pos=[]∧los=[])
  (fun vs _ _=>match vs with | .r (.v (.int _ a))::_=>(l.length-a).toNat | _=>0) rfl ?_ ?_
 ·push_cast [c7,adh]
  exact ⟨0,by omega,rfl⟩
 ·rintro vs pos los ⟨i,hi,rfl,rfl,rfl⟩
  push_cast [c7,adh,zaa]
  refine b9 (fun hd=>?_) (fun hd=>?_)
  ·have hi2:i<l.length:=by simpa using hd
   obtain ⟨p,hp⟩:∃p,l[i]?=some p:=⟨l[i],by simp [hi2]⟩
   have wi:IntKind.i64.wrap ((i:Int)+1)=(i:Int)+1:=a5 (by omega)
   push_cast [c7,adh,zaa,ct hp,bw hp,hfn,wi]
   repeat refine And.intro (by first | decide | omega | exact fun _=>by decide | (simp +contextual; done) | kernel_rfl) ?_
   refine b7 (as':=[pv2 p]) rfl ?_;refine a7 (bhe p (h p (zal hp))) rfl trivial ?_
   push_cast [c7,adh,zaa,wi]
   exact ⟨⟨i+1,by omega,rfl⟩,by omega⟩
  ·push_cast [c7,adh,zaa]
theorem bhh (l:List P2) (hl:l.length≤1000) (h:∀p∈l,near29 p):a8 P0 182 [c7 l,adh] [] (bl false) []:=by
 refine mj rfl (by decide) ?_;have d:decide ((-1:Int)≥0)=false:=rfl
 push_cast [dz,c7,adh,zab]
 refine b7 (as':=[c7 l,adh]) rfl ?_;refine a7 (bhd l hl h) rfl trivial ?_
 push_cast [d]
theorem bbr (l:List P2) (hl:l.length≤1000) (h:∀p∈l,near29 p):a8 P0 128 [c7 l] [] (bl true) []:=by
 refine atz rfl (by decide) ?_;have d:decide ((l.length:Int)≤1000)=true:=by simp; omega
 push_cast [asa,c7,zaa,d,zab]
 refine b7 (as':=[c7 l,adh]) rfl ?_;refine a7 (bhh l hl h) rfl trivial ?_
 push_cast

def akl:Mk P0 f132:={ x:=_ }
theorem anv:d5 132 1 akl:=c8 func132
def je (p:P2):List P2→List P2
 | b::a::r=>if ad1 a b p≤0 then je p (a::r) else b::a::r
 | s=>s
def ae (l:List P2):List P2:=l.foldl (fun s p=>p::je p s) []
def bj (l:List P2):List P2:=(ae l).reverse.dropLast
theorem ajj (p:P2):∀s,∃k,je p s=s.drop k∧(s≠[]→je p s≠[])
 | []=>⟨0,rfl,fun h=>h⟩
 | [a]=>⟨0,rfl,fun h=>h⟩
 | b::a::r=>by
  rw [je];split
  ·obtain ⟨k,h1,h2⟩:=ajj p (a::r);exact ⟨k+1,by rw [h1]; rfl,fun _=>h2 (by simp)⟩
  ·exact ⟨0,rfl,fun h=>h⟩
theorem a80 {p q:P2} {s:List P2} (h:q∈je p s):q∈s:=by
 obtain ⟨k,h1,_⟩:=ajj p s;rw [h1] at h;exact List.mem_of_mem_drop h
theorem a81 (p:P2) (s:List P2):(je p s).length≤s.length:=by
 obtain ⟨k,h1,_⟩:=ajj p s;rw [h1,List.length_drop];omega
theorem my (l:List P2) (p:P2):ae (l++[p])=p::je p (ae l):=by simp [ae]
theorem nh {α:Type} {P:List α→Prop} (h0:P []) (h1:∀l p,P l→P (l++[p])) (l:List α):P l:=by
 have key:∀r:List α,P r.reverse:=fun r=>by
  induction r with
  | nil=>simpa using h0
  | cons a r ih=>rw [List.reverse_cons]; exact h1 _ _ ih
 have:=key l.reverse
 rwa [List.reverse_reverse] at this
theorem awn (l:List P2):∀{q:P2},q∈ae l→q∈l:=by
 refine nh (P:=fun l=>∀{q:P2},q∈ae l→q∈l) (fun h=>h) (fun l p ih=>?_) l;intro q h;rw [my] at h;rcases zai.1 h with rfl | h
 ·simp
 ·exact List.mem_append_left _ (ih (a80 h))
theorem ae0 (l:List P2):(ae l).length≤l.length:=by
 refine nh (P:=fun l=>(ae l).length≤l.length) (by simp [ae]) (fun l p ih=>?_) l;rw [my,zah,zam];have:=a81 p (ae l);simp;omega

def Uni (f:P2→Bool) (l:List P2):Prop:=∃(v:Bool) (A B C:List P2),l=A++(B++C)∧(∀a∈A,f a=v)∧(∀b∈B,f b=!v)∧(∀c∈C,f c=v)
def prs (nx:P2):List P2→List (P2×P2)
 | []=>[]
 | [p]=>[(p,nx)]
 | p::q::r=>(p,q)::prs nx (q::r)
theorem az6 (nx:P2):∀l,(prs nx l).length=l.length
 | []=>rfl
 | [_]=>rfl
 | p::q::r=>by rw [prs,zah,az6 nx (q::r)]; rfl
theorem abj (nx:P2):∀(A:List P2) (b:P2) (B:List P2),prs nx (A++b::B)=prs b A++prs nx (b::B)
 | [],b,B=>rfl
 | [a],b,B=>rfl
 | a::a'::A,b,B=>by
  have:=abj nx (a'::A) b B;simp only [zbz,prs] at this ⊢;rw [this]
theorem az7 (nx:P2):∀(l:List P2) (i:Nat),(prs nx l)[i]?=(l[i]?).map fun p=>(p,(l[i+1]?).getD nx)
 | [],i=>by simp [prs]
 | [p],0=>by simp [prs]
 | [p],i+1=>by simp [prs]
 | p::q::r,0=>by simp [prs]
 | p::q::r,i+1=>by
  rw [prs,List.getElem?_cons_succ,az7 nx (q::r) i];simp
def qh (l:Lin) (p q:P2):List P2:=if fi l p q then [s6 l p q] else []
def cu (l:Lin) (x:List (P2×P2)):List P2:=x.flatMap fun p=>p.1::qh l p.1 p.2
theorem abi (l:Lin) (x y:List (P2×P2)):cu l (x++y)=cu l x++cu l y:=by simp [cu]
theorem ask (l:Lin) (rg:List P2) (h:P2) (hh:rg.head?=some h):∀i,i≤rg.length→z9 l rg i=((prs h rg).take i).flatMap fun p=>ul l p.1 p.2
 | 0,_=>by simp [z9]
 | i+1,hi=>by
  have hlt:i<rg.length:=by omega
  have hg:=az7 h rg i;rw [zbn hlt,Option.map_some] at hg
  have hq:(rg[i+1]?).getD h=ngh rg i:=by
   unfold ngh;rw [zak];by_cases h1:i+1<rg.length
   ·rw [Nat.mod_eq_of_lt h1,zbn h1]
    rfl
   ·have h2:i+1=rg.length:=by omega
    rw [List.getElem?_eq_none (by omega),h2,Nat.mod_self];cases rg with
    | nil=>simp at hlt
    | cons a r=>simp at hh; subst hh; rfl
  rw [hq] at hg;have hp:rg.getD i (0,0)=rg[i]:=by rw [zak,zbn hlt]; rfl
  rw [z9,ask l rg h hh i (by omega),hp,zat,hg,List.flatMap_append];simp
theorem ahi (l:Lin) (hl:l.ok) (p q:P2):p9 l (s6 l p q)=true:=by
 obtain ⟨a,c,b⟩:=l;rcases hl with h | h<;>simp only at h<;>subst h<;>cases b<;>simp [p9,s6,sel]
theorem ab8 (l:Lin) (hl:l.ok) (rg:List P2) (h:P2) (hh:rg.head?=some h):x6 l rg=(cu l (prs h rg)).filter (p9 l):=by
 unfold x6;rw [ask l rg h hh _ (zav _),zbx (by rw [az6]; exact zav _)];unfold cu;generalize prs h rg=x
 induction x with
 | nil=>rfl
 | cons p x ih=>
  rw [List.flatMap_cons,List.flatMap_cons,zbh,ih];congr 1;unfold ul qh;rw [List.filter_cons];by_cases hk:p9 l p.1=true
  ·rw [if_pos hk,if_pos hk];split
   ·simp [ahi l hl]
   ·simp
  ·rw [if_neg hk,if_neg hk];split
   ·simp [ahi l hl]
   ·simp
def thr (a c:Int) (p:P2):Bool:=decide (sel a p≤c)
theorem bce {x p q:P2} {a c:Int} (h:Btw (sel a x) (sel a p) (sel a q)):(thr a c x=thr a c p∨thr a c x=thr a c q):=by
 unfold Btw at h;unfold thr;by_cases h1:sel a p≤c<;>by_cases h2:sel a q≤c
 ·left; rw [decide_eq_true h1,decide_eq_true (by omega)]
 ·by_cases h3:sel a x≤c
  ·left; rw [decide_eq_true h1,decide_eq_true h3]
  ·right; rw [decide_eq_false h2,decide_eq_false h3]
 ·by_cases h3:sel a x≤c
  ·right; rw [decide_eq_true h2,decide_eq_true h3]
  ·left; rw [decide_eq_false h1,decide_eq_false h3]
 ·left; rw [decide_eq_false h1,decide_eq_false (by omega)]
theorem a6x {l:Lin} (hl:l.ok) {p q:P2} (hb:fi l p q=true) (a:Int):Btw (sel a (s6 l p q)) (sel a p) (sel a q):=by
 obtain ⟨h1,h2⟩:=avk hl hb;unfold sel;split
 ·exact h1
 ·exact h2
theorem a0t {l:Lin} (hl:l.ok) {p q x:P2} (hx:x∈qh l p q) (a c:Int):thr a c x=thr a c p∨thr a c x=thr a c q:=by
 unfold qh at hx;split at hx
 ·rename_i hb;simp only [zan] at hx;subst hx;exact bce (a6x hl hb a)
 ·cases hx
theorem abg {l:Lin} (hl:l.ok) (a c:Int) (v:Bool) (nx:P2):∀(A:List P2),(∀p∈A,thr a c p=v)→∃A' T,cu l (prs nx A)=A'++T∧(∀p∈A',thr a c p=v)∧(T=[]∨∃x,T=[x]∧(thr a c x=v∨thr a c x=thr a c nx))
 | [],_=>⟨[],[],rfl,by simp,.inl rfl⟩
 | [p],h=>by
  have hp:=h p (by simp);refine ⟨[p],qh l p nx,by simp [cu,prs],by simpa using hp,?_⟩;have hi:=fun x (hx:x∈qh l p nx)=>a0t hl hx a c;unfold qh at hi ⊢;split
  ·rename_i hb;rw [if_pos hb] at hi;have:=hi (s6 l p nx) (by simp);rw [hp] at this;exact .inr ⟨_,rfl,this⟩
  ·exact .inl rfl
 | p::q::r,h=>by
  obtain ⟨A',T,h1,h2,h3⟩:=abg hl a c v nx (q::r) fun x hx=>h x (by simp at hx ⊢; exact .inr hx);have hp:=h p (by simp);have hq:=h q (by simp);refine ⟨p::(qh l p q++A'),T,?_,?_,h3⟩
  ·rw [prs,show cu l ((p,q)::prs nx (q::r))=p::(qh l p q++cu l (prs nx (q::r))) by simp [cu],h1];simp
  ·intro x hx;rcases zai.1 hx with rfl | hx
   ·exact hp
   ·rcases zao.1 hx with hx | hx
    ·rcases a0t hl hx a c with e | e
     ·rw [e,hp]
     ·rw [e,hq]
    ·exact h2 x hx
theorem ah6 {f:P2→Bool} {v:Bool} {A B C:List P2} (hA:∀a∈A,f a=v) (hB:∀b∈B,f b=!v) (hC:∀c∈C,f c=v):Uni f (A++(B++C)):=⟨v,A,B,C,rfl,hA,hB,hC⟩
theorem ani {a b:Bool} (h:a≠b):a=!b:=by cases a<;>cases b<;>simp_all
theorem azo {f:P2→Bool} {v:Bool} {A' T B' S:List P2} (hA:∀p∈A',f p=v) (hT:T=[]∨∃x,T=[x]) (hB:∀p∈B',f p=!v) (hS:S=[]∨∃x,S=[x]):Uni f ((A'++T)++(B'++S)):=by
 have put:∀(A'' B'':List P2),(∀p∈A'',f p=v)→(∀p∈B'',f p=!v)→Uni f (A''++(B''++S)):=fun A'' B'' h1 h2=>by
  rcases hS with rfl | ⟨x,rfl⟩
  ·exact ah6 (v:=v) h1 h2 (C:=[]) (by simp)
  ·by_cases hx:f x=v
   ·exact ah6 (v:=v) h1 h2 (C:=[x]) (by simpa using hx)
   ·have:=ah6 (v:=v) (f:=f) (A:=A'') (B:=B''++[x]) (C:=[]) h1 (fun p hp=>by
     rcases zao.1 hp with hp | hp
     ·exact h2 p hp
     ·simp only [zan] at hp; subst hp; exact ani hx) (by simp)
    simpa using this
 rcases hT with rfl | ⟨x,rfl⟩
 ·rw [zaw]; exact put A' B' hA hB
 ·by_cases hx:f x=v
  ·exact put (A'++[x]) B' (fun p hp=>by
    rcases zao.1 hp with hp | hp
    ·exact hA p hp
    ·simp only [zan] at hp; subst hp; exact hx) hB
  ·have:=put A' (x::B') hA (fun p hp=>by
    rcases zai.1 hp with rfl | hp
    ·exact ani hx
    ·exact hB p hp)
   simpa using this
theorem alr {T:List P2} {P:P2→Prop} (h:T=[]∨∃x,T=[x]∧P x):T=[]∨∃x,T=[x]:=h.imp id fun ⟨x,e,_⟩=>⟨x,e⟩
theorem bca {l:Lin} (hl:l.ok) (a c:Int) {rg:List P2} {h:P2} (hh:rg.head?=some h) (hu:Uni (thr a c) rg):Uni (thr a c) (cu l (prs h rg)):=by
 obtain ⟨v,A,B,C,rfl,hA,hB,hC⟩:=hu
 have two:∀(v:Bool) (A B:List P2),(∀p∈A,thr a c p=v)→(∀p∈B,thr a c p=!v)→(A++B).head?=some h→Uni (thr a c) (cu l (prs h (A++B))):=fun v A B hA hB hh=>by
  cases B with
  | nil=>
   rw [zaw] at hh ⊢;obtain ⟨A',T,e,g1,g2⟩:=abg hl a c v h A hA;rw [e];have:=azo (f:=thr a c) (v:=v) (A':=A') (T:=T) (B':=[]) (S:=[]) g1 (alr g2) (by simp) (.inl rfl);simpa using this
  | cons b B=>
   rw [abj,abi];obtain ⟨A',T,e1,g1,g2⟩:=abg hl a c v b A hA;obtain ⟨B',S,e2,k1,k2⟩:=abg hl a c (!v) h (b::B) hB;rw [e1,e2];exact azo g1 (alr g2) k1 (alr k2)
 cases C with
 | nil=>rw [zaw] at hh ⊢; exact two v A B hA hB hh
 | cons c0 C=>
  cases B with
  | nil=>
   have hAC:∀p∈A++(c0::C),thr a c p=v:=fun p hp=>(zao.1 hp).elim (hA p) (hC p);have:=two v (A++(c0::C)) [] hAC (by simp) (by simpa using hh);simpa using this
  | cons b B=>
   cases A with
   | nil=>
    have:=two (!v) (b::B) (c0::C) hB (by rw [Bool.not_not]; exact hC) (by simpa using hh);simpa using this
   | cons a0 A=>
    have h0:h=a0:=by simpa using hh.symm
    subst h0;have hhv:thr a c h=v:=hA h (by simp);rw [show (b::B)++(c0::C)=b::(B++c0::C) from rfl,abj,abi];rw [show b::(B++c0::C)=(b::B)++c0::C from rfl,abj,abi];obtain ⟨A',T,e1,g1,g2⟩:=abg hl a c v b (h::A) hA;obtain ⟨B',S,e2,k1,k2⟩:=abg hl a c (!v) c0 (b::B) hB;obtain ⟨C',Q,e3,q1,q2⟩:=abg hl a c v h (c0::C) hC;rw [e1,e2,e3]
    have hCQ:∀p∈C'++Q,thr a c p=v:=fun p hp=>by
     rcases zao.1 hp with hp | hp
     ·exact q1 p hp
     ·rcases q2 with rfl | ⟨x,rfl,hx⟩
      ·cases hp
      ·simp only [zan] at hp;subst hp;rcases hx with hx | hx
       ·exact hx
       ·rw [hx,hhv]
    obtain ⟨A2,B2,hab,hA2,hB2⟩:∃A2 B2,A'++T++B'=A2++B2∧(∀p∈A2,thr a c p=v)∧(∀p∈B2,thr a c p=!v):=by
     rcases alr g2 with rfl | ⟨x,rfl⟩
     ·exact ⟨A',B',by simp,g1,k1⟩
     ·by_cases hx:thr a c x=v
      ·exact ⟨A'++[x],B',rfl,fun p hp=>by
        rcases zao.1 hp with hp | hp
        ·exact g1 p hp
        ·simp only [zan] at hp; subst hp; exact hx,k1⟩
      ·exact ⟨A',x::B',by simp,g1,fun p hp=>by
        rcases zai.1 hp with rfl | hp
        ·exact ani hx
        ·exact k1 p hp⟩
    obtain ⟨B3,C3,hbc,hB3,hC3⟩:∃B3 C3,B2++S++(C'++Q)=B3++C3∧(∀p∈B3,thr a c p=!v)∧(∀p∈C3,thr a c p=v):=by
     rcases alr k2 with rfl | ⟨x,rfl⟩
     ·exact ⟨B2,C'++Q,by simp,hB2,hCQ⟩
     ·by_cases hx:thr a c x=v
      ·exact ⟨B2,x::(C'++Q),by simp,hB2,fun p hp=>by
        rcases zai.1 hp with rfl | hp
        ·exact hx
        ·exact hCQ p hp⟩
      ·exact ⟨B2++[x],C'++Q,rfl,fun p hp=>by
        rcases zao.1 hp with hp | hp
        ·exact hB2 p hp
        ·simp only [zan] at hp; subst hp; exact ani hx,hCQ⟩
    have:A'++T++(B'++S++(C'++Q))=A2++(B3++C3):=by
     rw [← hbc,← zbi,← zbi,← zbi,← zbi,hab];simp
    rw [this];exact ah6 hA2 hB3 hC3
theorem a1p {f g:P2→Bool} {l:List P2} (h:Uni f l):Uni f (l.filter g):=by
 obtain ⟨v,A,B,C,rfl,hA,hB,hC⟩:=h;rw [zbh,zbh];exact ah6 (fun p hp=>hA p (List.mem_filter.1 hp).1) (fun p hp=>hB p (List.mem_filter.1 hp).1) fun p hp=>hC p (List.mem_filter.1 hp).1
def aqj (rg:List P2):Prop:=∀a c,Uni (thr a c) rg
theorem a9t {l:Lin} (hl:l.ok) {rg:List P2} (h:aqj rg):aqj (x6 l rg):=fun a c=>by
 cases hr:rg.head? with
 | none=>
  have:rg=[]:=by cases rg with
   | nil=>rfl
   | cons=>simp at hr
  subst this;exact ah6 (v:=true) (A:=[]) (B:=[]) (C:=[]) (by simp) (by simp) (by simp)
 | some p=>
  rw [ab8 l hl rg p hr];exact a1p (bca hl a c hr (h a c))
theorem xz {l:Lin} (nx:P2) (K:P2→Bool) (hK:∀p q,fi l p q=true→K p≠K q) (v:Bool):∀(A:List P2),(∀p∈A,K p=v)→((cu l (prs nx A)).filter K).length≤(if v=true then A.length else 0)+(if K nx=v then 0 else 1)∧(A=[]→(cu l (prs nx A)).filter K=[])
 | [],_=>by simp [cu,prs]
 | [p],h=>by
  have hp:=h p (by simp);refine ⟨?_,by simp⟩;rw [show cu l (prs nx [p])=p::qh l p nx by simp [cu,prs],List.filter_cons,hp]
  have hi:(qh l p nx).length≤if K nx=v then 0 else 1:=by
   unfold qh;split
   ·rename_i hb;have:=hK p nx hb;rw [if_neg (fun e=>this (by rw [hp,e]))];simp
   ·simp
  have hf:=List.length_filter_le K (qh l p nx);cases v with
  | true=>simp only [if_true,zah,zab]; omega
  | false=>simp only [zbe,if_false]; omega
 | p::q::r,h=>by
  have hp:=h p (by simp);have hq:=h q (by simp);obtain ⟨ih,_⟩:=xz nx K hK v (q::r) fun x hx=>h x (by simp at hx ⊢; exact .inr hx);refine ⟨?_,by simp⟩
  have hi:qh l p q=[]:=by
   unfold qh;split
   ·rename_i hb;exact absurd (hp.trans hq.symm) (hK p q hb)
   ·rfl
  rw [prs,show cu l ((p,q)::prs nx (q::r))=p::(qh l p q++cu l (prs nx (q::r))) by simp [cu],hi,zbf,List.filter_cons,hp];cases v with
  | true=>simp only [if_true,zah] at ih ⊢; omega
  | false=>simp only [zbe,if_false] at ih ⊢; exact ih
theorem beg {l:Lin} (hl:l.ok) {rg:List P2} (h:aqj rg):(x6 l rg).length≤rg.length+1:=by
 have hKd:∀p q,fi l p q=true→p9 l p≠p9 l q:=fun p q hb=>by
  unfold fi at hb;unfold p9;simp only [Bool.or_eq_true,Bool.and_eq_true,decide_eq_true_eq] at hb;split
  ·rcases hb with hb | hb
   ·rw [decide_eq_false (by omega),decide_eq_true (by omega)]; simp
   ·rw [decide_eq_true (by omega),decide_eq_false (by omega)]; simp
  ·rcases hb with hb | hb
   ·rw [decide_eq_true (by omega),decide_eq_false (by omega)]; simp
   ·rw [decide_eq_false (by omega),decide_eq_true (by omega)]; simp
 have hu:Uni (p9 l) rg:=by
  unfold p9;cases ha:l.above with
  | true=>
   obtain ⟨v,A,B,C,e,h1,h2,h3⟩:=h l.axis (l.at'-1)
   have key:∀p,(if true=true then decide (sel l.axis p≥l.at') else decide (sel l.axis p≤l.at'))=!thr l.axis (l.at'-1) p:=fun p=>by
    unfold thr;rw [if_pos rfl];by_cases hq:sel l.axis p≥l.at'
    ·rw [decide_eq_true hq,decide_eq_false (by omega)]; rfl
    ·rw [decide_eq_false hq,decide_eq_true (by omega)]; rfl
   exact ⟨!v,A,B,C,e,fun p hp=>(key p).trans (by rw [h1 p hp]),fun p hp=>(key p).trans (by rw [h2 p hp]),fun p hp=>(key p).trans (by rw [h3 p hp])⟩
  | false=>
   have:=h l.axis l.at';exact this
 cases hr:rg.head? with
 | none=>
  have:rg=[]:=by cases rg with
   | nil=>rfl
   | cons=>simp at hr
  subst this;simp [x6,z9]
 | some h0=>
  rw [ab8 l hl rg h0 hr];generalize p9 l=K at hKd hu ⊢;obtain ⟨v,A,B,C,rfl,hA,hB,hC⟩:=hu
  have two:∀(v:Bool) (A B:List P2),(∀p∈A,K p=v)→(∀p∈B,K p=!v)→(A++B).head?=some h0→((cu l (prs h0 (A++B))).filter K).length≤(A++B).length+1:=fun v A B hA hB hh=>by
   cases B with
   | nil=>
    rw [zaw] at hh ⊢;have:=(xz h0 K hKd v A hA).1;have hv:K h0=v:=hA h0 (List.mem_of_mem_head? hh);rw [if_pos hv] at this;split at this<;>omega
   | cons b B=>
    rw [abj,abi,zbh,zam,zam];cases A with
    | nil=>
     have h1:h0=b:=by simpa using hh.symm
     subst h1;have k2:=(xz h0 K hKd (!v) (h0::B) hB).1;rw [if_pos (hB h0 (by simp))] at k2;simp only [prs,cu,List.flatMap_nil,List.filter_nil,zab];have:((cu l (prs h0 (h0::B))).filter K).length≤(h0::B).length+1:=by split at k2<;>omega
     simp only [cu] at this;omega
    | cons a0 A=>
     have h1:h0=a0:=by simpa using hh.symm
     subst h1;have k1:=(xz b K hKd v (h0::A) hA).1;have k2:=(xz h0 K hKd (!v) (b::B) hB).1;simp only [zah] at k1 k2 ⊢;cases v<;>simp only [if_true,zbs,Bool.not_true,zbe,if_false] at k1 k2<;>(split at k1<;>split at k2<;>omega)
  cases C with
  | nil=>rw [zaw] at hr ⊢; exact two v A B hA hB hr
  | cons c0 C=>
   cases B with
   | nil=>
    have:=two v (A++(c0::C)) [] (fun p hp=>(zao.1 hp).elim (hA p) (hC p)) (by simp) (by simpa using hr);simpa using this
   | cons b B=>
    cases A with
    | nil=>
     have:=two (!v) (b::B) (c0::C) hB (by rw [Bool.not_not]; exact hC) (by simpa using hr);simpa using this
    | cons a0 A=>
     have h1:h0=a0:=by simpa using hr.symm
     subst h1;rw [show (b::B)++(c0::C)=b::(B++c0::C) from rfl,abj,abi,zbh];rw [show b::(B++c0::C)=(b::B)++c0::C from rfl,abj,abi,zbh];have k1:=(xz b K hKd v (h0::A) hA).1;have k2:=(xz c0 K hKd (!v) (b::B) hB).1;have k3:=(xz h0 K hKd v (c0::C) hC).1;rw [if_pos (hA h0 (by simp))] at k3;simp only [zam,zah] at k1 k2 k3 ⊢;cases v<;>simp only [if_true,zbs,Bool.not_true,zbe,if_false] at k1 k2 k3<;>(split at k1<;>split at k2<;>omega)
theorem auc {lo hi:P2} {rg:List P2} (h:aqj rg):∀i,i≤4→aqj (fj lo hi rg i)∧(fj lo hi rg i).length≤rg.length+i
 | 0,_=>⟨h,by simp [fj]⟩
 | i+1,hi'=>by
  obtain ⟨h1,h2⟩:=auc (lo:=lo) (hi:=hi) h i (by omega);obtain ⟨l,hl⟩:∃l,(kg lo hi)[i]?=some l:=⟨(kg lo hi)[i]'(by simp [kg]; omega),by simp [kg,show i<4 by omega]⟩
  have hok:l.ok:=by
   have:=zal hl;simp only [kg,zai,List.not_mem_nil,or_false] at this;rcases this with rfl | rfl | rfl | rfl
   ·exact .inl rfl
   ·exact .inl rfl
   ·exact .inr rfl
   ·exact .inr rfl
  have e:fj lo hi rg (i+1)=x6 l (fj lo hi rg i):=by
   unfold fj;rw [zat,hl,List.foldl_append]
   rfl
  rw [e];have:=beg hok h1;exact ⟨a9t hok h1,by omega⟩

def acr:Mk P0 f245:={ x:=_ }
theorem ahj:d5 245 1 acr:=c8 func245
def aaf:Mk P0 f228:={ x:=_ }
theorem afj:d5 228 2 aaf:=c8 func228
def ln:Mk P0 f184:={ x:=_ }
theorem vr:d5 184 2 ln:=c8 func184
def yh:Mk P0 f130:={ x:=_ }
theorem aed:d5 130 2 yh:=c8 func130
def adk (x y:Int):Int:=if x<y then -1 else if y<x then 1 else 0
theorem a6c (x:Int):a8 P0 245 [int .i64 x] [] (bl false) []:=by
 refine ahj rfl (by decide) ?_;have h:(x != x)=false:=by simp
 push_cast [acr,h,zab]
theorem a63 (x y:Int):a8 P0 228 [int .i64 x,int .i64 y] [] (int .i64 (adk x y)) []:=by
 refine afj rfl (by decide) ?_;unfold adk
 push_cast [aaf,zab]
 refine a7 (a6c x) rfl trivial ?_
 push_cast
 refine a7 (a6c y) rfl trivial ?_
 push_cast
 refine b9 (fun h1=>?_) (fun h1=>?_)
 ·rw [if_pos (of_decide_eq_true h1)]
  push_cast
 ·have h1:=of_decide_eq_false h1;rw [if_neg h1]
  push_cast
  refine b9 (fun h2=>?_) (fun h2=>?_)
  ·rw [if_pos (of_decide_eq_true h2)]
   push_cast
  ·rw [if_neg (of_decide_eq_false h2)]
   push_cast
def aqe (p q:P2):Int:=if adk p.1 q.1≠0 then adk p.1 q.1 else adk p.2 q.2
theorem bf1 (p q:P2):a8 P0 184 [.own 1000000 0 0 2,.own 1000001 0 0 2] [.box [int .i64 p.1,int .i64 p.2],.box [int .i64 q.1,int .i64 q.2]] (int .i64 (aqe p q)) [.box [int .i64 p.1,int .i64 p.2],.box [int .i64 q.1,int .i64 q.2]]:=by
 refine vr rfl (by simp) ?_;simp only [ln,push_cast,↓reduceIte,reduceCtorEq,zB,zE,zA,zS,zL,zD,zM]
 refine run_loop [(0,false),(1,false),(9,false),(10,false),(11,false)] (fun vs pos los=>∃i:Nat,i≤2∧(1≤i→adk p.1 q.1=0)∧(2≤i→adk p.2 q.2=0)∧vs=[.own 1000000 0 0 2,.own 1000001 0 0 2,.own 1000000 0 0 2,int .i64 2,int .i64 i]∧pos=[.box [int .i64 p.1,int .i64 p.2],.box [int .i64 q.1,int .i64 q.2]]∧los=[])
  (fun vs _ _=>match vs with | [_,_,_,_,.r (.v (.int _ a))]=>(2-a).toNat | _=>0) rfl ?_ ?_
 ·simp only [push_cast,↓reduceIte,reduceCtorEq,zB,zE,zA,zS,zL,zD,zM];exact ⟨0,by omega,by omega,by omega,rfl⟩
 ·rintro vs pos los ⟨i,hi,k1,k2,rfl,rfl,rfl⟩;have d:∀k:Nat,k<2→decide (((k:Nat):Int)<2)=true∧decide (((k:Nat):Int)≥2)=false:=fun k hk=>⟨decide_eq_true (by omega),decide_eq_false (by omega)⟩
  rcases (show i=0∨i=1∨i=2 by omega) with rfl | rfl | rfl
  ·have d1:=(d 0 (by omega)).1;have d2:=(d 0 (by omega)).2;have t0:zas ((0:Nat):Int)=0:=rfl;have w1:IntKind.i64.wrap (((0:Nat):Int)+1)=((1:Nat):Int):=rfl;have z1:decide ((0:Int)<2)=true:=rfl;have z2:decide ((0:Int)≥2)=false:=rfl;have z0:zas (0:Int)=0:=rfl;have zw:IntKind.i64.wrap ((0:Int)+1)=1:=rfl;simp only [z1,z2,z0,zw,push_cast,↓reduceIte,reduceCtorEq,zB,zE,zA,zS,zL,zD,zM]
   repeat refine And.intro (by first | decide | omega | exact fun _=>by decide | (simp +contextual; done) | kernel_rfl) ?_
   refine a7 (a63 p.1 q.1) rfl trivial ?_;simp only [push_cast,↓reduceIte,reduceCtorEq,zB,zE,zA,zS,zL,zD,zM];refine b9 (fun hc=>?_) (fun hc=>?_)
   ·have hc:adk p.1 q.1≠0:=by simpa using hc
    simp only [push_cast,↓reduceIte,reduceCtorEq,zB,zE,zA,zS,zL,zD,zM];unfold aqe;rw [if_pos hc]
   ·have hc:adk p.1 q.1=0:=by simpa using hc
    simp only [zw,push_cast,↓reduceIte,reduceCtorEq,zB,zE,zA,zS,zL,zD,zM];exact ⟨⟨1,by omega,fun _=>hc,by omega,rfl⟩,by omega⟩
  ·have z1:decide ((1:Int)<2)=true:=rfl;have z2:decide ((1:Int)≥2)=false:=rfl;have z0:zas (1:Int)=1:=rfl;have zw:IntKind.i64.wrap ((1:Int)+1)=2:=rfl;simp only [z1,z2,z0,zw,push_cast,↓reduceIte,reduceCtorEq,zB,zE,zA,zS,zL,zD,zM]
   repeat refine And.intro (by first | decide | omega | exact fun _=>by decide | (simp +contextual; done) | kernel_rfl) ?_
   refine a7 (a63 p.2 q.2) rfl trivial ?_;simp only [push_cast,↓reduceIte,reduceCtorEq,zB,zE,zA,zS,zL,zD,zM];refine b9 (fun hc=>?_) (fun hc=>?_)
   ·have hc:adk p.2 q.2≠0:=by simpa using hc
    simp only [push_cast,↓reduceIte,reduceCtorEq,zB,zE,zA,zS,zL,zD,zM];unfold aqe;rw [if_neg (by rw [k1 (by omega)]; simp)]
   ·have hc:adk p.2 q.2=0:=by simpa using hc
    simp only [zw,push_cast,↓reduceIte,reduceCtorEq,zB,zE,zA,zS,zL,zD,zM];exact ⟨⟨2,by omega,fun _=>k1 (by omega),fun _=>hc,rfl⟩,by omega⟩
  ·have z1:decide ((2:Int)<2)=false:=rfl;simp only [z1,push_cast,↓reduceIte,reduceCtorEq,zB,zE,zA,zS,zL,zD,zM];unfold aqe;rw [if_neg (by rw [k1 (by omega)]; simp),k2 (by omega)]
theorem a7o (p q:P2):a8 P0 130 [pv2 p,pv2 q] [] (int .i64 (aqe p q)) []:=by
 have hmax:=k7;refine aed rfl (by decide) ?_
 push_cast [yh,pv2,pnt,zab]
 refine ⟨by omega,by omega,?_⟩;refine d9 (bf1 p q) rfl ⟨rfl,rfl,trivial⟩ ?_
 push_cast
 kernel_rfl

def qg:Mk P0 f220:={ x:=_ }
theorem uz:d5 220 4 qg:=c8 func220
def ltP (p q:P2):Bool:=decide (aqe p q<0)
def mo (x:P2):List P2→List P2
 | []=>[x]
 | e::r=>if ltP x e=true then e::mo x r else x::e::r
def ac8 (l:List P2):List P2:=l.foldl (fun s x=>mo x s) []
def y7 (l:List P2):List P2:=(ac8 l).reverse
theorem axy (x:P2):∀s,(mo x s).length=s.length+1
 | []=>rfl
 | e::r=>by
  rw [mo];split
  ·simp [axy x r]
  ·simp
theorem acg (l:List P2) (p:P2):ac8 (l++[p])=mo p (ac8 l):=by simp [ac8]
theorem awo (l:List P2):(ac8 l).length=l.length:=by
 refine nh (P:=fun l=>(ac8 l).length=l.length) rfl (fun l p ih=>?_) l;rw [acg,axy,ih,zam]
 rfl
theorem ach (l:List P2):(y7 l).length=l.length:=by rw [y7,List.length_reverse,awo]
def agF:AV:=.fn (.func 130) [] 0
def o4 (l:List P2):Ob:=.row 2 (pnt 0 0) false true (l.map ptR)
theorem bcp (A T:List P2) (e x:P2):(((A++e::x::T).map ptR).set (A.length+1) (ptR e)).set A.length (ptR x)=(A++x::e::T).map ptR:=by
 have h1:(A++e::x::T).set (A.length+1) e=A++e::e::T:=by simp
 have h2:(A++e::e::T).set A.length x=A++x::e::T:=by simp
 rw [← zbo,h1,← zbo,h2]
theorem ab4 (A T:List P2) (e:P2) (z:RV):((A++e::T).map ptR).getD A.length z=ptR e:=by
 rw [zak]; simp
theorem av1 (A T:List P2) (e x:P2) (z:RV):((A++e::x::T).map ptR).getD (A.length+1) z=ptR x:=by
 rw [zak]; simp
set_option maxHeartbeats 4000000 in
theorem bg6 (l:List P2) (hl:1≤l.length∧l.length≤1000):a8 P0 220 [.own 1000000 0 0 l.length,int .i64 0,int .i64 l.length,agF] [o4 l] (.tup []) [o4 (y7 l)]:=by
 refine uz rfl (by simp) ?_;have hfn:zp P0 130=true:=rfl;have w0:IntKind.i64.wrap ((0:Int)+1)=1:=rfl
 push_cast [qg,agF,o4,w0,zab,zah]
 refine run_loop [(0,false),(1,false),(2,false),(3,false),(8,false)] (fun vs pos los=>∃i:Nat,1≤i∧i≤l.length∧vs=[.own 1000000 0 0 l.length,int .i64 0,int .i64 l.length,agF,int .i64 i]∧pos=[o4 (y7 (l.take i)++l.drop i)]∧los=[])
  (fun vs _ _=>match vs with | [_,_,_,_,.r (.v (.int _ a))]=>(l.length-a).toNat | _=>0) rfl ?_ ?_
 ·push_cast
  obtain ⟨p,r,rfl⟩:∃p r,l=p::r:=by
   cases l with
   | nil=>simp at hl
   | cons p r=>exact ⟨p,r,rfl⟩
  exact ⟨1,by omega,by omega,rfl,rfl⟩
 ·rintro vs pos los ⟨i,i1,i2,rfl,rfl,rfl⟩
  push_cast [agF,o4]
  refine b9 (fun hi=>?_) (fun hi=>?_)
  ·have hi:i<l.length:=by have:=of_decide_eq_true hi; omega
   have wi:IntKind.i64.wrap ((i:Int)+1)=(i:Int)+1:=a5 (by omega);obtain ⟨x,hx⟩:∃x,l[i]=x:=⟨_,rfl⟩
   have htk:l.take (i+1)=l.take i++[x]:=by rw [List.take_succ_eq_append_getElem hi,hx]
   have hdr:l.drop i=x::l.drop (i+1):=by rw [List.drop_eq_getElem_cons hi,hx]
   obtain ⟨s,hs⟩:∃s,ac8 (l.take i)=s:=⟨_,rfl⟩
   have hsl:s.length=i:=by rw [← hs,awo,zbw]; omega
   have hsort:y7 (l.take i)=s.reverse:=by rw [y7,hs]
   have hsort2:y7 (l.take (i+1))=(mo x s).reverse:=by rw [y7,htk,acg,hs]
   obtain ⟨D,hD⟩:∃D,l.drop (i+1)=D:=⟨_,rfl⟩
   rw [hsort,hdr,hD]
   push_cast
   refine run_loop [(0,false),(1,false),(2,false),(3,false),(8,false),(9,false)] (fun vs pos los=>∃(m r:List P2),s=m++r∧mo x s=m++mo x r∧vs=[.own 1000000 0 0 l.length,int .i64 0,int .i64 l.length,agF,int .i64 i,int .i64 r.length]∧pos=[o4 (r.reverse++x::(m.reverse++D))]∧los=[])
    (fun vs _ _=>match vs with | [_,_,_,_,_,.r (.v (.int _ a))]=>a.toNat | _=>0) rfl ?_ ?_
   ·push_cast [agF,o4]
    exact ⟨[],s,rfl,rfl,by rw [hsl],rfl⟩
   ·rintro vs pos los ⟨m,r,hm,hins,rfl,rfl,rfl⟩
    have hend:∀T,T=r.reverse++x::(m.reverse++D)→mo x r=x::r→T=y7 (l.take (i+1))++D:=fun T hT hr=>by
     rw [hT,hsort2,hins,hr];simp
    cases r with
    | nil=>
     have z0:decide ((0:Int)>0)=false:=rfl
     push_cast [agF,o4,z0,wi,zab]
     refine And.intro (by kernel_rfl) ⟨⟨i+1,by omega,by omega,by simp,?_⟩,by omega⟩;rw [hend _ rfl rfl,hD]
    | cons e r=>
     have hrl:r.length<i:=by rw [← hsl,hm]; simp; omega
     have z1:decide (((r.length:Nat):Int)+1>0)=true:=decide_eq_true (by omega);have wj:IntKind.i64.wrap (((r.length:Nat):Int)+1-1)=(r.length:Int):=by rw [a5 (by omega)]; omega
     have hag:=a7o x e;have hR:(e::r).reverse++x::(m.reverse++D)=r.reverse++e::x::(m.reverse++D):=by simp
     obtain ⟨T,hT⟩:∃T,m.reverse++D=T:=⟨_,rfl⟩
     obtain ⟨A,hA⟩:∃A,r.reverse=A:=⟨_,rfl⟩
     have hAl:A.length=r.length:=by rw [← hA]; simp
     rw [hR,hT,hA];have ge:=ab4 A (x::T) e;have gx:=av1 A T e x;rw [hAl] at ge gx;have hpe:ptR e=.agg [.v (.int .i64 e.1),.v (.int .i64 e.2)]:=rfl;have hpx:ptR x=.agg [.v (.int .i64 x.1),.v (.int .i64 x.2)]:=rfl
     push_cast [agF,o4,z1,wj,ge,gx,hpe,hpx,hfn,zah,zaf,zaj,zac]
     refine ⟨⟨by omega,by omega⟩,⟨by omega,by omega⟩,?_⟩;refine q8 (as':=[pv2 x,pv2 e]) rfl ?_;refine d9 hag rfl trivial ?_
     push_cast [agF,o4,z1,wj,ge,gx,hpe,hpx,hfn,zah,zaf,zaj,zac]
     refine And.intro (by kernel_rfl) ?_;refine b9 (fun hc=>?_) (fun hc=>?_)
     ·have hlt:ltP x e=true:=hc;have hset:=bcp A T e x;rw [hAl,hpe,hpx] at hset
      have ge2:∀z,(((A++e::x::T).map ptR).set (r.length+1) (.agg [.v (.int .i64 e.1),.v (.int .i64 e.2)])).getD r.length z=.agg [.v (.int .i64 e.1),.v (.int .i64 e.2)]:=fun z=>by
       rw [zak,List.getElem?_set_ne (by omega),← zak,ge];exact hpe
      push_cast [agF,o4,wj,ge,gx,ge2,hpe,hpx,hset,d7,zah,zaf,zaj,zac]
      repeat refine And.intro (by first | exact ⟨by omega,by omega⟩ | kernel_rfl) ?_
      refine ⟨⟨m++[e],r,by rw [hm]; simp,by rw [hins,mo,if_pos hlt]; simp,by simp,?_⟩,by omega⟩;rw [← hA,← hT];simp
     ·have hlt:ltP x e=false:=hc
      push_cast [wi]
      refine ⟨⟨i+1,by omega,by omega,by simp,?_⟩,by omega⟩;have:=hend (A++e::x::T) (by rw [← hA,← hT]; simp) (by rw [mo,hlt]; rfl);rw [this,hD]
  ·have hi:i=l.length:=by have:=of_decide_eq_false hi; omega
   subst hi
   push_cast
   rw [zby,List.drop_length,zaw]

def rf:Mk P0 f183:={ x:=_ }
theorem vw:d5 183 5 rf:=c8 func183
def qw:Mk P0 f129:={ x:=_ }
theorem vq:d5 129 2 qw:=c8 func129
def adq:Mk P0 f133:={ x:=_ }
theorem aie:d5 133 1 adq:=c8 func133
def a3i (n:Nat):Nat:=if n=0 then 0 else Nat.log2 n+1
theorem a9v (n:Nat) (hn:n<16):a8 P0 214 [int .u64 n] [] (int .i64 (a3i n)) []:=by
 refine adu rfl (by decide) ?_;have g1:decide ((n:Int)≥4294967296)=false:=by simp; omega
 have g2:decide ((n:Int)≥65536)=false:=by simp; omega
 have g3:decide ((n:Int)≥256)=false:=by simp; omega
 have w:IntKind.u8.wrap (n:Int)=n:=by simp [IntKind.wrap,IntKind.bits,IntKind.signed]; omega
 push_cast [adl,g1,g2,g3,w,zaf,zab]
 refine ⟨⟨by omega,(show (n:Int)<((256:Nat):Int) by omega)⟩,?_⟩;refine congrArg (fun z=>AV.r (.v (.int .i64 z))) ?_;clear g1 g2 g3 w
 revert n
 decide +kernel
theorem a6d (n:Nat) (hn:n<16):a8 P0 169 [int .u64 n] [] (int .i64 (a3i n)) []:=by
 refine ag2 rfl (by decide) ?_;have w:IntKind.u64.wrap (n:Int)=n:=by rw [IntKind.wrap_u64]; omega
 push_cast [ahp,w,zab]
 refine a7 (a9v n hn) rfl trivial ?_
 push_cast
theorem bgf (l:List P2) (hl:1≤l.length∧l.length≤12) (lim:Int):a8 P0 183 [.own 1000000 0 0 l.length,int .i64 0,int .i64 l.length,int .i64 lim,agF] [o4 l] (.tup []) [o4 (y7 l)]:=by
 refine vw rfl (by simp) ?_
 push_cast [rf,agF,o4,zab,zah]
 refine run_loop [(0,false),(1,false),(2,false),(3,false),(4,false),(10,false),(11,false)] (fun vs pos los=>vs=[.own 1000000 0 0 l.length,int .i64 0,int .i64 l.length,int .i64 lim,agF,bl true,bl true]∧pos=[o4 l]∧los=[])
  (fun _ _ _=>0) rfl ?_ ?_
 ·push_cast [agF,o4]
 ·rintro vs pos los ⟨rfl,rfl,rfl⟩;have w0:IntKind.i64.wrap ((l.length:Int)-0)=(l.length:Int):=by rw [a5 (by omega)]; omega
  have d0:decide ((l.length:Int)≤12)=true:=decide_eq_true (by omega)
  push_cast [agF,o4,w0,d0]
  refine ag1 ?_
  push_cast
  refine b7 (as':=[.own 1000000 0 0 l.length,int .i64 0,int .i64 l.length,agF]) rfl ?_;refine a7 (po:=[o4 l]) (bg6 l (by omega)) rfl ⟨⟨rfl,by simp [ach]⟩,trivial⟩ ?_
  push_cast [o4,zah,zab]
theorem bfq (l:List P2) (hl:1≤l.length∧l.length≤12):a8 P0 129 [.own 1000000 0 0 l.length,agF] [o4 l] (.tup []) [o4 (y7 l)]:=by
 refine vq rfl (by simp) ?_;have w:IntKind.u64.wrap ((l.length:Nat):Int)=(l.length:Int):=by rw [IntKind.wrap_u64]; omega
 push_cast [qw,agF,o4,w,zab,zah]
 refine a7 (a6d l.length (by omega)) rfl trivial ?_
 push_cast
 refine ag1 ?_
 push_cast
 refine b7 (as':=[.own 1000000 0 0 l.length,int .i64 0,int .i64 l.length,int .i64 (a3i l.length),agF]) rfl ?_;refine a7 (po:=[o4 l]) (bgf l hl _) rfl ⟨⟨rfl,by simp [ach]⟩,trivial⟩ ?_
 push_cast [o4,zah,zab]
set_option maxHeartbeats 2000000 in
theorem bhc (l G:List P2) (hl:l.length≤1000):a8 P0 133 [.own 1000000 0 0 l.length] [o4 (l++G)] (.tup []) [o4 (l.reverse++G)]:=by
 refine aie rfl (by simp) ?_;have w0:IntKind.i64.wrap ((l.length:Int)-1)=(l.length:Int)-1:=a5 (by omega)
 push_cast [adq,o4,w0,zab,zah]
 refine run_loop [(0,false),(2,false),(3,false)] (fun vs pos los=>∃(A M B:List P2),A.length=B.length∧l.reverse=A++(M.reverse++B)∧vs=[.own 1000000 0 0 l.length,int .i64 A.length,int .i64 ((l.length:Int)-1-A.length)]∧pos=[o4 (A++(M++(B++G)))]∧los=[])
  (fun vs _ _=>match vs with | [_,_,.r (.v (.int _ a))]=>a.toNat | _=>0) rfl ?_ ?_
 ·push_cast [o4]
  refine ⟨[],l,[],rfl,by simp,?_,?_⟩
  ·simp
  ·simp
 ·rintro vs pos los ⟨A,M,B,hAB,hrev,rfl,rfl,rfl⟩
  have hlen:l.length=A.length+(M.length+B.length):=by
   have:=congrArg List.length hrev;simpa using this
  push_cast [o4]
  refine b9 (fun hc=>?_) (fun hc=>?_)
  ·have hc:=of_decide_eq_true hc
   obtain ⟨p,M',q,rfl⟩:∃p M' q,M=p::(M'++[q]):=by
    cases M with
    | nil=>simp at hlen; omega
    | cons p M=>
     rcases List.eq_nil_or_concat M with rfl | ⟨M',q,rfl⟩
     ·simp at hlen; omega
     ·exact ⟨p,M',q,by simp⟩
   obtain ⟨J,hJ⟩:∃J:Nat,J=A.length+M'.length+1:=⟨_,rfl⟩
   simp only [zah,zam,zab] at hlen;have hj:((l.length:Nat):Int)-1-(A.length:Int)=(J:Int):=by omega
   obtain ⟨T,hT⟩:∃T,B++G=T:=⟨_,rfl⟩
   have hrow:A++(p::(M'++[q])++(B++G))=A++p::(M'++q::T):=by rw [hT]; simp
   have gp:∀z,((A++p::(M'++q::T)).map ptR).getD A.length z=.agg [.v (.int .i64 p.1),.v (.int .i64 p.2)]:=fun z=>ab4 A _ p z
   have gq:∀z,((A++p::(M'++q::T)).map ptR).getD J z=.agg [.v (.int .i64 q.1),.v (.int .i64 q.2)]:=fun z=>by
    have:=ab4 (A++p::M') T q z;rw [show A++p::(M'++q::T)=(A++p::M')++q::T by simp,hJ];simp only [zam,zah] at this;rw [show A.length+M'.length+1=A.length+(M'.length+1) by omega];exact this
   have s1:((A++p::(M'++q::T)).map ptR).set A.length (.agg [.v (.int .i64 q.1),.v (.int .i64 q.2)])=(A++q::(M'++q::T)).map ptR:=by
    rw [show (RV.agg [.v (.int .i64 q.1),.v (.int .i64 q.2)])=ptR q from rfl,← zbo];congr 1;simp
   have gq2:∀z,((A++q::(M'++q::T)).map ptR).getD J z=.agg [.v (.int .i64 q.1),.v (.int .i64 q.2)]:=fun z=>by
    have:=ab4 (A++q::M') T q z;rw [show A++q::(M'++q::T)=(A++q::M')++q::T by simp,hJ];simp only [zam,zah] at this;rw [show A.length+M'.length+1=A.length+(M'.length+1) by omega];exact this
   have s2:((A++q::(M'++q::T)).map ptR).set J (.agg [.v (.int .i64 p.1),.v (.int .i64 p.2)])=(A++q::(M'++p::T)).map ptR:=by
    rw [show (RV.agg [.v (.int .i64 p.1),.v (.int .i64 p.2)])=ptR p from rfl,← zbo];congr 1
    have h1:((A++q::M')++q::T).set J p=(A++q::M')++p::T:=by
     rw [show J=(A++q::M').length by simp; omega];simp
    rw [show A++q::(M'++q::T)=(A++q::M')++q::T by simp,h1];simp
   have wi:IntKind.i64.wrap ((A.length:Int)+1)=(A.length:Int)+1:=a5 (by omega);have wj:IntKind.i64.wrap ((J:Int)-1)=(J:Int)-1:=a5 (by omega);rw [hj,hrow]
   push_cast [o4,gp,gq,gq2,s1,s2,wi,wj,d7,zaf,zaj,zac]
   repeat refine And.intro (by first | exact ⟨by omega,by omega⟩ | kernel_rfl) ?_
   refine ⟨⟨A++[q],M',p::B,by simp; omega,by rw [hrev]; simp,?_,?_⟩,by omega⟩
   ·simp;omega
   ·rw [← hT]; simp
  ·have hc:=of_decide_eq_false hc
   push_cast
   rw [hrev]
   have hM:M.reverse=M:=by
    rcases M with _ | ⟨p,_ | ⟨q,M⟩⟩
    ·rfl
    ·rfl
    ·simp at hlen; omega
   rw [hM];simp

def rr:Mk P0 f131:={ x:=_ }
theorem vy:d5 131 1 rr:=c8 func131
def mr (u:P2):List P2→List P2
 | []=>[]
 | q::r=>if q=u then mr u r else q::mr q r
def cd:List P2→List P2
 | []=>[]
 | p::r=>p::mr p r
theorem aqd:∀(u:P2) (l:List P2),(mr u l).length≤l.length
 | u,[]=>zav _
 | u,q::r=>by
  rw [mr];split
  ·have:=aqd u r; simp; omega
  ·have:=aqd q r; simp; omega
theorem amn (l:List P2):(cd l).length≤l.length:=by
 cases l with
 | nil=>exact zav _
 | cons p r=>have:=aqd p r; simp [cd]; exact this
theorem bbv (p q:P2):(p.1 == q.1&&p.2 == q.2)=decide (p=q):=by
 rw [Bool.eq_iff_iff];simp [Prod.ext_iff]
theorem bcm (o W:List P2) (k n:Nat) (hk:k=o.length) (hn:n=W.length):spl ((o++W).map ptR) k (zca n (.agg [.v (.int .i64 0),.v (.int .i64 0)]))=(o++zca n (0,0)).map ptR:=by
 subst hk; subst hn;unfold spl d7;rw [zbg,List.take_left' (by simp),List.drop_of_length_le (by simp),zaw,zbg,List.map_replicate]
 rfl
set_option maxHeartbeats 4000000 in
theorem bhu (l:List P2) (hl:1≤l.length∧l.length≤1000):a8 P0 131 [.own 1000000 0 0 l.length] [o4 l] (.own 1000000 0 0 (cd l).length) [o4 (cd l++zca (l.length-(cd l).length) (0,0))]:=by
 refine vy rfl (by simp) ?_;simp only [rr,o4,push_cast,↓reduceIte,reduceCtorEq,zB,zE,zA,zS,zL,zD,zM];refine b9 (fun h2=>?_) (fun h2=>?_)
 ·have h2:=of_decide_eq_true h2
  obtain ⟨p,rfl⟩:∃p,l=[p]:=by
   rcases l with _ | ⟨p,_ | ⟨q,r⟩⟩
   ·simp at hl
   ·exact ⟨p,rfl⟩
   ·simp at h2; omega
  simp only [push_cast,↓reduceIte,reduceCtorEq,zB,zE,zA,zS,zL,zD,zM];exact ⟨rfl,rfl⟩
 ·have h2:=of_decide_eq_false h2;simp only [push_cast,↓reduceIte,reduceCtorEq,zB,zE,zA,zS,zL,zD,zM]
  refine run_loop [(0,false),(3,false)] (fun vs pos los=>∃(A:List P2) (x:P2) (T:List P2),l=A++x::T∧cd l=A++x::mr x T∧vs=[.own 1000000 0 0 l.length,int .i64 ((A.length:Int)+1)]∧pos=[o4 (A++x::T)]∧los=[])
   (fun vs _ _=>match vs with | [_,.r (.v (.int _ a))]=>(l.length-a).toNat | _=>0) rfl ?_ ?_
  ·simp only [o4,push_cast,↓reduceIte,reduceCtorEq,zB,zE,zA,zS,zL,zD,zM]
   obtain ⟨p,r,rfl⟩:∃p r,l=p::r:=by
    cases l with
    | nil=>simp at hl
    | cons p r=>exact ⟨p,r,rfl⟩
   exact ⟨[],p,r,rfl,rfl,rfl,rfl⟩
  ·rintro vs pos los ⟨A,x,T,hlA,hcA,rfl,rfl,rfl⟩;have hlen:l.length=A.length+1+T.length:=by rw [hlA]; simp; omega
   simp only [o4,push_cast,↓reduceIte,reduceCtorEq,zB,zE,zA,zS,zL,zD,zM];cases T with
   | nil=>
    have z0:decide (((A.length:Nat):Int)+1<((l.length:Nat):Int))=false:=decide_eq_false (by simp at hlen; omega);simp only [z0,push_cast,↓reduceIte,reduceCtorEq,zB,zE,zA,zS,zL,zD,zM];rw [hcA];have h1:(A++x::mr x []).length=l.length:=by rw [hlA]; rfl
    rw [h1,Nat.sub_self];simp [mr]
   | cons y T=>
    simp only [zah] at hlen;have z0:decide (((A.length:Nat):Int)+1<((l.length:Nat):Int))=true:=decide_eq_true (by omega);have wk:IntKind.i64.wrap (((A.length:Nat):Int)+1-1)=(A.length:Int):=by rw [a5 (by omega)]; omega
    have wk2:IntKind.i64.wrap (((A.length:Nat):Int)+1+1)=(A.length:Int)+2:=by
     have:A.length<1000:=by omega
     rw [a5 (by omega)]; omega
    have gx:∀z,((A++x::y::T).map ptR).getD A.length z=.agg [.v (.int .i64 x.1),.v (.int .i64 x.2)]:=fun z=>ab4 A _ x z;have gy:∀z,((A++x::y::T).map ptR).getD (A.length+1) z=.agg [.v (.int .i64 y.1),.v (.int .i64 y.2)]:=fun z=>av1 A _ x y z;have heq:=bbv y x;simp only [z0,wk,gx,gy,zaf,zaj,zac,push_cast,↓reduceIte,reduceCtorEq,zB,zE,zA,zS,zL,zD,zM];refine And.intro ⟨by omega,by omega⟩ ?_;refine And.intro ⟨by omega,by omega⟩ ?_;refine And.intro (by kernel_rfl) ?_;refine b9 (fun hyx=>?_) (fun hyx=>?_)
    ·have hyx:y=x:=of_decide_eq_true (heq.symm.trans hyx);subst hyx;obtain ⟨k0,hk0⟩:∃k0,A.length+1=k0:=⟨_,rfl⟩
     have hk1:((A.length:Nat):Int)+1=(k0:Int):=by omega
     have hk2:((A.length:Nat):Int)+2=(k0:Int)+1:=by omega
     simp only [o4,hk0,hk1,zaf,zaj,zac,push_cast,↓reduceIte,reduceCtorEq,zB,zE,zA,zS,zL,zD,zM];obtain ⟨n0,hn0⟩:∃n0:Nat,((l.length:Int)-(k0:Int)).toNat=n0:=⟨_,rfl⟩
     have hnn:n0=T.length+1:=by omega
     refine And.intro ⟨by omega,by omega,by omega⟩ ?_;simp only [hn0]
     refine run_loop [(0,false),(3,false),(4,false),(5,false)] (fun vs pos los=>∃(C W T2:List P2) (u:P2) (k k2:Nat),k=C.length+1∧k0+k2=C.length+1+W.length+1∧1≤k2∧C.length+1+W.length+1+T2.length=l.length∧cd l=C++u::mr u T2∧vs=[.own 1000000 0 0 l.length,int .i64 k,.own 1000000 0 k0 n0,int .i64 k2]∧pos=[o4 ((C++[u])++(W++u::T2))]∧los=[])
      (fun vs _ _=>match vs with | [_,_,_,.r (.v (.int _ a))]=>(l.length-a).toNat | _=>0) rfl ?_ ?_
     ·simp only [o4,push_cast,↓reduceIte,reduceCtorEq,zB,zE,zA,zS,zL,zD,zM];refine ⟨A,[],T,y,k0,1,by omega,by simp; omega,by omega,by simp; omega,?_,rfl,?_⟩
      ·rw [hcA,mr,if_pos rfl]
      ·simp
     ·rintro vs pos los ⟨C,W,T2,u,k,k2,hk,hkk,hk21,hL,hcC,rfl,rfl,rfl⟩;simp only [o4,push_cast,↓reduceIte,reduceCtorEq,zB,zE,zA,zS,zL,zD,zM];cases T2 with
      | nil=>
       simp only [zab] at hL;have z1:decide (((k2:Nat):Int)<((n0:Nat):Int))=false:=decide_eq_false (by omega);simp only [z1,o4,zaf,zaj,zac,push_cast,↓reduceIte,reduceCtorEq,zB,zE,zA,zS,zL,zD,zM];have hcC2:cd l=C++[u]:=hcC;have hcl:(cd l).length=C.length+1:=by rw [hcC2]; simp
       refine ⟨⟨by omega,by omega,by omega⟩,⟨by omega,by omega,by omega,by omega⟩,?_,?_⟩
       ·rw [hcl,show (zas 0)=0 from rfl,show ((k:Int)-0).toNat=C.length+1 by omega]
       ·rw [bcm (C++[u]) (W++[u]) k _ (by simp; omega) (by simp; omega),hcl,hcC2,show ((l.length:Int)-(k:Int)).toNat=l.length-(C.length+1) by omega]
      | cons v T3=>
       simp only [zah] at hL;have z1:decide (((k2:Nat):Int)<((n0:Nat):Int))=true:=decide_eq_true (by omega);have wk4:IntKind.i64.wrap (((k2:Nat):Int)-1)=((k2-1:Nat):Int):=by rw [a5 (by omega)]; omega
       have wk5:IntKind.i64.wrap (((k2:Nat):Int)+1)=((k2+1:Nat):Int):=by rw [a5 (by omega)]; omega
       have wk6:IntKind.i64.wrap (((k:Nat):Int)+1)=((k+1:Nat):Int):=by rw [a5 (by omega)]; omega
       have gu:∀z,(((C++[u])++(W++u::v::T3)).map ptR).getD (k0+(k2-1)) z=.agg [.v (.int .i64 u.1),.v (.int .i64 u.2)]:=fun z=>by
        rw [← zbi,show k0+(k2-1)=((C++[u])++W).length by simp; omega];exact ab4 _ _ u z
       have gv:∀z,(((C++[u])++(W++u::v::T3)).map ptR).getD (k0+k2) z=.agg [.v (.int .i64 v.1),.v (.int .i64 v.2)]:=fun z=>by
        rw [← zbi,show k0+k2=((C++[u])++W).length+1 by simp; omega];exact av1 _ _ u v z
       simp only [z1,wk4,wk5,wk6,gu,gv,o4,zaf,zaj,zac,push_cast,↓reduceIte,reduceCtorEq,zB,zE,zA,zS,zL,zD,zM];refine And.intro ⟨by omega,by omega⟩ ?_;refine And.intro ⟨by omega,by omega⟩ ?_;refine And.intro (by kernel_rfl) ?_;have heq2:=bbv v u;refine b9 (fun hvu=>?_) (fun hvu=>?_)
       ·have hvu:v≠u:=by
         have h3:(v.1 == u.1&&v.2 == u.2)=false:=by
          generalize (v.1 == u.1&&v.2 == u.2)=q at hvu;cases q
          ·rfl
          ·cases hvu
         exact of_decide_eq_false (heq2.symm.trans h3)
        obtain ⟨W',hW',hset⟩:∃W':List P2,W'.length=W.length∧(((C++[u])++(W++u::v::T3)).map ptR).set k (.agg [.v (.int .i64 v.1),.v (.int .i64 v.2)])=(((C++[u])++[v])++(W'++v::T3)).map ptR:=by
         subst hk;rw [show (RV.agg [.v (.int .i64 v.1),.v (.int .i64 v.2)])=ptR v from rfl,← zbo];cases W with
         | nil=>exact ⟨[],rfl,by congr 1; simp⟩
         | cons w W2=>exact ⟨W2++[u],by simp,by congr 1; simp⟩
        obtain ⟨q,hq⟩:∃q:P2,∀z,(((C++[u])++(W++u::v::T3)).map ptR).getD k z=.agg [.v (.int .i64 q.1),.v (.int .i64 q.2)]:=by
         rw [show k=(C++[u]).length by simp; omega];cases W with
         | nil=>exact ⟨u,ab4 _ _ u⟩
         | cons w W2=>exact ⟨w,ab4 _ _ w⟩
        simp only [wk5,wk6,gv,hq,hset,o4,zaf,zaj,zac,push_cast,↓reduceIte,reduceCtorEq,zB,zE,zA,zS,zL,zD,zM]
        repeat refine And.intro (by first | exact ⟨by omega,by omega⟩ | kernel_rfl) ?_
        refine ⟨⟨C++[u],W',T3,v,k+1,k2+1,by simp; omega,by simp; omega,by omega,by simp; omega,?_,by simp,rfl⟩,by omega⟩;rw [hcC,mr,if_neg hvu];simp
       ·have hvu:v=u:=by
         have h3:(v.1 == u.1&&v.2 == u.2)=true:=by
          generalize (v.1 == u.1&&v.2 == u.2)=q at hvu;cases q
          ·cases hvu
          ·rfl
         exact of_decide_eq_true (heq2.symm.trans h3)
        subst hvu;simp only [wk5,o4,zaf,zaj,zac,push_cast,↓reduceIte,reduceCtorEq,zB,zE,zA,zS,zL,zD,zM];refine ⟨⟨C,W++[v],T3,v,k,k2+1,by omega,by simp; omega,by omega,by simp; omega,?_,by simp,by simp⟩,by omega⟩;rw [hcC,mr,if_pos rfl]
    ·have hyx:y≠x:=of_decide_eq_false (heq.symm.trans hyx);have wk3:IntKind.i64.wrap (((A.length:Nat):Int)+1+1)=(A.length:Int)+1+1:=by rw [wk2]; omega
     simp only [wk3,o4,zaf,zaj,zac,push_cast,↓reduceIte,reduceCtorEq,zB,zE,zA,zS,zL,zD,zM];refine ⟨⟨A++[x],y,T,by rw [hlA]; simp,?_,by simp,by simp⟩,by omega⟩;rw [hcA,mr,if_neg hyx];simp

theorem aw5 (p a:P2):je p [a]=[a]:=rfl
set_option maxHeartbeats 4000000 in
theorem a1a (l:List P2) (hl:1≤l.length∧l.length≤1000) (hn:∀p∈l,near29 p):a8 P0 132 [c7 l] [] (.own 1000000 0 0 ((ae l).length-1)) [u5 (ae l).reverse]:=by
  refine anv rfl (by decide) ?_;have hmx:=k7;have hsl:∀i,(ae (l.take i)).length≤i:=fun i=>by have:=ae0 (l.take i); simp at this; omega
  simp only [akl,c7,push_cast,↓reduceIte,reduceCtorEq,zB,zE,zA,zS,zL,zD,zM]
  refine run_loop [(8, false), (6, false), (7, false), (3, false)] (fun vs pos los => ∃ i : Nat, i ≤ l.length ∧ pos = [] ∧
      (i=0∧vs=[int .i64 i,c7 l,int .i64 l.length,.nils 2 (pnt 0 0)]∧los=[] ∨
       i≠0∧vs=[int .i64 i,c7 l,int .i64 l.length,.own 2000000 0 0 (ae (l.take i)).length]∧los=[u5 (ae (l.take i)).reverse]))
    (fun vs _ _=>match vs with | .r (.v (.int _ a))::_=>(l.length-a).toNat | _=>0) rfl ?_ ?_
  · simp only [c7,pnt,push_cast,↓reduceIte,reduceCtorEq,zB,zE,zA,zS,zL,zD,zM];exact ⟨0,by omega,.inl ⟨rfl,by simp⟩⟩
  · rintro vs pos los ⟨i,hi,rfl,⟨h0,rfl,rfl⟩ | ⟨h0,rfl,rfl⟩⟩
    · simp only [c7,pnt,push_cast,↓reduceIte,reduceCtorEq,zB,zE,zA,zS,zL,zD,zM];refine b9 (fun hd=>?_) (fun hd=>?_)
      · have hi2:i<l.length:=by simpa using hd
        obtain ⟨p,hp⟩:∃p,l[i]?=some p:=⟨l[i],by simp [hi2]⟩
        have wi:IntKind.i64.wrap ((i:Int)+1)=(i:Int)+1:=a5 (by omega);have z0:decide ((0:Int)>1)=false:=rfl
        have hN:ae (l.take (i+1))=[p]:=by
          subst h0;rw [zat,hp];simp [ae,je]
        simp only [c7,pnt,zaa,ct hp,bw hp,wi,z0,zae,zad,zac,push_cast,↓reduceIte,reduceCtorEq,zB,zE,zA,zS,zL,zD,zM]
        repeat refine And.intro (by first | decide | omega | exact fun _=>by decide | (simp +contextual; done) | kernel_rfl) ?_
        refine run_loop [(8,false),(6,false),(7,false),(3,false),(5,false)] (fun vs pos los=>vs=[int .i64 i,c7 l,int .i64 l.length,.nils 2 (pnt 0 0),.ptr 2000000 0 0]∧pos=[]∧los=[.box [int .i64 p.1,int .i64 p.2]])
          (fun _ _ _=>0) rfl ?_ ?_
        · simp only [c7,pnt,ptR,push_cast,↓reduceIte,reduceCtorEq,zB,zE,zA,zS,zL,zD,zM]
        · rintro vs pos los ⟨rfl,rfl,rfl⟩;simp only [c7,pnt,z0,wi,push_cast,↓reduceIte,reduceCtorEq,zB,zE,zA,zS,zL,zD,zM];refine And.intro (by kernel_rfl) (And.intro (by simp) (And.intro (by omega) ⟨⟨i+1,by omega,.inr ⟨by omega,?_,?_⟩⟩,by omega⟩))
          · rw [hN]; simp
          · rw [hN]; simp [ptR,pnt]
      · have hi2:¬i<l.length:=by simpa using hd
        exact absurd hi2 (by omega)
    · have hlen:=hsl i;obtain ⟨S,hS⟩:∃S,ae (l.take i)=S:=⟨_,rfl⟩
      have hSn:S≠[]:=by
        rw [← hS];obtain ⟨j,rfl⟩:∃j,i=j+1:=⟨i-1,by omega⟩
        rw [List.take_succ_eq_append_getElem (by omega),my];simp
      have hSm:∀q∈S,near29 q:=fun q hq=>hn q (List.mem_of_mem_take (awn _ (hS▸hq)));rw [hS];rw [hS] at hlen;simp only [c7,pnt,push_cast,↓reduceIte,reduceCtorEq,zB,zE,zA,zS,zL,zD,zM];refine b9 (fun hd=>?_) (fun hd=>?_)
      · have hi2:i<l.length:=by simpa using hd
        obtain ⟨p,hp⟩:∃p,l[i]?=some p:=⟨l[i],by simp [hi2]⟩
        have hpn:near29 p:=hn p (zal hp);have wi:IntKind.i64.wrap ((i:Int)+1)=(i:Int)+1:=a5 (by omega)
        have hN:ae (l.take (i+1))=p::je p S:=by
          rw [zat,hp,← hS];exact my _ p
        simp only [c7,pnt,zaa,ct hp,bw hp,wi,zae,zad,zac,push_cast,↓reduceIte,reduceCtorEq,zB,zE,zA,zS,zL,zD,zM]
        repeat refine And.intro (by first | decide | omega | exact fun _=>by decide | (simp +contextual; done) | kernel_rfl) ?_
        refine run_loop [(8,false),(6,false),(7,false),(3,false),(5,false)] (fun vs pos los=>∃(s G:List P2),s≠[]∧S.reverse=s.reverse++G∧je p S=je p s∧vs=[int .i64 i,c7 l,int .i64 l.length,.own 2000000 0 0 s.length,.ptr 2000001 0 0]∧pos=[]∧los=[u5 (s.reverse++G),.box [int .i64 p.1,int .i64 p.2]])
          (fun vs _ _=>match vs with | [_,_,_,.own _ _ _ n,_]=>n | _=>0) rfl ?_ ?_
        · simp only [c7,pnt,ptR,push_cast,↓reduceIte,reduceCtorEq,zB,zE,zA,zS,zL,zD,zM];exact ⟨S,[],hSn,by simp,rfl,rfl,by simp [pnt,ptR]⟩
        · rintro vs pos los ⟨s,G,hs,hSG,hpop,rfl,rfl,rfl⟩
          have hsS:s.length≤S.length:=by
            have:=congrArg List.length hSG;simp at this;omega
          have hsm:∀q∈s,near29 q:=fun q hq=>hSm q (by
            have:q∈S.reverse:=by rw [hSG]; simp [hq]
            simpa using this)
          have hend:∀n,n=s.length→List.take n ((s.reverse++G).map ptR)=s.reverse.map ptR:=fun n hn=>by
            rw [zbg,List.take_left' (by simp [hn])]
          rcases s with _ | ⟨b,_ | ⟨a,r⟩⟩
          · exact absurd rfl hs
          · have z0:decide ((1:Int)>1)=false:=rfl;simp only [c7,pnt,z0,wi,push_cast,↓reduceIte,reduceCtorEq,zB,zE,zA,zS,zL,zD,zM];refine And.intro (by kernel_rfl) (And.intro (by simp) (And.intro (by omega) ⟨⟨i+1,by omega,.inr ⟨by omega,?_,?_⟩⟩,by omega⟩))
            · rw [hN,hpop,aw5]; simp
            · rw [hN,hpop,aw5,hend 1 rfl]; simp [ptR,pnt]
          · have z0:decide (((r.length:Nat):Int)+1+1>1)=true:=decide_eq_true (by omega);simp only [zah] at hsS;have wk1:IntKind.i64.wrap (((r.length:Nat):Int)+1+1-2)=(r.length:Int):=by rw [a5 (by omega)]; omega
            have wk2:IntKind.i64.wrap (((r.length:Nat):Int)+1+1-1)=(r.length:Int)+1:=by rw [a5 (by omega)]; omega
            obtain ⟨A,hA⟩:∃A,r.reverse=A:=⟨_,rfl⟩
            have hAl:A.length=r.length:=by rw [← hA]; simp
            have hR:(b::a::r).reverse++G=A++a::b::G:=by rw [← hA]; simp
            have ga:=ab4 A (b::G) a;have gb:=av1 A G a b;rw [hAl] at ga gb;have hpa:ptR a=.agg [.v (.int .i64 a.1),.v (.int .i64 a.2)]:=rfl;have hpb:ptR b=.agg [.v (.int .i64 b.1),.v (.int .i64 b.2)]:=rfl;have htn:=bfi a b p (hsm a (by simp)) (hsm b (by simp)) hpn;rw [hR] at hend ⊢;simp only [c7,pnt,z0,wi,wk1,wk2,ga,gb,hpa,hpb,zaf,zaj,zac,push_cast,↓reduceIte,reduceCtorEq,zB,zE,zA,zS,zL,zD,zM];refine And.intro ⟨by omega,by omega⟩ ?_;refine And.intro ⟨by omega,by omega⟩ ?_;refine q8 (as':=[pv2 a,pv2 b,pv2 p]) rfl ?_;refine d9 htn rfl trivial ?_;simp only [c7,pnt,z0,wi,wk1,wk2,ga,gb,hpa,hpb,zaf,zaj,zac,push_cast,↓reduceIte,reduceCtorEq,zB,zE,zA,zS,zL,zD,zM];refine And.intro (by kernel_rfl) ?_
            refine b9 (fun hc=>?_) (fun hc=>?_)
            · have hc:=of_decide_eq_true hc;simp only [c7,pnt,wi,wk2,zaf,zaj,zac,push_cast,↓reduceIte,reduceCtorEq,zB,zE,zA,zS,zL,zD,zM];refine ⟨⟨by omega,by omega,by omega,by omega⟩,⟨a::r,b::G,by simp,by rw [hSG,hR,← hA]; simp,?_,?_,?_⟩,by omega⟩
              · rw [hpop,je,if_pos hc]
              · rw [show ((r.length:Int)+1-0).toNat=r.length+1 by omega]; simp
              · rw [← hA]; simp [u5,pnt]
            · have hc:=of_decide_eq_false hc;simp only [c7,pnt,wi,wk2,zaf,zaj,zac,push_cast,↓reduceIte,reduceCtorEq,zB,zE,zA,zS,zL,zD,zM];have hN2:ae (l.take (i+1))=p::b::a::r:=by rw [hN,hpop,je,if_neg hc]
              refine ⟨by simp,⟨by omega,by omega⟩,⟨i+1,by omega,.inr ⟨by omega,?_,?_⟩⟩,by omega⟩
              · rw [hN2]; simp
              · rw [hN2,hend (r.length+1+1) rfl]; simp [u5,pnt,ptR]
      · have hi2:i=l.length:=by
          have:¬i<l.length:=by simpa using hd
          omega
        have hS2:ae l=S:=by rw [← hS,hi2,zby]
        have hSp:1≤S.length:=by
          cases S with
          | nil=>exact absurd rfl hSn
          | cons b r=>simp
        have wk:IntKind.i64.wrap ((S.length:Int)-1)=(S.length:Int)-1:=a5 (by omega);rw [hS2];simp only [c7,pnt,wk,zaf,zaj,zac,push_cast,↓reduceIte,reduceCtorEq,zB,zE,zA,zS,zL,zD,zM];exact ⟨⟨by omega,by omega,by omega,by omega⟩,by rw [show (zas 0)=0 from rfl,show ((S.length:Int)-1-0).toNat=S.length-1 by omega],rfl⟩

def ajv:Mk P0 f77:={ x:=_ }
theorem aio:d5 77 1 ajv:=c8 func77
def oc (rg:List P2):List P2:=if (cd (y7 rg)).length<3 then [] else if (bj (cd (y7 rg))++bj (cd (y7 rg)).reverse).length<3 then [] else bj (cd (y7 rg))++bj (cd (y7 rg)).reverse
theorem apy {x q:P2}:∀{s:List P2},q∈mo x s→q=x∨q∈s
 | [],h=>by simp [mo] at h; exact .inl h
 | e::r,h=>by
  rw [mo] at h;split at h
  ·rcases zai.1 h with rfl | h
   ·simp
   ·rcases apy h with rfl | h
    ·simp
    ·simp [h]
  ·simpa using h
theorem a8b (l:List P2):∀{q:P2},q∈ac8 l→q∈l:=by
 refine nh (P:=fun l=>∀{q:P2},q∈ac8 l→q∈l) (fun h=>h) (fun l p ih=>?_) l;intro q h;rw [acg] at h;rcases apy h with rfl | h
 ·simp
 ·exact List.mem_append_left _ (ih h)
theorem alg {l:List P2} {q:P2} (h:q∈y7 l):q∈l:=a8b l (by simpa [y7] using h)
theorem aqc {q:P2}:∀{u:P2} {l:List P2},q∈mr u l→q∈l
 | u,[],h=>h
 | u,v::r,h=>by
  rw [mr] at h;split at h
  ·exact zau _ (aqc h)
  ·rcases zai.1 h with rfl | h
   ·simp
   ·exact zau _ (aqc h)
theorem amm {q:P2} {l:List P2} (h:q∈cd l):q∈l:=by
 cases l with
 | nil=>exact h
 | cons v r=>
  rcases zai.1 h with rfl | h
  ·simp
  ·exact zau _ (aqc h)
theorem avg (l:List P2):∀o∈[u5 l],mc o:=fun o ho=>by
 rw [zan.1 ho];intro x hx;obtain ⟨p,_,rfl⟩:=List.mem_map.1 hx;exact ⟨trivial,trivial,trivial⟩
theorem aek (l:List P2):(ae l).length-1=(bj l).length:=by simp [bj]
theorem aos (l:List P2):List.take (bj l).length ((ae l).reverse.map ptR)=(bj l).map ptR:=by
 rw [← List.map_take];congr 1;rw [bj,List.dropLast_eq_take,zbw,zbp (by simp)]
set_option maxHeartbeats 4000000 in
theorem hull_t (rg : List P2) (hl : 1 ≤ rg.length ∧ rg.length ≤ 12) (hn : ∀ p ∈ rg, near29 p) {res : AV} {ro : List Ob}
    (hres:(oc rg=[]∧res=.nils 2 (pnt 0 0)∧ro=[])∨(oc rg≠[]∧res=.own 1000000 0 0 (oc rg).length∧ro=[u5 (oc rg)])) :
    a8 P0 77 [c7 rg] [] res ro:=by
  refine aio rfl (by decide) ?_;have hmx:=k7;have hok:=bbr rg (by omega) hn
  push_cast [ajv,c7,zab]
  refine b7 (as':=[c7 rg]) rfl ?_;refine a7 hok rfl trivial ?_
  push_cast [zaa]
  refine run_loop [(12, false), (10, false), (11, false), (3, false)] (fun vs pos los => ∃ i : Nat, i ≤ rg.length ∧ pos = [] ∧
      (i=0∧vs=[int .i64 i,c7 rg,int .i64 rg.length,.nils 2 (pnt 0 0)]∧los=[] ∨
       i≠0∧vs=[int .i64 i,c7 rg,int .i64 rg.length,.own 2000000 0 0 i]∧los=[u5 (rg.take i)]))
    (fun vs _ _=>match vs with | .r (.v (.int _ a))::_=>(rg.length-a).toNat | _=>0) rfl ?_ ?_
  · push_cast [c7,pnt]
    exact ⟨0,by omega,.inl ⟨rfl,by simp⟩⟩
  · rintro vs pos los ⟨i,hi,rfl,⟨h0,rfl,rfl⟩ | ⟨h0,rfl,rfl⟩⟩
    · push_cast [c7,pnt,zaa]
      refine b9 (fun hd=>?_) (fun hd=>?_)
      · have hi2:i<rg.length:=by simpa using hd
        obtain ⟨p,hp⟩:∃p,rg[i]?=some p:=⟨rg[i],by simp [hi2]⟩
        have wi:IntKind.i64.wrap ((i:Int)+1)=(i:Int)+1:=a5 (by omega)
        have hN:rg.take (i+1)=[p]:=by
          rw [zat,hp,h0]; rfl
        push_cast [c7,zaa,ct hp,bw hp,wi,zae,zad,zac]
        repeat refine And.intro (by first | decide | omega | exact fun _=>by decide | (simp +contextual; done) | kernel_rfl) ?_
        exact ⟨⟨i+1,by omega,.inr ⟨by omega,by simp [h0],by rw [hN]; simp [ptR,pnt]⟩⟩,by omega⟩
      · have hi2:¬i<rg.length:=by simpa using hd
        exact absurd hi2 (by omega)
    · push_cast [c7,pnt,zaa]
      refine b9 (fun hd=>?_) (fun hd=>?_)
      · have hi2:i<rg.length:=by simpa using hd
        obtain ⟨p,hp⟩:∃p,rg[i]?=some p:=⟨rg[i],by simp [hi2]⟩
        have wi:IntKind.i64.wrap ((i:Int)+1)=(i:Int)+1:=a5 (by omega)
        have hN:rg.take (i+1)=rg.take i++[p]:=by
          rw [zat,hp]; rfl
        have htk:List.take i ((rg.take i).map ptR)=(rg.take i).map ptR:=zbx (by simp; omega)
        push_cast [c7,zaa,ct hp,bw hp,htk,wi,zae,zad,zac]
        repeat refine And.intro (by first | decide | omega | exact fun _=>by decide | (simp +contextual; done) | kernel_rfl) ?_
        exact ⟨⟨i+1,by omega,.inr ⟨by omega,by simp,by rw [hN]; simp [ptR,pnt]⟩⟩,by omega⟩
      · have hi2:i=rg.length:=by
          have:¬i<rg.length:=by simpa using hd
          omega
        subst hi2;rw [zby]
        push_cast [c7,pnt,zaa]
        have hne:rg.map ptR≠[]:=by
          intro h;have:=congrArg List.length h;simp at this;rw [this] at hl;simp at hl
        refine a3d 2000000 0 2 _ (rg.map ptR) rfl hne ?_
        push_cast [pnt]
        refine b7 (as':=[.own 1000000 0 0 rg.length,agF]) rfl ?_;refine a7 (po:=[o4 rg]) (bfq rg hl) rfl ⟨⟨rfl,by simp [ach]⟩,trivial⟩ ?_
        push_cast [o4,pnt,zah,zab]
        refine ag1 ?_
        push_cast [pnt]
        obtain ⟨s,hs⟩:∃s,y7 rg=s:=⟨_,rfl⟩
        have hsl:s.length=rg.length:=by rw [← hs,ach]
        have hsn:∀p∈s,near29 p:=fun p hp=>hn p (alg (hs▸hp));unfold oc at hres;rw [hs] at hres ⊢;refine b7 (as':=[.own 1000000 0 0 s.length]) (by rw [hsl]) ?_;refine a7 (po:=[o4 s]) (bhu s (by omega)) rfl ⟨⟨rfl,by have:=amn s; simp; omega⟩,trivial⟩ ?_;obtain ⟨c,hc⟩:∃c,cd s=c:=⟨_,rfl⟩
        have hcl:c.length≤s.length:=by rw [← hc]; exact amn s
        have hcn:∀p∈c,near29 p:=fun p hp=>hsn p (amm (hc▸hp));rw [hc] at hres ⊢;obtain ⟨G,hG⟩:∃G,zca (s.length-c.length) ((0,0):P2)=G:=⟨_,rfl⟩
        rw [hG]
        push_cast [o4,pnt,zah,zab]
        refine b9 (fun hd=>?_) (fun hd=>?_)
        · have hd:c.length<3:=by have:=of_decide_eq_true hd; omega
          rw [if_pos hd] at hres;rcases hres with ⟨_,rfl,rfl⟩ | ⟨h,_⟩
          · push_cast [pnt]
          · exact absurd rfl h
        · have hd:¬c.length<3:=by have:=of_decide_eq_false hd; omega
          rw [if_neg hd] at hres
          push_cast [pnt]
          have htk:∀A:List P2,A.length=c.length→List.take c.length ((A++G).map ptR)=A.map ptR:=fun A hA=>by
            rw [zbg,List.take_left' (by simp [hA])]
          refine ox ?_;rw [htk c rfl]
          push_cast [pnt]
          refine b7 (as':=[c7 c]) rfl ?_;refine rz (a1a c (by omega) hcn) rfl trivial trivial (avg _) ?_
          push_cast [o4,u5,pnt,zah,zab]
          refine ag1 ?_
          push_cast [pnt]
          refine b7 (as':=[.own 1000000 0 0 c.length]) rfl ?_;refine a7 (po:=[o4 (c++G)]) (bhc c G (by omega)) rfl ⟨⟨rfl,by simp⟩,trivial⟩ ?_
          push_cast [o4,u5,pnt,zah,zab]
          refine ox ?_;rw [htk c.reverse (by simp)]
          push_cast [pnt]
          refine b7 (as':=[c7 c.reverse]) rfl ?_;refine rz (a1a c.reverse (by simp; omega) (fun p hp=>hcn p (by simpa using hp))) rfl trivial trivial (avg _) ?_;have e1:=aek c;have e2:=aek c.reverse;have e3:=aos c;have e4:=aos c.reverse
          push_cast [o4,u5,pnt,e1,e2,e3,e4,zah,zab,zaa]
          have b1:=ae0 c;have b2:=ae0 c.reverse;rw [List.length_reverse] at b2;refine And.intro ⟨by omega,by omega⟩ ?_;refine b9 (fun hq=>?_) (fun hq=>?_)
          · have hq:(bj c++bj c.reverse).length<3:=by have:=of_decide_eq_true hq; rw [zam]; omega
            rw [if_pos hq] at hres;rcases hres with ⟨_,rfl,rfl⟩ | ⟨h,_⟩
            · push_cast [pnt]
            · exact absurd rfl h
          · have hq:¬(bj c++bj c.reverse).length<3:=by have:=of_decide_eq_false hq; rw [zam]; omega
            rw [if_neg hq] at hres;rcases hres with ⟨h,_,_⟩ | ⟨_,rfl,rfl⟩
            · rw [h] at hq;exact absurd (by simp) hq
            · push_cast [u5,pnt,zam]
              simp

def jf (p q:P2):Prop:=p.1<q.1∨(p.1=q.1∧p.2≤q.2)
theorem a0a {D o:P2→P2→Prop} (hr:∀a,D a a) (ht:∀a b c,D a b→D b c→D a c) (hD:∀a b p,o a b→o b p→ad1 a b p≤0→D a b∨D p b) (p:P2) :
  ∀s:List P2,(p::s).Pairwise (fun b a=>o a b)→∀q∈s,∃c∈p::je p s,D c q
 | [],_,q,hq=>by simp at hq
 | [a],_,q,hq=>⟨q,zau _ hq,hr q⟩
 | b::a::r,hs,q,hq=>by
  rw [je];have h1:=zba.1 hs;have h2:=zba.1 h1.2;split
  ·rename_i hc;have ih:=a0a hr ht hD p (a::r) (zba.2 ⟨fun x hx=>h1.1 x (zau _ hx),h2.2⟩);rcases zai.1 hq with rfl | hq
   ·rcases hD a q p (h2.1 a (by simp)) (h1.1 q (by simp)) hc with h | h
    ·obtain ⟨c,hc1,hc2⟩:=ih a (by simp);exact ⟨c,hc1,ht _ _ _ hc2 h⟩
    ·exact ⟨p,by simp,h⟩
   ·exact ih q hq
  ·exact ⟨q,zau _ hq,hr q⟩
theorem a8z (p:P2) (s:List P2):(je p s).Sublist s:=by
 obtain ⟨k,h1,_⟩:=ajj p s;rw [h1];exact List.drop_sublist k s
theorem a8a (l:List P2):(ae l).Sublist l.reverse:=by
 refine nh (P:=fun l=>(ae l).Sublist l.reverse) (List.Sublist.refl _) (fun l p ih=>?_) l;rw [my,List.reverse_append];exact List.Sublist.cons_cons p ((a8z p _).trans ih)
theorem azs {D o:P2→P2→Prop} (hr:∀a,D a a) (ht:∀a b c,D a b→D b c→D a c) (hD:∀a b p,o a b→o b p→ad1 a b p≤0→D a b∨D p b) (l:List P2) :
  l.Pairwise o→∀q∈l,∃c∈ae l,D c q:=by
 refine nh (P:=fun l=>l.Pairwise o→∀q∈l,∃c∈ae l,D c q) (fun _ q hq=>by simp at hq) (fun l p ih=>?_) l;intro hs q hq;rw [my];have h1:=List.pairwise_append.1 hs
 have hrev:(p::l.reverse).Pairwise (fun b a=>o a b):=by
  refine zba.2 ⟨fun x hx=>h1.2.2 x (by simpa using hx) p (by simp),?_⟩;exact List.pairwise_reverse.2 h1.1
 rcases zao.1 hq with hq | hq
 ·obtain ⟨c,hc1,hc2⟩:=ih h1.1 q hq;obtain ⟨c',hc3,hc4⟩:=a0a hr ht hD p (ae l) (hrev.sublist (List.Sublist.cons_cons p (a8a l))) c hc1;exact ⟨c',hc3,ht _ _ _ hc4 hc2⟩
 ·rw [zan.1 hq];exact ⟨p,by simp,hr p⟩
theorem aw6 (x p:P2):∀T:List P2,∃T',je x (T++[p])=T'++[p]
 | []=>⟨[],rfl⟩
 | [a]=>by
  simp only [zbz,zbf];rw [je];split
  ·exact ⟨[],rfl⟩
  ·exact ⟨[a],rfl⟩
 | b::a::r=>by
  simp only [zbz];rw [je];split
  ·exact aw6 x p (a::r)
  ·exact ⟨b::a::r,rfl⟩
theorem azt (p:P2) (rest:List P2):∃T,ae (p::rest)=T++[p]∧(rest≠[]→T≠[]):=by
 refine nh (P:=fun rest=>∃T,ae (p::rest)=T++[p]∧(rest≠[]→T≠[])) ⟨[],rfl,fun h=>absurd rfl h⟩ (fun l x ih=>?_) rest;obtain ⟨T,hT,_⟩:=ih;obtain ⟨T',hT'⟩:=aw6 x p T;refine ⟨x::T',?_,fun _=>by simp⟩;rw [← zbz,my,hT,hT']
 rfl
theorem a54 (p q:P2):ltP p q=true↔(p.1<q.1∨(p.1=q.1∧p.2<q.2)):=by
 unfold ltP aqe adk;rw [decide_eq_true_iff];split<;>split<;>(try split)<;>(try split)<;>omega
theorem al2 (x:P2):∀(s:List P2) (q:P2),q=x∨q∈s→q∈mo x s
 | [],q,h=>by simpa [mo] using h
 | e::r,q,h=>by
  rw [mo];split
  ·rcases h with rfl | h
   ·exact zau _ (al2 q r q (.inl rfl))
   ·rcases zai.1 h with rfl | h
    ·simp
    ·exact zau _ (al2 x r q (.inr h))
  ·simpa using h
theorem a1y {l:List P2} {q:P2} (h:q∈l):q∈y7 l:=by
 have key:∀l:List P2,∀q∈l,q∈ac8 l:=fun l=>by
  refine nh (P:=fun l=>∀q∈l,q∈ac8 l) (fun q h=>h) (fun l p ih q hq=>?_) l;rw [acg];refine al2 _ _ _ ?_;rcases zao.1 hq with h | h
  ·exact .inr (ih q h)
  ·exact .inl (by simpa using h)
 unfold y7;simpa using key l q h
theorem axx (x:P2):∀s:List P2,s.Pairwise (fun b a=>jf a b)→(mo x s).Pairwise (fun b a=>jf a b)
 | [],_=>by simp [mo]
 | e::r,h=>by
  have h1:=zba.1 h;rw [mo];split
  ·rename_i hlt;have hlt:=(a54 x e).1 hlt;refine zba.2 ⟨fun y hy=>?_,axx x r h1.2⟩;rcases apy hy with rfl | hy
   ·unfold jf; omega
   ·exact h1.1 y hy
  ·rename_i hlt;have hlt:¬(x.1<e.1∨(x.1=e.1∧x.2<e.2)):=fun h=>hlt ((a54 x e).2 h);refine zba.2 ⟨fun y hy=>?_,h⟩;rcases zai.1 hy with rfl | hy
   ·unfold jf; omega
   ·have:=h1.1 y hy;unfold jf at this ⊢; omega
theorem a4g (l:List P2):(y7 l).Pairwise jf:=by
 unfold y7;refine List.pairwise_reverse.2 ?_;refine nh (P:=fun l=>(ac8 l).Pairwise (fun b a=>jf a b)) List.Pairwise.nil (fun l p ih=>?_) l;rw [acg];exact axx p _ ih
theorem aqb:∀(u:P2) (l:List P2),(mr u l).Sublist l
 | u,[]=>List.Sublist.refl _
 | u,q::r=>by
  rw [mr];split
  ·exact (aqb u r).cons q
  ·exact (aqb q r).cons_cons q
theorem a61 (l:List P2):(cd l).Sublist l:=by
 cases l with
 | nil=>exact List.Sublist.refl _
 | cons p r=>exact (aqb p r).cons_cons p
theorem amp:∀(u:P2) (l:List P2) (q:P2),q∈l→q=u∨q∈mr u l
 | u,[],q,h=>by simp at h
 | u,v::r,q,h=>by
  rw [mr];split
  ·rename_i hv;rcases zai.1 h with h | h
   ·exact .inl (h.trans hv)
   ·exact amp u r q h
  ·rcases zai.1 h with h | h
   ·exact .inr (by simp [h])
   ·rcases amp v r q h with h | h
    ·exact .inr (by simp [h])
    ·exact .inr (zau _ h)
theorem a24 {l:List P2} {q:P2} (h:q∈l):q∈cd l:=by
 cases l with
 | nil=>exact h
 | cons p r=>
  show q∈p::mr p r;rcases zai.1 h with h | h
  ·simp [h]
  ·rcases amp p r q h with h | h
   ·simp [h]
   ·exact zau _ h

def shP (d p:P2):P2:=(p.1+d.1,p.2+d.2)

theorem a99 {l:Lin} (hl:l.ok) (p q:P2):sel l.axis (s6 l p q)=l.at':=by
 rcases hl with h | h<;>simp [s6,sel,h]

end
end Go.Ev

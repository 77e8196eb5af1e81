import Derived.OpenShut
import Derived.ChangeSlices
import Derived.Deep.Slices
import Derived.Lib.SmallJoins
import Derived.Test.YtocfnfcflljooaaGreatM10
open Go.Proofs.Tryz renaming prog → P0
open List renaming getElem?_eq_some_iff → zaa, length_map → zab, getElem?_map → zac
open Option renaming map_eq_some_iff → zad
namespace Go.Ev
set_option maxHeartbeats 8000000
set_option maxRecDepth 100000
open Go Go.ChangeShapes Go.WideShapes Go.RowKit
set_option linter.unusedSectionVars false
set_option linter.unnecessarySimpa false
set_option linter.unusedSimpArgs false
set_option linter.unusedVariables false
section
variable {H:Type} {enc:TypeId×Value->H} {P:Program} {w:World} {base:Nat} {spare:Nat->Bool} {held:Bool}
theorem alw (a:Addr):a.add 0=a:=by simp [Addr.add]
theorem aqp (b o j:Nat):(⟨b,o,none⟩:Addr).add j=⟨b,o+j,none⟩:=by
 unfold Addr.add;split
 ·rename_i h; subst h; rfl
 rfl
theorem open_sl {t e:TypeId} {k:IntKind} {v:Value} {d:DataW H} {p:List MemPlace} (N:P.underlying t=some (.slice e)) (M:P.underlying e=some (.int k)) (hc:P.cellsOf e=1)
 (S:∃a len cap,v=.slice a len cap) (h:DataW.Trod enc P w base spare held t v d p) :
 ∃f:List Int,Rel0 w (.r (.sl 1 (f.map λ z=>.v (.int k z)))) v/\(∀n∈f,(Lit.int k n).wf=true):=by
 obtain ⟨Z,len,cap,rfl⟩:=S;obtain ⟨G,O⟩:=h;rcases open_ints N M hc O with ⟨g,hx⟩ | ⟨a,I,J,f,g,_,Y,Q,U,hx,l,E⟩
 ·simp [Value.cells] at g;obtain ⟨rfl,rfl,rfl⟩:=g;exact ⟨[],.r (.sl 1 [] none 0 (by simp) (by simp) 0 0 (λ _ _=>undef) (by simp) (by simp) (by simp) (by simp)),by simp⟩
 simp [Value.cells] at g;obtain ⟨rfl,rfl,rfl⟩:=g;have V:len<=f.length:=by split at U<;>omega
 have q:((f.take len).map λ z=>RV.v (.int k z)).length=len:=by rw [zab,List.length_take]; omega
 refine ⟨f.take len,?_,λ n W=>E n (List.mem_of_mem_take W)⟩
 have b:∀(i:Nat) (x:RV),((f.take len).map λ z=>RV.v (.int k z))[i]?=some x->i<len/\i<f.length/\x=.v (.int k (f.getD i 0)):=λ i x m=>by
  have u:=(zaa.1 m).1;rw [q] at u;rw [zac,List.getElem?_take_of_lt u,List.getElem?_eq_getElem (by omega)] at m;simp only [Option.map_some,Option.some.injEq] at m;refine ⟨u,by omega,?_⟩;rw [<- m,List.getD_eq_getElem?_getD,List.getElem?_eq_getElem (by omega)]
  rfl
 have B:0<len->a.spot=none/\a.block<w.heap.size:=λ u=>by
  have:=l 0 (by omega);rw [alw,World.cell?] at this;split at this
  ·rename_i c _ _ X;refine ⟨?_,(Array.getElem?_eq_some_iff.1 X).1⟩;cases hs:a.spot with
   | none=>rfl
   | some s=>rw [hs] at this; simp at this
  cases this
 have:=RelV.sl (w:=w) (R:=aok w) 1 ((f.take len).map λ z=>RV.v (.int k z)) (some a) cap (by rw [q]; exact Y) Q a.block a.off (λ i j=>.int k (f.getD i 0))
  (λ u=>by
   rw [q] at u;obtain ⟨C,L⟩:=B u;refine ⟨?_,L,?_,trivial⟩
   ·congr 1;cases a;simp only at C;subst C
    rfl
   rintro ⟨id,v,o,F,_⟩
   simp [obs] at F)
  (λ i x m=>by rw [(b i x m).2.2]; rfl)
  (λ i x j y m D=>by
   obtain ⟨F,K,rfl⟩:=b i x m
   have A:j=0:=by
    have:=(zaa.1 D).1;simp [RV.cells] at this;exact this
   subst A;obtain ⟨C,L⟩:=B (by omega);have hc:=l i K
   have T:a=⟨a.block,a.off,none⟩:=by
    cases a;simp only at C;subst C
    rfl
   rw [T,aqp] at hc;rw [Nat.mul_one,Nat.add_zero]
   exact ⟨hc,rfl⟩)
  (λ i x j y m D=>by
   obtain ⟨F,K,rfl⟩:=b i x m
   have A:j=0:=by
    have:=(zaa.1 D).1;simp [RV.cells] at this;exact this
   subst A;simp [RV.cells] at D;subst D
   exact .v _)
 rw [q] at this;exact .r this
theorem open_sb {t e:TypeId} {v:Value} {d:DataW H} {p:List MemPlace} (g:P.underlying t=some (.slice e)) (f:P.underlying e=some (.int .u8)) (hc:P.cellsOf e=1)
 (i:∃a len cap,v=.slice a len cap) (h:DataW.Trod enc P w base spare held t v d p) :
 ∃l:List UInt8,Rel0 w (.r (.sl 1 (l.map λ c=>.v (.int .u8 c.toNat)))) v:=by
 obtain ⟨b,j,m⟩:=open_sl g f hc i h;refine ⟨b.map λ z=>UInt8.ofNat z.toNat,?_⟩;rw [List.map_map]
 have e:b.map ((λ c:UInt8=>RV.v (.int .u8 c.toNat))∘λ z:Int=>UInt8.ofNat z.toNat)=b.map λ z=>RV.v (.int .u8 z):=List.map_congr_left λ z k=>by
  have:=bounds_u8 (m z k);simp only [Function.comp];congr 2;simp;omega
 rw [e];exact j
theorem open_rows {J:Type} {t e:TypeId} {v:Value} {d:DataW H} {p:List MemPlace} (sz:Nat) (f:J->RV) (g:J->List Value) (V:J->Prop) (ht:P.underlying t=some (.slice e)) (hc:P.cellsOf e=sz)
 (M:0<sz) (h9:∀n cs x,DataW.trod enc P w base spare held n e cs=some x->∃a,cs=g a/\V a) (Z:∀a,(f a).cells.length=sz)
 (I:∀(a:J) (j:Nat) (y:RV),(f a).cells[j]?=some y->∃u,y=.v u/\(g a)[j]?=some u/\u.oneCell'=true)
 (hv:∃a len cap,v=.slice a len cap) (h:DataW.Trod enc P w base spare held t v d p):∃l:List J,Rel0 w (.r (.sl sz (l.map f))) v/\∀a∈l,V a:=by
 obtain ⟨a0,len,cap,rfl⟩:=hv;obtain ⟨he,N⟩:=h;rcases Go.Deep.open_slice ht N with ⟨B,hx⟩ | ⟨a,hg,hh,m,n,D,Pl,B,hb,hl,hm,Q,hx,b⟩
 ·simp [Value.cells] at B;obtain ⟨rfl,rfl,rfl⟩:=B;exact ⟨[],.r (.sl sz [] none 0 (by simp) (by simp) 0 0 (λ _ _=>undef) (by simp) (by simp) (by simp) (by simp)),by simp⟩
 simp [Value.cells] at B;obtain ⟨rfl,rfl,rfl⟩:=B;have h8:len<=m:=by rw [Q]; split<;>omega
 have G:∀i,i<len->∃x,V x/\∀j,j<sz->w.cell? (a.add (i*sz+j))=(g x)[j]?:=λ i hd=>by
  obtain ⟨hn,z,T⟩:=b i (by omega);obtain ⟨x,rfl,hw⟩:=h9 _ _ _ T;rw [hc] at z;obtain ⟨_,C,h7⟩:=World.cells?_some z;refine ⟨x,hw,λ j K=>?_⟩;rw [<- h7 j K];congr 1;exact (Go.Deep.add_add a (i*sz) j).symm
 have O:∃l:List J,l.length=len/\(∀x∈l,V x)/\∀(i:Nat) (x:J),l[i]?=some x->∀j,j<sz->w.cell? (a.add (i*sz+j))=(g x)[j]?:=by
  clear h8 Q hx hl hm b N
  induction len with
  | zero=>exact ⟨[],rfl,by simp,by simp⟩
  | succ k ih=>
    obtain ⟨l,z,T,U⟩:=ih λ i b=>G i (by omega);obtain ⟨x,h4,F⟩:=G k (by omega);refine ⟨l++[x],by simp [z],λ y hy=>?_,λ i y hy=>?_⟩
    ·rcases List.mem_append.1 hy with q | q
     ·exact T y q
     simp at q; subst q; exact h4
    rw [List.getElem?_append] at hy;split at hy
    ·exact U i y hy
    rename_i hk
    have:i=k:=by
     have:=(zaa.1 hy).1;simp at this;omega
    subst this;simp [z] at hy;subst hy;exact F
 obtain ⟨l,z,T,U⟩:=O;refine ⟨l,?_,T⟩
 have E:0<len->0<sz->a.spot=none/\a.block<w.heap.size:=λ X W=>by
  have hx:l[0]?=some l[0]:=by simp [z,X]
  have A:=U 0 l[0] hx 0 W;have h4:=Z l[0];obtain ⟨u,_,F,_⟩:=I l[0] 0 ((f l[0]).cells[0]'(by omega)) (by simp [h4,W]);rw [F,Nat.zero_mul,Nat.add_zero,alw,World.cell?] at A;split at A
  ·rename_i c _ _ hb;refine ⟨?_,(Array.getElem?_eq_some_iff.1 hb).1⟩;cases W:a.spot with
   | none=>rfl
   | some s=>rw [W] at A; simp at A
  cases A
 have X:=M
 have L:=RelV.sl (w:=w) (R:=aok w) sz (l.map f) (some a) cap (by rw [zab,z]; exact hl) hm a.block a.off (λ i j=>((l[i]?).bind λ x=>(g x)[j]?).getD undef)
  (λ hp=>by
   rw [zab,z] at hp;obtain ⟨S,k2⟩:=E hp X;refine ⟨?_,k2,?_,trivial⟩
   ·congr 1;cases a;simp only at S;subst S
    rfl
   rintro ⟨id,v,o,z,_⟩
   simp [obs] at z)
  (λ i x b=>by
   rw [zac,zad] at b;obtain ⟨q,A,rfl⟩:=b
   exact Z q)
  (λ i x j y b K=>by
   rw [zac,zad] at b;obtain ⟨q,A,rfl⟩:=b;obtain ⟨u,rfl,F,h6⟩:=I q j y K;have Y:j<sz:=by have:=(zaa.1 K).1; rw [Z q] at this; exact this
   have hd:=(zaa.1 A).1;obtain ⟨S,k2⟩:=E (by omega) X;have C:=U i q A j Y
   have ha:a=⟨a.block,a.off,none⟩:=by
    cases a;simp only at S;subst S
    rfl
   rw [ha,aqp,F] at C;simp only [A,Option.bind_some,F,Option.getD_some];rw [<- Nat.add_assoc] at C
   exact ⟨C,h6⟩)
  (λ i x j y b K=>by
   rw [zac,zad] at b;obtain ⟨q,A,rfl⟩:=b;obtain ⟨u,rfl,F,h6⟩:=I q j y K;simp only [A,Option.bind_some,F,Option.getD_some]
   exact .v u)
 rw [zab,z] at L;exact .r L
theorem open_flat {f:Type} {r:Reach} {s:Nat} {t:TypeId} {l:Array Field} {v:Value} {d:DataW H} {p:List MemPlace} (g:f->List Value) (e:f->Prop) (k:P.underlying t=some (.struct l))
 (b:∀n cs x,DataW.trod enc P w base spare held n t cs=some x->∃a,cs=g a/\e a) (m:Value.okWide P w r s t v) (h:DataW.Trod enc P w base spare held t v d p):∃a,v=.agg (g a).toArray/\e a:=by
 obtain ⟨cs,rfl,i⟩:=okWide_struct k m;obtain ⟨c,j⟩:=h;obtain ⟨a,o,q⟩:=b _ _ _ j;refine ⟨a,?_,q⟩;rw [<- o];simp [Value.cells]
end

open Go Go.ChangeShapes Go.WideShapes Go.RowKit
def opC (o:Op1):List Value:=[.int .i64 o.1,.int .i64 o.2.k,.int .i64 o.2.x,.int .i64 o.2.y,.int .i64 o.2.v]
def ah6 (o:Op1):RV:=j9 o.1 o.2
section
variable {H:Type} {enc:TypeId×Value->H} {w:World} {base:Nat} {spare:Nat->Bool} {held:Bool}
theorem av2 {n:Nat} {cs:List Value} {x:DataW H×List MemPlace} (h:DataW.trod enc P0 w base spare held n 30 cs=some x):∃a b c d:Int,cs=[.int .i64 a,.int .i64 b,.int .i64 c,.int .i64 d]:=by
 obtain ⟨xs,g,_,_,v,f,j⟩:=DataW.trod_struct Go.Proofs.Tryz.underlying30 h;have hc:Go.Proofs.Tryz.prog.cellsOf 30=4:=by kernel_rfl
 have k:Go.Proofs.Tryz.prog.cellsOf 2=1:=by kernel_rfl
 rw [hc] at v
 match cs,v with
 | [a,b,c,d],_=>
   have e:∀i,i<4->∃y,xs[i]?=some y:=λ i p=>⟨xs[i]'(by rw [f]; exact p),by simp [show i<xs.length by rw [f]; exact p]⟩
   obtain ⟨M,E⟩:=e 0 (by omega);obtain ⟨L,D⟩:=e 1 (by omega);obtain ⟨I,C⟩:=e 2 (by omega);obtain ⟨J,F⟩:=e 3 (by omega);have l:DataW.trod enc P0 w base spare held g 2 (([a,b,c,d].drop 0).take (Go.Proofs.Tryz.prog.cellsOf 2))=xs[0]?:=j 0 _ rfl;have o:DataW.trod enc P0 w base spare held g 2 (([a,b,c,d].drop 1).take (Go.Proofs.Tryz.prog.cellsOf 2))=xs[1]?:=j 1 _ rfl;have u:DataW.trod enc P0 w base spare held g 2 (([a,b,c,d].drop 2).take (Go.Proofs.Tryz.prog.cellsOf 2))=xs[2]?:=j 2 _ rfl;have r:DataW.trod enc P0 w base spare held g 2 (([a,b,c,d].drop 3).take (Go.Proofs.Tryz.prog.cellsOf 2))=xs[3]?:=j 3 _ rfl;rw [E,k] at l;rw [D,k] at o;rw [C,k] at u;rw [F,k] at r
   obtain ⟨B,t,_,N⟩:=DataW.trod_int Go.Proofs.Tryz.underlying2 l;obtain ⟨G,s,_,K⟩:=DataW.trod_int Go.Proofs.Tryz.underlying2 o;obtain ⟨z,m,_,O⟩:=DataW.trod_int Go.Proofs.Tryz.underlying2 u;obtain ⟨A,q,_,P⟩:=DataW.trod_int Go.Proofs.Tryz.underlying2 r;simp at t s m q;subst t; subst s; subst m; subst q;exact ⟨B,G,z,A,rfl⟩
theorem awb {n:Nat} {cs:List Value} {x:DataW H×List MemPlace} (h:DataW.trod enc P0 w base spare held n 51 cs=some x):∃o:Op1,cs=opC o/\True:=by
 obtain ⟨xs,l,_,_,z,g,m⟩:=DataW.trod_struct Go.Proofs.Tryz.underlying51 h;have hc:Go.Proofs.Tryz.prog.cellsOf 51=5:=by kernel_rfl
 have E:Go.Proofs.Tryz.prog.cellsOf 3=1:=by kernel_rfl
 have I:Go.Proofs.Tryz.prog.cellsOf 30=4:=by kernel_rfl
 rw [hc] at z
 match cs,z with
 | [a,b,c,d,e],_=>
   have f:∀i,i<2->∃y,xs[i]?=some y:=λ i u=>⟨xs[i]'(by rw [g]; exact u),by simp [show i<xs.length by rw [g]; exact u]⟩
   obtain ⟨K,G⟩:=f 0 (by omega);obtain ⟨J,F⟩:=f 1 (by omega);have k:DataW.trod enc P0 w base spare held l 3 (([a,b,c,d,e].drop 0).take (Go.Proofs.Tryz.prog.cellsOf 3))=xs[0]?:=m 0 _ rfl;have t:DataW.trod enc P0 w base spare held l 30 (([a,b,c,d,e].drop 1).take (Go.Proofs.Tryz.prog.cellsOf 30))=xs[1]?:=m 1 _ rfl;rw [G,E] at k;rw [F,I] at t;obtain ⟨B,v,_,L⟩:=DataW.trod_int Go.Proofs.Tryz.underlying3 k;obtain ⟨p,q,r,s,j⟩:=av2 t;simp at v j;obtain ⟨j,A,D,C⟩:=j;subst v; subst j; subst A; subst D; subst C;exact ⟨(B,⟨p,q,r,s⟩),rfl,trivial⟩
theorem open_ops {r:Reach} {b0:Nat} {v:Value} {d:DataW H} {p:List MemPlace} (hv:Value.okWide P0 w r b0 48 v) (h:DataW.Trod enc P0 w base spare held 48 v d p):∃l:List Op1,Rel0 w (.r (m6 l)) v/\∀k∈l,True:=
 open_rows 5 ah6 opC (λ _ => True) Go.Proofs.Tryz.underlying48 (by kernel_rfl) (by omega) (λ _ _ _ h => awb h) (λ _ => rfl) (λ k j y hj => by
  match j,hj with
  | 0,hj=>simp [ah6,j9,RV.cells] at hj; exact ⟨_,hj.symm,rfl,rfl⟩
  | 1,hj=>simp [ah6,j9,RV.cells] at hj; exact ⟨_,hj.symm,rfl,rfl⟩
  | 2,hj=>simp [ah6,j9,RV.cells] at hj; exact ⟨_,hj.symm,rfl,rfl⟩
  | 3,hj=>simp [ah6,j9,RV.cells] at hj; exact ⟨_,hj.symm,rfl,rfl⟩
  | 4,hj=>simp [ah6,j9,RV.cells] at hj; exact ⟨_,hj.symm,rfl,rfl⟩
  | j+5,hj=>simp [ah6,j9,RV.cells] at hj) (okWide_slice Go.Proofs.Tryz.underlying48 hv) h
theorem lplays_t (raw:List Op1) (xs:List Int) (hx:∀x∈xs,-9223372036854775808<=x/\x<=9223372036854775807) (w:Int) (hw:IntKind.u64.wrap w=w) (at' r k:Int) :
 a9 P0 6 [.r (m6 raw),.r (zm xs),int .u64 w,int .i64 at',int .i64 r,int .i64 k] [] (bl true) []:=by
 rw [IntKind.wrap_u64] at hw;obtain ⟨n,rfl⟩:∃n:Nat,w=n:=⟨w.toNat,by omega⟩
 exact azw raw xs hx n (by omega) at' r k
end

end Go.Ev

import Derived.OpenShut
import Derived.ChangeSlices
import Derived.Deep.Slices
import Derived.Lib.SmallJoins
import Derived.Test.YtocfnfcflljooaaGreatM10
open List renaming getElem?_eq_some_iff → zaa, length_map → zab, getElem?_map → zac
open Option renaming map_eq_some_iff → zad
namespace Go.Ev
set_option maxHeartbeats 8000000
set_option maxRecDepth 100000
open Go Go.ChangeShapes Go.WideShapes Go.RowKit
set_option linter.unusedSectionVars false
set_option linter.unnecessarySimpa false
set_option linter.unusedSimpArgs false
set_option linter.unusedVariables false
section
variable {H:Type} {enc:TypeId×Value->H} {P:Program} {w:World} {base:Nat} {spare:Nat->Bool} {held:Bool}
theorem aii (a:Addr):a.add 0=a:=by simp [Addr.add]
theorem amo (b o j:Nat):(⟨b,o,none⟩:Addr).add j=⟨b,o+j,none⟩:=by
 unfold Addr.add;split
 ·rename_i h; subst h; rfl
 rfl
theorem open_sl {t e:TypeId} {k:IntKind} {v:Value} {d:DataW H} {p:List MemPlace} (S:P.underlying t=some (.slice e)) (W:P.underlying e=some (.int k)) (hc:P.cellsOf e=1)
 (M:∃a len cap,v=.slice a len cap) (h:DataW.Trod enc P w base spare held t v d p) :
 ∃f:List Int,Rel0 w (.r (.sl 1 (f.map λ z=>.v (.int k z)))) v/\(∀n∈f,(Lit.int k n).wf=true):=by
 obtain ⟨Z,len,cap,rfl⟩:=M;obtain ⟨K,T⟩:=h;rcases open_ints S W hc T with ⟨g,hx⟩ | ⟨a,L,I,f,g,_,Q,X,U,hx,l,F⟩
 ·simp [Value.cells] at g;obtain ⟨rfl,rfl,rfl⟩:=g;exact ⟨[],.r (.sl 1 [] none 0 (by simp) (by simp) 0 0 (λ _ _=>undef) (by simp) (by simp) (by simp) (by simp)),by simp⟩
 simp [Value.cells] at g;obtain ⟨rfl,rfl,rfl⟩:=g;have Y:len<=f.length:=by split at U<;>omega
 have q:((f.take len).map λ z=>RV.v (.int k z)).length=len:=by rw [zab,List.length_take]; omega
 refine ⟨f.take len,?_,λ n N=>F n (List.mem_of_mem_take N)⟩
 have b:∀(i:Nat) (x:RV),((f.take len).map λ z=>RV.v (.int k z))[i]?=some x->i<len/\i<f.length/\x=.v (.int k (f.getD i 0)):=λ i x m=>by
  have A:=(zaa.1 m).1;rw [q] at A;rw [zac,List.getElem?_take_of_lt A,List.getElem?_eq_getElem (by omega)] at m;simp only [Option.map_some,Option.some.injEq] at m;refine ⟨A,by omega,?_⟩;rw [<- m,List.getD_eq_getElem?_getD,List.getElem?_eq_getElem (by omega)]
  rfl
 have C:0<len->a.spot=none/\a.block<w.heap.size:=λ A=>by
  have:=l 0 (by omega);rw [aii,World.cell?] at this;split at this
  ·rename_i c _ _ V;refine ⟨?_,(Array.getElem?_eq_some_iff.1 V).1⟩;cases hs:a.spot with
   | none=>rfl
   | some s=>rw [hs] at this; simp at this
  cases this
 have:=RelV.sl (w:=w) (R:=akq w) 1 ((f.take len).map λ z=>RV.v (.int k z)) (some a) cap (by rw [q]; exact Q) X a.block a.off (λ i j=>.int k (f.getD i 0))
  (λ A=>by
   rw [q] at A;obtain ⟨D,G⟩:=C A;refine ⟨?_,G,?_,trivial⟩
   ·congr 1;cases a;simp only at D;subst D
    rfl
   rintro ⟨id,v,o,E,_⟩
   simp [obs] at E)
  (λ i x m=>by rw [(b i x m).2.2]; rfl)
  (λ i x j y m B=>by
   obtain ⟨E,J,rfl⟩:=b i x m
   have u:j=0:=by
    have:=(zaa.1 B).1;simp [RV.cells] at this;exact this
   subst u;obtain ⟨D,G⟩:=C (by omega);have hc:=l i J
   have O:a=⟨a.block,a.off,none⟩:=by
    cases a;simp only at D;subst D
    rfl
   rw [O,amo] at hc;rw [Nat.mul_one,Nat.add_zero]
   exact ⟨hc,rfl⟩)
  (λ i x j y m B=>by
   obtain ⟨E,J,rfl⟩:=b i x m
   have u:j=0:=by
    have:=(zaa.1 B).1;simp [RV.cells] at this;exact this
   subst u;simp [RV.cells] at B;subst B
   exact .v _)
 rw [q] at this;exact .r this
theorem open_sb {t e:TypeId} {v:Value} {d:DataW H} {p:List MemPlace} (g:P.underlying t=some (.slice e)) (m:P.underlying e=some (.int .u8)) (hc:P.cellsOf e=1)
 (f:∃a len cap,v=.slice a len cap) (h:DataW.Trod enc P w base spare held t v d p) :
 ∃l:List UInt8,Rel0 w (.r (.sl 1 (l.map λ c=>.v (.int .u8 c.toNat)))) v:=by
 obtain ⟨b,k,j⟩:=open_sl g m hc f h;refine ⟨b.map λ z=>UInt8.ofNat z.toNat,?_⟩;rw [List.map_map]
 have e:b.map ((λ c:UInt8=>RV.v (.int .u8 c.toNat))∘λ z:Int=>UInt8.ofNat z.toNat)=b.map λ z=>RV.v (.int .u8 z):=List.map_congr_left λ z i=>by
  have:=bounds_u8 (j z i);simp only [Function.comp];congr 2;simp;omega
 rw [e];exact k
theorem open_rows {I:Type} {t e:TypeId} {v:Value} {d:DataW H} {p:List MemPlace} (sz:Nat) (f:I->RV) (g:I->List Value) (X:I->Prop) (ht:P.underlying t=some (.slice e)) (hc:P.cellsOf e=sz)
 (N:0<sz) (Z:∀n cs x,DataW.trod enc P w base spare held n e cs=some x->∃a,cs=g a/\X a) (hf:∀a,(f a).cells.length=sz)
 (J:∀(a:I) (j:Nat) (y:RV),(f a).cells[j]?=some y->∃u,y=.v u/\(g a)[j]?=some u/\u.oneCell'=true)
 (hv:∃a len cap,v=.slice a len cap) (h:DataW.Trod enc P w base spare held t v d p):∃l:List I,Rel0 w (.r (.sl sz (l.map f))) v/\∀a∈l,X a:=by
 obtain ⟨a0,len,cap,rfl⟩:=hv;obtain ⟨he,S⟩:=h;rcases Go.Deep.open_slice ht S with ⟨B,hx⟩ | ⟨a,hg,hd,m,n,D,Pl,B,hb,hl,hm,T,hx,b⟩
 ·simp [Value.cells] at B;obtain ⟨rfl,rfl,rfl⟩:=B;exact ⟨[],.r (.sl sz [] none 0 (by simp) (by simp) 0 0 (λ _ _=>undef) (by simp) (by simp) (by simp) (by simp)),by simp⟩
 simp [Value.cells] at B;obtain ⟨rfl,rfl,rfl⟩:=B;have h8:len<=m:=by rw [T]; split<;>omega
 have G:∀i,i<len->∃x,X x/\∀j,j<sz->w.cell? (a.add (i*sz+j))=(g x)[j]?:=λ i Y=>by
  obtain ⟨hk,A,O⟩:=b i (by omega);obtain ⟨x,rfl,hw⟩:=Z _ _ _ O;rw [hc] at A;obtain ⟨_,C,h7⟩:=World.cells?_some A;refine ⟨x,hw,λ j K=>?_⟩;rw [<- h7 j K];congr 1;exact (Go.Deep.add_add a (i*sz) j).symm
 have M:∃l:List I,l.length=len/\(∀x∈l,X x)/\∀(i:Nat) (x:I),l[i]?=some x->∀j,j<sz->w.cell? (a.add (i*sz+j))=(g x)[j]?:=by
  clear h8 T hx hl hm b S
  induction len with
  | zero=>exact ⟨[],rfl,by simp,by simp⟩
  | succ k ih=>
    obtain ⟨l,A,O,V⟩:=ih λ i b=>G i (by omega);obtain ⟨x,h4,F⟩:=G k (by omega);refine ⟨l++[x],by simp [A],λ y hy=>?_,λ i y hy=>?_⟩
    ·rcases List.mem_append.1 hy with q | q
     ·exact O y q
     simp at q; subst q; exact h4
    rw [List.getElem?_append] at hy;split at hy
    ·exact V i y hy
    rename_i hh
    have:i=k:=by
     have:=(zaa.1 hy).1;simp at this;omega
    subst this;simp [A] at hy;subst hy;exact F
 obtain ⟨l,A,O,V⟩:=M;refine ⟨l,?_,O⟩
 have E:0<len->0<sz->a.spot=none/\a.block<w.heap.size:=λ U W=>by
  have hx:l[0]?=some l[0]:=by simp [A,U]
  have z:=V 0 l[0] hx 0 W;have h4:=hf l[0];obtain ⟨u,_,F,_⟩:=J l[0] 0 ((f l[0]).cells[0]'(by omega)) (by simp [h4,W]);rw [F,Nat.zero_mul,Nat.add_zero,aii,World.cell?] at z;split at z
  ·rename_i c _ _ hb;refine ⟨?_,(Array.getElem?_eq_some_iff.1 hb).1⟩;cases W:a.spot with
   | none=>rfl
   | some s=>rw [W] at z; simp at z
  cases z
 have U:=N
 have L:=RelV.sl (w:=w) (R:=akq w) sz (l.map f) (some a) cap (by rw [zab,A]; exact hl) hm a.block a.off (λ i j=>((l[i]?).bind λ x=>(g x)[j]?).getD undef)
  (λ hp=>by
   rw [zab,A] at hp;obtain ⟨Q,k2⟩:=E hp U;refine ⟨?_,k2,?_,trivial⟩
   ·congr 1;cases a;simp only at Q;subst Q
    rfl
   rintro ⟨id,v,o,A,_⟩
   simp [obs] at A)
  (λ i x b=>by
   rw [zac,zad] at b;obtain ⟨q,z,rfl⟩:=b
   exact hf q)
  (λ i x j y b K=>by
   rw [zac,zad] at b;obtain ⟨q,z,rfl⟩:=b;obtain ⟨u,rfl,F,h6⟩:=J q j y K;have h9:j<sz:=by have:=(zaa.1 K).1; rw [hf q] at this; exact this
   have Y:=(zaa.1 z).1;obtain ⟨Q,k2⟩:=E (by omega) U;have C:=V i q z j h9
   have ha:a=⟨a.block,a.off,none⟩:=by
    cases a;simp only at Q;subst Q
    rfl
   rw [ha,amo,F] at C;simp only [z,Option.bind_some,F,Option.getD_some];rw [<- Nat.add_assoc] at C
   exact ⟨C,h6⟩)
  (λ i x j y b K=>by
   rw [zac,zad] at b;obtain ⟨q,z,rfl⟩:=b;obtain ⟨u,rfl,F,h6⟩:=J q j y K;simp only [z,Option.bind_some,F,Option.getD_some]
   exact .v u)
 rw [zab,A] at L;exact .r L
theorem open_flat {c:Type} {r:Reach} {q:Nat} {t:TypeId} {k:Array Field} {v:Value} {d:DataW H} {p:List MemPlace} (g:c->List Value) (f:c->Prop) (o:P.underlying t=some (.struct k))
 (b:∀n cs x,DataW.trod enc P w base spare held n t cs=some x->∃a,cs=g a/\f a) (i:Value.okWide P w r q t v) (h:DataW.Trod enc P w base spare held t v d p):∃a,v=.agg (g a).toArray/\f a:=by
 obtain ⟨cs,rfl,s⟩:=okWide_struct o i;obtain ⟨e,j⟩:=h;obtain ⟨a,m,l⟩:=b _ _ _ j;refine ⟨a,?_,l⟩;rw [<- m];simp [Value.cells]
end

end Go.Ev

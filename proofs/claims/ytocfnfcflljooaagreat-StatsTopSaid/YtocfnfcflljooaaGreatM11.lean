import Derived.OpenShut
import Derived.ChangeSlices
import Derived.Deep.Slices
import Derived.Lib.SmallJoins
import Derived.Test.YtocfnfcflljooaaGreatM10
open List renaming getElem?_eq_some_iff → zaa, length_map → zab, getElem?_map → zac
open Option renaming map_eq_some_iff → zad
namespace Go.Ev
set_option maxHeartbeats 8000000
set_option maxRecDepth 100000
open Go Go.ChangeShapes Go.WideShapes Go.RowKit
set_option linter.unusedSectionVars false
set_option linter.unnecessarySimpa false
set_option linter.unusedSimpArgs false
set_option linter.unusedVariables false
section
variable {H:Type} {enc:TypeId×Value->H} {P:Program} {w:World} {base:Nat} {spare:Nat->Bool} {held:Bool}
theorem aio (a:Addr):a.add 0=a:=by simp [Addr.add]
theorem ams (b o j:Nat):(⟨b,o,none⟩:Addr).add j=⟨b,o+j,none⟩:=by
 unfold Addr.add;split
 ·rename_i h; subst h; rfl
 rfl
theorem open_sl {t e:TypeId} {k:IntKind} {v:Value} {d:DataW H} {p:List MemPlace} (S:P.underlying t=some (.slice e)) (V:P.underlying e=some (.int k)) (hc:P.cellsOf e=1)
 (M:∃a len cap,v=.slice a len cap) (h:DataW.Trod enc P w base spare held t v d p) :
 ∃f:List Int,Rel0 w (.r (.sl 1 (f.map λ z=>.v (.int k z)))) v/\(∀n∈f,(Lit.int k n).wf=true):=by
 obtain ⟨Z,len,cap,rfl⟩:=M;obtain ⟨I,O⟩:=h;rcases open_ints S V hc O with ⟨l,hx⟩ | ⟨a,J,L,f,l,_,U,T,X,hx,g,E⟩
 ·simp [Value.cells] at l;obtain ⟨rfl,rfl,rfl⟩:=l;exact ⟨[],.r (.sl 1 [] none 0 (by simp) (by simp) 0 0 (λ _ _=>undef) (by simp) (by simp) (by simp) (by simp)),by simp⟩
 simp [Value.cells] at l;obtain ⟨rfl,rfl,rfl⟩:=l;have N:len<=f.length:=by split at X<;>omega
 have q:((f.take len).map λ z=>RV.v (.int k z)).length=len:=by rw [zab,List.length_take]; omega
 refine ⟨f.take len,?_,λ n Q=>E n (List.mem_of_mem_take Q)⟩
 have b:∀(i:Nat) (x:RV),((f.take len).map λ z=>RV.v (.int k z))[i]?=some x->i<len/\i<f.length/\x=.v (.int k (f.getD i 0)):=λ i x m=>by
  have u:=(zaa.1 m).1;rw [q] at u;rw [zac,List.getElem?_take_of_lt u,List.getElem?_eq_getElem (by omega)] at m;simp only [Option.map_some,Option.some.injEq] at m;refine ⟨u,by omega,?_⟩;rw [<- m,List.getD_eq_getElem?_getD,List.getElem?_eq_getElem (by omega)]
  rfl
 have C:0<len->a.spot=none/\a.block<w.heap.size:=λ u=>by
  have:=g 0 (by omega);rw [aio,World.cell?] at this;split at this
  ·rename_i c _ _ Y;refine ⟨?_,(Array.getElem?_eq_some_iff.1 Y).1⟩;cases hs:a.spot with
   | none=>rfl
   | some s=>rw [hs] at this; simp at this
  cases this
 have:=RelV.sl (w:=w) (R:=akw w) 1 ((f.take len).map λ z=>RV.v (.int k z)) (some a) cap (by rw [q]; exact U) T a.block a.off (λ i j=>.int k (f.getD i 0))
  (λ u=>by
   rw [q] at u;obtain ⟨D,G⟩:=C u;refine ⟨?_,G,?_,trivial⟩
   ·congr 1;cases a;simp only at D;subst D
    rfl
   rintro ⟨id,v,o,F,_⟩
   simp [obs] at F)
  (λ i x m=>by rw [(b i x m).2.2]; rfl)
  (λ i x j y m B=>by
   obtain ⟨F,K,rfl⟩:=b i x m
   have A:j=0:=by
    have:=(zaa.1 B).1;simp [RV.cells] at this;exact this
   subst A;obtain ⟨D,G⟩:=C (by omega);have hc:=g i K
   have W:a=⟨a.block,a.off,none⟩:=by
    cases a;simp only at D;subst D
    rfl
   rw [W,ams] at hc;rw [Nat.mul_one,Nat.add_zero]
   exact ⟨hc,rfl⟩)
  (λ i x j y m B=>by
   obtain ⟨F,K,rfl⟩:=b i x m
   have A:j=0:=by
    have:=(zaa.1 B).1;simp [RV.cells] at this;exact this
   subst A;simp [RV.cells] at B;subst B
   exact .v _)
 rw [q] at this;exact .r this
theorem open_sb {t e:TypeId} {v:Value} {d:DataW H} {p:List MemPlace} (m:P.underlying t=some (.slice e)) (i:P.underlying e=some (.int .u8)) (hc:P.cellsOf e=1)
 (f:∃a len cap,v=.slice a len cap) (h:DataW.Trod enc P w base spare held t v d p) :
 ∃l:List UInt8,Rel0 w (.r (.sl 1 (l.map λ c=>.v (.int .u8 c.toNat)))) v:=by
 obtain ⟨b,j,g⟩:=open_sl m i hc f h;refine ⟨b.map λ z=>UInt8.ofNat z.toNat,?_⟩;rw [List.map_map]
 have e:b.map ((λ c:UInt8=>RV.v (.int .u8 c.toNat))∘λ z:Int=>UInt8.ofNat z.toNat)=b.map λ z=>RV.v (.int .u8 z):=List.map_congr_left λ z k=>by
  have:=bounds_u8 (g z k);simp only [Function.comp];congr 2;simp;omega
 rw [e];exact j
theorem open_rows {I:Type} {t e:TypeId} {v:Value} {d:DataW H} {p:List MemPlace} (sz:Nat) (f:I->RV) (g:I->List Value) (X:I->Prop) (ht:P.underlying t=some (.slice e)) (hc:P.cellsOf e=sz)
 (M:0<sz) (Z:∀n cs x,DataW.trod enc P w base spare held n e cs=some x->∃a,cs=g a/\X a) (hf:∀a,(f a).cells.length=sz)
 (J:∀(a:I) (j:Nat) (y:RV),(f a).cells[j]?=some y->∃u,y=.v u/\(g a)[j]?=some u/\u.oneCell'=true)
 (hv:∃a len cap,v=.slice a len cap) (h:DataW.Trod enc P w base spare held t v d p):∃l:List I,Rel0 w (.r (.sl sz (l.map f))) v/\∀a∈l,X a:=by
 obtain ⟨a0,len,cap,rfl⟩:=hv;obtain ⟨hd,Q⟩:=h;rcases Go.Deep.open_slice ht Q with ⟨B,hx⟩ | ⟨a,he,hg,m,n,D,Pl,B,hb,hl,hm,L,hx,b⟩
 ·simp [Value.cells] at B;obtain ⟨rfl,rfl,rfl⟩:=B;exact ⟨[],.r (.sl sz [] none 0 (by simp) (by simp) 0 0 (λ _ _=>undef) (by simp) (by simp) (by simp) (by simp)),by simp⟩
 simp [Value.cells] at B;obtain ⟨rfl,rfl,rfl⟩:=B;have h9:len<=m:=by rw [L]; split<;>omega
 have F:∀i,i<len->∃x,X x/\∀j,j<sz->w.cell? (a.add (i*sz+j))=(g x)[j]?:=λ i Y=>by
  obtain ⟨hk,z,S⟩:=b i (by omega);obtain ⟨x,rfl,hw⟩:=Z _ _ _ S;rw [hc] at z;obtain ⟨_,C,h7⟩:=World.cells?_some z;refine ⟨x,hw,λ j K=>?_⟩;rw [<- h7 j K];congr 1;exact (Go.Deep.add_add a (i*sz) j).symm
 have N:∃l:List I,l.length=len/\(∀x∈l,X x)/\∀(i:Nat) (x:I),l[i]?=some x->∀j,j<sz->w.cell? (a.add (i*sz+j))=(g x)[j]?:=by
  clear h9 L hx hl hm b Q
  induction len with
  | zero=>exact ⟨[],rfl,by simp,by simp⟩
  | succ k ih=>
    obtain ⟨l,z,S,W⟩:=ih λ i b=>F i (by omega);obtain ⟨x,h4,E⟩:=F k (by omega);refine ⟨l++[x],by simp [z],λ y hy=>?_,λ i y hy=>?_⟩
    ·rcases List.mem_append.1 hy with q | q
     ·exact S y q
     simp at q; subst q; exact h4
    rw [List.getElem?_append] at hy;split at hy
    ·exact W i y hy
    rename_i hh
    have:i=k:=by
     have:=(zaa.1 hy).1;simp at this;omega
    subst this;simp [z] at hy;subst hy;exact E
 obtain ⟨l,z,S,W⟩:=N;refine ⟨l,?_,S⟩
 have G:0<len->0<sz->a.spot=none/\a.block<w.heap.size:=λ U V=>by
  have hx:l[0]?=some l[0]:=by simp [z,U]
  have A:=W 0 l[0] hx 0 V;have h4:=hf l[0];obtain ⟨u,_,E,_⟩:=J l[0] 0 ((f l[0]).cells[0]'(by omega)) (by simp [h4,V]);rw [E,Nat.zero_mul,Nat.add_zero,aio,World.cell?] at A;split at A
  ·rename_i c _ _ hb;refine ⟨?_,(Array.getElem?_eq_some_iff.1 hb).1⟩;cases V:a.spot with
   | none=>rfl
   | some s=>rw [V] at A; simp at A
  cases A
 have U:=M
 have O:=RelV.sl (w:=w) (R:=akw w) sz (l.map f) (some a) cap (by rw [zab,z]; exact hl) hm a.block a.off (λ i j=>((l[i]?).bind λ x=>(g x)[j]?).getD undef)
  (λ hp=>by
   rw [zab,z] at hp;obtain ⟨T,k2⟩:=G hp U;refine ⟨?_,k2,?_,trivial⟩
   ·congr 1;cases a;simp only at T;subst T
    rfl
   rintro ⟨id,v,o,z,_⟩
   simp [obs] at z)
  (λ i x b=>by
   rw [zac,zad] at b;obtain ⟨q,A,rfl⟩:=b
   exact hf q)
  (λ i x j y b K=>by
   rw [zac,zad] at b;obtain ⟨q,A,rfl⟩:=b;obtain ⟨u,rfl,E,h6⟩:=J q j y K;have h8:j<sz:=by have:=(zaa.1 K).1; rw [hf q] at this; exact this
   have Y:=(zaa.1 A).1;obtain ⟨T,k2⟩:=G (by omega) U;have C:=W i q A j h8
   have ha:a=⟨a.block,a.off,none⟩:=by
    cases a;simp only at T;subst T
    rfl
   rw [ha,ams,E] at C;simp only [A,Option.bind_some,E,Option.getD_some];rw [<- Nat.add_assoc] at C
   exact ⟨C,h6⟩)
  (λ i x j y b K=>by
   rw [zac,zad] at b;obtain ⟨q,A,rfl⟩:=b;obtain ⟨u,rfl,E,h6⟩:=J q j y K;simp only [A,Option.bind_some,E,Option.getD_some]
   exact .v u)
 rw [zab,z] at O;exact .r O
theorem open_flat {e:Type} {r:Reach} {s:Nat} {t:TypeId} {k:Array Field} {v:Value} {d:DataW H} {p:List MemPlace} (g:e->List Value) (f:e->Prop) (l:P.underlying t=some (.struct k))
 (b:∀n cs x,DataW.trod enc P w base spare held n t cs=some x->∃a,cs=g a/\f a) (j:Value.okWide P w r s t v) (h:DataW.Trod enc P w base spare held t v d p):∃a,v=.agg (g a).toArray/\f a:=by
 obtain ⟨cs,rfl,i⟩:=okWide_struct l j;obtain ⟨c,m⟩:=h;obtain ⟨a,q,o⟩:=b _ _ _ m;refine ⟨a,?_,o⟩;rw [<- q];simp [Value.cells]
end

end Go.Ev

import Derived.OpenShut
import Derived.ChangeSlices
import Derived.Deep.Slices
import Derived.Lib.SmallJoins
import Derived.Test.YtjpejkfhkbaakaaGreatM8
open List renaming getElem?_eq_some_iff → zaa, length_map → zab, getElem?_map → zac
open Option renaming map_eq_some_iff → zad
namespace Go.Ev
set_option maxHeartbeats 8000000
set_option maxRecDepth 100000
open Go Go.ChangeShapes Go.WideShapes Go.RowKit
set_option linter.unusedSectionVars false
set_option linter.unnecessarySimpa false
set_option linter.unusedSimpArgs false
set_option linter.unusedVariables false
section
variable {H:Type} {enc:TypeId×Value->H} {P:Program} {w:World} {base:Nat} {spare:Nat->Bool} {held:Bool}
theorem af0 (a:Addr):a.add 0=a:=by simp [Addr.add]
theorem akr (b o j:Nat):(⟨b,o,none⟩:Addr).add j=⟨b,o+j,none⟩:=by
 unfold Addr.add;split
 ·rename_i h; subst h; rfl
 rfl
theorem open_sl {t e:TypeId} {k:IntKind} {v:Value} {d:DataW H} {p:List MemPlace} (W:P.underlying t=some (.slice e)) (Q:P.underlying e=some (.int k)) (hc:P.cellsOf e=1)
 (hv:∃a len cap,v=.slice a len cap) (h:DataW.Trod enc P w base spare held t v d p) :
 ∃g:List Int,Rel0 w (.r (.sl 1 (g.map fun z=>.v (.int k z)))) v/\(∀n∈g,(Lit.int k n).wf=true):=by
 obtain ⟨X,len,cap,rfl⟩:=hv;obtain ⟨G,S⟩:=h;rcases open_ints W Q hc S with ⟨f,hx⟩ | ⟨a,I,K,g,f,_,T,N,M,hx,l,D⟩
 ·simp [Value.cells] at f;obtain ⟨rfl,rfl,rfl⟩:=f;exact ⟨[],.r (.sl 1 [] none 0 (by simp) (by simp) 0 0 (fun _ _=>undef) (by simp) (by simp) (by simp) (by simp)),by simp⟩
 simp [Value.cells] at f;obtain ⟨rfl,rfl,rfl⟩:=f;have O:len<=g.length:=by split at M<;>omega
 have m:((g.take len).map fun z=>RV.v (.int k z)).length=len:=by rw [zab,List.length_take]; omega
 refine ⟨g.take len,?_,fun n V=>D n (List.mem_of_mem_take V)⟩
 have b:∀(i:Nat) (x:RV),((g.take len).map fun z=>RV.v (.int k z))[i]?=some x->i<len/\i<g.length/\x=.v (.int k (g.getD i 0)):=fun i x hi=>by
  have u:=(zaa.1 hi).1;rw [m] at u;rw [zac,List.getElem?_take_of_lt u,List.getElem?_eq_getElem (by omega)] at hi;simp only [Option.map_some,Option.some.injEq] at hi;refine ⟨u,by omega,?_⟩;rw [<- hi,List.getD_eq_getElem?_getD,List.getElem?_eq_getElem (by omega)]
  rfl
 have A:0<len->a.spot=none/\a.block<w.heap.size:=fun u=>by
  have:=l 0 (by omega);rw [af0,World.cell?] at this;split at this
  ·rename_i c _ _ L;refine ⟨?_,(Array.getElem?_eq_some_iff.1 L).1⟩;cases hs:a.spot with
   | none=>rfl
   | some s=>rw [hs] at this; simp at this
  cases this
 have:=RelV.sl (w:=w) (R:=arn w) 1 ((g.take len).map fun z=>RV.v (.int k z)) (some a) cap (by rw [m]; exact T) N a.block a.off (fun i j=>.int k (g.getD i 0))
  (fun u=>by
   rw [m] at u;obtain ⟨B,J⟩:=A u;refine ⟨?_,J,?_,trivial⟩
   ·congr 1;cases a;simp only at B;subst B
    rfl
   rintro ⟨id,v,o,E,_⟩
   simp [obs] at E)
  (fun i x hi=>by rw [(b i x hi).2.2]; rfl)
  (fun i x j y hi C=>by
   obtain ⟨E,F,rfl⟩:=b i x hi
   have q:j=0:=by
    have:=(zaa.1 C).1;simp [RV.cells] at this;exact this
   subst q;obtain ⟨B,J⟩:=A (by omega);have hc:=l i F
   have U:a=⟨a.block,a.off,none⟩:=by
    cases a;simp only at B;subst B
    rfl
   rw [U,akr] at hc;rw [Nat.mul_one,Nat.add_zero]
   exact ⟨hc,rfl⟩)
  (fun i x j y hi C=>by
   obtain ⟨E,F,rfl⟩:=b i x hi
   have q:j=0:=by
    have:=(zaa.1 C).1;simp [RV.cells] at this;exact this
   subst q;simp [RV.cells] at C;subst C
   exact .v _)
 rw [m] at this;exact .r this
theorem open_sb {t e:TypeId} {v:Value} {d:DataW H} {p:List MemPlace} (k:P.underlying t=some (.slice e)) (i:P.underlying e=some (.int .u8)) (hc:P.cellsOf e=1)
 (hv:∃a len cap,v=.slice a len cap) (h:DataW.Trod enc P w base spare held t v d p) :
 ∃l:List UInt8,Rel0 w (.r (.sl 1 (l.map fun c=>.v (.int .u8 c.toNat)))) v:=by
 obtain ⟨b,j,g⟩:=open_sl k i hc hv h;refine ⟨b.map fun z=>UInt8.ofNat z.toNat,?_⟩;rw [List.map_map]
 have e:b.map ((fun c:UInt8=>RV.v (.int .u8 c.toNat))∘fun z:Int=>UInt8.ofNat z.toNat)=b.map fun z=>RV.v (.int .u8 z):=List.map_congr_left fun z f=>by
  have:=bounds_u8 (g z f);simp only [Function.comp];congr 2;simp;omega
 rw [e];exact j
theorem open_rows {G:Type} {t e:TypeId} {v:Value} {d:DataW H} {p:List MemPlace} (sz:Nat) (f:G->RV) (g:G->List Value) (V:G->Prop) (ht:P.underlying t=some (.slice e)) (hc:P.cellsOf e=sz)
 (K:0<sz) (X:∀n cs x,DataW.trod enc P w base spare held n e cs=some x->∃a,cs=g a/\V a) (Z:∀a,(f a).cells.length=sz)
 (I:∀(a:G) (j:Nat) (y:RV),(f a).cells[j]?=some y->∃u,y=.v u/\(g a)[j]?=some u/\u.oneCell'=true)
 (hv:∃a len cap,v=.slice a len cap) (h:DataW.Trod enc P w base spare held t v d p):∃l:List G,Rel0 w (.r (.sl sz (l.map f))) v/\∀a∈l,V a:=by
 obtain ⟨a0,len,cap,rfl⟩:=hv;obtain ⟨hg,Q⟩:=h;rcases Go.Deep.open_slice ht Q with ⟨A,hx⟩ | ⟨a,he,hh,m,n,D,Pl,A,hb,hl,hm,S,hx,hi⟩
 ·simp [Value.cells] at A;obtain ⟨rfl,rfl,rfl⟩:=A;exact ⟨[],.r (.sl sz [] none 0 (by simp) (by simp) 0 0 (fun _ _=>undef) (by simp) (by simp) (by simp) (by simp)),by simp⟩
 simp [Value.cells] at A;obtain ⟨rfl,rfl,rfl⟩:=A;have h8:len<=m:=by rw [S]; split<;>omega
 have F:∀i,i<len->∃x,V x/\∀j,j<sz->w.cell? (a.add (i*sz+j))=(g x)[j]?:=fun i hd=>by
  obtain ⟨hn,z,L⟩:=hi i (by omega);obtain ⟨x,rfl,hw⟩:=X _ _ _ L;rw [hc] at z;obtain ⟨_,B,h9⟩:=World.cells?_some z;refine ⟨x,hw,fun j J=>?_⟩;rw [<- h9 j J];congr 1;exact (Go.Deep.add_add a (i*sz) j).symm
 have N:∃l:List G,l.length=len/\(∀x∈l,V x)/\∀(i:Nat) (x:G),l[i]?=some x->∀j,j<sz->w.cell? (a.add (i*sz+j))=(g x)[j]?:=by
  clear h8 S hx hl hm hi Q
  induction len with
  | zero=>exact ⟨[],rfl,by simp,by simp⟩
  | succ k ih=>
    obtain ⟨l,z,L,U⟩:=ih fun i hi=>F i (by omega);obtain ⟨x,Y,E⟩:=F k (by omega);refine ⟨l++[x],by simp [z],fun y hy=>?_,fun i y hy=>?_⟩
    ·rcases List.mem_append.1 hy with q | q
     ·exact L y q
     simp at q; subst q; exact Y
    rw [List.getElem?_append] at hy;split at hy
    ·exact U i y hy
    rename_i hk
    have:i=k:=by
     have:=(zaa.1 hy).1;simp at this;omega
    subst this;simp [z] at hy;subst hy;exact E
 obtain ⟨l,z,L,U⟩:=N;refine ⟨l,?_,L⟩
 have C:0<len->0<sz->a.spot=none/\a.block<w.heap.size:=fun W T=>by
  have hx:l[0]?=some l[0]:=by simp [z,W]
  have b:=U 0 l[0] hx 0 T;have Y:=Z l[0];obtain ⟨u,_,E,_⟩:=I l[0] 0 ((f l[0]).cells[0]'(by omega)) (by simp [Y,T]);rw [E,Nat.zero_mul,Nat.add_zero,af0,World.cell?] at b;split at b
  ·rename_i c _ _ hb;refine ⟨?_,(Array.getElem?_eq_some_iff.1 hb).1⟩;cases T:a.spot with
   | none=>rfl
   | some s=>rw [T] at b; simp at b
  cases b
 have W:=K
 have M:=RelV.sl (w:=w) (R:=arn w) sz (l.map f) (some a) cap (by rw [zab,z]; exact hl) hm a.block a.off (fun i j=>((l[i]?).bind fun x=>(g x)[j]?).getD undef)
  (fun hp=>by
   rw [zab,z] at hp;obtain ⟨O,k2⟩:=C hp W;refine ⟨?_,k2,?_,trivial⟩
   ·congr 1;cases a;simp only at O;subst O
    rfl
   rintro ⟨id,v,o,z,_⟩
   simp [obs] at z)
  (fun i x hi=>by
   rw [zac,zad] at hi;obtain ⟨q,b,rfl⟩:=hi
   exact Z q)
  (fun i x j y hi J=>by
   rw [zac,zad] at hi;obtain ⟨q,b,rfl⟩:=hi;obtain ⟨u,rfl,E,h6⟩:=I q j y J;have h7:j<sz:=by have:=(zaa.1 J).1; rw [Z q] at this; exact this
   have hd:=(zaa.1 b).1;obtain ⟨O,k2⟩:=C (by omega) W;have B:=U i q b j h7
   have ha:a=⟨a.block,a.off,none⟩:=by
    cases a;simp only at O;subst O
    rfl
   rw [ha,akr,E] at B;simp only [b,Option.bind_some,E,Option.getD_some];rw [<- Nat.add_assoc] at B
   exact ⟨B,h6⟩)
  (fun i x j y hi J=>by
   rw [zac,zad] at hi;obtain ⟨q,b,rfl⟩:=hi;obtain ⟨u,rfl,E,h6⟩:=I q j y J;simp only [b,Option.bind_some,E,Option.getD_some]
   exact .v u)
 rw [zab,z] at M;exact .r M
theorem open_flat {c:Type} {r:Reach} {q:Nat} {t:TypeId} {m:Array Field} {v:Value} {d:DataW H} {p:List MemPlace} (g:c->List Value) (e:c->Prop) (j:P.underlying t=some (.struct m))
 (b:∀n cs x,DataW.trod enc P w base spare held n t cs=some x->∃a,cs=g a/\e a) (hv:Value.okWide P w r q t v) (h:DataW.Trod enc P w base spare held t v d p):∃a,v=.agg (g a).toArray/\e a:=by
 obtain ⟨cs,rfl,i⟩:=okWide_struct j hv;obtain ⟨f,l⟩:=h;obtain ⟨a,o,k⟩:=b _ _ _ l;refine ⟨a,?_,k⟩;rw [<- o];simp [Value.cells]
end

end Go.Ev

import Derived.OpenShut
import Derived.ChangeSlices
import Derived.Deep.Slices
import Derived.Lib.SmallJoins
import Derived.Test.YtpibfnekkfhkmaaGreatM13
open Go.Proofs.Tryz renaming prog → P0
open List renaming getElem?_eq_some_iff → zaa, length_map → zab, getElem?_map → zac
open Option renaming map_eq_some_iff → zad
namespace Go.Ev
set_option maxHeartbeats 8000000
set_option maxRecDepth 100000
open Go Go.ChangeShapes Go.WideShapes Go.RowKit
set_option linter.unusedSectionVars false
set_option linter.unnecessarySimpa false
set_option linter.unusedVariables false
section
variable {H:Type} {enc:TypeId×Value->H} {P:Program} {w:World} {base:Nat} {spare:Nat->Bool} {held:Bool}
theorem aws (a:Addr):a.add 0=a:=by simp [Addr.add]
theorem a23 (b o j:Nat):(⟨b,o,none⟩:Addr).add j=⟨b,o+j,none⟩:=by
 unfold Addr.add;split
 ·rename_i h; subst h; rfl
 rfl
theorem open_sl {t e:TypeId} {k:IntKind} {v:Value} {d:DataW H} {p:List MemPlace} (N:P.underlying t=some (.slice e)) (W:P.underlying e=some (.int k)) (hc:P.cellsOf e=1)
 (hv:∃a len cap,v=.slice a len cap) (h:DataW.Trod enc P w base spare held t v d p) :
 ∃l:List Int,Rel0 w (.r (.sl 1 (l.map λ z=>.v (.int k z)))) v/\(∀n∈l,(Lit.int k n).wf=true):=by
 obtain ⟨X,len,cap,rfl⟩:=hv;obtain ⟨K,T⟩:=h;rcases open_ints N W hc T with ⟨g,hx⟩ | ⟨a,I,G,l,g,_,M,L,O,hx,f,E⟩
 ·simp [Value.cells] at g;obtain ⟨rfl,rfl,rfl⟩:=g;exact ⟨[],.r (.sl 1 [] none 0 (by simp) (by simp) 0 0 (λ _ _=>undef) (by simp) (by simp) (by simp) (by simp)),by simp⟩
 simp [Value.cells] at g;obtain ⟨rfl,rfl,rfl⟩:=g;have S:len<=l.length:=by split at O<;>omega
 have m:((l.take len).map λ z=>RV.v (.int k z)).length=len:=by rw [zab,List.length_take]; omega
 refine ⟨l.take len,?_,λ n U=>E n (List.mem_of_mem_take U)⟩
 have b:∀(i:Nat) (x:RV),((l.take len).map λ z=>RV.v (.int k z))[i]?=some x->i<len/\i<l.length/\x=.v (.int k (l.getD i 0)):=λ i x hi=>by
  have u:=(zaa.1 hi).1;rw [m] at u;rw [zac,List.getElem?_take_of_lt u,List.getElem?_eq_getElem (by omega)] at hi;simp only [Option.map_some,Option.some.injEq] at hi;refine ⟨u,by omega,?_⟩;rw [<- hi,List.getD_eq_getElem?_getD,List.getElem?_eq_getElem (by omega)]
  rfl
 have C:0<len->a.spot=none/\a.block<w.heap.size:=λ u=>by
  have:=f 0 (by omega);rw [aws,World.cell?] at this;split at this
  ·rename_i c _ _ V;refine ⟨?_,(Array.getElem?_eq_some_iff.1 V).1⟩;cases hs:a.spot with
   | none=>rfl
   | some s=>rw [hs] at this; simp at this
  cases this
 have:=RelV.sl (w:=w) (R:=a0d w) 1 ((l.take len).map λ z=>RV.v (.int k z)) (some a) cap (by rw [m]; exact M) L a.block a.off (λ i j=>.int k (l.getD i 0))
  (λ u=>by
   rw [m] at u;obtain ⟨B,F⟩:=C u;refine ⟨?_,F,?_,trivial⟩
   ·congr 1;cases a;simp only at B;subst B
    rfl
   rintro ⟨id,v,o,D,_⟩
   simp [obs] at D)
  (λ i x hi=>by rw [(b i x hi).2.2]; rfl)
  (λ i x j y hi A=>by
   obtain ⟨D,J,rfl⟩:=b i x hi
   have q:j=0:=by
    have:=(zaa.1 A).1;simp [RV.cells] at this;exact this
   subst q;obtain ⟨B,F⟩:=C (by omega);have hc:=f i J
   have Q:a=⟨a.block,a.off,none⟩:=by
    cases a;simp only at B;subst B
    rfl
   rw [Q,a23] at hc;rw [Nat.mul_one,Nat.add_zero]
   exact ⟨hc,rfl⟩)
  (λ i x j y hi A=>by
   obtain ⟨D,J,rfl⟩:=b i x hi
   have q:j=0:=by
    have:=(zaa.1 A).1;simp [RV.cells] at this;exact this
   subst q;simp [RV.cells] at A;subst A
   exact .v _)
 rw [m] at this;exact .r this
theorem open_sb {t e:TypeId} {v:Value} {d:DataW H} {p:List MemPlace} (i:P.underlying t=some (.slice e)) (k:P.underlying e=some (.int .u8)) (hc:P.cellsOf e=1)
 (hv:∃a len cap,v=.slice a len cap) (h:DataW.Trod enc P w base spare held t v d p) :
 ∃l:List UInt8,Rel0 w (.r (.sl 1 (l.map λ c=>.v (.int .u8 c.toNat)))) v:=by
 obtain ⟨b,f,j⟩:=open_sl i k hc hv h;refine ⟨b.map λ z=>UInt8.ofNat z.toNat,?_⟩;rw [List.map_map]
 have e:b.map ((λ c:UInt8=>RV.v (.int .u8 c.toNat))∘λ z:Int=>UInt8.ofNat z.toNat)=b.map λ z=>RV.v (.int .u8 z):=List.map_congr_left λ z g=>by
  have:=bounds_u8 (j z g);simp only [Function.comp];congr 2;simp;omega
 rw [e];exact f
theorem open_rows {I:Type} {t e:TypeId} {v:Value} {d:DataW H} {p:List MemPlace} (sz:Nat) (f:I->RV) (g:I->List Value) (U:I->Prop) (ht:P.underlying t=some (.slice e)) (hc:P.cellsOf e=sz)
 (L:0<sz) (Y:∀n cs x,DataW.trod enc P w base spare held n e cs=some x->∃a,cs=g a/\U a) (hf:∀a,(f a).cells.length=sz)
 (G:∀(a:I) (j:Nat) (y:RV),(f a).cells[j]?=some y->∃u,y=.v u/\(g a)[j]?=some u/\u.oneCell'=true)
 (hv:∃a len cap,v=.slice a len cap) (h:DataW.Trod enc P w base spare held t v d p):∃l:List I,Rel0 w (.r (.sl sz (l.map f))) v/\∀a∈l,U a:=by
 obtain ⟨a0,len,cap,rfl⟩:=hv;obtain ⟨he,S⟩:=h;rcases Go.Deep.open_slice ht S with ⟨A,hx⟩ | ⟨a,hd,h9,m,n,D,Pl,A,hb,hl,hm,K,hx,hi⟩
 ·simp [Value.cells] at A;obtain ⟨rfl,rfl,rfl⟩:=A;exact ⟨[],.r (.sl sz [] none 0 (by simp) (by simp) 0 0 (λ _ _=>undef) (by simp) (by simp) (by simp) (by simp)),by simp⟩
 simp [Value.cells] at A;obtain ⟨rfl,rfl,rfl⟩:=A;have Z:len<=m:=by rw [K]; split<;>omega
 have C:∀i,i<len->∃x,U x/\∀j,j<sz->w.cell? (a.add (i*sz+j))=(g x)[j]?:=λ i h8=>by
  obtain ⟨hg,b,Q⟩:=hi i (by omega);obtain ⟨x,rfl,hw⟩:=Y _ _ _ Q;rw [hc] at b;obtain ⟨_,B,h7⟩:=World.cells?_some b;refine ⟨x,hw,λ j J=>?_⟩;rw [<- h7 j J];congr 1;exact (Go.Deep.add_add a (i*sz) j).symm
 have N:∃l:List I,l.length=len/\(∀x∈l,U x)/\∀(i:Nat) (x:I),l[i]?=some x->∀j,j<sz->w.cell? (a.add (i*sz+j))=(g x)[j]?:=by
  clear Z K hx hl hm hi S
  induction len with
  | zero=>exact ⟨[],rfl,by simp,by simp⟩
  | succ k ih=>
    obtain ⟨l,b,Q,T⟩:=ih λ i hi=>C i (by omega);obtain ⟨x,h4,E⟩:=C k (by omega);refine ⟨l++[x],by simp [b],λ y hy=>?_,λ i y hy=>?_⟩
    ·rcases List.mem_append.1 hy with q | q
     ·exact Q y q
     simp at q; subst q; exact h4
    rw [List.getElem?_append] at hy;split at hy
    ·exact T i y hy
    rename_i hh
    have:i=k:=by
     have:=(zaa.1 hy).1;simp at this;omega
    subst this;simp [b] at hy;subst hy;exact E
 obtain ⟨l,b,Q,T⟩:=N;refine ⟨l,?_,Q⟩
 have F:0<len->0<sz->a.spot=none/\a.block<w.heap.size:=λ V W=>by
  have hx:l[0]?=some l[0]:=by simp [b,V]
  have z:=T 0 l[0] hx 0 W;have h4:=hf l[0];obtain ⟨u,_,E,_⟩:=G l[0] 0 ((f l[0]).cells[0]'(by omega)) (by simp [h4,W]);rw [E,Nat.zero_mul,Nat.add_zero,aws,World.cell?] at z;split at z
  ·rename_i c _ _ hb;refine ⟨?_,(Array.getElem?_eq_some_iff.1 hb).1⟩;cases W:a.spot with
   | none=>rfl
   | some s=>rw [W] at z; simp at z
  cases z
 have V:=L
 have O:=RelV.sl (w:=w) (R:=a0d w) sz (l.map f) (some a) cap (by rw [zab,b]; exact hl) hm a.block a.off (λ i j=>((l[i]?).bind λ x=>(g x)[j]?).getD undef)
  (λ hp=>by
   rw [zab,b] at hp;obtain ⟨M,k2⟩:=F hp V;refine ⟨?_,k2,?_,trivial⟩
   ·congr 1;cases a;simp only at M;subst M
    rfl
   rintro ⟨id,v,o,b,_⟩
   simp [obs] at b)
  (λ i x hi=>by
   rw [zac,zad] at hi;obtain ⟨q,z,rfl⟩:=hi
   exact hf q)
  (λ i x j y hi J=>by
   rw [zac,zad] at hi;obtain ⟨q,z,rfl⟩:=hi;obtain ⟨u,rfl,E,h6⟩:=G q j y J;have X:j<sz:=by have:=(zaa.1 J).1; rw [hf q] at this; exact this
   have h8:=(zaa.1 z).1;obtain ⟨M,k2⟩:=F (by omega) V;have B:=T i q z j X
   have ha:a=⟨a.block,a.off,none⟩:=by
    cases a;simp only at M;subst M
    rfl
   rw [ha,a23,E] at B;simp only [z,Option.bind_some,E,Option.getD_some];rw [<- Nat.add_assoc] at B
   exact ⟨B,h6⟩)
  (λ i x j y hi J=>by
   rw [zac,zad] at hi;obtain ⟨q,z,rfl⟩:=hi;obtain ⟨u,rfl,E,h6⟩:=G q j y J;simp only [z,Option.bind_some,E,Option.getD_some]
   exact .v u)
 rw [zab,b] at O;exact .r O
theorem open_flat {e:Type} {r:Reach} {i:Nat} {t:TypeId} {k:Array Field} {v:Value} {d:DataW H} {p:List MemPlace} (g:e->List Value) (c:e->Prop) (m:P.underlying t=some (.struct k))
 (b:∀n cs x,DataW.trod enc P w base spare held n t cs=some x->∃a,cs=g a/\c a) (hv:Value.okWide P w r i t v) (h:DataW.Trod enc P w base spare held t v d p):∃a,v=.agg (g a).toArray/\c a:=by
 obtain ⟨cs,rfl,l⟩:=okWide_struct m hv;obtain ⟨f,o⟩:=h;obtain ⟨a,j,q⟩:=b _ _ _ o;refine ⟨a,?_,q⟩;rw [<- j];simp [Value.cells]
end

open Go Go.ChangeShapes Go.WideShapes Go.RowKit
section
variable {H:Type} {enc:TypeId×Value->H} {w:World} {base:Nat} {spare:Nat->Bool} {held:Bool}
theorem a3i {n:Nat} {cs:List Value} {x:DataW H×List MemPlace} (h:DataW.trod enc P0 w base spare held n 36 cs=some x):∃q:Til,cs=[.int .i64 q.z,.int .i64 q.x,.int .i64 q.y,.int .i64 q.r]/\q.ok:=by
 obtain ⟨f,k,_,_,s,g,j⟩:=DataW.trod_struct Go.Proofs.Tryz.underlying36 h;have hc:Go.Proofs.Tryz.prog.cellsOf 36=4:=by kernel_rfl
 have B:Go.Proofs.Tryz.prog.cellsOf 2=1:=by kernel_rfl
 have p:Go.Proofs.Tryz.prog.cellsOf 3=1:=by kernel_rfl
 rw [hc] at s
 match cs,s with
 | [a,b,c,d],_=>
   have e:∀i,i<4->∃y,f[i]?=some y:=λ i hi=>⟨f[i]'(by rw [g]; exact hi),by simp [show i<f.length by rw [g]; exact hi]⟩
   obtain ⟨Q,D⟩:=e 0 (by omega);obtain ⟨y1,I⟩:=e 1 (by omega);obtain ⟨y2,L⟩:=e 2 (by omega);obtain ⟨y3,P⟩:=e 3 (by omega);have A:DataW.trod enc P0 w base spare held k 3 (([a,b,c,d].drop 0).take (Go.Proofs.Tryz.prog.cellsOf 3))=f[0]?:=j 0 _ rfl;have o:DataW.trod enc P0 w base spare held k 2 (([a,b,c,d].drop 1).take (Go.Proofs.Tryz.prog.cellsOf 2))=f[1]?:=j 1 _ rfl;have t:DataW.trod enc P0 w base spare held k 2 (([a,b,c,d].drop 2).take (Go.Proofs.Tryz.prog.cellsOf 2))=f[2]?:=j 2 _ rfl;have l:DataW.trod enc P0 w base spare held k 3 (([a,b,c,d].drop 3).take (Go.Proofs.Tryz.prog.cellsOf 3))=f[3]?:=j 3 _ rfl;rw [D,p] at A;rw [I,B] at o;rw [L,B] at t;rw [P,p] at l
   obtain ⟨K,m,_,N⟩:=DataW.trod_int Go.Proofs.Tryz.underlying3 A;obtain ⟨J,u,_,O⟩:=DataW.trod_int Go.Proofs.Tryz.underlying2 o;obtain ⟨E,v,_,G⟩:=DataW.trod_int Go.Proofs.Tryz.underlying2 t;obtain ⟨F,C,_,M⟩:=DataW.trod_int Go.Proofs.Tryz.underlying3 l;simp at m u v C;subst m; subst u; subst v; subst C;exact ⟨⟨K,J,E,F⟩,rfl,bounds_i64 N,bounds_i64 O,bounds_i64 G,bounds_i64 M⟩
theorem open_tile {r:Reach} {b0:Nat} {v:Value} {d:DataW H} {p:List MemPlace} (hv:Value.okWide P0 w r b0 36 v) (h:DataW.Trod enc P0 w base spare held 36 v d p):∃q:Til,Rel0 w q.v v/\q.ok:=by
 obtain ⟨q,rfl,h2⟩:=open_flat (λ q:Til=>[.int .i64 q.z,.int .i64 q.x,.int .i64 q.y,.int .i64 q.r]) (λ q=>q.ok) Go.Proofs.Tryz.underlying36 (λ _ _ _ h=>a3i h) hv h;refine ⟨q,.r (.agg _ _ rfl λ i x c hx hc=>?_),h2⟩
 match i,hx,hc with
 | 0,hx,hc=>simp at hx hc; subst hx; subst hc; exact .v _
 | 1,hx,hc=>simp at hx hc; subst hx; subst hc; exact .v _
 | 2,hx,hc=>simp at hx hc; subst hx; subst hc; exact .v _
 | 3,hx,hc=>simp at hx hc; subst hx; subst hc; exact .v _
 | i+4,hx,hc=>simp at hx
end

end Go.Ev

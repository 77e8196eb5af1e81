import Derived.OpenShut
import Derived.ChangeSlices
import Derived.Deep.Slices
import Derived.Lib.SmallJoins
import Derived.Test.YtpibfnekkfhkmaaGreatM12
open List renaming getElem?_eq_some_iff → zaa, length_map → zab, getElem?_map → zac
open Option renaming map_eq_some_iff → zad
namespace Go.Ev
set_option maxRecDepth 100000
open Go Go.ChangeShapes Go.WideShapes Go.RowKit
set_option linter.unusedSectionVars false
set_option linter.unnecessarySimpa false
set_option linter.unusedSimpArgs false
set_option linter.unusedVariables false
section
variable {H:Type} {enc:TypeId×Value→H} {P:Program} {w:World} {base:Nat} {spare:Nat→Bool} {held:Bool}
theorem auw (a:Addr):a.add 0=a:=by simp [Addr.add]
theorem a0l (b o j:Nat):(⟨b,o,none⟩:Addr).add j=⟨b,o+j,none⟩:=by
 unfold Addr.add;split
 ·rename_i h; subst h; rfl
 ·rfl
theorem open_sl {t e:TypeId} {k:IntKind} {v:Value} {d:DataW H} {p:List MemPlace} (ht:P.underlying t=some (.slice e)) (he:P.underlying e=some (.int k)) (hc:P.cellsOf e=1)
  (hv:∃a len cap,v=.slice a len cap) (h:DataW.Trod enc P w base spare held t v d p) :
  ∃zs:List Int,Rel0 w (.r (.sl 1 (zs.map fun z=>.v (.int k z)))) v∧(∀n∈zs,(Lit.int k n).wf=true):=by
 obtain ⟨a0,len,cap,rfl⟩:=hv;obtain ⟨fuel,hf⟩:=h;rcases open_ints ht he hc hf with ⟨hcs,hx⟩ | ⟨a,len',cap',zs,hcs,_,hl,hm,hz,hx,hcell,hwz⟩
 ·simp [Value.cells] at hcs;obtain ⟨rfl,rfl,rfl⟩:=hcs;exact ⟨[],.r (.sl 1 [] none 0 (by simp) (by simp) 0 0 (fun _ _=>undef) (by simp) (by simp) (by simp) (by simp)),by simp⟩
 ·simp [Value.cells] at hcs;obtain ⟨rfl,rfl,rfl⟩:=hcs;have hlz:len≤zs.length:=by split at hz<;>omega
  have hlt:((zs.take len).map fun z=>RV.v (.int k z)).length=len:=by rw [zab,List.length_take]; omega
  refine ⟨zs.take len,?_,fun n hn=>hwz n (List.mem_of_mem_take hn)⟩
  have hget:∀(i:Nat) (x:RV),((zs.take len).map fun z=>RV.v (.int k z))[i]?=some x→i<len∧i<zs.length∧x=.v (.int k (zs.getD i 0)):=fun i x hi=>by
   have h0:=(zaa.1 hi).1;rw [hlt] at h0;rw [zac,List.getElem?_take_of_lt h0,List.getElem?_eq_getElem (by omega)] at hi;simp only [Option.map_some,Option.some.injEq] at hi;refine ⟨h0,by omega,?_⟩;rw [← hi,List.getD_eq_getElem?_getD,List.getElem?_eq_getElem (by omega)]
   rfl
  have key:0<len→a.spot=none∧a.block<w.heap.size:=fun h0=>by
   have:=hcell 0 (by omega);rw [auw,World.cell?] at this;split at this
   ·rename_i c _ _ hb;refine ⟨?_,(Array.getElem?_eq_some_iff.1 hb).1⟩;cases hs:a.spot with
    | none=>rfl
    | some s=>rw [hs] at this; simp at this
   ·cases this
  have:=RelV.sl (w:=w) (R:=ax6 w) 1 ((zs.take len).map fun z=>RV.v (.int k z)) (some a) cap (by rw [hlt]; exact hl) hm a.block a.off (fun i j=>.int k (zs.getD i 0))
   (fun h0=>by
    rw [hlt] at h0;obtain ⟨k1,k2⟩:=key h0;refine ⟨?_,k2,?_,trivial⟩
    ·congr 1;cases a;simp only at k1;subst k1
     rfl
    ·rintro ⟨id,v,o,h1,_⟩
     simp [obs] at h1)
   (fun i x hi=>by rw [(hget i x hi).2.2]; rfl)
   (fun i x j y hi hj=>by
    obtain ⟨h1,h2,rfl⟩:=hget i x hi
    have hj0:j=0:=by
     have:=(zaa.1 hj).1;simp [RV.cells] at this;exact this
    subst hj0;obtain ⟨k1,k2⟩:=key (by omega);have hc:=hcell i h2
    have ha:a=⟨a.block,a.off,none⟩:=by
     cases a;simp only at k1;subst k1
     rfl
    rw [ha,a0l] at hc;rw [Nat.mul_one,Nat.add_zero]
    exact ⟨hc,rfl⟩)
   (fun i x j y hi hj=>by
    obtain ⟨h1,h2,rfl⟩:=hget i x hi
    have hj0:j=0:=by
     have:=(zaa.1 hj).1;simp [RV.cells] at this;exact this
    subst hj0;simp [RV.cells] at hj;subst hj
    exact .v _)
  rw [hlt] at this;exact .r this
theorem open_sb {t e:TypeId} {v:Value} {d:DataW H} {p:List MemPlace} (ht:P.underlying t=some (.slice e)) (he:P.underlying e=some (.int .u8)) (hc:P.cellsOf e=1)
  (hv:∃a len cap,v=.slice a len cap) (h:DataW.Trod enc P w base spare held t v d p) :
  ∃l:List UInt8,Rel0 w (.r (.sl 1 (l.map fun c=>.v (.int .u8 c.toNat)))) v:=by
 obtain ⟨zs,h1,h2⟩:=open_sl ht he hc hv h;refine ⟨zs.map fun z=>UInt8.ofNat z.toNat,?_⟩;rw [List.map_map]
 have e:zs.map ((fun c:UInt8=>RV.v (.int .u8 c.toNat))∘fun z:Int=>UInt8.ofNat z.toNat)=zs.map fun z=>RV.v (.int .u8 z):=List.map_congr_left fun z hz=>by
  have:=bounds_u8 (h2 z hz);simp only [Function.comp];congr 2;simp;omega
 rw [e];exact h1
theorem open_rows {α:Type} {t e:TypeId} {v:Value} {d:DataW H} {p:List MemPlace} (sz:Nat) (f:α→RV) (g:α→List Value) (wf:α→Prop) (ht:P.underlying t=some (.slice e)) (hc:P.cellsOf e=sz)
  (hpos:0<sz) (hel:∀n cs x,DataW.trod enc P w base spare held n e cs=some x→∃a,cs=g a∧wf a) (hf:∀a,(f a).cells.length=sz)
  (hfg:∀(a:α) (j:Nat) (y:RV),(f a).cells[j]?=some y→∃u,y=.v u∧(g a)[j]?=some u∧u.oneCell'=true)
  (hv:∃a len cap,v=.slice a len cap) (h:DataW.Trod enc P w base spare held t v d p):∃l:List α,Rel0 w (.r (.sl sz (l.map f))) v∧∀a∈l,wf a:=by
 obtain ⟨a0,len,cap,rfl⟩:=hv;obtain ⟨fuel,hfu⟩:=h;rcases Go.Deep.open_slice ht hfu with ⟨hcs,hx⟩ | ⟨a,len',cap',m,n,D,Pl,hcs,hb,hl,hm,hmm,hx,hi⟩
 ·simp [Value.cells] at hcs;obtain ⟨rfl,rfl,rfl⟩:=hcs;exact ⟨[],.r (.sl sz [] none 0 (by simp) (by simp) 0 0 (fun _ _=>undef) (by simp) (by simp) (by simp) (by simp)),by simp⟩
 ·simp [Value.cells] at hcs;obtain ⟨rfl,rfl,rfl⟩:=hcs;have hlm:len≤m:=by rw [hmm]; split<;>omega
  have cell:∀i,i<len→∃x,wf x∧∀j,j<sz→w.cell? (a.add (i*sz+j))=(g x)[j]?:=fun i hil=>by
   obtain ⟨cs',h1,h2⟩:=hi i (by omega);obtain ⟨x,rfl,hw⟩:=hel _ _ _ h2;rw [hc] at h1;obtain ⟨_,hcl,hat⟩:=World.cells?_some h1;refine ⟨x,hw,fun j hj=>?_⟩;rw [← hat j hj];congr 1;exact (Go.Deep.add_add a (i*sz) j).symm
  have pick:∃l:List α,l.length=len∧(∀x∈l,wf x)∧∀(i:Nat) (x:α),l[i]?=some x→∀j,j<sz→w.cell? (a.add (i*sz+j))=(g x)[j]?:=by
   clear hlm hmm hx hl hm hi hfu
   induction len with
   | zero=>exact ⟨[],rfl,by simp,by simp⟩
   | succ k ih=>
    obtain ⟨l,h1,h2,h3⟩:=ih fun i hi=>cell i (by omega);obtain ⟨x,h4,h5⟩:=cell k (by omega);refine ⟨l++[x],by simp [h1],fun y hy=>?_,fun i y hy=>?_⟩
    ·rcases List.mem_append.1 hy with q | q
     ·exact h2 y q
     ·simp at q; subst q; exact h4
    ·rw [List.getElem?_append] at hy;split at hy
     ·exact h3 i y hy
     ·rename_i hik
      have:i=k:=by
       have:=(zaa.1 hy).1;simp at this;omega
      subst this;simp [h1] at hy;subst hy;exact h5
  obtain ⟨l,h1,h2,h3⟩:=pick;refine ⟨l,?_,h2⟩
  have spot:0<len→0<sz→a.spot=none∧a.block<w.heap.size:=fun h0 hs=>by
   have hx:l[0]?=some l[0]:=by simp [h1,h0]
   have hq:=h3 0 l[0] hx 0 hs;have h4:=hf l[0];obtain ⟨u,_,h5,_⟩:=hfg l[0] 0 ((f l[0]).cells[0]'(by omega)) (by simp [h4,hs]);rw [h5,Nat.zero_mul,Nat.add_zero,auw,World.cell?] at hq;split at hq
   ·rename_i c _ _ hb;refine ⟨?_,(Array.getElem?_eq_some_iff.1 hb).1⟩;cases hs:a.spot with
    | none=>rfl
    | some s=>rw [hs] at hq; simp at hq
   ·cases hq
  have h0:=hpos
  have key:=RelV.sl (w:=w) (R:=ax6 w) sz (l.map f) (some a) cap (by rw [zab,h1]; exact hl) hm a.block a.off (fun i j=>((l[i]?).bind fun x=>(g x)[j]?).getD undef)
   (fun hp=>by
    rw [zab,h1] at hp;obtain ⟨k1,k2⟩:=spot hp h0;refine ⟨?_,k2,?_,trivial⟩
    ·congr 1;cases a;simp only at k1;subst k1
     rfl
    ·rintro ⟨id,v,o,h1,_⟩
     simp [obs] at h1)
   (fun i x hi=>by
    rw [zac,zad] at hi;obtain ⟨q,hq,rfl⟩:=hi
    exact hf q)
   (fun i x j y hi hj=>by
    rw [zac,zad] at hi;obtain ⟨q,hq,rfl⟩:=hi;obtain ⟨u,rfl,h5,h6⟩:=hfg q j y hj;have hjs:j<sz:=by have:=(zaa.1 hj).1; rw [hf q] at this; exact this
    have hil:=(zaa.1 hq).1;obtain ⟨k1,k2⟩:=spot (by omega) h0;have hcl:=h3 i q hq j hjs
    have ha:a=⟨a.block,a.off,none⟩:=by
     cases a;simp only at k1;subst k1
     rfl
    rw [ha,a0l,h5] at hcl;simp only [hq,Option.bind_some,h5,Option.getD_some];rw [← Nat.add_assoc] at hcl
    exact ⟨hcl,h6⟩)
   (fun i x j y hi hj=>by
    rw [zac,zad] at hi;obtain ⟨q,hq,rfl⟩:=hi;obtain ⟨u,rfl,h5,h6⟩:=hfg q j y hj;simp only [hq,Option.bind_some,h5,Option.getD_some]
    exact .v u)
  rw [zab,h1] at key;exact .r key
theorem open_flat {α:Type} {r:Reach} {b0:Nat} {t:TypeId} {fs:Array Field} {v:Value} {d:DataW H} {p:List MemPlace} (g:α→List Value) (wf:α→Prop) (hs:P.underlying t=some (.struct fs))
  (hel:∀n cs x,DataW.trod enc P w base spare held n t cs=some x→∃a,cs=g a∧wf a) (hv:Value.okWide P w r b0 t v) (h:DataW.Trod enc P w base spare held t v d p):∃a,v=.agg (g a).toArray∧wf a:=by
 obtain ⟨cs,rfl,hsz⟩:=okWide_struct hs hv;obtain ⟨fuel,hf⟩:=h;obtain ⟨a,h1,h2⟩:=hel _ _ _ hf;refine ⟨a,?_,h2⟩;rw [← h1];simp [Value.cells]
end

end Go.Ev

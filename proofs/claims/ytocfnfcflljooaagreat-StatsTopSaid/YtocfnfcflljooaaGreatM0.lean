import Derived.WalkKit
open Nat renaming le_refl → zaa, add_assoc → zaj, le_trans → zan
open List renaming getElem?_drop → zab, getElem?_take → zad, mem_cons → zag, getElem?_eq_some_iff → zam, not_mem_nil → zao, length_eq_zero_iff → zap, getElem?_toArray → zas
open BitVec renaming ofInt → zac
open Option renaming getD_some → zae, getD_none → zaf, map_eq_some_iff → zaq
open Bool renaming and_eq_true → zah, false_eq_true → zak
open Array renaming getElem?_eq_some_iff → zai
open Int renaming toNat_natCast → zal, eq_ofNat_of_zero_le → zar
namespace Go.Ev
set_option maxHeartbeats 8000000
set_option maxRecDepth 100000
open Go
set_option linter.unusedSectionVars false
set_option linter.unnecessarySimpa false
set_option linter.unusedSimpArgs false
set_option linter.unusedVariables false
inductive RV where
 | v (x:Value)
 | agg (xs:List RV)
 | sl (sz:Nat) (xs:List RV)
inductive AV where
 | r (x:RV)
 | agg (xs:List AV)
 | tup (xs:List AV)
 | nils (sz:Nat) (z:RV)
 | own (id ver lo len:Nat)
 | ptr (id ver off:Nat)
 | oel (id ver idx off:Nat)
 | rp (ys:List RV)
 | fn (f:Fn) (cap:List AV) (k:Nat:=0)
 | mp (id ver:Nat)
 | ifc (t:TypeId) (x:AV)
 | gd (b:Bool) (x:AV)
 | undef
instance:Inhabited RV:=⟨.v (.bool false)⟩
instance:Inhabited AV:=⟨.undef⟩
inductive Pl where
 | o (id:Nat)
 | s (id j:Nat)
deriving DecidableEq
instance:Coe Nat Pl:=⟨Pl.o⟩
def RV.cells:RV->List RV
 | .agg xs=>xs
 | x=>[x]
def AV.cells:AV->List AV
 | .agg xs=>xs
 | .r (.agg xs)=>xs.map .r
 | x=>[x]
def RV.one:RV->Bool
 | .v x=>x.oneCell'
 | .agg _=>false
 | .sl _ _=>true
section
variable (w:World) (R:Nat->Prop)
inductive RelV:RV->Value->Prop where
 | v (x:Value):RelV (.v x) x
 | agg (xs:List RV) (cs:Array Value) (hl:cs.size=xs.length) (h:∀(i:Nat) (x:RV) (c:Value),xs[i]?=some x->cs[i]?=some c->RelV x c):RelV (.agg xs) (.agg cs)
 | sl (sz:Nat) (xs:List RV) (A:Option Addr) (cap:Nat) (hc:xs.length<=cap) (hm:cap<=maxLen) (b o:Nat) (g:Nat->Nat->Value)
  (hA:0<xs.length->A=some ⟨b,o,none⟩/\R b)
  (hz:∀(i:Nat) (x:RV),xs[i]?=some x->x.cells.length=sz)
  (hg:∀(i:Nat) (x:RV) (j:Nat) (y:RV),xs[i]?=some x->x.cells[j]?=some y->w.cell? ⟨b,o+i*sz+j,none⟩=some (g i j)/\(g i j).oneCell'=true)
  (hr:∀(i:Nat) (x:RV) (j:Nat) (y:RV),xs[i]?=some x->x.cells[j]?=some y->RelV y (g i j)):RelV (.sl sz xs) (.slice A xs.length cap)
end
variable {c:Value}
theorem RelV.mono {w w':World} {R R':Nat->Prop} {x:RV} (h:RelV w R x c) (e:∀b,R b->R' b/\w'.heap[b]?=w.heap[b]?):RelV w' R' x c:=by
 induction h with
 | v x=>exact .v x
 | agg xs cs hl _ ih=>exact .agg xs cs hl ih
 | sl sz xs A cap hc hm b o g hA hz hg hr ih=>
   refine .sl sz xs A cap hc hm b o g (λ a=>⟨(hA a).1,(e b (hA a).2).1⟩) hz (λ i x j y d k=>?_) ih
   have a:0<xs.length:=by
    have:=(zam.1 d).1;omega
   obtain ⟨l,f⟩:=hg i x j y d k;refine ⟨?_,f⟩;rw [<- l];simp only [World.cell?];rw [(e b (hA a).2).2]
structure AbsT where
 size:Nat
 Q:World->Nat->(Nat->Option Nat)->Prop
 loc:∀{w w':World} {b:Nat} {φ:Nat->Option Nat},Q w b φ->w'.heap[b]?=w.heap[b]?->(∀j c,φ j=some c->w'.heap[c]?=w.heap[c]?)->Q w' b φ
 root:∀{w:World} {b:Nat} {φ:Nat->Option Nat},Q w b φ->∃cs e,w.heap[b]?=some (.cells cs e (0,0))/\cs.size=size
 lt:∀{w:World} {b:Nat} {φ:Nat->Option Nat},Q w b φ->∀j c,φ j=some c->c<w.heap.size
 view:List RV
 rp:∀{w:World} {b:Nat} {φ:Nat->Option Nat} (R:Nat->Prop),Q w b φ->R b->(∀j c,φ j=some c->R c) ->
  ∃g:Nat->Value,∀(j:Nat) (y:RV),view[j]?=some y->w.cell? ⟨b,0+j,none⟩=some (g j)/\(g j).oneCell'=true/\RelV w R y (g j)
inductive Ob where
 | box (cells:List AV)
 | row (sz:Nat) (z:RV) (app wr:Bool) (xs:List RV)
 | abs (T:AbsT)
 | map (es:List MapEntry) (clock:Nat)
 | iter (m:AV) (since:Nat) (seen:List Nat) (stepped:Nat)
def Ob.own:Ob->Bool
 | .box _=>true
 | .row _ _ _ wr _=>wr
 | .abs _=>true
 | .map _ _=>true
 | .iter _ _ _ _=>true
def Ob.pinned:Ob->Bool
 | .row _ _ app _ _=>!app
 | _=>true
def Ob.isRow:Ob->Bool
 | .row _ _ _ _ _=>true
 | _=>false
def par (id:Nat):Bool:=bif decide (1000000<=id) then decide (id<2000000) else false
variable {id:Nat}
theorem af3 (h:id<1000000):par id=false:=by unfold par; rw [decide_eq_false (by omega)]; rfl
def pp (w w':World) (b:Nat):Prop:=∀cs e fr,w.heap[b]?=some (.cells cs e fr)->∃a e' c,w'.heap[b]?=some (.cells a e' c)/\a.size=cs.size
theorem pp.refl (w:World) (b:Nat):pp w w b:=λ cs e fr h=>⟨cs,e,fr,h,rfl⟩
variable {k:Nat}
theorem pp.trans {a b c:World} (h:pp a b k) (g:pp b c k):pp a c k:=λ cs e fr q=>by
 obtain ⟨i,r,f,n,m⟩:=h cs e fr q;obtain ⟨j,l,d,o,p⟩:=g i r f n;exact ⟨j,l,d,o,p.trans m⟩
def Ob.isAbs:Ob->Bool
 | .abs _=>true
 | _=>false
def foot (ρ:Pl->Option Nat) (id:Nat) (o:Ob) (b:Nat):Prop:=ρ id=some b\/(o.isAbs=true/\∃j,ρ (.s id j)=some b)
variable {b:Nat}
theorem ca {ρ:Pl->Option Nat} {o:Ob} (h:o.isAbs=false):foot ρ id o b↔ρ id=some b:=by simp [foot,h]
variable {o':Ob}
theorem sf {ρ ρ':Pl->Option Nat} {a:Nat} {o:Ob} (d:ρ' a=ρ id) (c:∀j,ρ' (.s a j)=ρ (.s id j)) (e:o'.isAbs=o.isAbs):foot ρ' a o' b↔foot ρ id o b:=by simp only [foot,d,c,e]
def uu (ρ ρ':Pl->Option Nat) (i a:Nat):Prop:=ρ' (.o a)=ρ (.o i)/\∀j,ρ' (.s a j)=ρ (.s i j)
variable {i:Nat}
theorem uu.foot {ρ ρ':Pl->Option Nat} {a:Nat} (h:uu ρ ρ' i a) {o:Ob} (c:o'.isAbs=o.isAbs):foot ρ' a o' b↔foot ρ i o b:=sf h.1 h.2 c
def m5 (ρ:Pl->Option Nat) (id:Nat) (b:Option Nat):Pl->Option Nat:=λ i=>if i=id then b else ρ i
variable {j:Nat}
theorem qv {ρ:Pl->Option Nat} {o:Ob} {x:Option Nat} (h:j≠id):foot (m5 ρ id x) j o b↔foot ρ j o b:=sf (by simp [m5,h]) (by simp [m5]) rfl
abbrev Obs:=Nat->Option (Nat×Ob)
def aa4 (w:World) (ρ:Pl->Option Nat) (id:Nat) (a len:Nat) (c:Value):Ob->Prop
 | .box _=>∃A cap,c=.slice A len cap/\len<=cap/\cap<=maxLen /\
  (0<cap->∃b cs e fr,ρ id=some b/\A=some ⟨b,a,none⟩/\w.heap[b]?=some (.cells cs e fr)/\a+cap<=cs.size)
 | .abs _=>False
 | .map _ _=>False
 | .iter _ _ _ _=>False
 | .row sz _ _ _ xs=>∃A cap,c=.slice A len cap/\len<=cap/\cap<=maxLen/\a+len<=xs.length /\
  (0<cap->∃b cs e fr,ρ id=some b/\A=some ⟨b,a*sz,none⟩/\w.heap[b]?=some (.cells cs e fr)/\(a+cap)*sz<=cs.size)
def ay5 (ρ:Pl->Option Nat) (id idx off:Nat) (c:Value):Ob->Prop
 | .box _=>∃b,ρ id=some b/\c=.pointer (some ⟨b,idx+off,none⟩)
 | .abs _=>False
 | .map _ _=>False
 | .iter _ _ _ _=>False
 | .row sz _ _ _ xs=>idx<xs.length/\off<=sz/\∃b,ρ id=some b/\c=.pointer (some ⟨b,idx*sz+off,none⟩)
def At (ob:Obs) (id ver:Nat) (X:Ob->Prop):Prop:=∃v o,ob id=some (v,o)/\ver<=v/\(ver=v->X o)
section
variable (w:World) (R:Nat->Prop) (ob:Obs) (ρ:Pl->Option Nat)
inductive RelA:AV->Value->Prop where
 | r {x:RV} {c:Value} (h:RelV w R x c):RelA (.r x) c
 | agg (xs:List AV) (cs:Array Value) (hl:cs.size=xs.length) (h:∀(i:Nat) (x:AV) (c:Value),xs[i]?=some x->cs[i]?=some c->RelA x c):RelA (.agg xs) (.agg cs)
 | tup (xs:List AV) (cs:Array Value) (hl:cs.size=xs.length) (h:∀(i:Nat) (x:AV) (c:Value),xs[i]?=some x->cs[i]?=some c->RelA x c):RelA (.tup xs) (.tuple cs)
 | nils (sz:Nat) (z:RV):RelA (.nils sz z) (.slice none 0 0)
 | own (id ver lo len:Nat) (c:Value) (hc:c.oneCell'=true) (h:At ob id ver (aa4 w ρ id lo len c)):RelA (.own id ver lo len) c
 | ptr (id ver off:Nat) (c:Value) (hc:c.oneCell'=true) (h:At ob id ver λ _=>∃b,ρ id=some b/\c=.pointer (some ⟨b,off,none⟩)):RelA (.ptr id ver off) c
 | oel (id ver idx off:Nat) (c:Value) (hc:c.oneCell'=true) (h:At ob id ver (ay5 ρ id idx off c)):RelA (.oel id ver idx off) c
 | rp (ys:List RV) (b o:Nat) (g:Nat->Value) (hR:R b) (hg:∀(j:Nat) (y:RV),ys[j]?=some y->w.cell? ⟨b,o+j,none⟩=some (g j)/\(g j).oneCell'=true/\RelV w R y (g j)) :
  RelA (.rp ys) (.pointer (some ⟨b,o,none⟩))
 | fn (f:Fn) (xs:List AV) (k:Nat) (fs cs:Array Value) (hk:fs.size=k) (hl:fs.size+cs.size=xs.length) (h:∀(i:Nat) (x:AV) (c:Value),xs[i]?=some x->(fs++cs)[i]?=some c->RelA x c):RelA (.fn f xs k) (.func f fs cs)
 | mp (id ver:Nat) (c:Value) (hc:c.oneCell'=true) (h:At ob id ver λ _=>∃b,ρ id=some b/\c=.map (some b)):RelA (.mp id ver) c
 | ifc (t:TypeId) {x:AV} {c:Value} (h:RelA x c):RelA (.ifc t x) (.iface t c)
 | gd (b:Bool) {x:AV} {c:Value} (h:b=true->RelA x c) (hf:b=false->c=undef):RelA (.gd b x) c
 | undef (c:Value):RelA .undef c
end
def t7:Ob->Ob->Prop
 | .box _,.box _=>True
 | .abs T,.abs T'=>T'.size=T.size
 | .map _ _,.map _ _=>True
 | .iter _ _ _ _,.iter _ _ _ _=>True
 | .row sz _ _ _ xs,.row sz' _ _ _ xs'=>sz'=sz/\xs.length<=xs'.length
 | .row sz _ _ _ _,.box _=>sz=1
 | _,_=>False
theorem t7.refl (o:Ob):t7 o o:=by cases o<;>simp [t7]
structure Stays (w w':World) (R R':Nat->Prop) (ob ob':Obs) (ρ ρ':Pl->Option Nat):Prop where
 free:∀b,R b->R' b/\w'.heap[b]?=w.heap[b]?
 obj:∀id v o,ob id=some (v,o)->∃v' o',ob' id=some (v',o')/\v<=v'/\(v=v'->ρ' id=ρ id/\t7 o o' /\
  (∀b cs e fr,ρ id=some b->w.heap[b]?=some (.cells cs e fr)->∃cs' e' fr',w'.heap[b]?=some (.cells cs' e' fr')/\cs'.size=cs.size))
section
variable {w w':World} {R R':Nat->Prop} {ob ob':Obs} {ρ ρ':Pl->Option Nat}
theorem Stays.at_ (h:Stays w w' R R' ob ob' ρ ρ') {ver:Nat} {X d:Ob->Prop} (i:At ob id ver X)
 (hx:∀o o',X o->ρ' id=ρ id->t7 o o'->(∀b cs e fr,ρ id=some b->w.heap[b]?=some (.cells cs e fr)->∃a e' c,w'.heap[b]?=some (.cells a e' c)/\a.size=cs.size)->d o') :
 At ob' id ver d:=by
 obtain ⟨v,o,l,k,n⟩:=i;obtain ⟨q,o',m,p,g⟩:=h.obj id v o l;refine ⟨q,o',m,zan k p,λ e=>?_⟩;obtain ⟨r,f,j⟩:=g (by omega);exact hx o o' (n (by omega)) r f j
theorem RelA.stays (h:Stays w w' R R' ob ob' ρ ρ') {x:AV} (hx:RelA w R ob ρ x c):RelA w' R' ob' ρ' x c:=by
 induction hx with
 | r u=>exact .r (u.mono h.free)
 | agg xs cs hl _ ih=>exact .agg xs cs hl ih
 | tup xs cs hl _ ih=>exact .tup xs cs hl ih
 | nils sz z=>exact .nils sz z
 | own id ver lo len c hc ha=>
   refine .own id ver lo len c hc (h.at_ ha λ o o' i a d v=>?_);cases o with
   | box _=>
     cases o' with
     | box _=>
       obtain ⟨A,cap,q,n,p,B⟩:=i;refine ⟨A,cap,q,n,p,λ u=>?_⟩;obtain ⟨b,cs,e,fr,s,D,G,C⟩:=B u;obtain ⟨l,e',m,E,F⟩:=v b cs e fr s G;exact ⟨b,l,e',m,by rw [a,s],D,E,by rw [F]; exact C⟩
     | _=>exact d.elim
   | abs _=>exact i.elim
   | map _ _=>exact i.elim
   | iter _ _ _ _=>exact i.elim
   | row sz z1 a1 w1 xs=>
     cases o' with
     | box _=>
       obtain rfl:sz=1:=d;obtain ⟨A,cap,q,n,p,H,B⟩:=i;refine ⟨A,cap,q,n,p,λ u=>?_⟩;obtain ⟨b,cs,e,fr,s,D,G,C⟩:=B u;obtain ⟨l,e',m,E,F⟩:=v b cs e fr s G;exact ⟨b,l,e',m,by rw [a,s],by rw [D,Nat.mul_one],E,by rw [F]; simpa using C⟩
     | abs _=>exact d.elim
     | map _ _=>exact d.elim
     | iter _ _ _ _=>exact d.elim
     | row sz' z2 a2 w2 xs'=>
       obtain ⟨rfl,d⟩:=d;obtain ⟨A,cap,q,n,p,H,B⟩:=i;refine ⟨A,cap,q,n,p,by omega,λ u=>?_⟩;obtain ⟨b,cs,e,fr,s,D,G,C⟩:=B u;obtain ⟨l,e',m,E,F⟩:=v b cs e fr s G;exact ⟨b,l,e',m,by rw [a,s],D,E,by rw [F]; exact C⟩
 | ptr id ver off c hc ha=>exact .ptr id ver off c hc (h.at_ ha λ o o' i a d v=>by rw [a]; exact i)
 | oel id ver idx off c hc ha=>
   refine .oel id ver idx off c hc (h.at_ ha λ o o' i a d v=>?_);cases o with
   | box _=>
     cases o' with
     | box _=>
       obtain ⟨b,q,n⟩:=i;exact ⟨b,by rw [a]; exact q,n⟩
     | _=>exact d.elim
   | abs _=>exact i.elim
   | map _ _=>exact i.elim
   | iter _ _ _ _=>exact i.elim
   | row sz z1 a1 w1 xs=>
     cases o' with
     | box _=>
       obtain rfl:sz=1:=d;obtain ⟨q,n,b,p,H⟩:=i;exact ⟨b,by rw [a]; exact p,by rw [H,Nat.mul_one]⟩
     | abs _=>exact d.elim
     | map _ _=>exact d.elim
     | iter _ _ _ _=>exact d.elim
     | row sz' z2 a2 w2 xs'=>
       obtain ⟨rfl,d⟩:=d;obtain ⟨q,n,p⟩:=i;exact ⟨by omega,n,by rw [a]; exact p⟩
 | rp ys b o g hR hg=>
   refine .rp ys b o g (h.free b hR).1 λ j y I=>?_;obtain ⟨K,J,L⟩:=hg j y I;refine ⟨?_,J,L.mono h.free⟩;rw [<- K];simp only [World.cell?];rw [(h.free b hR).2]
 | fn f xs k fs cs d hl _ ih=>exact .fn f xs k fs cs d hl ih
 | mp id ver c hc ha=>exact .mp id ver c hc (h.at_ ha λ o o' i a d v=>by rw [a]; exact i)
 | ifc t _ ih=>exact .ifc t ih
 | gd b _ hf ih=>exact .gd b ih hf
 | undef c=>exact .undef c
end
structure St where
 e:Nat->AV
 ob:Obs
def Own (ob:Obs) (ρ:Pl->Option Nat) (b:Nat):Prop:=∃id v o,ob id=some (v,o)/\o.own=true/\foot ρ id o b
def d6 (B:Nat->Prop) (ob:Obs) (ρ:Pl->Option Nat) (w:World) (b:Nat):Prop:=b<w.heap.size/\¬Own ob ρ b/\B b
def ay (w:World) (R:Nat->Prop) (ob:Obs) (ρ:Pl->Option Nat) (id:Nat):Ob->Prop
 | .box cells=>∃b cs e,ρ id=some b/\w.heap[b]?=some (.cells cs e (0,0))/\cs.size=cells.length /\
  ∀(i:Nat) (x:AV) (c:Value),cells[i]?=some x->cs[i]?=some c->RelA w R ob ρ x c
 | .abs T=>∃b,ρ id=some b/\T.Q w b (λ j=>ρ (.s id j))
 | .map es clock=>∃b,ρ id=some b/\w.heap[b]?=some (.map es.toArray clock)
 | .iter m since seen stepped=>∃b m',ρ id=some b/\w.heap[b]?=some (.mapIter (some m') since seen.toArray stepped)/\RelA w R ob ρ m (.map (some m'))
 | .row sz _ app _ xs=>(xs=[]/\ρ id=none/\app=true)\/∃b cs e fr,ρ id=some b/\w.heap[b]?=some (.cells cs e fr) /\
  (∀k,k<cs.size->¬(fr.1<=k/\k<fr.2))/\(app=true->fr=(0,0))/\xs.length*sz<=cs.size /\
  ∀(i:Nat) (x:RV),xs[i]?=some x->x.cells.length=sz/\∀(j:Nat) (y:RV),x.cells[j]?=some y->∃c,cs[i*sz+j]?=some c/\c.oneCell'=true/\RelV w R y c
structure Keeps (I:Nat->Prop) (w w':World):Prop where
 os:w'.os=w.os
 tape:w'.tape=w.tape
 output:w'.output=w.output
 size:w.heap.size<=w'.heap.size
 block:∀b,b<w.heap.size->¬I b->w'.heap[b]?=w.heap[b]?
theorem Keeps.refl (I:Nat->Prop) (w:World):Keeps I w w:=⟨rfl,rfl,rfl,zaa _,λ _ _ _=>rfl⟩
theorem Keeps.trans {I:Nat->Prop} {a b c:World} (h:Keeps I a b) (k:Keeps I b c):Keeps I a c:=
 ⟨k.os.trans h.os,k.tape.trans h.tape,k.output.trans h.output,zan h.size k.size,λ i d e=>(k.block i (Nat.lt_of_lt_of_le d h.size) e).trans (h.block i d e)⟩
structure Cx where
 n:Nat
 I:Nat->Prop
 pn:Nat->Option Nat
 B:Nat->Prop
 w0:World
structure Mem (X:Cx) (ob:Obs) (ρ:Pl->Option Nat) (w:World):Prop where
 obj:∀id v o,ob id=some (v,o)->ay w (d6 X.B ob ρ w) ob ρ id o
 inj:∀id id' x x' b,ob id=some x->ob id'=some x'->foot ρ id x.2 b->foot ρ id' x'.2 b->id=id'
 keeps:Keeps X.I X.w0 w
 own:∀id v o b,ob id=some (v,o)->foot ρ id o b->X.I b\/X.w0.heap.size<=b
 pin:∀id b,X.pn id=some b->ρ id=some b/\∃o,ob id=some (0,o)/\o.pinned=true/\(o.isRow=true->pp X.w0 w b)
structure Gam (X:Cx) (s:St) (ρ:Pl->Option Nat) (a:Act) (w:World):Prop extends Mem X s.ob ρ w where
 sz:a.tmps.size=X.n
 df:a.defers=[]
 env:∀t,RelA w (d6 X.B s.ob ρ w) s.ob ρ (s.e t) (a.tmps.getD t undef)
 pnn:∀id,par id=false->X.pn id=none
 small:X.n<=100000
 base:∀b,X.I b\/X.w0.heap.size<=b->X.B b

inductive Opd where
 | t (n:Nat)
 | c (x:AV)
inductive PO where
 | mov (x:Opd)
 | pick (c a b:Opd)
 | bin (op:BinOp) (x y:Opd)
 | beq (neg:Bool) (x y:Opd)
 | eqn (neg:Bool) (x:Opd)
 | un (op:UnOp) (x:Opd)
 | conv (k:IntKind) (x:Opd)
 | toStr (x:Opd)
 | toBytes (z:RV) (x:Opd)
 | new (zs:List AV)
 | box (x:Opd)
 | build (zs:List AV) (ps:List (Nat×Nat×Opd))
 | mkf (f:Fn) (xs:List Opd) (k:Nat:=0)
 | eqa (neg:Bool) (ks:List Nat) (x y:Opd)
 | bsl (sz:Nat) (z:RV) (ps:List Opd)
 | ld (n:Option Nat) (x:Opd)
 | st (n:Nat) (x y:Opd)
 | nck (x:Opd)
 | fa (off:Nat) (x:Opd)
 | fld (off:Nat) (n:Option Nat) (x:Opd)
 | ia (sz:Nat) (z:RV) (x i:Opd)
 | ixs (x i:Opd)
 | sls (x:Opd) (lo hi:Option Opd)
 | sll (sz:Nat) (x:Opd) (lo hi mx:Option Opd)
 | mks (sz:Nat) (z:RV) (bytes:Nat) (l c:Opd)
 | len (str:Bool) (x:Opd)
 | app (sz:Nat) (z:RV) (bytes:Nat) (x y:Opd)
 | cpy (sz:Nat) (x y:Opd)
 | ext (x:Opd) (i:Nat)
 | mm (mx:Bool) (x:Opd) (ys:List Opd)
 | iaa (n sz:Nat) (x i:Opd)
 | carry (sub:Bool) (x y c:Opd)
 | lkp (str:Bool) (z:RV) (comma:Bool) (x i:Opd)
 | lenm (x:Opd)
 | mki (t:TypeId) (x:Opd)
 | tas (t:TypeId) (z:RV) (comma:Bool) (x:Opd)
 | ent (x:Opd)
 | mkm
 | mset (str:Bool) (x i y:Opd)
 | ment (str:Bool) (z:RV) (x i:Opd)
 | mest (x i y:Opd)
 | mdel (str:Bool) (x i:Opd)
 | rng (x:Opd)
 | mrk (x:Opd)
 | cps (x y:Opd)
 | sla (n:Nat) (x:Opd)
 | clr (sz:Nat) (z:RV) (x:Opd)
structure Rs where
 ok:Prop
 v:AV
 ob:Obs
 rd:List Nat
 wr:List Nat
abbrev Env:=Nat->AV
def put (d:Nat) (x:AV) (e:Env):Env:=λ n=>if n=d then x else e n
def upd (id:Nat) (x:Nat×Ob) (ob:Obs):Obs:=λ n=>if n=id then some x else ob n
def Opd.ev (e:Env):Opd->AV
 | .t n=>e n
 | .c x=>x
abbrev bl (b:Bool):AV:=.r (.v (.bool b))
abbrev int (k:IntKind) (n:Int):AV:=.r (.v (.int k n))
abbrev Vs:=Prop×AV
def Rs.and (p:Prop) (r:Rs):Rs:=⟨p/\r.ok,r.v,r.ob,r.rd,r.wr⟩
def bad (g:Bool):Vs:=(g=true->False,.undef)
def o9 (g:Bool) (id:Nat) (ob:Obs):Rs:=⟨g=true->False,.undef,ob,[id],[]⟩
def AV.bare:AV->AV
 | .gd _ x=>x
 | x=>x
def AV.may (g:Bool):AV->Prop
 | .gd b _=>g=true->b=true
 | _=>True
def Vs.q (ob:Obs) (p:Prop) (v:Vs):Rs:=⟨p/\v.1,v.2,ob,[],[]⟩
def nv (ob:Obs) (id:Nat):Nat:=match ob id with | some (v,_)=>v+1 | none=>0
def yr (g:Bool) (op:BinOp) (k c:IntKind) (a b:Int):Vs:=
 match op with
 | .add=>(k=c,int k (k.wrap (a+b)))
 | .sub=>(k=c,int k (k.wrap (a-b)))
 | .mul=>(k=c,int k (k.wrap (a*b)))
 | .quo=>(k=c/\(g=true->¬b=0),int k (k.wrap (a.tdiv b)))
 | .rem=>(k=c/\(g=true->¬b=0),int k (a.tmod b))
 | .and=>(k=c,int k (k.wrap ((zac k.bits a &&& zac k.bits b).toNat)))
 | .or=>(k=c,int k (k.wrap ((zac k.bits a ||| zac k.bits b).toNat)))
 | .xor=>(k=c,int k (k.wrap ((zac k.bits a ^^^ zac k.bits b).toNat)))
 | .andNot=>(k=c,int k (k.wrap ((zac k.bits a &&& ~~~ zac k.bits b).toNat)))
 | .eql=>(k=c,bl (a == b))
 | .neq=>(k=c,bl (a != b))
 | .lss=>(k=c,bl (decide (a<b)))
 | .gtr=>(k=c,bl (decide (a>b)))
 | .leq=>(k=c,bl (decide (a<=b)))
 | .geq=>(k=c,bl (decide (a>=b)))
 | .shl=>((g=true->0<=b),int k (k.wrap (a*2^(min b.toNat k.bits))))
 | .shr=>((g=true->0<=b),int k (a.fdiv (2^(min b.toNat k.bits))))
abbrev amv (a:ByteArray):AV:=.r (.v (.string a))
def yq (g:Bool) (op:BinOp) (a b:ByteArray):Vs:=
 match op with
 | .add=>((g=true->a.size+b.size<=9223372036854775807),amv (a++b))
 | .eql=>(True,bl (a.toList == b.toList))
 | .neq=>(True,bl (!(a.toList == b.toList)))
 | .lss=>(True,bl (Op.bytesLess a.toList b.toList))
 | .geq=>(True,bl (!Op.bytesLess a.toList b.toList))
 | _=>bad g
def ul (g:Bool) (op:BinOp):AV->AV->Vs
 | .r (.v (.int k a)),.r (.v (.int k' b))=>yr g op k k' a b
 | .r (.v (.string a)),.r (.v (.string b))=>yq g op a b
 | _,_=>bad g
def nj (g:Bool):AV->AV->AV->Vs
 | .r (.v (.bool c)),.r (.v (.bool a)),.r (.v (.bool b))=>(True,bl (bif c then a else b))
 | .r (.v (.bool c)),.gd h (.r (.v (.bool a))),.r (.v (.bool b))=>((g=true->c=true->h=true),bl (bif c then a else b))
 | .r (.v (.bool c)),.r (.v (.bool a)),.gd h (.r (.v (.bool b)))=>((g=true->c=false->h=true),bl (bif c then a else b))
 | .r (.v (.bool c)),.r (.v (.bool a)),.undef=>((g=true->c=true),bl a)
 | .r (.v (.bool c)),.undef,.r (.v (.bool b))=>((g=true->c=false),bl b)
 | .r (.v (.bool c)),.gd h .undef,.r (.v (.bool b))=>((g=true->c=false),bl b)
 | .r (.v (.bool c)),.r (.v (.bool a)),.gd h .undef=>((g=true->c=true),bl a)
 | _,_,_=>bad g
def um (g c:Bool):AV->AV->Vs
 | .r (.v (.bool a)),.r (.v (.bool b))=>(True,bl (bif c then !(a == b) else (a == b)))
 | _,_=>bad g
def un1 (g:Bool) (op:UnOp):AV->Vs
 | .r (.v (.int k n))=>match op with
   | .neg=>(True,int k (k.wrap (0-n)))
   | .xor=>(True,int k (k.wrap ((zac k.bits (if k.signed then -1 else k.max) ^^^ zac k.bits n).toNat)))
   | _=>bad g
 | .r (.v (.bool b))=>match op with
   | .not=>(True,bl !b)
   | _=>bad g
 | _=>bad g
def oa (g:Bool) (k:IntKind):AV->Vs
 | .r (.v (.int _ n))=>(True,int k (k.wrap n))
 | _=>bad g
def g9 (ob:Obs) (id ver:Nat):Option (Nat×RV×Bool×Bool×List RV):=
 match ob id with
 | some (v,.row sz z app wr xs)=>if ver=v then some (sz,z,app,wr,xs) else none
 | _=>none
def m7 (ob:Obs) (id ver:Nat):Option (List AV):=
 match ob id with
 | some (v,.box cells)=>if ver=v then some cells else none
 | _=>none
def dv (ob:Obs) (id ver:Nat):Option Unit:=
 match ob id with
 | some (v,.box _)=>if ver=v then some () else none
 | some (v,.abs _)=>if ver=v then some () else none
 | _=>none
def leb (g str:Bool) (id n:Nat) (ob:Obs):Option (List AV)->Rs
 | some _=>⟨str=false,int .i64 n,ob,[id],[]⟩
 | none=>o9 g id ob
def qe (g str:Bool):AV->Obs->Rs
 | .r (.sl _ xs),ob=>Vs.q ob (str=false) (True,int .i64 xs.length)
 | .r (.v (.string s)),ob=>Vs.q ob (str=true) (True,int .i64 s.size)
 | .nils _ _,ob=>Vs.q ob (str=false) (True,int .i64 0)
 | .own id ver _ n,ob=>match g9 ob id ver with
   | some _=>⟨str=false,int .i64 n,ob,[id],[]⟩
   | none=>leb g str id n ob (m7 ob id ver)
 | _,ob=>Vs.q ob True (bad g)
def iab (g:Bool) (sz id ver a n:Nat) (i:Int) (ob:Obs):Option (List AV)->Rs
 | some _=>⟨sz=1/\(g=true->0<=i/\i<n),.ptr id ver (a+i.toNat),ob,[id],[]⟩
 | none=>o9 g id ob
def ia2 (g:Bool) (sz:Nat) (z:RV):AV->AV->Obs->Rs
 | .r (.sl sz' xs),.r (.v (.int _ i)),ob=>Vs.q ob (sz'=sz) ((g=true->0<=i/\i<xs.length),.rp (xs.getD i.toNat z).cells)
 | .own id ver lo n,.r (.v (.int _ i)),ob=>match g9 ob id ver with
   | some (sz',_)=>⟨sz'=sz/\(g=true->0<=i/\i<n),.oel id ver (lo+i.toNat) 0,ob,[id],[]⟩
   | none=>iab g sz id ver lo n i ob (m7 ob id ver)
 | _,_,ob=>Vs.q ob True (bad g)
def uf (g:Bool):AV->AV->Vs
 | .r (.v (.string s)),.r (.v (.int _ i))=>((g=true->0<=i/\i<s.size),int .u8 (s.data.toList.getD i.toNat 0).toNat)
 | _,_=>bad g
def ldb (id:Nat) (ob:Obs) (g:Bool) (n:Option Nat) (off:Nat):Option (List AV)->Rs
 | some cells=>match n with
   | none=>⟨g=true->off<cells.length,cells.getD off .undef,ob,[id],[]⟩
   | some n=>⟨g=true->off+n<=cells.length,.agg ((cells.drop off).take n),ob,[id],[]⟩
 | none=>o9 g id ob
def ldr (id:Nat) (ob:Obs) (g:Bool) (n:Option Nat) (idx off:Nat):Option (Nat×RV×Bool×Bool×List RV)->Rs
 | some (sz,z,_,_,xs)=>match n with
   | none=>⟨g=true->off<sz,.r ((xs.getD idx z).cells.getD off (.v (.bool false))),ob,[id],[]⟩
   | some n=>⟨g=true->off+n<=sz,.r (.agg (((xs.getD idx z).cells.drop off).take n)),ob,[id],[]⟩
 | none=>o9 g id ob
def ld1 (g:Bool) (n:Option Nat):AV->Obs->Rs
 | .ptr id ver off,ob=>ldb id ob g n off (m7 ob id ver)
 | .oel id ver idx off,ob=>ldr id ob g n idx off (g9 ob id ver)
 | .rp ys,ob=>match n with
   | none=>Vs.q ob True ((g=true->0<ys.length),.r (ys.getD 0 (.v (.bool false))))
   | some n=>Vs.q ob True ((g=true->n<=ys.length),.r (.agg (ys.take n)))
 | _,ob=>Vs.q ob True (bad g)
def rr (g:Bool):AV->Obs->Rs
 | .ptr id ver off,ob=>match dv ob id ver with
   | some _=>⟨True,.ptr id ver off,ob,[id],[]⟩
   | none=>o9 g id ob
 | .oel id ver idx off,ob=>match g9 ob id ver with
   | some _=>⟨True,.oel id ver idx off,ob,[id],[]⟩
   | none=>o9 g id ob
 | .rp ys,ob=>Vs.q ob True (True,.rp ys)
 | .fn (.func f) xs k,ob=>Vs.q ob True (True,.fn (.func f) xs k)
 | _,ob=>Vs.q ob True (bad g)
def sg (g a:Bool):AV->Obs->Rs
 | .ptr id ver _,ob=>match dv ob id ver with
   | some _=>⟨True,bl a,ob,[id],[]⟩
   | none=>o9 g id ob
 | .r (.v (.pointer none)),ob=>Vs.q ob True (True,bl !a)
 | _,ob=>Vs.q ob True (bad g)
def fa1 (g:Bool) (off:Nat):AV->Obs->Rs
 | .ptr id ver o,ob=>match m7 ob id ver with
   | some _=>⟨True,.ptr id ver (o+off),ob,[id],[]⟩
   | none=>o9 g id ob
 | .oel id ver idx o,ob=>match g9 ob id ver with
   | some (sz,_)=>⟨g=true->o+off<=sz,.oel id ver idx (o+off),ob,[id],[]⟩
   | none=>o9 g id ob
 | .rp ys,ob=>Vs.q ob True (True,.rp (ys.drop off))
 | _,ob=>Vs.q ob True (bad g)
def uh (g:Bool) (off:Nat) (n:Option Nat) (x:AV):Vs:=
 match x with
 | .agg cs=>match n with
   | none=>((g=true->off<cs.length),cs.getD off .undef)
   | some n=>((g=true->off+n<=cs.length),.agg ((cs.drop off).take n))
 | .r (.agg cs)=>match n with
   | none=>((g=true->off<cs.length),.r (cs.getD off (.v (.bool false))))
   | some n=>((g=true->off+n<=cs.length),.r (.agg ((cs.drop off).take n)))
 | _=>bad g
def bnd (d:Int):Option AV->Option Int
 | none=>some d
 | some (.r (.v (.int _ i)))=>some i
 | _=>none
def tx (g:Bool):AV->Option AV->Option AV->Vs
 | .r (.v (.string s)),lo,hi=>match bnd 0 lo,bnd s.size hi with
   | some l,some h=>((g=true->0<=l/\l<=h/\h<=s.size),amv (s.extract l.toNat h.toNat))
   | _,_=>bad g
 | _,_,_=>bad g
def ou (g:Bool) (sz:Nat):AV->Option AV->Option AV->Option AV->Obs->Rs
 | .r (.sl sz' xs),lo,hi,mx,ob=>match bnd 0 lo,bnd xs.length hi,bnd xs.length mx with
   | some l,some h,some m=>Vs.q ob (sz'=sz) ((g=true->0<=l/\l<=h/\h<=m/\m<=xs.length),.r (.sl sz ((xs.take h.toNat).drop l.toNat)))
   | _,_,_=>Vs.q ob True (bad g)
 | .own id ver lo0 n,lo,hi,mx,ob=>match bnd 0 lo,bnd n hi,bnd n mx with
   | some l,some h,some m=>match g9 ob id ver with
     | some (sz',_)=>⟨sz'=sz/\(g=true->0<=l/\l<=h/\h<=m/\m<=n),.own id ver (lo0+l.toNat) (h-l).toNat,ob,[id],[]⟩
     | none=>o9 g id ob
   | _,_,_=>Vs.q ob True (bad g)
 | _,_,_,_,ob=>Vs.q ob True (bad g)
def vo (g:Bool) (id ver off n:Nat) (ob:Obs):Option (List AV)->Rs
 | some cells=>⟨g=true->off+n<=cells.length/\n<=maxLen,.own id ver off n,ob,[id],[]⟩
 | none=>o9 g id ob
def pt (g:Bool) (n:Nat):AV->Obs->Rs
 | .ptr id ver off,ob=>vo g id ver off n ob (m7 ob id ver)
 | _,ob=>Vs.q ob True (bad g)
def ui (g:Bool) (i:Nat):AV->Vs
 | .tup xs=>(i<xs.length,xs.getD i .undef)
 | _=>bad g
def b7 {a:Type} (l:List a) (i:Nat) (m:List a):List a:=l.take i++m++l.drop (i+m.length)
def src (ob:Obs):AV->Option (Nat×List RV×List Nat)
 | .r (.sl sz xs)=>some (sz,xs,[])
 | .nils sz _=>some (sz,[],[])
 | .own id ver lo len=>match g9 ob id ver with
   | some (sz,_,_,_,xs)=>some (sz,(xs.drop lo).take len,[id])
   | none=>none
 | _=>none
def ado:RV->UInt8
 | .v (.int _ n)=>UInt8.ofNat n.toNat
 | _=>0
def ajw:RV->Bool
 | .v (.int .u8 n)=>decide (0<=n/\n<256)
 | _=>false
def AV.one:AV->Bool
 | .r x=>x.one
 | .agg _=>false
 | .tup _=>false
 | .gd _ _=>false
 | .undef=>false
 | _=>true
def AV.boxable:AV->Bool
 | .agg _=>true
 | .r (.agg _)=>true
 | x=>x.one
def ej (ob:Obs):Option (Nat×List RV×List Nat)->Rs
 | some (sz,ys,rd)=>⟨sz=1/\ys.all ajw=true,amv ⟨(ys.map ado).toArray⟩,ob,rd,[]⟩
 | none=>Vs.q ob False (False,.undef)
def bo (g:Bool) (e:Env):List AV->List (Nat×Nat×Opd)->Vs
 | zs,[]=>(True,.agg zs)
 | zs,(off,n,x)::r=>((x.ev e).may g/\(g=true->(x.ev e).bare.boxable=true/\(x.ev e).bare.cells.length=n/\off+n<=zs.length)/\(bo g e (b7 zs off (x.ev e).bare.cells) r).1,(bo g e (b7 zs off (x.ev e).bare.cells) r).2)
def k7 (e:Env):List Opd->List AV
 | []=>[]
 | x::xs=>(x.ev e).bare::k7 e xs
def ae (g:Bool) (e:Env):List Opd->Prop
 | []=>True
 | x::xs=>(x.ev e).may g/\ae g e xs
def eq2:Nat->AV->AV->Option Bool
 | 0,.r (.v (.int k a)),.r (.v (.int k' b))=>if k=k' then some (a == b) else none
 | 1,.r (.v (.bool a)),.r (.v (.bool b))=>some (a == b)
 | 2,.r (.v (.string a)),.r (.v (.string b))=>some (a.toList == b.toList)
 | _,_,_=>none
def eql:List Nat->List AV->List AV->Option Bool
 | [],[],[]=>some true
 | k::ks,x::xs,y::ys=>match eq2 k x y,eql ks xs ys with
   | some a,some b=>some (a&&b)
   | _,_=>none
 | _,_,_=>none
def AV.isA:AV->Bool
 | .agg _=>true
 | .r (.agg _)=>true
 | _=>false
def vz (g a:Bool):Option Bool->Vs
 | some b=>(True,bl (bif a then !b else b))
 | none=>bad g
def mmL (g c:Bool):AV->List AV->Vs
 | x,[]=>(True,x)
 | .r (.v (.int k a)),.r (.v (.int k' b))::ys=>mmL g c (int k (bif c then max a b else min a b)) ys
 | _,_=>bad g
def ja (g:Bool) (n sz:Nat):AV->AV->Obs->Rs
 | .ptr id ver o,.r (.v (.int _ i)),ob=>match m7 ob id ver with
   | some _=>⟨g=true->0<=i/\i<n,.ptr id ver (o+i.toNat*sz),ob,[id],[]⟩
   | none=>o9 g id ob
 | .oel id ver idx o,.r (.v (.int _ i)),ob=>match g9 ob id ver with
   | some (sz',_)=>⟨g=true->0<=i/\i<n/\o+n*sz<=sz',.oel id ver idx (o+i.toNat*sz),ob,[id],[]⟩
   | none=>o9 g id ob
 | .rp ys,.r (.v (.int _ i)),ob=>Vs.q ob True ((g=true->0<=i/\i<n),.rp (ys.drop (i.toNat*sz)))
 | _,_,ob=>Vs.q ob True (bad g)
def ig (g a:Bool):AV->AV->AV->Vs
 | .r (.v (.int .u64 x)),.r (.v (.int .u64 y)),.r (.v (.int .u64 c))=>((g=true->0<=x/\0<=y/\0<=c/\c<=1/\x<18446744073709551616/\y<18446744073709551616),
  bif a then .tup [int .u64 ((x+18446744073709551616-y-c)%18446744073709551616),int .u64 (if x<y+c then 1 else 0)]
  else .tup [int .u64 ((x+y+c)%18446744073709551616),int .u64 ((x+y+c)/18446744073709551616)])
 | _,_,_=>bad g
def bg (str:Bool):Value->Bool
 | .int _ _=>!str
 | .string _=>str
 | _=>false
def kr:Value->Value->Option Bool
 | .int k a,.int k' b=>if k=k' then some (a == b) else none
 | .string a,.string b=>some (a == b)
 | _,_=>none
def z8 (k:Value):List MapEntry->Nat->Option (Option (Nat×Value))
 | [],_=>some none
 | e::es,i=>match kr k e.key with
   | some true=>some (some (i,e.val))
   | some false=>z8 k es (i+1)
   | none=>none
def okK (es:List MapEntry) (k:Value):Bool:=(z8 k es 0).isSome
def gm:Value->RV
 | .agg cs=>.agg (cs.toList.map .v)
 | x=>.v x
def lkR (es:List MapEntry) (k:Value) (z:RV):RV:=match z8 k es 0 with
 | some (some (_,v))=>gm v
 | _=>z
def lkB (es:List MapEntry) (k:Value):Bool:=match z8 k es 0 with
 | some (some _)=>true
 | _=>false
def y7 (es:List MapEntry) (a:Nat) (k v:Value):List MapEntry:=match z8 k es 0 with
 | some (some (i,_))=>es.modify i λ e=>{ e with key:=k,val:=v }
 | _=>es++[⟨k,v,a⟩]
def v5 (es:List MapEntry) (a:Nat) (k:Value):Nat:=match z8 k es 0 with
 | some (some _)=>a
 | _=>a+1
def xf (es:List MapEntry) (a:Nat) (k:Value):Int:=match z8 k es 0 with
 | some (some (i,_))=>((((es[i]?).map (·.born)).getD 0:Nat):Int)
 | _=>a
def xg (es:List MapEntry) (a:Nat) (k z:Value):List MapEntry:=match z8 k es 0 with
 | some (some (i,_))=>es.modify i λ e=>{ e with key:=k }
 | _=>es++[⟨k,z,a⟩]
def agb (es:List MapEntry) (n:Int) (v:Value):List MapEntry:=match es.findIdx? (λ e=>(e.born:Int) == n) with
 | some i=>es.modify i λ e=>{ e with val:=v }
 | none=>es
def ani (es:List MapEntry) (n:Int):Bool:=(es.findIdx? λ e=>(e.born:Int) == n).isSome
def y8 (es:List MapEntry) (k:Value):List MapEntry:=match z8 k es 0 with
 | some (some (i,_))=>es.eraseIdx i
 | _=>es
def tp:List RV->Option (List Value)
 | []=>some []
 | .v x::xs=>match tp xs with
   | some l=>some (x::l)
   | none=>none
 | _=>none
def tq:List AV->Option (List Value)
 | []=>some []
 | .r (.v x)::xs=>match tq xs with
   | some l=>some (x::l)
   | none=>none
 | _=>none
def gx:Option (List Value)->Option Value
 | some l=>some (.agg l.toArray)
 | none=>none
def toV:AV->Option Value
 | .r (.v x)=>some x
 | .r (.agg xs)=>gx (tp xs)
 | .agg xs=>gx (tq xs)
 | _=>none
def n7 (ob:Obs) (id ver:Nat):Option (List MapEntry×Nat):=
 match ob id with
 | some (v,.map es c)=>if ver=v then some (es,c) else none
 | _=>none
def aq (ob:Obs) (id ver:Nat):Option (AV×Nat×List Nat×Nat):=
 match ob id with
 | some (v,.iter m since seen st)=>if ver=v then some (m,since,seen,st) else none
 | _=>none
def ov (g:Bool) (id:Nat) (ob:Obs) (f:List MapEntry->Vs):Option (List MapEntry×Nat)->Rs
 | some (es,_)=>⟨(f es).1,(f es).2,ob,[id],[]⟩
 | none=>o9 g id ob
def sa (g str:Bool) (z:RV) (a:Bool):AV->AV->Obs->Rs
 | .mp id ver,.r (.v k),ob=>ov g id ob (λ es=>((g=true->bg str k=true/\okK es k=true),bif a then .tup [.r (lkR es k z),bl (lkB es k)] else .r (lkR es k z))) (n7 ob id ver)
 | _,_,ob=>Vs.q ob True (bad g)
def lc (g:Bool):AV->Obs->Rs
 | .mp id ver,ob=>ov g id ob (λ es=>(True,int .i64 es.length)) (n7 ob id ver)
 | _,ob=>Vs.q ob True (bad g)
def tt (g:Bool) (t:TypeId) (z:RV) (a:Bool):AV->Vs
 | .ifc t' x=>((g=true->t'=t\/a=true),if t'=t then (bif a then .tup [x,bl true] else x) else .tup [.r z,bl false])
 | _=>bad g
def aj9 (es:List MapEntry) (a:List Nat):Option MapEntry:=match a.getLast? with
 | some b=>es.find? λ e=>e.born == b
 | none=>none
def wa:Option MapEntry->AV
 | some e=>.tup [.r (gm e.key),.r (gm e.val)]
 | none=>.undef
def qf (g:Bool) (id b:Nat) (ob:Obs) (a:List Nat) (d:Nat):Option (List MapEntry×Nat)->Rs
 | some (es,c)=>⟨g=true->c=d/\(aj9 es a).isSome=true,wa (aj9 es a),ob,[id,b],[]⟩
 | none=>⟨g=true->False,.undef,ob,[id,b],[]⟩
def oz (g:Bool) (id:Nat) (ob:Obs):Option (AV×Nat×List Nat×Nat)->Rs
 | some (.mp mid mver,_,seen,st)=>qf g id mid ob seen st (n7 ob mid mver)
 | _=>o9 g id ob
def qg (g:Bool):AV->Obs->Rs
 | .ptr id ver 0,ob=>oz g id ob (aq ob id ver)
 | _,ob=>Vs.q ob True (bad g)
def PO.see (g:Bool) (e:Env) (ob:Obs):PO->Rs
 | .mov x=>Vs.q ob ((x.ev e).may g) (True,(x.ev e).bare)
 | .pick c a b=>Vs.q ob ((c.ev e).may g) (nj g (c.ev e).bare (a.ev e) (b.ev e))
 | .bin op x y=>Vs.q ob ((x.ev e).may g/\(y.ev e).may g) (ul g op (x.ev e).bare (y.ev e).bare)
 | .beq neg x y=>Vs.q ob ((x.ev e).may g/\(y.ev e).may g) (um g neg (x.ev e).bare (y.ev e).bare)
 | .eqn neg x=>Rs.and ((x.ev e).may g) (sg g neg (x.ev e).bare ob)
 | .un op x=>Vs.q ob ((x.ev e).may g) (un1 g op (x.ev e).bare)
 | .conv k x=>Vs.q ob ((x.ev e).may g) (oa g k (x.ev e).bare)
 | .len str x=>Rs.and ((x.ev e).may g) (qe g str (x.ev e).bare ob)
 | .ia sz z x i=>Rs.and ((x.ev e).may g/\(i.ev e).may g) (ia2 g sz z (x.ev e).bare (i.ev e).bare ob)
 | .ixs x i=>Vs.q ob ((x.ev e).may g/\(i.ev e).may g) (uf g (x.ev e).bare (i.ev e).bare)
 | .ld n x=>Rs.and ((x.ev e).may g) (ld1 g n (x.ev e).bare ob)
 | .nck x=>Rs.and ((x.ev e).may g) (rr g (x.ev e).bare ob)
 | .fa off x=>Rs.and ((x.ev e).may g) (fa1 g off (x.ev e).bare ob)
 | .fld off n x=>Vs.q ob ((x.ev e).may g) (uh g off n (x.ev e).bare)
 | .sls x lo hi=>Vs.q ob ((x.ev e).may g/\mayO g e lo/\mayO g e hi) (tx g (x.ev e).bare (bareO e lo) (bareO e hi))
 | .sll sz x lo hi mx=>Rs.and ((x.ev e).may g/\mayO g e lo/\mayO g e hi/\mayO g e mx) (ou g sz (x.ev e).bare (bareO e lo) (bareO e hi) (bareO e mx) ob)
 | .sla n x=>Rs.and ((x.ev e).may g) (pt g n (x.ev e).bare ob)
 | .ext x i=>Vs.q ob ((x.ev e).may g) (ui g i (x.ev e).bare)
 | .toStr x=>Rs.and ((x.ev e).may g) (ej ob (src ob (x.ev e).bare))
 | .build zs ps=>Vs.q ob True (bo g e zs ps)
 | .mkf f xs k=>Vs.q ob (ae g e xs) (True,.fn f (k7 e xs) k)
 | .eqa neg ks x y=>Vs.q ob ((x.ev e).may g/\(y.ev e).may g/\(g=true->(x.ev e).bare.isA=true/\(y.ev e).bare.isA=true)) (vz g neg (eql ks (x.ev e).bare.cells (y.ev e).bare.cells))
 | .mm mx x ys=>Vs.q ob ((x.ev e).may g/\ae g e ys) (mmL g mx (x.ev e).bare (k7 e ys))
 | .iaa n sz x i=>Rs.and ((x.ev e).may g/\(i.ev e).may g) (ja g n sz (x.ev e).bare (i.ev e).bare ob)
 | .carry sub x y c=>Vs.q ob ((x.ev e).may g/\(y.ev e).may g/\(c.ev e).may g) (ig g sub (x.ev e).bare (y.ev e).bare (c.ev e).bare)
 | .lkp str z comma x i=>Rs.and ((x.ev e).may g/\(i.ev e).may g) (sa g str z comma (x.ev e).bare (i.ev e).bare ob)
 | .lenm x=>Rs.and ((x.ev e).may g) (lc g (x.ev e).bare ob)
 | .mki t x=>Vs.q ob ((x.ev e).may g) (True,.ifc t (x.ev e).bare)
 | .tas t z comma x=>Vs.q ob ((x.ev e).may g) (tt g t z comma (x.ev e).bare)
 | .ent x=>Rs.and ((x.ev e).may g) (qg g (x.ev e).bare ob)
 | _=>Vs.q ob False (False,.undef)
where
 mayO (g:Bool) (e:Env):Option Opd->Prop
  | none=>True
  | some x=>(x.ev e).may g
 bareO (e:Env):Option Opd->Option AV
  | none=>none
  | some x=>some (x.ev e).bare
def AV.rv (ob:Obs):AV->Option (RV×List Nat)
 | .r x=>some (x,[])
 | .nils sz _=>some (.sl sz [],[])
 | .own id ver lo len=>match g9 ob id ver with
   | some (sz,_,_,_,xs)=>some (.sl sz ((xs.drop lo).take len),[id])
   | none=>none
 | _=>none
def rvs (ob:Obs):List AV->Option (List RV×List Nat)
 | []=>some ([],[])
 | x::xs=>match x.rv ob,rvs ob xs with
   | some (y,i),some (ys,j)=>some (y::ys,i++j)
   | _,_=>none
def AV.elt (ob:Obs):AV->Option (RV×List Nat)
 | .agg xs=>match rvs ob xs with
   | some (ys,i)=>some (.agg ys,i)
   | none=>none
 | x=>x.rv ob
def frz (ob:Obs) (i:Nat):Option (Nat×Ob)->Obs
 | some (v,.row sz z app _ xs)=>upd i (v,.row sz z app false xs) ob
 | _=>ob
def freeze (ob:Obs):List Nat->Obs
 | []=>ob
 | i::is=>freeze (frz ob i (ob i)) is
def t6 (ob:Obs):Rs:=⟨False,.undef,ob,[],[]⟩
def m0 (ob:Obs) (d:Nat) (x:Ob) (y:Nat->AV) (ok:Prop) (rd a:List Nat):Rs:=⟨ok,y (nv ob d),upd d (nv ob d,x) ob,d::rd,d::a⟩
def RV.good (sz:Nat) (x:RV):Bool:=x.cells.length == sz&&x.cells.all (·.one)
def stb (id:Nat) (ver:Nat) (ob:Obs) (n off:Nat) (y:List AV):Option (List AV)->Rs
 | some cells=>⟨y.length=n/\off+n<=cells.length/\y.all (·.one)=true,.undef,upd id (ver,.box (b7 cells off y)) ob,[id],[id]⟩
 | none=>t6 ob
def str (id:Nat) (ver:Nat) (ob:Obs) (n idx off:Nat) (y:List RV):Option (Nat×RV×Bool×Bool×List RV)->Rs
 | some (sz,z,app,wr,xs)=>
   ⟨y.length=n/\off+n<=sz/\wr=true/\y.all (·.one)=true,.undef,
    upd id (ver,.row sz z app wr (xs.set idx (match xs.getD idx z with | .agg cs=>.agg (b7 cs off y) | x=>y.getD 0 x))) ob,[id],[id]⟩
 | none=>t6 ob
def st2 (n:Nat) (x y:AV) (ob:Obs):Rs:=match x with
 | .ptr id ver off=>Rs.and (y.boxable=true) (stb id ver ob n off y.cells (m7 ob id ver))
 | .oel id ver idx off=>match rvs ob y.cells with
   | some (ys,[])=>Rs.and (y.boxable=true) (str id ver ob n idx off ys (g9 ob id ver))
   | _=>t6 ob
 | _=>t6 ob
def pa (d:Nat) (ob:Obs) (sz:Nat) (z:RV) (a:Nat):AV->Option (Nat×List RV×List Nat)->Rs
 | .nils sz' _,some (sy,ys,rd)=>m0 ob d (.row sz z true true ys) (λ v=>.own d v 0 ys.length) (sz'=sz/\sy=sz/\ys.length*a<=140737488355328/\ys.length<=maxLen) rd []
 | .own id ver 0 len,some (sy,ys,rd)=>match g9 ob id ver with
   | some (sz',z',app,wr,xs)=>⟨sz'=sz/\sy=sz/\(app || !par id)=true/\wr=true/\(len+ys.length)*a<=140737488355328/\len+ys.length<=maxLen,
    .own id (ver+1) 0 (len+ys.length),upd id (ver+1,.row sz z' app wr (xs.take len++ys)) ob,id::rd,[id]⟩
   | none=>t6 ob
 | _,_=>t6 ob
def spl {a:Type} (l:List a) (i:Nat) (m:List a):List a:=b7 l i m
def qi (ob:Obs) (sz:Nat):AV->Option (Nat×List RV×List Nat)->Rs
 | .own id ver lo n,some (sy,ys,rd)=>match g9 ob id ver with
   | some (sz',z',app,wr,xs)=>⟨sz'=sz/\sy=sz/\wr=true,int .i64 ((Nat.min ys.length n:Nat):Int),upd id (ver,.row sz z' app wr (spl xs lo (ys.take n))) ob,id::rd,[id]⟩
   | none=>t6 ob
 | _,_=>t6 ob
def x9 (e:Env) (ob:Obs) (g:Bool):List Opd->Option (Prop×List RV×List Nat)
 | []=>some (True,[],[])
 | x::xs=>match (x.ev e).bare.elt ob,x9 e ob g xs with
   | some (y,i),some (p,ys,j)=>some ((x.ev e).may g/\p,y::ys,i++j)
   | _,_=>none
def aac (l:Int) (z:RV):List RV:=List.replicate l.toNat z
def dp (d:Nat) (z:RV) (ob:Obs):AV->Rs
 | .r (.v (.string s))=>m0 ob d (.row 1 z false true (s.data.toList.map λ b=>.v (.int .u8 b.toNat))) (λ v=>.own d v 0 s.size) (s.size<=maxLen) [] []
 | _=>t6 ob
def yi (d:Nat) (sz:Nat) (z:RV) (a:Nat) (ob:Obs):AV->AV->Rs
 | .r (.v (.int _ l)),.r (.v (.int _ c))=>m0 ob d (.row sz z true true (aac l z)) (λ v=>.own d v 0 l.toNat) (0<=l/\l<=c/\c<=maxLen/\c*a<=281474976710656) [] []
 | _,_=>t6 ob
def kp (id ver:Nat) (ob:Obs) (ok:List MapEntry->Prop) (a:List MapEntry->Nat->List MapEntry) (b:List MapEntry->Nat->Nat):Option (List MapEntry×Nat)->Rs
 | some (es,c)=>⟨ok es,.undef,upd id (ver,.map (a es c) (b es c)) ob,[id],[id]⟩
 | none=>t6 ob
def pq (str:Bool) (k:Value) (id ver:Nat) (ob:Obs):Option Value->Rs
 | some v=>kp id ver ob (λ es=>bg str k=true/\okK es k=true) (λ es c=>y7 es c k v) (λ es c=>v5 es c k) (n7 ob id ver)
 | none=>t6 ob
def agc (str:Bool) (k z:Value) (id ver:Nat) (ob:Obs):Option (List MapEntry×Nat)->Rs
 | some (es,c)=>⟨bg str k=true/\okK es k=true,.tup [.r (lkR es k (.v z)),int .i64 (xf es c k)],upd id (ver,.map (xg es c k z) (v5 es c k)) ob,[id],[id]⟩
 | none=>t6 ob
def abk (str:Bool) (z:RV):AV->AV->Obs->Rs
 | .mp id ver,.r (.v k),ob=>match z with
   | .v zv=>agc str k zv id ver ob (n7 ob id ver)
   | _=>t6 ob
 | _,_,ob=>t6 ob
def aik (n:Int) (id ver:Nat) (ob:Obs):Option Value->Rs
 | some v=>kp id ver ob (λ es=>ani es n=true) (λ es _=>agb es n v) (λ _ c=>c) (n7 ob id ver)
 | none=>t6 ob
def ad1:AV->AV->AV->Obs->Rs
 | .mp id ver,.r (.v (.int _ n)),y,ob=>aik n id ver ob (toV y)
 | _,_,_,ob=>t6 ob
def kw (str:Bool):AV->AV->AV->Obs->Rs
 | .mp id ver,.r (.v k),y,ob=>pq str k id ver ob (toV y)
 | _,_,_,ob=>t6 ob
def la (str:Bool):AV->AV->Obs->Rs
 | .mp id ver,.r (.v k),ob=>kp id ver ob (λ es=>bg str k=true/\okK es k=true) (λ es _=>y8 es k) (λ _ c=>c) (n7 ob id ver)
 | _,_,ob=>t6 ob
def vp (d b a:Nat) (ob:Obs):Option (List MapEntry×Nat)->Rs
 | some (_,c)=>m0 ob d (.iter (.mp b a) c [] c) (λ v=>.ptr d v 0) True [b] []
 | none=>t6 ob
def pu (d:Nat):AV->Obs->Rs
 | .mp mid mver,ob=>vp d mid mver ob (n7 ob mid mver)
 | _,ob=>t6 ob
def uj (ob:Obs):AV->AV->Rs
 | .own id ver lo n,.r (.v (.string s))=>match g9 ob id ver with
   | some (sz,z',app,wr,xs)=>⟨sz=1/\wr=true,int .i64 ((Nat.min (s.data.toList.map λ b=>RV.v (.int .u8 b.toNat)).length n:Nat):Int),upd id (ver,.row 1 z' app wr (spl xs lo ((s.data.toList.map λ b=>RV.v (.int .u8 b.toNat)).take n))) ob,[id],[id]⟩
   | none=>t6 ob
 | _,_=>t6 ob
def uk (ob:Obs) (sz:Nat) (z:RV):AV->Rs
 | .own id ver lo n=>match g9 ob id ver with
   | some (sz',z',app,wr,xs)=>⟨sz'=sz/\wr=true,.undef,upd id (ver,.row sz z' app wr (spl xs lo (List.replicate n z))) ob,[id],[id]⟩
   | none=>t6 ob
 | _=>t6 ob
def ue (ob:Obs):AV->Rs
 | .own id ver lo len=>match g9 ob id ver with
   | some (sz,z',app,wr,xs)=>⟨app=true/\wr=true/\0<len,.own id ver lo len,upd id (ver,.row sz z' false wr xs) ob,[id],[id]⟩
   | none=>t6 ob
 | _=>t6 ob
def PO.act (d:Nat) (e:Env) (ob:Obs):PO->Rs
 | .new zs=>m0 ob d (.box zs) (λ v=>.ptr d v 0) True [] []
 | .box x=>m0 ob d (.box (x.ev e).bare.cells) (λ v=>.ptr d v 0) ((x.ev e).may true/\(x.ev e).bare.boxable=true) [] []
 | .bsl sz z ps=>match x9 e ob true ps with
   | some (p,ys,fz)=>m0 (freeze ob fz) d (.row sz z true true ys) (λ v=>.own d v 0 ys.length) (p/\ys.all (·.good sz)=true/\d∉fz) fz fz
   | none=>t6 ob
 | .st n x y=>Rs.and ((x.ev e).may true/\(y.ev e).may true) (st2 n (x.ev e).bare (y.ev e).bare ob)
 | .cpy sz x y=>Rs.and ((x.ev e).may true/\(y.ev e).may true) (qi ob sz (x.ev e).bare (src ob (y.ev e).bare))
 | .app sz z bytes x y=>Rs.and ((x.ev e).may true/\(y.ev e).may true) (pa d ob sz z bytes (x.ev e).bare (src ob (y.ev e).bare))
 | .toBytes z x=>Rs.and ((x.ev e).may true) (dp d z ob (x.ev e).bare)
 | .mks sz z bytes l c=>Rs.and ((l.ev e).may true/\(c.ev e).may true) (yi d sz z bytes ob (l.ev e).bare (c.ev e).bare)
 | .mkm=>m0 ob d (.map [] 0) (λ v=>.mp d v) True [] []
 | .ment str z x i=>Rs.and ((x.ev e).may true/\(i.ev e).may true) (abk str z (x.ev e).bare (i.ev e).bare ob)
 | .mest x i y=>Rs.and ((x.ev e).may true/\(i.ev e).may true/\(y.ev e).may true) (ad1 (x.ev e).bare (i.ev e).bare (y.ev e).bare ob)
 | .mset str x i y=>Rs.and ((x.ev e).may true/\(i.ev e).may true/\(y.ev e).may true) (kw str (x.ev e).bare (i.ev e).bare (y.ev e).bare ob)
 | .mdel str x i=>Rs.and ((x.ev e).may true/\(i.ev e).may true) (la str (x.ev e).bare (i.ev e).bare ob)
 | .rng x=>Rs.and ((x.ev e).may true) (pu d (x.ev e).bare ob)
 | .mrk x=>Rs.and ((x.ev e).may true) (ue ob (x.ev e).bare)
 | .clr sz z x=>Rs.and ((x.ev e).may true) (uk ob sz z (x.ev e).bare)
 | .cps x y=>Rs.and ((x.ev e).may true/\(y.ev e).may true) (uj ob (x.ev e).bare (y.ev e).bare)
 | _=>t6 ob

def Opd.us:Opd->List Nat
 | .t n=>[n]
 | .c _=>[]
def usO:Option Opd->List Nat
 | none=>[]
 | some x=>x.us
def usL:List Opd->List Nat
 | []=>[]
 | x::xs=>x.us++usL xs
def usP:List (Nat×Nat×Opd)->List Nat
 | []=>[]
 | (_,_,x)::r=>x.us++usP r
def PO.us:PO->List Nat
 | .mov x=>x.us
 | .pick c a b=>c.us++(a.us++b.us)
 | .bin _ x y=>x.us++y.us
 | .beq _ x y=>x.us++y.us
 | .eqn _ x=>x.us
 | .un _ x=>x.us
 | .conv _ x=>x.us
 | .toStr x=>x.us
 | .sla _ x=>x.us
 | .clr _ _ x=>x.us
 | .toBytes _ x=>x.us
 | .new _=>[]
 | .box x=>x.us
 | .build _ ps=>usP ps
 | .mkf _ xs _=>usL xs
 | .eqa _ _ x y=>x.us++y.us
 | .bsl _ _ ps=>usL ps
 | .ld _ x=>x.us
 | .st _ x y=>x.us++y.us
 | .nck x=>x.us
 | .fa _ x=>x.us
 | .fld _ _ x=>x.us
 | .ia _ _ x i=>x.us++i.us
 | .ixs x i=>x.us++i.us
 | .sls x lo hi=>x.us++(usO lo++usO hi)
 | .sll _ x lo hi mx=>x.us++(usO lo++(usO hi++usO mx))
 | .mks _ _ _ l c=>l.us++c.us
 | .len _ x=>x.us
 | .app _ _ _ x y=>x.us++y.us
 | .cpy _ x y=>x.us++y.us
 | .ext x _=>x.us
 | .mm _ x ys=>x.us++usL ys
 | .iaa _ _ x i=>x.us++i.us
 | .carry _ x y c=>x.us++(y.us++c.us)
 | .lkp _ _ _ x i=>x.us++i.us
 | .lenm x=>x.us
 | .mki _ x=>x.us
 | .tas _ _ _ x=>x.us
 | .ent x=>x.us
 | .mkm=>[]
 | .mset _ x i y=>x.us++(i.us++y.us)
 | .mest x i y=>x.us++(i.us++y.us)
 | .ment _ _ x i=>x.us++i.us
 | .mdel _ x i=>x.us++i.us
 | .rng x=>x.us
 | .mrk x=>x.us
 | .cps x y=>x.us++y.us
theorem ah {p:Nat->Prop} {a b:List Nat} (h:∀t,t∈a++b->p t):(∀t,t∈a->p t)/\∀t,t∈b->p t:=⟨λ t c=>h t (by simp [c]),λ t c=>h t (by simp [c])⟩
section
variable {e e':Env} {ob ob':Obs}
theorem o8 {x:Opd} (h:∀t,t∈x.us->e' t=e t):x.ev e'=x.ev e:=by
 cases x with
 | t n=>exact h n (by simp [Opd.us])
 | c x=>rfl
theorem ry {g:Bool} {x:Option Opd} (h:∀t,t∈usO x->e' t=e t):PO.see.mayO g e' x=PO.see.mayO g e x:=by
 cases x with
 | none=>rfl
 | some x=>simp only [PO.see.mayO,o8 h]
theorem pj {x:Option Opd} (h:∀t,t∈usO x->e' t=e t):PO.see.bareO e' x=PO.see.bareO e x:=by
 cases x with
 | none=>rfl
 | some x=>simp only [PO.see.bareO,o8 h]
theorem aep {g:Bool}:∀{c:List (Nat×Nat×Opd)} {b:List AV},(∀t,t∈usP c->e' t=e t)->bo g e' b c=bo g e b c
 | [],b,h=>rfl
 | (off,n,x)::r,b,h=>by
   obtain ⟨f,d⟩:=ah (a:=x.us) h;simp only [bo,o8 f];rw [aep d]
theorem kg:∀{xs:List Opd},(∀t,t∈usL xs->e' t=e t)->k7 e' xs=k7 e xs
 | [],h=>rfl
 | x::r,h=>by
   obtain ⟨c,b⟩:=ah (a:=x.us) h;simp only [k7,o8 c,kg b]
theorem nr {g:Bool}:∀{xs:List Opd},(∀t,t∈usL xs->e' t=e t)->ae g e' xs=ae g e xs
 | [],h=>rfl
 | x::r,h=>by
   obtain ⟨c,b⟩:=ah (a:=x.us) h;simp only [ae,o8 c,nr b]
theorem agt {g:Bool}:∀{xs:List Opd},(∀t,t∈usL xs->e' t=e t)->x9 e' ob g xs=x9 e ob g xs
 | [],h=>rfl
 | x::r,h=>by
   obtain ⟨c,b⟩:=ah (a:=x.us) h;simp only [x9,o8 c,agt b]
theorem aug {o:PO} {g:Bool} (h:∀t,t∈o.us->e' t=e t):o.see g e' ob=o.see g e ob:=by
 cases o with
 | pick c a b | carry _ c a b=>
   obtain ⟨i,d⟩:=ah (a:=c.us) h;obtain ⟨d,j⟩:=ah d;simp only [PO.see,o8 i,o8 d,o8 j]
 | bin _ x y | beq _ x y | eqa _ _ x y | ia _ _ x y | ixs x y | iaa _ _ x y | lkp _ _ _ x y=>
   obtain ⟨i,d⟩:=ah h;simp only [PO.see,o8 i,o8 d]
 | sls x lo hi=>
   obtain ⟨i,d⟩:=ah (a:=x.us) h;obtain ⟨d,j⟩:=ah d;simp only [PO.see,o8 i,ry d,ry j,pj d,pj j]
 | sll _ x lo hi mx=>
   obtain ⟨i,d⟩:=ah (a:=x.us) h;obtain ⟨d,j⟩:=ah (a:=usO lo) d;obtain ⟨j,l⟩:=ah j;simp only [PO.see,o8 i,ry d,ry j,ry l,pj d,pj j,pj l]
 | mm _ x ys=>
   obtain ⟨i,d⟩:=ah (a:=x.us) h;simp only [PO.see,o8 i,nr d,kg d]
 | build zs ps=>simp only [PO.see,aep (show ∀t,t∈usP ps->e' t=e t from h)]
 | mkf f xs k=>
   simp only [PO.see,nr (show ∀t,t∈usL xs->e' t=e t from h),kg (show ∀t,t∈usL xs->e' t=e t from h)]
 | sla _ x | lenm x | mki _ x | tas _ _ _ x | ent x | mov x | eqn _ x | un _ x | conv _ x | toStr x | ld _ x | nck x | fa _ x | fld _ _ x | len _ x | ext x _=>
   simp only [PO.see,o8 (show ∀t,t∈x.us->e' t=e t from h)]
 | toBytes _ _ | new _ | box _ | bsl _ _ _ | st _ _ _ | mks _ _ _ _ _ | app _ _ _ _ _ | cpy _ _ _ | mkm | mset _ _ _ _ | ment _ _ _ _ | mest _ _ _ | mdel _ _ _ | rng _ | mrk _ | cps _ _ | clr _ _ _=>rfl
theorem awc {o:PO} {d:Nat} (h:∀t,t∈o.us->e' t=e t):o.act d e' ob=o.act d e ob:=by
 cases o with
 | mset _ x i y | mest x i y=>
   obtain ⟨c,b⟩:=ah (a:=x.us) h;obtain ⟨b,f⟩:=ah b;simp only [PO.act,o8 c,o8 b,o8 f]
 | st _ x y | mks _ _ _ x y | app _ _ _ x y | cpy _ x y | mdel _ x y | ment _ _ x y | cps x y=>
   obtain ⟨c,b⟩:=ah h;simp only [PO.act,o8 c,o8 b]
 | bsl _ _ ps=>simp only [PO.act,agt (show ∀t,t∈usL ps->e' t=e t from h)]
 | box x | toBytes _ x | rng x | mrk x | clr _ _ x=>simp only [PO.act,o8 (show ∀t,t∈x.us->e' t=e t from h)]
 | _=>rfl
theorem l9 {ver:Nat} (h:ob' id=ob id):g9 ob' id ver=g9 ob id ver:=by unfold g9; rw [h]
theorem ai {ver:Nat} (h:ob' id=ob id):m7 ob' id ver=m7 ob id ver:=by unfold m7; rw [h]
theorem ah4 {ver:Nat} (h:ob' id=ob id):dv ob' id ver=dv ob id ver:=by unfold dv; rw [h]
theorem lx {ver:Nat} (h:ob' id=ob id):n7 ob' id ver=n7 ob id ver:=by unfold n7; rw [h]
theorem xh {ver:Nat} (h:ob' id=ob id):aq ob' id ver=aq ob id ver:=by unfold aq; rw [h]
theorem yg (h:ob' id=ob id):nv ob' id=nv ob id:=by unfold nv; rw [h]
def ba (ob ob':Obs) (l:List Nat):Prop:=∀i,i∈l->ob' i=ob i
def o5 (ob ob':Obs) (f:Obs->Rs):Prop:=(f ob).ok->ba ob ob' (f ob).rd->(f ob').ok/\(f ob').v=(f ob).v
theorem o5.and {p:Prop} {f:Obs->Rs} (h:o5 ob ob' f):o5 ob ob' λ ob=>Rs.and p (f ob):=λ ⟨c,a⟩ b=>⟨⟨c,(h a b).1⟩,(h a b).2⟩
theorem o3 {p:Prop} {v:Vs}:o5 ob ob' λ ob=>Vs.q ob p v:=λ h _=>⟨h,rfl⟩
theorem ao2 {g:Bool} {ver:Nat} {k:Nat×RV×Bool×Bool×List RV->Obs->Rs} (c:∀x,id∈(k x ob).rd) (d:∀x,o5 ob ob' (k x)) :
 o5 ob ob' λ ob=>match g9 ob id ver with | some x=>k x ob | none=>o9 g id ob:=by
 intro a b;rcases hr:g9 ob id ver with _ | x
 ·simp only [hr] at a b |-;rw [l9 (b id (by simp [o9])),hr];exact ⟨a,rfl⟩
 simp only [hr] at a b |-;rw [l9 (b id (c x)),hr];exact d x a b
theorem apb {g:Bool} {ver:Nat} {k:List AV->Obs->Rs} (c:∀x,id∈(k x ob).rd) (d:∀x,o5 ob ob' (k x)) :
 o5 ob ob' λ ob=>match m7 ob id ver with | some x=>k x ob | none=>o9 g id ob:=by
 intro a b;rcases hr:m7 ob id ver with _ | x
 ·simp only [hr] at a b |-;rw [ai (b id (by simp [o9])),hr];exact ⟨a,rfl⟩
 simp only [hr] at a b |-;rw [ai (b id (c x)),hr];exact d x a b
theorem ah2 {g:Bool} {ver:Nat} {k:Unit->Obs->Rs} (c:∀x,id∈(k x ob).rd) (d:∀x,o5 ob ob' (k x)) :
 o5 ob ob' λ ob=>match dv ob id ver with | some x=>k x ob | none=>o9 g id ob:=by
 intro a b;rcases hr:dv ob id ver with _ | x
 ·simp only [hr] at a b |-;rw [ah4 (b id (by simp [o9])),hr];exact ⟨a,rfl⟩
 simp only [hr] at a b |-;rw [ah4 (b id (c x)),hr];exact d x a b
theorem ah3 {g:Bool} {ver:Nat} {f:List MapEntry->Vs}:o5 ob ob' λ ob=>ov g id ob f (n7 ob id ver):=by
 intro a b;rcases hr:n7 ob id ver with _ | ⟨es,c⟩
 ·simp only [hr] at a b |-;rw [lx (b id (by simp [ov,o9])),hr];exact ⟨a,rfl⟩
 simp only [hr] at a b |-;rw [lx (b id (by simp [ov])),hr];exact ⟨a,rfl⟩
theorem ao4 {g str:Bool} {z:RV} {a:Bool} {x y:AV}:o5 ob ob' (sa g str z a x y):=by
 cases x with
 | mp id ver=>cases y with
   | r y=>cases y with
     | v k=>exact ah3
     | _=>exact o3
   | _=>exact o3
 | _=>exact o3
theorem amz {g:Bool} {x:AV}:o5 ob ob' (lc g x):=by
 cases x with
 | mp id ver=>exact ah3
 | _=>exact o3
theorem apa {g:Bool} {x:AV}:o5 ob ob' (qg g x):=by
 cases x with
 | ptr id ver off=>cases off with
   | succ off=>exact o3
   | zero=>
     intro a b;simp only [qg] at a b |-;rcases hr:aq ob id ver with _ | ⟨m,d,e,f⟩
     ·rw [hr] at a b;rw [xh (b id (by simp [oz,o9])),hr];exact ⟨a,rfl⟩
     rw [hr] at a b;cases m with
     | mp mid mver=>
       simp only [oz] at a b |-;rcases hm:n7 ob mid mver with _ | ⟨es,c⟩
       ·rw [hm] at a b;rw [xh (b id (by simp [qf])),hr];simp only [oz];rw [lx (b mid (by simp [qf])),hm];exact ⟨a,rfl⟩
       rw [hm] at a b;rw [xh (b id (by simp [qf])),hr];simp only [oz];rw [lx (b mid (by simp [qf])),hm];exact ⟨a,rfl⟩
     | _=>
       rw [xh (b id (by simp [oz,o9])),hr];exact ⟨a,rfl⟩
 | _=>exact o3
theorem ao5 {g str:Bool} {x:AV}:o5 ob ob' (qe g str x):=by
 cases x with
 | own id ver lo n=>
   intro a b;simp only [qe] at a b |-;rcases hr:g9 ob id ver with _ | c
   ·rw [hr] at a b;simp only at a b |-;rcases hb:m7 ob id ver with _ | q
    ·rw [hb] at a b;have d:=b id (by simp [o9,leb]);rw [l9 d,hr];simp only;rw [ai d,hb];exact ⟨a,rfl⟩
    rw [hb] at a b;have d:=b id (by simp [leb]);rw [l9 d,hr];simp only;rw [ai d,hb];exact ⟨a,rfl⟩
   rw [hr] at a b;rw [l9 (b id (by simp)),hr];exact ⟨a,rfl⟩
 | r x=>cases x with
   | v x=>cases x<;>exact o3
   | _=>exact o3
 | _=>exact o3
theorem arf {g:Bool} {sz:Nat} {z:RV} {x y:AV}:o5 ob ob' (ia2 g sz z x y):=by
 rcases y with ⟨v | _ | _⟩ | _ | _ | _ | _ | _ | _ | _ | _ | _ | _ | _ | _
 ·cases v with
  | int k i=>
    cases x with
    | own id ver lo n=>
      intro a b;simp only [ia2] at a b |-;rcases hr:g9 ob id ver with _ | c
      ·rw [hr] at a b;simp only at a b |-;rcases hb:m7 ob id ver with _ | q
       ·rw [hb] at a b;have d:=b id (by simp [o9,iab]);rw [l9 d,hr];simp only;rw [ai d,hb];exact ⟨a,rfl⟩
       rw [hb] at a b;have d:=b id (by simp [iab]);rw [l9 d,hr];simp only;rw [ai d,hb];exact ⟨a,rfl⟩
      rw [hr] at a b;rw [l9 (b id (by simp)),hr];exact ⟨a,rfl⟩
    | r x=>cases x<;>exact o3
    | _=>exact o3
  | _=>rcases x with ⟨_ | _ | _⟩ | _ | _ | _ | _ | _ | _ | _ | _ | _ | _ | _ | _<;>exact o3
 all_goals rcases x with ⟨_ | _ | _⟩ | _ | _ | _ | _ | _ | _ | _ | _ | _ | _ | _ | _<;>exact o3
theorem ao8 {g:Bool} {n sz:Nat} {x y:AV}:o5 ob ob' (ja g n sz x y):=by
 rcases y with ⟨v | _ | _⟩ | _ | _ | _ | _ | _ | _ | _ | _ | _ | _ | _ | _
 ·cases v with
  | int k i=>
    cases x with
    | ptr id ver o=>
      intro a b;simp only [ja] at a b |-;rcases hr:m7 ob id ver with _ | c
      ·rw [hr] at a b;rw [ai (b id (by simp [o9,ldb,ldr])),hr];exact ⟨a,rfl⟩
      rw [hr] at a b;rw [ai (b id (by simp)),hr];exact ⟨a,rfl⟩
    | oel id ver j o=>
      intro a b;simp only [ja] at a b |-;rcases hr:g9 ob id ver with _ | c
      ·rw [hr] at a b;rw [l9 (b id (by simp [o9,ldb,ldr])),hr];exact ⟨a,rfl⟩
      rw [hr] at a b;rw [l9 (b id (by simp)),hr];exact ⟨a,rfl⟩
    | _=>exact o3
  | _=>rcases x with ⟨_ | _ | _⟩ | _ | _ | _ | _ | _ | _ | _ | _ | _ | _ | _ | _<;>exact o3
 all_goals rcases x with ⟨_ | _ | _⟩ | _ | _ | _ | _ | _ | _ | _ | _ | _ | _ | _ | _<;>exact o3
theorem ao3 {g:Bool} {x:AV}:o5 ob ob' (rr g x):=by
 cases x with
 | ptr id ver off=>exact ah2 (k:=λ _ ob=>⟨True,.ptr id ver off,ob,[id],[]⟩) (λ _=>by simp) λ _ h _=>⟨h,rfl⟩
 | oel id ver i off=>exact ao2 (k:=λ _ ob=>⟨True,.oel id ver i off,ob,[id],[]⟩) (λ _=>by simp) λ _ h _=>⟨h,rfl⟩
 | fn f xs=>cases f<;>exact o3
 | _=>exact o3
theorem ao9 {g b:Bool} {x:AV}:o5 ob ob' (sg g b x):=by
 cases x with
 | ptr id ver off=>exact ah2 (k:=λ _ ob=>⟨True,bl b,ob,[id],[]⟩) (λ _=>by simp) λ _ h _=>⟨h,rfl⟩
 | r x=>cases x with
   | v x=>cases x with
     | pointer a=>cases a<;>exact o3
     | _=>exact o3
   | _=>exact o3
 | _=>exact o3
theorem arg {g:Bool} {off:Nat} {x:AV}:o5 ob ob' (fa1 g off x):=by
 cases x with
 | ptr id ver o=>exact apb (k:=λ _ ob=>⟨True,.ptr id ver (o+off),ob,[id],[]⟩) (λ _=>by simp) λ _ h _=>⟨h,rfl⟩
 | oel id ver i o=>
   intro a b;simp only [fa1] at a b |-;rcases hr:g9 ob id ver with _ | c
   ·rw [hr] at a b;rw [l9 (b id (by simp [o9,ldb,ldr])),hr];exact ⟨a,rfl⟩
   rw [hr] at a b;rw [l9 (b id (by simp)),hr];exact ⟨a,rfl⟩
 | _=>exact o3
theorem ao7 {g:Bool} {n:Option Nat} {off:Nat} {c:Option (List AV)}:o5 ob ob' λ ob=>ldb id ob g n off c:=by
 unfold ldb;intro h a;split at h<;>(try split at h)<;>exact ⟨h,rfl⟩
theorem ao6 {g:Bool} {n:Option Nat} {idx off:Nat} {c:Option (Nat×RV×Bool×Bool×List RV)}:o5 ob ob' λ ob=>ldr id ob g n idx off c:=by
 unfold ldr;intro h a;split at h<;>(try split at h)<;>exact ⟨h,rfl⟩
theorem ax3 {g:Bool} {n:Option Nat} {off:Nat} {c:List AV}:id∈(ldb id ob g n off (some c)).rd:=by unfold ldb; cases n<;>simp
theorem ax2 {g:Bool} {n:Option Nat} {idx off:Nat} {c:Nat×RV×Bool×Bool×List RV}:id∈(ldr id ob g n idx off (some c)).rd:=by unfold ldr; cases n<;>simp
theorem are {g:Bool} {n:Option Nat} {x:AV}:o5 ob ob' (ld1 g n x):=by
 cases x with
 | ptr id ver off=>
   intro a b;simp only [ld1] at a b |-;rcases hr:m7 ob id ver with _ | c
   ·rw [hr] at a b;rw [ai (b id (by simp [o9,ldb,ldr])),hr];exact ⟨a,rfl⟩
   rw [hr] at a b;rw [ai (b id ax3),hr];exact ao7 a b
 | oel id ver i off=>
   intro a b;simp only [ld1] at a b |-;rcases hr:g9 ob id ver with _ | c
   ·rw [hr] at a b;rw [l9 (b id (by simp [o9,ldb,ldr])),hr];exact ⟨a,rfl⟩
   rw [hr] at a b;rw [l9 (b id ax2),hr];exact ao6 a b
 | rp ys=>cases n<;>exact o3
 | _=>exact o3
theorem ao1 {g:Bool} {n:Nat} {x:AV}:o5 ob ob' (pt g n x):=by
 cases x with
 | ptr id ver o=>
   intro a b;simp only [pt] at a b |-;rcases hr:m7 ob id ver with _ | c
   ·rw [hr] at a b;rw [ai (b id (by simp [o9,vo])),hr];exact ⟨a,rfl⟩
   rw [hr] at a b;rw [ai (b id (by simp [vo])),hr];exact ⟨a,rfl⟩
 | _=>exact o3
theorem ao0 {g:Bool} {sz:Nat} {x:AV} {d e f:Option AV}:o5 ob ob' (ou g sz x d e f):=by
 cases x with
 | own id ver l0 n=>
   intro a b;rcases h1:bnd 0 d with _ | l<;>rcases h2:bnd n e with _ | h<;>rcases h3:bnd n f with _ | m<;>simp only [ou,h1,h2,h3] at a b |-
   all_goals first
    | exact ⟨a,rfl⟩
    | (rcases hr:g9 ob id ver with _ | c
       ·rw [hr] at a b;rw [l9 (b id (by simp [o9])),hr];exact ⟨a,rfl⟩
       rw [hr] at a b;rw [l9 (b id (by simp)),hr]
       exact ⟨a,rfl⟩)
 | r x=>cases x with
   | sl sz' xs=>
     intro a b;simp only [ou] at a b |-;split at a<;>exact ⟨a,rfl⟩
   | _=>exact o3
 | _=>exact o3
theorem zb {x:AV} {sz:Nat} {ys:List RV} {l:List Nat} (h:src ob x=some (sz,ys,l)) (a:ba ob ob' l):src ob' x=some (sz,ys,l):=by
 unfold src at h |-;split at h
 ·exact h
 ·exact h
 ·rename_i id ver b len;rcases hr:g9 ob id ver with _ | c
  ·simp only [hr] at h; cases h
  simp only [hr] at h;cases h;rw [l9 (a id (by simp)),hr]
 cases h
theorem aoz {x:AV}:o5 ob ob' λ ob=>ej ob (src ob x):=by
 intro a b;rcases hr:src ob x with _ | ⟨sz,ys,l⟩
 ·simp only [hr,ej] at a; exact a.1.elim
 simp only [hr,ej] at a b |-;rw [zb hr b];exact ⟨a,rfl⟩
theorem aww {o:PO} {g:Bool} {e:Env}:o5 ob ob' λ ob=>o.see g e ob:=by
 cases o with
 | eqn _ x=>exact o5.and ao9
 | len _ x=>exact o5.and ao5
 | ia _ _ x i=>exact o5.and arf
 | iaa _ _ x i=>exact o5.and ao8
 | ld _ x=>exact o5.and are
 | nck x=>exact o5.and ao3
 | fa _ x=>exact o5.and arg
 | sll _ x lo hi mx=>exact o5.and ao0
 | sla n x=>exact o5.and ao1
 | toStr x=>exact o5.and aoz
 | lkp _ _ _ x i=>exact o5.and ao4
 | lenm x=>exact o5.and amz
 | ent x=>exact o5.and apa
 | _=>exact o3
def pin:Option (Nat×Ob)->Option (Nat×Option Nat)
 | some (v,.box _)=>some (v,none)
 | some (v,.row sz _ _ _ _)=>some (v,some sz)
 | _=>none
def aqx (ob ob':Obs) (l:List Nat):Prop:=∀i,i∈l->pin (ob' i)=pin (ob i)
def PO.adr:PO->Bool
 | .fa _ _=>true
 | .iaa _ _ _ _=>true
 | .ia _ _ _ _=>true
 | _=>false
def mh (ob ob':Obs) (f:Obs->Rs):Prop:=(f ob).ok->aqx ob ob' (f ob).rd->(f ob').ok/\(f ob').v=(f ob).v
theorem mh.and {p:Prop} {f:Obs->Rs} (h:mh ob ob' f):mh ob ob' λ ob=>Rs.and p (f ob):=λ ⟨c,a⟩ b=>⟨⟨c,(h a b).1⟩,(h a b).2⟩
theorem lu {p:Prop} {v:Vs}:mh ob ob' λ ob=>Vs.q ob p v:=λ h _=>⟨h,rfl⟩
theorem ahu {ver:Nat} (h:pin (ob' id)=pin (ob id)):(m7 ob id ver=none/\m7 ob' id ver=none)\/∃c c',m7 ob id ver=some c/\m7 ob' id ver=some c':=by
 unfold m7
 revert h
 generalize ob id=q;generalize ob' id=f;intro h;rcases q with _ | ⟨v,c | ⟨sz,z,e,m,xs⟩ | T | _ | _⟩<;>rcases f with _ | ⟨i,c' | ⟨g,k,a,j,d⟩ | l | _ | _⟩<;>simp [pin] at h |-;subst h;by_cases b:ver=i<;>simp [b]
theorem ahb {ver:Nat} (h:pin (ob' id)=pin (ob id)):(g9 ob id ver=none/\g9 ob' id ver=none)\/∃sz c c',g9 ob id ver=some (sz,c)/\g9 ob' id ver=some (sz,c'):=by
 unfold g9
 revert h
 generalize ob id=q;generalize ob' id=f;intro h;rcases q with _ | ⟨v,c | ⟨sz,z,e,m,xs⟩ | T | _ | _⟩<;>rcases f with _ | ⟨i,c' | ⟨g,k,a,j,d⟩ | l | _ | _⟩<;>simp [pin] at h |-;obtain ⟨rfl,rfl⟩:=h;by_cases b:ver=i<;>simp [b]
theorem apd {g:Bool} {off:Nat} {x:AV}:mh ob ob' (fa1 g off x):=by
 cases x with
 | ptr id ver o=>
   intro a e;simp only [fa1] at a e |-;have f:pin (ob' id)=pin (ob id):=e id (by split<;>simp [o9]);rcases ahu (ver:=ver) f with ⟨d,b⟩ | ⟨c,c',d,b⟩
   ·rw [d] at a |-; rw [b]; exact ⟨a,rfl⟩
   rw [d]; rw [b]; exact ⟨trivial,rfl⟩
 | oel id ver i o=>
   intro a e;simp only [fa1] at a e |-;have f:pin (ob' id)=pin (ob id):=e id (by split<;>simp [o9]);rcases ahb (ver:=ver) f with ⟨d,b⟩ | ⟨sz,c,c',d,b⟩
   ·rw [d] at a |-; rw [b]; exact ⟨a,rfl⟩
   rw [d] at a |-; rw [b]; exact ⟨a,rfl⟩
 | _=>exact lu
theorem am0 {g:Bool} {n sz:Nat} {x y:AV}:mh ob ob' (ja g n sz x y):=by
 rcases y with ⟨v | _ | _⟩ | _ | _ | _ | _ | _ | _ | _ | _ | _ | _ | _ | _
 ·cases v with
  | int k i=>
    cases x with
    | ptr id ver o=>
      intro a e;simp only [ja] at a e |-;have f:pin (ob' id)=pin (ob id):=e id (by split<;>simp [o9]);rcases ahu (ver:=ver) f with ⟨d,b⟩ | ⟨c,c',d,b⟩
      ·rw [d] at a |-; rw [b]; exact ⟨a,rfl⟩
      rw [d] at a |-; rw [b]; exact ⟨a,rfl⟩
    | oel id ver j o=>
      intro a e;simp only [ja] at a e |-;have f:pin (ob' id)=pin (ob id):=e id (by split<;>simp [o9]);rcases ahb (ver:=ver) f with ⟨d,b⟩ | ⟨h,c,c',d,b⟩
      ·rw [d] at a |-; rw [b]; exact ⟨a,rfl⟩
      rw [d] at a |-; rw [b]; exact ⟨a,rfl⟩
    | _=>exact lu
  | _=>rcases x with ⟨_ | _ | _⟩ | _ | _ | _ | _ | _ | _ | _ | _ | _ | _ | _ | _<;>exact lu
 all_goals rcases x with ⟨_ | _ | _⟩ | _ | _ | _ | _ | _ | _ | _ | _ | _ | _ | _ | _<;>exact lu
theorem apc {g:Bool} {sz:Nat} {z:RV} {x y:AV}:mh ob ob' (ia2 g sz z x y):=by
 rcases y with ⟨v | _ | _⟩ | _ | _ | _ | _ | _ | _ | _ | _ | _ | _ | _ | _
 ·cases v with
  | int k i=>
    cases x with
    | own id ver lo n=>
      intro a h;simp only [ia2] at a h |-;have j:pin (ob' id)=pin (ob id):=h id (by split<;>first | simp | (cases m7 ob id ver<;>simp [o9,iab]));rcases ahb (ver:=ver) j with ⟨d,b⟩ | ⟨l,c,c',d,b⟩
      ·rw [d] at a |-; rw [b];simp only at a |-;rcases ahu (ver:=ver) j with ⟨f,e⟩ | ⟨q,m,f,e⟩
       ·rw [f] at a |-; rw [e]; exact ⟨a,rfl⟩
       rw [f] at a |-; rw [e]; exact ⟨a,rfl⟩
      rw [d] at a |-; rw [b]; exact ⟨a,rfl⟩
    | r x=>cases x<;>exact lu
    | _=>exact lu
  | _=>rcases x with ⟨_ | _ | _⟩ | _ | _ | _ | _ | _ | _ | _ | _ | _ | _ | _ | _<;>exact lu
 all_goals rcases x with ⟨_ | _ | _⟩ | _ | _ | _ | _ | _ | _ | _ | _ | _ | _ | _ | _<;>exact lu
theorem ay0 {o:PO} {g:Bool} {e:Env} (h:o.adr=true):mh ob ob' λ ob=>o.see g e ob:=by
 cases o with
 | fa _ x=>exact mh.and apd
 | iaa _ _ x i=>exact mh.and am0
 | ia _ _ x i=>exact mh.and apc
 | _=>cases h
theorem awr {n:Nat} {x y:AV}:pin ((st2 n x y ob).ob i)=pin (ob i):=by
 cases x with
 | ptr id ver off=>
   simp only [st2,Rs.and];rcases hr:m7 ob id ver with _ | c
   ·rfl
   simp only [stb,upd];by_cases a:i=id
   ·subst a;rw [if_pos rfl];unfold m7 at hr;split at hr
    ·rename_i v e d;split at hr
     ·rename_i b; rw [d,b]; rfl
     cases hr
    cases hr
   rw [if_neg a]
 | oel id ver idx off=>
   simp only [st2];split
   ·rename_i ys hy;simp only [Rs.and];rcases hr:g9 ob id ver with _ | ⟨sz,z,h,m,xs⟩
    ·rfl
    simp only [str,upd];by_cases a:i=id
    ·subst a;rw [if_pos rfl];unfold g9 at hr;split at hr
     ·rename_i v j l f k g d;split at hr
      ·rename_i b; cases hr; rw [d,b]; rfl
      cases hr
     cases hr
    rw [if_neg a]
   rfl
 | _=>rfl
end

section
variable {ob ob':Obs} {e:Env}
def u7 (ob ob':Obs) (f:Obs->Rs):Prop:=(f ob).ok->ba ob ob' (f ob).rd ->
 (f ob').ok/\(f ob').v=(f ob).v/\(∀i,i∈(f ob).wr->i∈(f ob).rd/\(f ob').ob i=(f ob).ob i)/\(∀i,i∉(f ob).wr->(f ob').ob i=ob' i)
theorem u7.and {p:Prop} {f:Obs->Rs} (h:u7 ob ob' f):u7 ob ob' λ ob=>Rs.and p (f ob):=λ ⟨c,a⟩ b=>⟨⟨c,(h a b).1⟩,(h a b).2⟩
theorem qd:u7 ob ob' λ ob=>t6 ob:=λ h _=>h.elim
theorem qc {d:Nat} {x:Ob} {y:Nat->AV} {ok:Prop} {rd:List Nat}:u7 ob ob' λ ob=>m0 ob d x y ok rd []:=by
 intro b e;have c:ob' d=ob d:=e d (by simp [m0]);refine ⟨b,?_,λ i a=>?_,λ i a=>?_⟩
 ·simp only [m0,yg c]
 ·simp only [m0,zag,zao,or_false] at a;subst a;simp [m0,upd,yg c]
 simp only [m0,zag,zao,or_false] at a;simp [m0,upd,a]
theorem aj2 (ob:Obs) (i j:Nat):frz ob i (ob i) j=if j=i then frz ob i (ob i) i else ob j:=by
 by_cases h:j=i
 ·subst h; simp
 rw [if_neg h];generalize ob i=q;rcases q with _ | ⟨v,_ | _ | _ | _ | _⟩
 ·rfl
 ·rfl
 ·simp [frz,upd,h]
 ·rfl
 ·rfl
 rfl
theorem avh (h:ob' i=ob i):frz ob' i (ob' i) i=frz ob i (ob i) i:=by
 rcases hq:ob i with _ | ⟨v,_ | _ | _ | _ | _⟩<;>rw [h,hq]
 ·exact h.trans hq |>.trans hq.symm
 ·exact h.trans hq |>.trans hq.symm
 ·simp [frz,upd]
 ·exact h.trans hq |>.trans hq.symm
 ·exact h.trans hq |>.trans hq.symm
 exact h.trans hq |>.trans hq.symm
theorem zl:∀(l:List Nat) {ob ob':Obs} {i:Nat},ob' i=ob i->freeze ob' l i=freeze ob l i
 | [],_,_,_,h=>h
 | j::l,ob,ob',i,h=>by
   refine zl l ?_;rw [aj2 ob,aj2 ob'];by_cases a:i=j
   ·subst a; simp only [if_true]; exact avh h
   simp only [if_neg a]; exact h
theorem ada:∀(l:List Nat) {ob:Obs} {i:Nat},i∉l->freeze ob l i=ob i
 | [],_,_,_=>rfl
 | j::l,ob,i,h=>by
   simp only [zag,not_or] at h;rw [freeze,ada l h.2,aj2,if_neg h.1]
theorem ae1 {x:AV} {y:RV} {l:List Nat} (h:x.rv ob=some (y,l)) (a:ba ob ob' l):x.rv ob'=some (y,l):=by
 unfold AV.rv at h |-;split at h
 ·exact h
 ·exact h
 ·rename_i id ver b len;rcases hr:g9 ob id ver with _ | c
  ·simp only [hr] at h; cases h
  simp only [hr] at h;cases h;rw [l9 (a id (by simp)),hr]
 cases h
theorem yb {a b:List Nat} (h:ba ob ob' (a++b)):ba ob ob' a/\ba ob ob' b:=⟨λ i c=>h i (by simp [c]),λ i c=>h i (by simp [c])⟩
theorem zc:∀{xs:List AV} {ys:List RV} {l:List Nat},rvs ob xs=some (ys,l)->ba ob ob' l->rvs ob' xs=some (ys,l)
 | [],ys,l,h,hs=>h
 | x::xs,ys,l,h,hs=>by
   simp only [rvs] at h |-;split at h
   ·rename_i y k e j b a;cases h;obtain ⟨c,d⟩:=yb hs;rw [ae1 b c,zc a d]
   cases h
theorem aqa {x:AV} {y:RV} {l:List Nat} (h:x.elt ob=some (y,l)) (a:ba ob ob' l):x.elt ob'=some (y,l):=by
 unfold AV.elt at h |-;split at h
 ·split at h
  ·rename_i ys j b;cases h;simp only [zc b a]
  cases h
 exact ae1 h a
theorem adh {g:Bool}:∀{xs:List Opd} {p:Prop} {ys:List RV} {l:List Nat},x9 e ob g xs=some (p,ys,l)->ba ob ob' l->x9 e ob' g xs=some (p,ys,l)
 | [],p,ys,l,h,hs=>h
 | x::xs,p,ys,l,h,hs=>by
   simp only [x9] at h |-;split at h
   ·rename_i y k i f j b a;cases h;obtain ⟨c,d⟩:=yb hs;rw [aqa b c,adh a d]
   cases h
theorem ar1 {d sz:Nat} {z:RV} {j:List Opd}:u7 ob ob' λ ob=>PO.act d e ob (.bsl sz z j):=by
 intro a f;simp only [PO.act] at a f |-;rcases hr:x9 e ob true j with _ | ⟨p,ys,c⟩
 ·rw [hr] at a; exact a.elim
 rw [hr] at a f;have h:ba ob ob' c:=λ i b=>f i (by simp [m0,b]);have k:ob' d=ob d:=f d (by simp [m0]);rw [adh hr h];refine ⟨a,?_,λ i b=>?_,λ i b=>?_⟩
 ·simp only [m0,yg (zl c k)]
 ·refine ⟨b,?_⟩;simp only [m0,zag] at b;simp only [m0,upd,yg (zl c k)];split
  ·rfl
  rename_i g;exact zl c (h i (b.resolve_left g))
 simp only [m0,zag,not_or] at b;simp only [m0,upd,if_neg b.1];exact ada c b.2
theorem iz {x:Nat×Ob} {ok:Prop} {v:AV} {rd:List Nat}:u7 ob ob' λ ob=>⟨ok,v,upd id x ob,id::rd,[id]⟩:=by
 intro b c;refine ⟨b,rfl,λ i a=>?_,λ i a=>?_⟩
 ·simp only [zag,zao,or_false] at a;subst a;simp [upd]
 simp only [zag,zao,or_false] at a;simp [upd,a]
theorem au9 {n:Nat} {x y:AV}:u7 ob ob' (st2 n x y):=by
 cases x with
 | ptr id ver off=>
   intro a b;simp only [st2] at a b |-;rcases hr:m7 ob id ver with _ | c
   ·rw [hr] at a; exact a.2.elim
   rw [hr] at a b;rw [ai (b id (by simp [Rs.and,stb])),hr];exact u7.and (f:=λ ob=>stb id ver ob n off y.cells (some c)) iz a b
 | oel id ver idx off=>
   intro a b;simp only [st2] at a b |-;split at a
   ·rename_i ys hy;rw [zc hy (λ i e=>by simp at e)];rw [hy] at b;simp only at b |-;rcases hr:g9 ob id ver with _ | ⟨sz,z,d,g,xs⟩
    ·rw [hr] at a; exact a.2.elim
    rw [hr] at a b;rw [l9 (b id (by simp [Rs.and,str])),hr];exact u7.and (f:=λ ob=>str id ver ob n idx off ys (some (sz,z,d,g,xs))) iz a b
   exact a.elim
 | _=>exact λ h _=>h.elim
theorem ar2 {d sz:Nat} {z:RV} {c:Nat} {x y:AV}:u7 ob ob' λ ob=>pa d ob sz z c x (src ob y):=by
 intro a b;rcases hy:src ob y with _ | ⟨l,ys,rd⟩
 ·simp only [hy] at a;unfold pa at a;split at a
  ·rename_i h; cases h
  ·rename_i h; cases h
  exact a.elim
 simp only [hy] at a b |-;cases x with
 | nils f j=>
   have g:ba ob ob' rd:=λ i e=>b i (by simp [pa,m0,e]);rw [zb hy g];exact qc (ok:=_) a b
 | own id ver lo len=>
   cases lo with
   | succ lo=>exact a.elim
   | zero=>
     simp only [pa] at a b;rcases hr:g9 ob id ver with _ | ⟨f,j,k,m,xs⟩
     ·rw [hr] at a; exact a.elim
     rw [hr] at a b;have g:ba ob ob' rd:=λ i e=>b i (by simp [e]);rw [zb hy g];simp only [pa];rw [hr,l9 (b id (by simp)),hr];exact iz a b
 | _=>exact a.elim
theorem ary {sz:Nat} {x y:AV}:u7 ob ob' λ ob=>qi ob sz x (src ob y):=by
 intro a b;rcases hy:src ob y with _ | ⟨j,ys,rd⟩
 ·simp only [hy] at a;unfold qi at a;split at a
  ·rename_i h; cases h
  exact a.elim
 simp only [hy] at a b |-;cases x with
 | own id ver lo len=>
   simp only [qi] at a b;rcases hr:g9 ob id ver with _ | ⟨f,g,e,k,xs⟩
   ·rw [hr] at a; exact a.elim
   rw [hr] at a b;have c:ba ob ob' rd:=λ i d=>b i (by simp [d]);rw [zb hy c];simp only [qi];rw [hr,l9 (b id (by simp)),hr];exact iz a b
 | _=>exact a.elim
theorem ar0 {sz:Nat} {z:RV} {x:AV}:u7 ob ob' λ ob=>uk ob sz z x:=by
 intro a b;cases x with
 | own id ver lo len=>
   simp only [uk] at a b |-;rcases hr:g9 ob id ver with _ | ⟨d,e,c,f,xs⟩
   ·rw [hr] at a; exact a.elim
   rw [hr] at a b;rw [l9 (b id (by simp)),hr];exact iz (rd:=[]) a b
 | _=>exact a.elim
theorem afb {ver:Nat} {ok:List MapEntry->Prop} {d:List MapEntry->Nat->List MapEntry} {e:List MapEntry->Nat->Nat}:u7 ob ob' λ ob=>kp id ver ob ok d e (n7 ob id ver):=by
 intro a b;rcases hr:n7 ob id ver with _ | ⟨es,c⟩
 ·simp only [hr,kp] at a; exact a.elim
 simp only [hr,kp] at a b |-;rw [lx (b id (by simp)),hr];exact iz (rd:=[]) a b
theorem ap0 {str:Bool} {x i y:AV}:u7 ob ob' (kw str x i y):=by
 cases x with
 | mp id ver=>cases i with
   | r i=>cases i with
     | v k=>
       show u7 ob ob' λ ob=>pq str k id ver ob (toV y);generalize toV y=q;cases q with
       | none=>exact λ h _=>h.elim
       | some v=>exact afb
     | _=>exact λ h _=>h.elim
   | _=>exact λ h _=>h.elim
 | _=>exact λ h _=>h.elim
theorem ap1 {x i y:AV}:u7 ob ob' (ad1 x i y):=by
 cases x with
 | mp id ver=>cases i with
   | r i=>cases i with
     | v k=>cases k with
       | int q n=>
         show u7 ob ob' λ ob=>aik n id ver ob (toV y);generalize toV y=q;cases q with
         | none=>exact λ h _=>h.elim
         | some v=>exact afb
       | _=>exact λ h _=>h.elim
     | _=>exact λ h _=>h.elim
   | _=>exact λ h _=>h.elim
 | _=>exact λ h _=>h.elim
theorem ap2 {str:Bool} {z:RV} {x i:AV}:u7 ob ob' (abk str z x i):=by
 cases x with
 | mp id ver=>cases i with
   | r i=>cases i with
     | v k=>cases z with
       | v zv=>
         intro a b;simp only [abk] at a b |-;rcases hr:n7 ob id ver with _ | ⟨es,c⟩
         ·simp only [hr,agc] at a; exact a.elim
         simp only [hr,agc] at a b |-;rw [lx (b id (by simp)),hr];exact iz (rd:=[]) a b
       | _=>exact λ h _=>h.elim
     | _=>exact λ h _=>h.elim
   | _=>exact λ h _=>h.elim
 | _=>exact λ h _=>h.elim
theorem ap3 {str:Bool} {x i:AV}:u7 ob ob' (la str x i):=by
 cases x with
 | mp id ver=>cases i with
   | r i=>cases i with
     | v k=>exact afb
     | _=>exact λ h _=>h.elim
   | _=>exact λ h _=>h.elim
 | _=>exact λ h _=>h.elim
theorem arw {d:Nat} {x:AV}:u7 ob ob' (pu d x):=by
 cases x with
 | mp id ver=>
   intro a b;simp only [pu] at a b |-;rcases hr:n7 ob id ver with _ | ⟨es,c⟩
   ·rw [hr] at a; exact a.elim
   rw [hr] at a b;rw [lx (b id (by simp [vp,m0])),hr];exact qc (ok:=_) a b
 | _=>exact λ h _=>h.elim
theorem arx {x:AV}:u7 ob ob' λ ob=>ue ob x:=by
 cases x with
 | own id ver lo len=>
   intro a b;simp only [ue] at a b |-;rcases hr:g9 ob id ver with _ | ⟨d,e,c,f,xs⟩
   ·rw [hr] at a; exact a.elim
   rw [hr] at a b;rw [l9 (b id (by simp)),hr];exact iz (rd:=[]) a b
 | _=>exact λ h _=>h.elim
theorem arz {x y:AV}:u7 ob ob' λ ob=>uj ob x y:=by
 cases x with
 | own id ver lo len=>
   cases y with
   | r q=>cases q with
     | v u=>cases u with
       | string sv=>
         intro a b;simp only [uj] at a b |-;rcases hr:g9 ob id ver with _ | ⟨d,e,c,f,xs⟩
         ·rw [hr] at a; exact a.elim
         rw [hr] at a b;rw [l9 (b id (by simp)),hr];exact iz (rd:=[]) a b
       | _=>exact λ h _=>h.elim
     | _=>exact λ h _=>h.elim
   | _=>exact λ h _=>h.elim
 | _=>exact λ h _=>h.elim
theorem ay1 {o:PO} {d:Nat}:u7 ob ob' λ ob=>o.act d e ob:=by
 cases o with
 | new zs=>exact qc
 | box x=>exact qc
 | bsl sz z ps=>exact ar1
 | st n x y=>exact u7.and au9
 | app sz z bytes x y=>exact u7.and ar2
 | clr sz z x=>exact u7.and ar0
 | cpy sz x y=>exact u7.and ary
 | mkm=>exact qc
 | mset str x i y=>exact u7.and ap0
 | ment str z x i=>exact u7.and ap2
 | mest x i y=>exact u7.and ap1
 | mdel str x i=>exact u7.and ap3
 | rng x=>exact u7.and arw
 | mrk x=>exact u7.and arx
 | cps x y=>exact u7.and arz
 | toBytes z x=>
   refine u7.and ?_;generalize (x.ev e).bare=y;rcases y with ⟨v | _ | _⟩ | _ | _ | _ | _ | _ | _ | _ | _ | _ | _ | _ | _
   ·cases v<;>first | exact qc | exact qd
   all_goals exact qd
 | mks sz z bytes l c=>
   refine u7.and ?_;generalize (l.ev e).bare=y;generalize (c.ev e).bare=a;rcases y with ⟨v | _ | _⟩ | _ | _ | _ | _ | _ | _ | _ | _ | _ | _ | _ | _
   ·cases v with
    | int k i=>
      rcases a with ⟨v | _ | _⟩ | _ | _ | _ | _ | _ | _ | _ | _ | _ | _ | _ | _
      ·cases v<;>first | exact qc | exact qd
      all_goals exact qd
    | _=>exact qd
   all_goals exact qd
 | _=>exact qd
end

def eqv:Value->Value->Bool
 | .int k a,.int k' b=>k == k'&&a == b
 | .bool a,.bool b=>a == b
 | .string a,.string b=>a.data.toList == b.data.toList
 | .pointer none,.pointer none=>true
 | .nilFunc,.nilFunc=>true
 | .nilIface,.nilIface=>true
 | .map none,.map none=>true
 | _,_=>false
theorem agr {a b:Value} (h:eqv a b=true):a=b:=by
 unfold eqv at h;split at h
 ·rw [zah,beq_iff_eq,beq_iff_eq] at h;rw [h.1,h.2]
 ·rw [beq_iff_eq] at h;rw [h]
 ·rename_i a b;rw [beq_iff_eq] at h;obtain ⟨⟨a⟩⟩:=a;obtain ⟨⟨b⟩⟩:=b;simp only at h;rw [h]
 ·rfl
 ·rfl
 ·rfl
 ·rfl
 cases h
def eqz:Value->AV->Bool
 | .slice none 0 0,.nils _ _=>true
 | v,.r (.v x)=>eqv v x
 | _,_=>false
def opd:Operand->Opd->Bool
 | .tmp t,.t n=>t == n
 | .const v,.c x=>eqz v x
 | .func f,.c (.fn (.func f') [] 0)=>f == f'
 | _,_=>false
section
variable {w:World} {R:Nat->Prop} {ob:Obs} {ρ:Pl->Option Nat}
theorem ahp {v:Value} {x:AV} (h:eqz v x=true):RelA w R ob ρ x v:=by
 unfold eqz at h;split at h
 ·exact .nils _ _
 ·rw [agr h]; exact .r (.v _)
 cases h
theorem ady {a:Act} {e:Env} (b:∀t,RelA w R ob ρ (e t) (a.tmps.getD t undef)) {x:Operand} {y:Opd} (h:opd x y=true):RelA w R ob ρ (y.ev e) (a.eval x):=by
 unfold opd at h;split at h
 ·simp at h; subst h; exact b _
 ·exact ahp h
 ·simp at h; subst h; exact .fn _ [] 0 #[] #[] rfl rfl (by simp)
 cases h
theorem RelA.bare {g:Bool} (b:g=true) {x:AV} (h:RelA w R ob ρ x c) (a:x.may g):RelA w R ob ρ x.bare c:=by
 cases h<;>first | (simp only [AV.bare]; constructor<;>assumption) | skip
 simp only [AV.bare,AV.may] at *;rename_i h d;exact h (a b)
end
def ae4:Option Operand->Option Opd->Bool
 | none,none=>true
 | some x,some y=>opd x y
 | _,_=>false
def bj (P:Program) (t:TypeId) (f:TypeId->TypeInfo->Bool):Bool:=
 match P.underlying t with
 | some (.slice e)=>match P.info? e with
   | some i=>f e i
   | none=>false
 | _=>false
def v6 (P:Program) (t:TypeId) (f:TypeDesc->Bool):Bool:=
 match P.underlying t with
 | some d=>f d
 | none=>false
def aab (P:Program) (t:TypeId) (n:Option Nat):Bool:=
 match P.underlying t,P.info? t with
 | some (.struct _),some i=>n == some i.size
 | some (.array _ _),some i=>n == some i.size
 | some _,some _=>n == none
 | _,_=>false
def ad5 (P:Program) (t:TypeId) (f:Nat) (k:Go.Field->TypeInfo->Bool):Bool:=
 match P.underlying t with
 | some (.struct fs)=>match fs[f]? with
   | some fd=>match P.info? fd.type with
     | some i=>k fd i
     | none=>false
   | none=>false
 | _=>false
def eqr:Value->RV->Bool
 | .slice none 0 0,.sl _ []=>true
 | v,.v x=>eqv v x
 | _,_=>false
def q9 {a b:Type} (f:a->b->Bool):List a->List b->Bool
 | [],[]=>true
 | x::xs,y::ys=>f x y&&q9 f xs ys
 | _,_=>false
def qo (P:Program) (t:TypeId) (p:Nat×Operand) (q:Nat×Nat×Opd):Bool:=
 opd p.2 q.2.2&&(match P.underlying t with
 | some (.struct fs)=>match fs[p.1]? with
   | some f=>match P.info? f.type with
     | some i=>f.offset == q.1&&i.size == q.2.1
     | none=>false
   | none=>false
 | some (.array _ e)=>match P.info? e with
   | some i=>p.1*i.size == q.1&&i.size == q.2.1
   | none=>false
 | _=>false)
def zh (str:Bool):TypeDesc->Bool
 | .string=>str
 | .slice _=>!str
 | _=>false
def aht (P:Program):TypeDesc->Bool
 | .struct fs=>fs.all λ f=>(P.info? f.type).isSome
 | .array _ e=>(P.info? e).isSome
 | _=>false
def ac4:Nat->TypeDesc->Bool
 | 0,.int _=>true
 | 1,.bool=>true
 | 2,.string=>true
 | _,_=>false
def adc (g:TypeId->List Nat->Bool) (P:Program):List Go.Field->List Nat->Nat->Bool
 | [],ks,_=>ks.isEmpty
 | f :: fs, ks, i => f.name != "_" && f.offset == i && decide (P.cellsOf f.type ≤ ks.length) && g f.type (ks.take (P.cellsOf f.type)) && adc g P fs (ks.drop (P.cellsOf f.type)) (i + P.cellsOf f.type)
def ade (g:TypeId->List Nat->Bool) (P:Program) (e:TypeId):Nat->List Nat->Bool
 | 0,ks=>ks.isEmpty
 | n+1,ks=>decide (P.cellsOf e<=ks.length)&&g e (ks.take (P.cellsOf e))&&ade g P e n (ks.drop (P.cellsOf e))
def ur (P:Program):Nat->TypeId->List Nat->Bool
 | 0,_,_=>false
 | d+1,t,ks=>match P.underlying t with
   | some (.struct fs)=>adc (ur P d) P fs.toList ks 0 && !P.stoodInHeld t
   | some (.array n e)=>(P.info? e).isSome&&ade (ur P d) P e n ks
   | some u=>(match ks with
     | [k]=>ac4 k u
     | _=>false)
   | none=>false
def agj (P:Program) (t:TypeId):Bool:=match P.underlying t with
 | some (.struct _)=>true
 | some (.array _ _)=>true
 | _=>false
def asb (P:Program) (t:TypeId) (a:List Nat):Bool:=
 ur P 4 t a&&agj P t && !P.eqGuardType P.depth t
def ahl (P:Program) (a:Bool) (f:FuncId):Bool:=match P.funcs[f]? with
 | some fn => fn.body.isNone && (fn.name == if a then "math/bits.Sub64" else "math/bits.Add64") && (fn.origin == "" || fn.origin == fn.name)
 | none=>false
def up (P:Program) (t:TypeId) (str:Bool) (f:TypeId->Bool):Bool:=
 match P.underlying t with
 | some (.map k e)=>(match P.underlying k with
   | some (.int _)=>!str
   | some .string=>str
   | _=>false)&&f e
 | _=>false
def uv (P:Program) (z:RV) (e:TypeId):Bool:=match P.info? e with
 | some i=>match i.zero with
   | some v=>match v,z with
     | .agg cs,.agg xs=>q9 eqr cs.toList xs&&xs.all (λ x=>match x with | .v _=>true | _=>false)
     | v,.v x=>eqv v x
     | _,_=>false
   | none=>false
 | none=>false
def aaq (P:Program) (t:TypeId):Bool:=match P.underlying t with
 | some (.interface _)=>false
 | some _=>true
 | none=>false
def ake (P:Program) (o:Oper) (po:PO):Bool:=
 match o.op,po with
 | .move x,.mov y=>opd x y
 | .assign x,.mov y=>opd x y
 | .pick c a b,.pick c' a' b'=>opd c c'&&opd a a'&&opd b b'
 | .binOp op t x y _,.bin op' x' y'=>op == op'&&opd x x'&&opd y y'
 | .binOp op t x y _,.beq neg x' y'=>(if neg then op == .neq else op == .eql)&&v6 P t (λ d=>match d with | .bool=>true | _=>false)&&opd x x'&&opd y y'
 | .unOp op _ x,.un op' x'=>op == op'&&opd x x'
 | .convert a d x,.conv k x'=>v6 P a (λ _=>true)&&v6 P d (λ u=>match u with | .int k'=>k == k' | _=>false)&&opd x x'
 | .call c,.len str x'=>match c.callee with
   | .builtin .len=>match c.args.toList,c.argTypes.toList with
     | [x],[t]=>opd x x'&&v6 P t (zh str)
     | _,_=>false
   | _=>false
 | .indexAddr t x i,.ia sz _ x' i'=>bj P t (λ _ inf=>inf.size == sz)&&opd x x'&&opd i i'
 | .index t x i,.ixs x' i'=>v6 P t (λ d=>match d with | .string=>true | _=>false)&&opd x x'&&opd i i'
 | .load t x,.ld n x'=>aab P t n&&opd x x'
 | .nilCheck x,.nck x'=>opd x x'
 | .fieldAddr t x f,.fa off x'=>ad5 P t f (λ g i=>g.offset == off&&i.size != 0)&&opd x x'
 | .field t x f,.fld off n x'=>ad5 P t f (λ g i=>g.offset == off&&aab P g.type n)&&opd x x'
 | .slice t x lo hi mx,.sla n x'=>(match P.underlying t with
   | some (.array n' e)=>n' == n&&(match P.info? e with | some inf=>inf.size == 1 | none=>false)
   | _=>false)&&opd x x'&&lo.isNone&&hi.isNone&&mx.isNone
 | .slice t x lo hi mx,.sls x' lo' hi'=>v6 P t (λ d=>match d with | .string=>true | _=>false)&&mx.isNone&&opd x x'&&ae4 lo lo'&&ae4 hi hi'
 | .slice t x lo hi mx,.sll sz x' lo' hi' mx'=>bj P t (λ _ inf=>inf.size == sz)&&opd x x'&&ae4 lo lo'&&ae4 hi hi'&&ae4 mx mx'&&(mx.isNone||hi.isSome)
 | .extract x i,.ext x' i'=>i == i'&&opd x x'
 | .convert a d x,.toStr x'=>bj P a (λ e _=>v6 P e (λ d=>match d with | .int .u8=>true | _=>false))&&v6 P d (λ d=>match d with | .string=>true | _=>false)&&opd x x'
 | .build t ps,.build zs qs=>(match P.info? t with | some i=>(match i.zero with | some z=>q9 eqz z.cells.toList zs | none=>false) | none=>false)&&v6 P t (aht P)&&q9 (qo P t) ps.toList qs
 | .makeFunc f first cap,.mkf f' xs k=>f == f'&&first.size == k&&q9 opd (first++cap).toList xs
 | .call c,.mm mx x' ys'=>(match c.callee with
   | .builtin .min=>!mx
   | .builtin .max=>mx
   | _=>false)&&(match c.args.toList with
   | x::ys=>opd x x'&&q9 opd ys ys'
   | _=>false)
 | .indexAddr t x i,.iaa n sz x' i'=>(match P.underlying t with
   | some (.array n' e)=>n == n'&&(match P.info? e with
     | some inf=>inf.size == sz
     | none=>false)
   | _=>false)&&opd x x'&&opd i i'
 | .call c,.carry sub x' y' z'=>(match c.callee with
   | .value (.func f)=>ahl P sub f
   | _=>false)&&(match c.args.toList with
   | [x,y,z]=>opd x x'&&opd y y'&&opd z z'
   | _=>false)
 | .binOp op t x y _,.eqa neg ks x' y'=>(if neg then op == .neq else op == .eql)&&asb P t ks&&opd x x'&&opd y y'
 | .lookup t x i c,.lkp str z c' x' i'=>up P t str (uv P z)&&c == c'&&opd x x'&&opd i i'
 | .call c,.lenm x'=>match c.callee with
   | .builtin .len=>match c.args.toList,c.argTypes.toList with
     | [x],[t]=>opd x x'&&v6 P t (λ d=>match d with | .map _ _=>true | _=>false)
     | _,_=>false
   | _=>false
 | .makeInterface t x,.mki t' x'=>t == t'&&aaq P t&&opd x x'
 | .typeAssert x _ t c,.tas t' z c' x'=>t == t'&&aaq P t&&uv P z t&&c == c'&&opd x x'
 | .entry x,.ent x'=>opd x x'
 | .binOp op t x y _,.eqn neg x'=>(match y with | .const (.pointer none)=>true | _=>false)&&(if neg then op == .neq else op == .eql)&&v6 P t (λ d=>match d with | .pointer _=>true | _=>false)&&opd x x'
 | _,_=>false
def PO.nod:PO->Bool
 | .st _ _ _=>true
 | .mset _ _ _ _=>true
 | .mest _ _ _=>true
 | .mdel _ _ _=>true
 | .clr _ _ _=>true
 | _=>false
def adl (P:Program) (o:Oper) (po:PO):Bool:=
 match o.op,po with
 | .alloc e,.new zs=>match P.info? e with
   | some i=>match i.zero with
     | some z=>q9 eqz z.cells.toList zs
     | none=>false
   | none=>false
 | .box _ x,.box x'=>opd x x'
 | .buildSlice t n ps,.bsl sz _ ps'=>bj P t (λ _ i=>i.size == sz&&i.zero.isSome)&&n == ps'.length&&q9 (λ p q=>opd p.2 q) ps.toList ps'&&ps.toList.map (·.1) == List.range n&&n*sz<=16777216&&n<=16777216
 | .store t x y,.st n x' y'=>(match P.info? t with | some i=>i.size == n | none=>false)&&opd x x'&&opd y y'
 | .call c,.app sz _ bytes x' y'=>match c.callee with
   | .builtin .append=>match c.args.toList,c.argTypes.toList with
     | [x,y],[t,u]=>bj P t (λ _ i=>i.size == sz&&i.bytes == bytes&&(match i.zero with | some z=>z.cells.size == sz | none=>false)&&sz != 0)&&bj P u (λ _ _=>true)&&opd x x'&&opd y y'
     | _,_=>false
   | _=>false
 | .call c,.cpy sz x' y'=>match c.callee with
   | .builtin .copy=>match c.args.toList,c.argTypes.toList with
     | [x,y],[t,u]=>bj P t (λ _ i=>i.size == sz)&&bj P u (λ _ _=>true)&&opd x x'&&opd y y'
     | _,_=>false
   | _=>false
 | .convert a d x,.toBytes _ x'=>v6 P a (λ d=>match d with | .string=>true | _=>false)&&bj P d (λ e i=>i.size == 1&&v6 P e (λ d=>match d with | .int .u8=>true | _=>false))&&opd x x'
 | .makeSlice t l c,.mks sz z bytes l' c'=>bj P t (λ _ i=>i.size == sz&&i.bytes == bytes&&sz != 0&&(match i.zero with | some v=>q9 eqr v.cells.toList z.cells&&v.cells.size == sz | none=>false))&&opd l l'&&opd c c'
 | .makeMap _ r,.mkm=>r.isNone
 | .mapEntry t x i,.ment str z x' i'=>up P t str (uv P z)&&opd x x'&&opd i i'
 | .entryStore _ x i y,.mest x' i' y'=>opd x x'&&opd i i'&&opd y y'
 | .mapUpdate t x i y,.mset str x' i' y'=>up P t str (λ _=>true)&&opd x x'&&opd i i'&&opd y y'
 | .call c,.mdel str x' i'=>match c.callee with
   | .builtin .delete=>match c.args.toList,c.argTypes.toList with
     | [x,i],[t,_]=>up P t str (λ _=>true)&&opd x x'&&opd i i'
     | _,_=>false
   | _=>false
 | .range t x,.rng x'=>v6 P t (λ d=>match d with | .map _ _=>true | _=>false)&&opd x x'
 | .call c,.clr sz z x'=>match c.callee with
   | .builtin .clear=>match c.args.toList,c.argTypes.toList with
     | [x],[t]=>bj P t (λ _ i=>i.size == sz&&(match i.zero with | some v=>q9 eqr v.cells.toList z.cells&&v.cells.size == sz | none=>false))&&opd x x'
     | _,_=>false
   | _=>false
 | .call c,.cps x' y'=>match c.callee with
   | .builtin .copy=>match c.args.toList,c.argTypes.toList with
     | [x,y],[t,_]=>bj P t (λ _ i=>i.size == 1)&&opd x x'&&opd y y'
     | _,_=>false
   | _=>false
 | .convert a d x,.mrk x'=>bj P a (λ e _=>v6 P e (λ d=>match d with | .int .u8=>true | _=>false))&&a == d&&opd x x'
 | _,_=>false

abbrev RA (X:Cx) (s:St) (ρ:Pl->Option Nat) (w:World):AV->Value->Prop:=RelA w (d6 X.B s.ob ρ w) s.ob ρ
def l4 (P:Program) (X:Cx) (a:Act) (w:World) (s:St) (ρ:Pl->Option Nat) (o:Oper) (v:AV):Prop:=
 ∃c,(execOp a.eval o).run P w=.ok (.value c) w/\RA X s ρ w v c
section
variable {P:Program} {X:Cx} {w:World} {s:St} {ρ:Pl->Option Nat} {a:Act} {o:Oper}
theorem d5 {g:Bool} (c:Gam X s ρ a w) (d:g=true) {x:Operand} {y:Opd} (h:opd x y=true) (b:(y.ev s.e).may g):RA X s ρ w (y.ev s.e).bare (a.eval x):=
 (ady c.env h).bare d b
theorem al7 {k:IntKind} {m:Int} (h:RA X s ρ w (int k m) c):c=.int k m:=by cases h; rename_i h; cases h; rfl
theorem i9 {x:Value} (h:RA X s ρ w (.r (.v x)) c):c=x:=by cases h; rename_i h; cases h; rfl
theorem az (x:Value):RA X s ρ w (.r (.v x)) x:=.r (.v x)
theorem aui {g:Bool} (d:g=true) {op:BinOp} {t ty:TypeId} {x y:Operand} {u v:AV} (i:o.op=.binOp op t x y ty) (j:RA X s ρ w u (a.eval x)) (h:RA X s ρ w v (a.eval y))
 (c:(ul g op u v).1):l4 P X a w s ρ o (ul g op u v).2:=by
 unfold ul at c |-;split at c
 ·rename_i k m q m';have f:=al7 j;have e:=al7 h;simp only [l4,execOp,i,f,e];cases op<;>simp only [yr] at c |-
  all_goals first
   | (subst c; refine ⟨_,?_,az _⟩; simp [eqGuard,binOp,Op.intArith,Op.intBits,Op.intCmp]; done)
   | (obtain ⟨rfl,c⟩:=c; refine ⟨_,?_,az _⟩; simp [eqGuard,binOp,Op.intDiv,c d]; done)
   | (refine ⟨_,?_,az _⟩; have l:=c d; simp [eqGuard,binOp,Op.shift,show ¬m'<0 by omega]; done)
 ·rename_i b p;have f:=i9 j;have e:=i9 h;simp only [l4,execOp,i,f,e];cases op<;>simp only [yq,bad] at c |-
  ·refine ⟨_,?_,az _⟩;have l:=c d
   have n:¬(((b.size+p.size:Nat):Int)>IntKind.i64.max):=by
    rw [show IntKind.i64.max=9223372036854775807 from rfl]; omega
   simp only [eqGuard,binOp,Op.stringOp,Sem.run_bind,Sem.run_ite,Sem.run_pure,if_neg n];simp
  all_goals first
   | first | exact (c d).elim | exact (c.2 d).elim
   | (refine ⟨_,?_,az _⟩; simp [eqGuard,binOp,Op.stringOp]; done)
 first | exact (c d).elim | exact (c.2 d).elim
theorem aq6 {g:Bool} (k:g=true) {x y z:Operand} {u v t:AV} (l:o.op=.pick x y z) (m:RA X s ρ w u (a.eval x)) (n:RA X s ρ w v (a.eval y)) (p:RA X s ρ w t (a.eval z))
 (b:(nj g u v t).1):l4 P X a w s ρ o (nj g u v t).2:=by
 unfold nj at b |-;split at b
 ·have f:=i9 m;have i:=i9 n;have j:=i9 p;simp only [l4,execOp,l,f,i,j];rename_i c d e;refine ⟨_,?_,az _⟩;cases c<;>simp [asBool]
 ·have f:=i9 m;have j:=i9 p;rename_i c h d e;simp only [l4,execOp,l,f,j];refine ⟨_,?_,az _⟩;cases c
  ·simp [asBool]
  cases n with
  | gd _ hv1 hv2=>
    have i:=i9 (hv1 (b k rfl));simp [asBool,i]
 ·have f:=i9 m;have i:=i9 n;rename_i c d h e;simp only [l4,execOp,l,f,i];refine ⟨_,?_,az _⟩;cases c
  ·cases p with
   | gd _ ht1 ht2=>
     have j:=i9 (ht1 (b k rfl));simp [asBool,j]
  simp [asBool]
 ·have f:=i9 m;have i:=i9 n;simp only [l4,execOp,l,f,i];refine ⟨_,?_,az _⟩;simp [asBool,b k]
 ·have f:=i9 m;have j:=i9 p;simp only [l4,execOp,l,f,j];refine ⟨_,?_,az _⟩;simp [asBool,b k]
 ·have f:=i9 m;have j:=i9 p;simp only [l4,execOp,l,f,j];refine ⟨_,?_,az _⟩;simp [asBool,b k]
 ·have f:=i9 m;have i:=i9 n;simp only [l4,execOp,l,f,i];refine ⟨_,?_,az _⟩;simp [asBool,b k]
 first | exact (b k).elim | exact (b.2 k).elim
theorem auj {g:Bool} (e:g=true) {b:Bool} {op:BinOp} {t ty:TypeId} {x y:Operand} {u v:AV} (f:o.op=.binOp op t x y ty) (d:op=if b then .neq else .eql) (l:P.underlying t=some .bool)
 (k:RA X s ρ w u (a.eval x)) (j:RA X s ρ w v (a.eval y)) (c:(um g b u v).1):l4 P X a w s ρ o (um g b u v).2:=by
 unfold um at c |-;split at c
 ·have i:=i9 k;have h:=i9 j;simp only [l4,execOp,f,i,h];refine ⟨_,?_,az _⟩;subst d;cases b<;>simp [eqGuard,binOp,run_equal_bool w t _ _ l]
 first | exact (c e).elim | exact (c.2 e).elim
theorem aic {x:AV} (h:RA X s ρ w x c) (b:x.isA=true):∃cs,c=.agg cs/\∀(i:Nat) (y:AV),x.cells[i]?=some y->∃v,cs[i]?=some v/\RA X s ρ w y v:=by
 cases h with
 | agg xs cs hl hr=>
   refine ⟨cs,rfl,λ i y hy=>?_⟩;simp only [AV.cells] at hy;have a:=(zam.1 hy).1;have hc:cs[i]?=some (cs[i]'(by omega)):=by simp [show i<cs.size by omega]
   exact ⟨_,hc,hr i y _ hy hc⟩
 | r h0=>
   cases h0 with
   | agg xs cs hl hr=>
     refine ⟨cs,rfl,λ i y hy=>?_⟩;simp only [AV.cells,List.getElem?_map,zaq] at hy;obtain ⟨z,d,rfl⟩:=hy;have a:=(zam.1 d).1;have hc:cs[i]?=some (cs[i]'(by omega)):=by simp [show i<cs.size by omega]
     exact ⟨_,hc,.r (hr i z _ d hc)⟩
   | _=>cases b
 | _=>cases b
theorem aun {t:TypeId} {d:Nat} (a:v6 P t (ac4 k)=true) {u v:AV} {b:Bool} {c':Value} (h:eq2 k u v=some b) (g:RA X s ρ w u c) (f:RA X s ρ w v c'):(Op.equalIn (d+1) t c c').run P w=.ok b w:=by
 unfold v6 at a;split at a
 ·rename_i e i;unfold eq2 at h;split at h
  ·split at h
   ·rename_i j;subst j;cases h;rw [i9 g,i9 f];cases e<;>first | (simp [ac4] at a; done) | exact run_equalIn_int w d t _ _ _ _ i
   cases h
  ·cases h;rw [i9 g,i9 f];cases e<;>first | (simp [ac4] at a; done) | exact run_equalIn_bool' w d t _ _ i
  ·cases h;rw [i9 g,i9 f];cases e<;>first | (simp [ac4] at a; done) | exact run_equalIn_string w d t _ _ i
  cases h
 cases a
theorem adf:∀{a:List Nat} {c vs:List AV} {b:Bool} (n:Nat),eql a c vs=some b->∃d e,eql (a.take n) (c.take n) (vs.take n)=some d/\eql (a.drop n) (c.drop n) (vs.drop n)=some e/\b=(d&&e)
 | a,c,vs,b,0,h=>⟨true,b,by simp [eql],by simpa using h,by simp⟩
 | [],[],[],b,n+1,h=>by simp [eql] at h; subst h; exact ⟨true,true,by simp [eql],by simp [eql],rfl⟩
 | k::a,u::c,v::vs,b,n+1,h=>by
   simp only [eql] at h;split at h
   ·rename_i p q l j;cases h;obtain ⟨d,e,g,f,i⟩:=adf n j;refine ⟨p&&d,e,?_,by simpa using f,by rw [i,Bool.and_assoc]⟩;simp only [List.take_succ_cons,eql,l,g]
   cases h
 | [],_::_,_,_,n+1,h=>by cases h
 | [],[],_::_,_,n+1,h=>by cases h
 | _::_,[],_,_,n+1,h=>by cases h
 | _::_,_::_,[],_,n+1,h=>by cases h
theorem aax:∀{a:List Nat} {c vs:List AV} {b:Bool},eql a c vs=some b->c.length=a.length/\vs.length=a.length
 | [],[],[],b,h=>⟨rfl,rfl⟩
 | k::a,u::c,v::vs,b,h=>by
   simp only [eql] at h;split at h
   ·rename_i p q e d;have:=aax d;simp only [List.length_cons];omega
   cases h
 | [],_::_,_,_,h=>by cases h
 | [],[],_::_,_,h=>by cases h
 | _::_,[],_,_,h=>by cases h
 | _::_,_::_,[],_,h=>by cases h
def AtR (X:Cx) (s:St) (ρ:Pl->Option Nat) (w:World) (xs:Array Value) (off:Nat) (a:List AV):Prop:=∀i u,a[i]?=some u->∃c,xs[off+i]?=some c/\RA X s ρ w u c
theorem AtR.take {xs:Array Value} {off n:Nat} {b:List AV} (h:AtR X s ρ w xs off b):AtR X s ρ w xs off (b.take n):=λ i u a=>by
 rw [zad] at a;split at a
 ·exact h i u a
 cases a
theorem AtR.drop {xs:Array Value} {off n:Nat} {b:List AV} (h:AtR X s ρ w xs off b):AtR X s ρ w xs (off+n) (b.drop n):=λ i u a=>by
 rw [zab] at a;have:=h _ u a
 rwa [<- zaj] at this
theorem AtR.cut {xs:Array Value} {off n:Nat} {a:List AV} (h:AtR X s ρ w xs off a) (g:a.length<=n):AtR X s ρ w (xs.extract off (off+n)) 0 a:=λ i u d=>by
 obtain ⟨c,hc,e⟩:=h i u d;have f:i<a.length:=(zam.1 d).1;refine ⟨c,?_,e⟩;have b:=(zai.1 hc).1;rw [Nat.zero_add,Array.getElem?_extract_of_lt (by omega)];rw [<- hc,Array.getElem?_eq_getElem b]
def xp (X:Cx) (s:St) (ρ:Pl->Option Nat) (w:World) (P:Program) (t:TypeId) (a:List AV) (c:Value):Prop:=
 if agj P t=true then ∃cs,c=.agg cs/\AtR X s ρ w cs 0 a else ∃u,a=[u]/\RA X s ρ w u c
theorem xd {d:Nat} {t:TypeId} {h:List Nat} (a:ur P d t h=true) {xs:Array Value} {off:Nat} {g:List AV} (hx:AtR X s ρ w xs off g) (f:g.length=h.length) (hc:h.length<=P.cellsOf t) :
 ∃c,(part t xs off).run P w=.ok c w/\xp X s ρ w P t g c:=by
 cases d with
 | zero=>cases a
 | succ d=>
   unfold ur at a;unfold xp agj;cases hu:P.underlying t with
   | none=>rw [hu] at a; cases a
   | some kd=>
     obtain ⟨i,m⟩:=info_of_underlying hu
     have b:((∃n e',kd=.array n e')\/(∃j,kd=.struct j))->(part t xs off).run P w=.ok (.agg (xs.extract off (off+P.cellsOf t))) w:=by
      rintro (⟨n,e',rfl⟩ | ⟨j,rfl⟩)<;>simp [part,isAgg,run_underlying hu,run_sizeOf w m]
     rw [hu] at a;cases kd
     case struct j=>exact ⟨_,b (.inr ⟨_,rfl⟩),by simp only [↓reduceIte]; exact ⟨_,rfl,hx.cut (by omega)⟩⟩
     case array n e=>exact ⟨_,b (.inl ⟨_,_,rfl⟩),by simp only [↓reduceIte]; exact ⟨_,rfl,hx.cut (by omega)⟩⟩
     all_goals
      simp only at a
      match h,a with
      | [k],a=>
        match g,f with
        | [u],_=>
          obtain ⟨c,l,o⟩:=hx 0 u rfl;rw [Nat.add_zero] at l;refine ⟨c,by simp [part,isAgg,run_underlying hu,l],?_⟩;simp only [zak,↓reduceIte];exact ⟨u,rfl,o⟩
theorem ai5 (D:Nat):∀(d:Nat) {t:TypeId} {g:List Nat},ur P d t g=true->∀{l vs:List AV} {b:Bool} {c c':Value},eql g l vs=some b->xp X s ρ w P t l c->xp X s ρ w P t vs c' ->
 (Op.equalIn (D+d) t c c').run P w=.ok b w
 | 0,_,_,a,_,_,_,_,_,_,_,_=>by cases a
 | d+1,t,g,a,l,vs,b,c,c',m,C,B=>by
   have Y:∀{t:TypeId} {g:List Nat},ur P d t g=true->∀{l vs:List AV} {b:Bool} {c c':Value},eql g l vs=some b->xp X s ρ w P t l c->xp X s ρ w P t vs c'->(Op.equalIn (D+d) t c c').run P w=.ok b w:=λ h=>ai5 D d h;unfold ur at a;unfold xp agj at C B;cases hd:P.underlying t with
   | none=>rw [hd] at a; cases a
   | some kd=>
     rw [hd] at a C B;have h0:v6 P t (λ _=>true)=true:=by simp [v6,hd]
     cases kd
     case struct fs=>
      simp only [↓reduceIte] at C B;simp only [zah,Bool.not_eq_true'] at a;obtain ⟨cs,rfl,L⟩:=C;obtain ⟨o,rfl,A⟩:=B;have H:P.fieldsOf t=fs:=by simp [Program.fieldsOf,hd]
      have:=run_equalIn_struct w (D+d) t cs o (by rw [H]; exact hd) a.2;rw [show D+(d+1)=D+d+1 from rfl,this,H];clear this H hd;obtain ⟨a,_⟩:=a
      have F:∀(fl:List Go.Field) (i:Nat) {g:List Nat} {l vs:List AV} {b:Bool},adc (ur P d) P fl g i=true->eql g l vs=some b->AtR X s ρ w cs i l->AtR X s ρ w o i vs->(Op.eqFields (D+d) cs o fl).run P w=.ok b w:=by
       intro fl
       induction fl with
       | nil=>
         intro i g l vs b r m K J;simp only [adc,List.isEmpty_iff] at r;subst r;obtain ⟨E,I⟩:=aax m;obtain rfl:l=[]:=zap.1 E;obtain rfl:vs=[]:=zap.1 I;cases m;simp [Op.eqFields]
       | cons f fl ihl=>
         intro i g l vs b r m K J;simp only [adc,zah,bne_iff_ne,ne_eq,beq_iff_eq,decide_eq_true_eq] at r;obtain ⟨⟨⟨⟨f1,f2⟩,f3⟩,G⟩,R⟩:=r;obtain ⟨M,Z,E,I,rfl⟩:=adf (P.cellsOf f.type) m;obtain ⟨Q,S⟩:=aax E;have z:(g.take (P.cellsOf f.type)).length<=P.cellsOf f.type:=by simp; omega
         obtain ⟨x,U,O⟩:=xd G K.take Q z;obtain ⟨y,N,T⟩:=xd G J.take S z;simp only [Op.eqFields,if_pos f1,Sem.run_bind];rw [f2,U,Result.andThen_ok,N,Result.andThen_ok,Y G E O T,Result.andThen_ok];cases M
         ·simp
         simpa using ihl (i+P.cellsOf f.type) R I K.drop J.drop
      exact F _ 0 a m L A
     case array n e=>
      simp only [↓reduceIte] at C B;simp only [zah] at a;obtain ⟨cs,rfl,L⟩:=C;obtain ⟨o,rfl,A⟩:=B;obtain ⟨i,hi⟩:=Option.isSome_iff_exists.1 a.1;rw [show D+(d+1)=D+d+1 from rfl,run_equalIn_array w (D+d) cs o hd hi];obtain ⟨_,a⟩:=a
      have F:∀(n j:Nat) {g:List Nat} {l vs:List AV} {b:Bool},ade (ur P d) P e n g=true->eql g l vs=some b->AtR X s ρ w cs (j*P.cellsOf e) l->AtR X s ρ w o (j*P.cellsOf e) vs->(Op.eqItems (D+d) e (P.cellsOf e) cs o (List.range' j n)).run P w=.ok b w:=by
       intro n
       induction n with
       | zero=>
         intro j g l vs b r m K J;simp only [ade,List.isEmpty_iff] at r;subst r;obtain ⟨E,I⟩:=aax m;obtain rfl:l=[]:=zap.1 E;obtain rfl:vs=[]:=zap.1 I;cases m;simp [Op.eqItems]
       | succ n ihn=>
         intro j g l vs b r m K J;simp only [ade,zah,decide_eq_true_eq] at r;obtain ⟨⟨f3,G⟩,R⟩:=r;obtain ⟨M,Z,E,I,rfl⟩:=adf (P.cellsOf e) m;obtain ⟨Q,S⟩:=aax E;have z:(g.take (P.cellsOf e)).length<=P.cellsOf e:=by simp; omega
         obtain ⟨x,U,O⟩:=xd G K.take Q z;obtain ⟨y,N,T⟩:=xd G J.take S z;simp only [List.range'_succ,Op.eqItems,Sem.run_bind];rw [U,Result.andThen_ok,N,Result.andThen_ok,Y G E O T,Result.andThen_ok];cases M
         ·simp
         have W:=K.drop (n:=P.cellsOf e);have V:=J.drop (n:=P.cellsOf e);rw [<- Nat.succ_mul] at W V;simpa using ihn (j+1) R I W V
      rw [List.range_eq_range'];exact F n 0 a m (by simpa using L) (by simpa using A)
     all_goals
      simp only [zak,↓reduceIte] at C B a;obtain ⟨u,rfl,C⟩:=C;obtain ⟨v,rfl,B⟩:=B
      match g,a,m with
      | [k],a,m=>
        simp only [eql] at m;split at m
        ·rename_i p q hp hq;cases hq;cases m;rw [Bool.and_true];exact aun (by simpa [v6,hd] using a) hp C B
        cases m
theorem auf {g:Bool} (z:g=true) {e:Bool} {k:List Nat} {op:BinOp} {t ty:TypeId} {x y:Operand} {u v:AV} (C:o.op=.binOp op t x y ty) (p:op=if e then .neq else .eql) (q:asb P t k=true)
 (h:RA X s ρ w u (a.eval x)) (A:RA X s ρ w v (a.eval y)) (B:u.isA=true) (F:v.isA=true) (f:(vz g e (eql k u.cells v.cells)).1):l4 P X a w s ρ o (vz g e (eql k u.cells v.cells)).2:=by
 rcases he:eql k u.cells v.cells with _ | b
 ·rw [he] at f; first | exact (f z).elim | exact (f.2 z).elim
 simp only [asb,zah,Bool.not_eq_true'] at q;obtain ⟨⟨D,r⟩,E⟩:=q;obtain ⟨cs,hc,n⟩:=aic h B;obtain ⟨d,m,j⟩:=aic A F
 have l:(Op.equal t (.agg cs) (.agg d)).run P w=.ok b w:=by
  have:=ai5 (X:=X) (s:=s) (ρ:=ρ) (w:=w) 9996 4 D he (c:=.agg cs) (c':=.agg d) (by unfold xp; rw [if_pos r]; exact ⟨cs,rfl,λ i u h=>by simpa using n i u h⟩) (by unfold xp; rw [if_pos r]; exact ⟨d,rfl,λ i u h=>by simpa using j i u h⟩);exact this
 simp only [l4,execOp,C,hc,m];refine ⟨_,?_,az _⟩;subst p;cases e<;>simp [binOp,l,run_eqGuard_agg w _ t x y cs d E]
theorem awv {g:Bool} (c:g=true) {op:UnOp} {t:TypeId} {x:Operand} {u:AV} (e:o.op=.unOp op t x) (f:RA X s ρ w u (a.eval x)) (b:(un1 g op u).1):l4 P X a w s ρ o (un1 g op u).2:=by
 unfold un1 at b |-;split at b
 ·have d:=i9 f;simp only [l4,execOp,e,d];cases op<;>simp only [bad,c,true_implies,forall_const] at b |-
  all_goals first
   | first | exact (b c).elim | exact (b.2 c).elim
   | (refine ⟨_,?_,az _⟩; simp [Op.unary,Op.intArith,Op.intBits]; done)
 ·have d:=i9 f;simp only [l4,execOp,e,d];cases op<;>simp only [bad,c,true_implies,forall_const] at b |-
  all_goals first
   | first | exact (b c).elim | exact (b.2 c).elim
   | (refine ⟨_,?_,az _⟩; simp [Op.unary]; done)
 first | exact (b c).elim | exact (b.2 c).elim
theorem aq8 {g:Bool} (e:g=true) {k:IntKind} {t c:TypeId} {d:TypeDesc} {x:Operand} {u:AV} (f:o.op=.convert t c x) (i:P.underlying t=some d) (h:P.underlying c=some (.int k)) (l:RA X s ρ w u (a.eval x))
 (b:(oa g k u).1):l4 P X a w s ρ o (oa g k u).2:=by
 unfold oa at b |-;split at b
 ·have j:=i9 l;simp only [l4,execOp,f,j];refine ⟨_,?_,az _⟩;simp [convert,run_underlying i,run_underlying h,Conv.intToInt]
 first | exact (b e).elim | exact (b.2 e).elim
theorem n8 {ob:Obs} {ver:Nat} {r:Nat×RV×Bool×Bool×List RV} (h:g9 ob id ver=some r):ob id=some (ver,.row r.1 r.2.1 r.2.2.1 r.2.2.2.1 r.2.2.2.2):=by
 unfold g9 at h;split at h
 ·split at h
  ·rename_i b a;cases h;rw [b,a]
  cases h
 cases h
theorem dj {ob:Obs} {ver:Nat} {r:List AV} (h:m7 ob id ver=some r):ob id=some (ver,.box r):=by
 unfold m7 at h;split at h
 ·split at h
  ·rename_i b a;cases h;rw [b,a]
  cases h
 cases h
theorem afz {ob:Obs} {ver:Nat} {r:Unit} (h:dv ob id ver=some r):∃o,ob id=some (ver,o):=by
 unfold dv at h;split at h
 ·split at h
  ·rename_i b a;exact ⟨_,by rw [b,a]⟩
  cases h
 ·split at h
  ·rename_i b a;exact ⟨_,by rw [b,a]⟩
  cases h
 cases h
theorem At.live {ob:Obs} {ver:Nat} {X:Ob->Prop} {o:Ob} (h:At ob id ver X) (a:ob id=some (ver,o)):X o:=by
 obtain ⟨v,o',b,d,c⟩:=h;rw [b] at a;cases a;exact c rfl
theorem ke {ver a len:Nat} {r:Nat×RV×Bool×Bool×List RV} (h:RA X s ρ w (.own id ver a len) c) (b:g9 s.ob id ver=some r) :
 aa4 w ρ id a len c (.row r.1 r.2.1 r.2.2.1 r.2.2.2.1 r.2.2.2.2):=by
 cases h;rename_i h;exact h.live (n8 b)
theorem at9 {g:Bool} (B:g=true) {str:Bool} {x:Operand} {u:AV} {t:TypeId} {d:TypeDesc} {c:Call} (H:o.op=.call c) (hc:c.callee=.builtin .len) (hx:c.args=#[x]) (F:c.argTypes=#[t]) (z:P.underlying t=some d)
 (i:zh str d=true) (p:RA X s ρ w u (a.eval x))
 (f:(qe g str u s.ob).ok):l4 P X a w s ρ o (qe g str u s.ob).v:=by
 have l:∀(m:Nat) (v:Value),a.eval x=v->(∀e,d=.slice e->∃A k,v=.slice A m k)->(d=.string->∃b,v=.string b/\b.size=m)->l4 P X a w s ρ o (int .i64 m):=by
  intro m v y C K;simp only [l4,execOp,H];refine ⟨_,?_,az _⟩;unfold zh at i;split at i
  ·rename_i z;obtain ⟨b,rfl,rfl⟩:=K rfl;simp [resolve,hc,hx,F,y,invoke,builtin,Builtin.len_,run_underlying z,goInt]
  ·rename_i z;obtain ⟨A,k,rfl⟩:=C _ rfl;simp [resolve,hc,hx,F,y,invoke,builtin,Builtin.len_,run_underlying z,goInt]
  cases i
 unfold qe at f |-;split at f
 ·cases p;rename_i p;generalize y:a.eval x=v at p;cases p;rename_i A cap Q b o g hc M D O B;refine l _ _ y (λ e j=>⟨A,cap,rfl⟩) (λ j=>?_);subst j;simp only [zh] at i;have:=f.1;rw [i] at this;cases this
 ·have C:=i9 p;refine l _ _ C (λ e j=>?_) (λ j=>⟨_,rfl,rfl⟩);subst j;have:=f.1;simp only [zh] at i;rw [this] at i;cases i
 ·generalize y:a.eval x=v at p;cases p;refine l 0 _ y (λ e j=>⟨_,_,rfl⟩) (λ j=>?_);subst j;simp only [zh] at i;have:=f.1;rw [i] at this;cases this
 ·split at f
  ·rename_i r D;obtain ⟨A,cap,E,I,J,N,G⟩:=ke p D;simp only [D];refine l _ _ E (λ e j=>⟨_,_,rfl⟩) (λ j=>?_);subst j;simp only [zh] at i;have:str=false:=f;rw [i] at this;cases this
  rename_i id ver _ n _ L;rcases hb:m7 s.ob id ver with _ | q
  ·rw [hb] at f;exact (f B).elim
  rw [hb] at f
  obtain ⟨A,cap,E,I,J,G⟩:aa4 w ρ _ _ _ (a.eval x) (.box q):=by
   cases p;rename_i h;exact h.live (dj hb)
  refine l _ _ E (λ e j=>⟨_,_,rfl⟩) (λ j=>?_);subst j;simp only [zh] at i;have:str=false:=f;rw [i] at this;cases this
 first | exact (f B).elim | exact (f.2 B).elim | exact f.2.elim
theorem aw (b o k:Nat):(⟨b,o,none⟩:Addr).add k=⟨b,o+k,none⟩:=by
 unfold Addr.add; split<;>simp_all
theorem awy {g:Bool} (D:g=true) {t e:TypeId} {i:TypeInfo} {sz:Nat} {z:RV} {x y:Operand} {u v:AV} (M:o.op=.indexAddr t x y) (L:P.underlying t=some (.slice e)) (J:P.info? e=some i)
 (hz:i.size=sz) (C:RA X s ρ w u (a.eval x)) (K:RA X s ρ w v (a.eval y))
 (d:(ia2 g sz z u v s.ob).ok):l4 P X a w s ρ o (ia2 g sz z u v s.ob).v:=by
 unfold ia2 at d |-;subst hz;split at d
 ·rename_i sz xs k m;have F:=i9 K;obtain ⟨rfl,n⟩:=d;obtain ⟨n,T⟩:=n D;cases C;rename_i C;generalize hc:a.eval x=c at C;cases C;rename_i A cap hm b o' gg U W G h0 E;obtain ⟨rfl,hR⟩:=W (by omega);obtain ⟨f,rfl⟩:∃f:Nat,m=(f:Int):=⟨m.toNat,by omega⟩
  have l:f<xs.length:=by omega
  simp only [l4,execOp,M];refine ⟨.pointer (some ⟨b,o'+f*i.size,none⟩),?_,?_⟩
  ·simp [Instr.indexAt,asIntOf,F,hc,run_underlying L,sizeOf,typeInfo,J,l,aw]
  simp only [Vs.q,zal];have hx:xs[f]?=some (xs.getD f z):=by simp [l]
  exact .rp _ b _ (λ j=>gg f j) hR λ j y H=>⟨(E f _ j y hx H).1,(E f _ j y hx H).2,G f _ j y hx H⟩
 ·rename_i id ver Q m k q;split at d
  ·rename_i O r G;have F:=i9 K;obtain ⟨B,n⟩:=d;obtain ⟨n,T⟩:=n D;obtain ⟨A,cap,S,Z,Y,e4,I⟩:=ke C G;obtain ⟨b,cs,ee,fr,R,N,f3,V⟩:=I (by omega);obtain ⟨f,rfl⟩:∃f:Nat,q=(f:Int):=⟨q.toNat,by omega⟩
   simp only [G];simp only [l4,execOp,M];refine ⟨.pointer (some ⟨b,(Q+f)*O+0,none⟩),?_,?_⟩
   ·have l:f<m:=by omega
    simp [Instr.indexAt,asIntOf,F,S,N,run_underlying L,sizeOf,typeInfo,J,l,aw,B,Nat.add_mul]
   refine .oel id ver _ 0 _ rfl ⟨ver,_,n8 G,zaa _,λ _=>?_⟩;exact ⟨by rw [zal]; simp only at e4 |-; omega,Nat.zero_le _,b,R,by rw [zal]⟩
  rcases hb:m7 s.ob id ver with _ | p
  ·rw [hb] at d;exact (d D).elim
  rw [hb] at d;have F:=i9 K;obtain ⟨B,n⟩:=d;obtain ⟨n,T⟩:=n D
  obtain ⟨A,cap,S,Z,Y,I⟩:aa4 w ρ id Q m (a.eval x) (.box p):=by
   cases C;rename_i h;exact h.live (dj hb)
  obtain ⟨b,cs,ee,fr,R,N,f3,V⟩:=I (by omega);obtain ⟨f,rfl⟩:∃f:Nat,q=(f:Int):=⟨q.toNat,by omega⟩
  simp only [l4,execOp,M,iab];refine ⟨.pointer (some ⟨b,Q+f,none⟩),?_,?_⟩
  ·have l:f<m:=by omega
   simp [Instr.indexAt,asIntOf,F,S,N,run_underlying L,sizeOf,typeInfo,J,l,aw,B]
  exact .ptr id ver _ _ rfl ⟨ver,_,dj hb,zaa _,λ _=>⟨b,R,by rw [zal]⟩⟩
 first | exact (d D).elim | exact (d.2 D).elim | exact d.2.elim
theorem aoy {g:Bool} (j:g=true) {e:Bool}:∀{vs:List AV} {cs:List Value} {u:AV} {c:Value},(mmL g e u vs).1->RA X s ρ w u c->vs.length=cs.length->(∀(i:Nat) (x:AV) (y:Value),vs[i]?=some x->cs[i]?=some y->RA X s ρ w x y) ->
 ∃r,(cs.foldlM (bif e then Builtin.max2 else Builtin.min2) c).run P w=.ok r w/\RA X s ρ w (mmL g e u vs).2 r
 | [],[],u,c,hok,hu,hl,h=>by
   have o:mmL g e u []=(True,u):=by unfold mmL; rfl
   exact ⟨c,by simp,by rw [o]; exact hu⟩
 | v::vs,d::cs,u,c,hok,hu,hl,h=>by
   have l:=h 0 v d rfl rfl;unfold mmL at hok;split at hok
   ·rename_i f;cases f
   ·rename_i k a p b ys f;cases f;have n:=i9 hu;have m:=i9 l;subst n; subst m;obtain ⟨r,g1,g2⟩   := aoy j (cs:=cs) hok (az (.int k (bif e then max a b else min a b))) (by simpa using hl) (λ i x y hx hy=>h (i+1) x y (by simpa using hx) (by simpa using hy));refine ⟨r,?_,?_⟩
    ·rw [List.foldlM_cons,Sem.run_bind]
     have:((bif e then Builtin.max2 else Builtin.min2) (.int k a) (.int p b)).run P w=.ok (.int k (bif e then max a b else min a b)) w:=by
      cases e
      ·simp only [cond_false,Builtin.min2,Sem.run_pure];congr 2;rw [Int.min_def];split<;>split<;>omega
      simp only [cond_true,Builtin.max2,Sem.run_pure];congr 2;rw [Int.max_def];split<;>split<;>omega
     rw [this,Result.andThen_ok];exact g1
    rw [mmL]; exact g2
   first | exact (hok j).elim | exact (hok.2 j).elim
 | [],_::_,_,_,_,_,hl,_=>by cases hl
 | _::_,[],_,_,_,_,hl,_=>by cases hl
theorem awx {g:Bool} (m:g=true) {d:Bool} {c:Call} {x:Operand} {ys:List Operand} {u:AV} {vs:List AV} (f:o.op=.call c) (hc:c.callee=.builtin (if d then .max else .min)) (hx:c.args.toList=x::ys) (k:RA X s ρ w u (a.eval x))
 (j:vs.length=ys.length) (h:∀(i:Nat) (v:AV) (y:Operand),vs[i]?=some v->ys[i]?=some y->RA X s ρ w v (a.eval y)) (e:(mmL g d u vs).1):l4 P X a w s ρ o (mmL g d u vs).2:=by
 obtain ⟨r,h1,h2⟩   := aoy m (P:=P) (cs:=ys.map a.eval) e k (by simp [j]) (λ i x y hx hy=>by
  rw [List.getElem?_map,zaq] at hy;obtain ⟨z,l,rfl⟩:=hy
  exact h i x z hx l)
 have b:c.args=(x::ys).toArray:=by rw [<- hx]
 refine ⟨r,?_,h2⟩;cases d
 ·simp only [if_false,cond_false,zak] at h1 hc;simp [execOp,f,resolve,hc,b,invoke,builtin,Builtin.min_,h1]
 simp only [if_true,cond_true] at h1 hc;simp [execOp,f,resolve,hc,b,invoke,builtin,Builtin.max_,h1]
theorem aub {g:Bool} (l:g=true) {t e:TypeId} {i:TypeInfo} {n sz:Nat} {x y:Operand} {u v:AV} (M:o.op=.indexAddr t x y) (K:P.underlying t=some (.array n e)) (I:P.info? e=some i)
 (N:i.size=sz) (D:RA X s ρ w u (a.eval x)) (F:RA X s ρ w v (a.eval y)) (d:(ja g n sz u v s.ob).ok):l4 P X a w s ρ o (ja g n sz u v s.ob).v:=by
 subst N
 have p:∀b o' k (m:Int),a.eval x=.pointer (some ⟨b,o',none⟩)->a.eval y=.int k m->0<=m->m<n->(execOp a.eval o).run P w=.ok (.value (.pointer (some ⟨b,o'+m.toNat*i.size,none⟩))) w:=by
  intro b o' k m hx hy J Q;simp [execOp,M,hx,hy,Instr.indexAt,asIntOf,run_underlying K,Instr.sureAddr,sizeOf,typeInfo,I,aw,J,Q]
 unfold ja at d |-;split at d
 ·rename_i id ver o' k m;split at d
  ·rename_i r B;have C:=dj B;have A:=i9 F;cases D;rename_i h;obtain ⟨b,q,hc⟩:=h.live C;simp only [B];exact ⟨_,p b _ k m hc A (d l).1 (d l).2,.ptr _ _ _ _ rfl ⟨_,_,C,zaa _,λ _=>⟨b,q,rfl⟩⟩⟩
  first | exact (d l).elim | exact (d.2 l).elim | exact d.2.elim
 ·rename_i id ver idx o' k m;split at d
  ·rename_i O r B;have C:=n8 B;have A:=i9 F;cases D;rename_i h;obtain ⟨z,H,b,q,hc⟩:=h.live C;simp only [B];obtain ⟨E,S,T⟩:=d l;refine ⟨_,p b _ k m hc A E S,.oel _ _ _ _ _ rfl ⟨_,_,C,zaa _,λ _=>⟨z,?_,b,q,?_⟩⟩⟩
   ·have:m.toNat*i.size<=n*i.size:=Nat.mul_le_mul_right _ (by omega);simp only;omega
   rw [zaj]
  first | exact (d l).elim | exact (d.2 l).elim | exact d.2.elim
 ·rename_i ys k m;have A:=i9 F;generalize hc:a.eval x=c at D;cases D;rename_i b o' f R L;obtain ⟨_,E⟩:=d;refine ⟨_,p b o' k m hc A (E l).1 (E l).2,.rp _ b _ (λ j=>f (m.toNat*i.size+j)) R λ j y G=>?_⟩;rw [zab] at G;have:=L (m.toNat*i.size+j) y G;rw [<- zaj] at this;exact this
 first | exact (d l).elim | exact (d.2 l).elim | exact d.2.elim
def xa:Array Value->Sem Value:=λ args=>do
 let (x, y, b) ← Extern.MathBitsCarry.three "Sub64" args
 pure (Extern.MathBitsCarry.pair ((x+Extern.MathBitsCarry.m64-y-b)%Extern.MathBitsCarry.m64) (if x<y+b then 1 else 0))
theorem aox (x y b:Nat) (a:b<=1) (w:World) :
 (xa #[.int .u64 x,.int .u64 y,.int .u64 b]).run P w =
  .ok (.tuple #[.int .u64 (((x+18446744073709551616-y-b)%18446744073709551616:Nat):Int),.int .u64 ((if x<y+b then 1 else 0:Nat):Int)]) w:=by
 have:b=0\/b=1:=by omega
 rcases this with rfl | rfl<;>rfl
theorem ant {a : Bool} {fn : Func} (h : fn.name = if a then "math/bits.Sub64" else "math/bits.Add64") (i : fn.origin = "" ∨ fn.origin = fn.name) :
 Extern.findNext fn = none ∧ Extern.find fn = some (if a then xa else add64Entry) ∧ (fn.name == "runtime.NumGoroutine") = false := by
 have b : fn.origin = "" ∨ fn.origin = if a then "math/bits.Sub64" else "math/bits.Add64" := by rw [← h]; exact i
 unfold Extern.findNext Extern.find;rw [h];cases a<;>simp only [if_true,if_false,zak] at b |-
 ·have d : Extern.allGenericRows.lookup "math/bits.Add64" = none := by kernel_rfl
  have c : Extern.allTypedRows.lookup "math/bits.Add64" = none := by kernel_rfl
  have e : Extern.allRows.lookup "math/bits.Add64" = some add64Entry := by kernel_rfl
  have g : Extern.allNextRows.lookup "math/bits.Add64" = none := by kernel_rfl
  have f : Extern.allNextRows.lookup "" = none := by kernel_rfl
  refine ⟨?_,?_,by decide⟩
  ·rcases b with b | b<;>simp [b,g,f]
  simp [d,c,e]
 have d : Extern.allGenericRows.lookup "math/bits.Sub64" = none := by kernel_rfl
 have c : Extern.allTypedRows.lookup "math/bits.Sub64" = none := by kernel_rfl
 have e : Extern.allRows.lookup "math/bits.Sub64" = some xa := by kernel_rfl
 have g : Extern.allNextRows.lookup "math/bits.Sub64" = none := by kernel_rfl
 have f : Extern.allNextRows.lookup "" = none := by kernel_rfl
 refine ⟨?_,?_,by decide⟩
 ·rcases b with b | b<;>simp [b,g,f]
 simp [d,c,e]
theorem aoq {g:Bool} (A:g=true) {d:Bool} {c:Call} {f:FuncId} {x y z:Operand} {u v t:AV} (G:o.op=.call c) (hc:c.callee=.value (.func f)) (m:ahl P d f=true) (hx:c.args.toList=[x,y,z])
 (I:RA X s ρ w u (a.eval x)) (E:RA X s ρ w v (a.eval y)) (F:RA X s ρ w t (a.eval z)) (h:(ig g d u v t).1):l4 P X a w s ρ o (ig g d u v t).2:=by
 unfold ig at h |-;split at h
 ·rename_i p q r;have M:=i9 I;have L:=i9 E;have N:=i9 F;obtain ⟨D,B,C,O,U,T⟩:=h A;have j:c.args=#[x,y,z]:=by rw [show c.args=c.args.toList.toArray by simp,hx]
  unfold ahl at m;split at m
  ·rename_i fn n;simp only [zah,Bool.or_eq_true,beq_iff_eq] at m;obtain ⟨⟨Q,H⟩,R⟩:=m;obtain ⟨S,J,K⟩:=ant H R;have k:=λ args w=>run_callFunc_extern (P:=P) n K Q S J args w
   have b:(execOp a.eval o).run P w=(((if d then xa else add64Entry) #[.int .u64 p,.int .u64 q,.int .u64 r]).run P w).andThen (λ v w'=>Result.ok (Next.value v) w'):=by
    have l:c.args.map a.eval=#[.int .u64 p,.int .u64 q,.int .u64 r]:=by rw [j,<- M,<- L,<- N]; simp
    rw [<- k,<- l];simp [execOp,G,resolve,hc,Act.eval,Deferred.ofValue,invoke]
    try rfl
   cases d
   ·simp only [if_false,zak] at b;rw [run_add64 p q r D B C O,Result.andThen_ok] at b;refine ⟨_,b,.tup _ _ rfl λ i x c hx hc=>?_⟩;rcases i with _ | _ | i
    ·simp at hx hc; subst hx; subst hc; exact az _
    ·simp at hx hc; subst hx; subst hc; exact az _
    simp at hx
   simp only [if_true] at b;obtain ⟨p,rfl⟩:=zar D;obtain ⟨q,rfl⟩:=zar B;obtain ⟨r,rfl⟩:=zar C;have e:=b;rw [aox p q r (by omega),Result.andThen_ok] at e;refine ⟨_,e,.tup _ _ rfl λ i x c hx hc=>?_⟩;rcases i with _ | _ | i
   ·simp only [zas,List.getElem?_cons_zero,Option.some.injEq] at hx hc;subst hx; subst hc;have:(((p+18446744073709551616-q-r)%18446744073709551616:Nat):Int)=((p:Int)+18446744073709551616-q-r)%18446744073709551616:=by omega
    rw [this];exact az _
   ·simp only [zas,List.getElem?_cons_zero,List.getElem?_cons_succ,Option.some.injEq] at hx hc;subst hx; subst hc;have:((if p<q+r then 1 else 0:Nat):Int)=if (p:Int)<q+r then 1 else 0:=by split<;>split<;>omega
    rw [<- this];exact az _
   simp at hx
  cases m
 first | exact (h A).elim | exact (h.2 A).elim
theorem aua {g:Bool} (f:g=true) {t:TypeId} {x y:Operand} {u v:AV} (j:o.op=.index t x y) (i:P.underlying t=some .string)
 (n:RA X s ρ w u (a.eval x)) (h:RA X s ρ w v (a.eval y)) (c:(uf g u v).1):l4 P X a w s ρ o (uf g u v).2:=by
 unfold uf at c |-;split at c
 ·rename_i b k m;have q:=i9 n;have p:=i9 h;obtain ⟨A,B⟩:=c f;obtain ⟨d,rfl⟩:∃d:Nat,m=(d:Int):=⟨m.toNat,by omega⟩
  have e:d<b.size:=by omega
  simp only [l4,execOp,j];refine ⟨_,?_,az _⟩
  have z:b[d]?=some (b.data.toList.getD d 0):=by
   have r:d<b.data.size:=e;have l:b[d]?=some (b[d]'e):=getElem?_pos b d e;rw [l];simp only [List.getD_eq_getElem?_getD,Array.getElem?_toList];rw [Array.getElem?_eq_getElem r]
   rfl
  simp [Instr.index,asIntOf,q,p,run_underlying i,z]
 first | exact (c f).elim | exact (c.2 f).elim
theorem at6 {g:Bool} (i:g=true) {x:Operand} {u:AV} (k:o.op=.nilCheck x) (f:RA X s ρ w u (a.eval x)) (d:(rr g u s.ob).ok):l4 P X a w s ρ o (rr g u s.ob).v:=by
 unfold rr at d |-;split at d
 ·split at d
  ·rename_i r j;have e:=f;cases f;rename_i h;obtain ⟨o',l⟩:=afz j;obtain ⟨b,_,hc⟩:=h.live l;simp only [l4,execOp,k,hc,j];exact ⟨_,rfl,by rw [<- hc]; exact e⟩
  first | exact (d i).elim | exact (d.2 i).elim | exact d.2.elim
 ·split at d
  ·rename_i r j;have e:=f;cases f;rename_i h;obtain ⟨_,_,b,_,hc⟩:=h.live (n8 j);simp only [l4,execOp,k,hc,j];exact ⟨_,rfl,by rw [<- hc]; exact e⟩
  first | exact (d i).elim | exact (d.2 i).elim | exact d.2.elim
 ·have e:=f;generalize hc:a.eval x=c at f e;cases f;simp only [l4,execOp,k,hc];exact ⟨_,rfl,e⟩
 ·have e:=f;generalize hc:a.eval x=c at f e;cases f;simp only [l4,execOp,k,hc];exact ⟨_,rfl,e⟩
 first | exact (d i).elim | exact (d.2 i).elim | exact d.2.elim
theorem ahz (b o:Nat) (cs:List Value) (h:∀j v,cs[j]?=some v->w.cell? ⟨b,o+j,none⟩=some v):(loadCells ⟨b,o,none⟩ cs.length).run P w=.ok cs.toArray w:=
 run_loadCells_list w ⟨b,o,none⟩ cs λ j v a=>by rw [aw]; exact h j v a
theorem ai4 {t:TypeId} {m:Option Nat} (f:aab P t m=true) (b o:Nat) (cs:List Value) (a:cs.length=m.getD 1) (h:∀j v,cs[j]?=some v->w.cell? ⟨b,o+j,none⟩=some v) :
 (Instr.loadAt t (.pointer (some ⟨b,o,none⟩))).run P w=.ok (match m with | none=>cs.getD 0 undef | some _=>.agg cs.toArray) w:=by
 unfold aab at f;split at f
 ·rename_i q i l n;have:m=some i.size:=by simpa using f
  subst this;have g:=ahz (P:=P) b o cs h;simp only [zae] at a;rw [a] at g;simp [Instr.loadAt,Instr.sureAddr,loadVar,isAgg,run_underlying l,sizeOf,typeInfo,n,g]
 ·rename_i k e i l n;have:m=some i.size:=by simpa using f
  subst this;have g:=ahz (P:=P) b o cs h;simp only [zae] at a;rw [a] at g;simp [Instr.loadAt,Instr.sureAddr,loadVar,isAgg,run_underlying l,sizeOf,typeInfo,n,g]
 ·rename_i d i s r l n;have:m=none:=by simpa using f
  subst this;simp only [zaf] at a;obtain ⟨c,rfl⟩:=List.length_eq_one_iff.1 a;have hc:=h 0 c rfl;simp only [Nat.add_zero] at hc
  have p:(isAgg t).run P w=.ok false w:=by
   simp only [isAgg,Sem.run_bind,run_underlying l,Result.andThen_ok]
   rfl
  simp [Instr.loadAt,Instr.sureAddr,loadVar,p,hc]
 cases f
theorem aud {g:Bool} (f:g=true) {x:Operand} {u:AV} (j:o.op=.extract x i) (e:RA X s ρ w u (a.eval x)) (b:(ui g i u).1):l4 P X a w s ρ o (ui g i u).2:=by
 unfold ui at b |-;split at b
 ·rename_i xs;generalize hc:a.eval x=c at e;cases e;rename_i cs l h;have d:i<cs.size:=by omega
  simp only [l4,execOp,j,hc];refine ⟨cs[i],?_,h i _ _ ?_ (by simp [d])⟩
  ·simp [Instr.extract,d]
  have k:i<xs.length:=b;simp [k]
 first | exact (b f).elim | exact (b.2 f).elim
theorem asi {ys:List RV} {o:Nat} {g:Nat->Value} (f:∀(j:Nat) (y:RV),ys[j]?=some y->w.cell? ⟨b,o+j,none⟩=some (g j)) :
 ((List.range ys.length).map g).length=ys.length/\∀j v,((List.range ys.length).map g)[j]?=some v->w.cell? ⟨b,o+j,none⟩=some v:=by
 refine ⟨by simp,λ j v d=>?_⟩;rw [List.getElem?_map,zaq] at d;obtain ⟨k,e,rfl⟩:=d;obtain ⟨c,a⟩:=zam.1 e;rw [List.getElem_range] at a;subst a;rw [List.length_range] at c;exact f j ys[j] (by simp [c])
theorem aoo {m:Option Nat} {t:TypeId} {x:Operand} {ys:List RV} {o':Nat} {f:Nat->Value} {R:Nat->Prop} (s:o.op=.load t x) (r:aab P t m=true) (hx:a.eval x=.pointer (some ⟨b,o',none⟩))
 (n:∀(j:Nat) (y:RV),ys[j]?=some y->w.cell? ⟨b,o'+j,none⟩=some (f j)/\(f j).oneCell'=true/\RelV w R y (f j)) (l:m.getD 1<=ys.length) :
 ∃c,(execOp a.eval o).run P w=.ok (.value c) w/\RelV w R (match m with | none=>ys.getD 0 (.v (.bool false)) | some k=>.agg (ys.take k)) c:=by
 obtain ⟨q,p⟩:=asi (ys:=ys.take (m.getD 1)) (w:=w) (b:=b) (o:=o') (g:=f) λ j y d=>by
  rw [zad] at d;split at d
  ·exact (n j y d).1
  cases d
 rw [List.length_take,Nat.min_eq_left l] at q p;have u:=ai4 r b o' _ q p;simp only [execOp,s,hx];refine ⟨_,by simp only [Sem.run_bind,u,Result.andThen_ok]; rfl,?_⟩;cases m with
 | none=>
   simp only [zaf] at l |-;have:ys[0]?=some (ys.getD 0 (.v (.bool false))):=by simp [show 0<ys.length by omega]
   have:=(n 0 _ this).2.2;simpa using this
 | some k=>
   simp only [zae] at l |-;refine .agg _ _ (by simp; omega) λ i x c hx hc=>?_;rw [zad] at hx;split at hx
   ·rename_i e
    have h:c=f i:=by
     simp [e] at hc;exact hc.symm
    subst h;exact (n i x hx).2.2
   cases hx
theorem as9 (b:Gam X s ρ a w) {ver:Nat} {ob:Ob} (h:s.ob id=some (ver,ob)):ay w (d6 X.B s.ob ρ w) s.ob ρ id ob:=b.obj id ver ob h
theorem aop {g:Bool} (C:g=true) {m:Option Nat} {t:TypeId} {x:Operand} {u:AV} (hG:Gam X s ρ a w) (T:o.op=.load t x) (S:aab P t m=true) (U:RA X s ρ w u (a.eval x))
 (d:(ld1 g m u s.ob).ok):l4 P X a w s ρ o (ld1 g m u s.ob).v:=by
 unfold ld1 at d |-;split at d
 ·rename_i id ver off;unfold ldb at d |-;split at d
  ·rename_i D Z;have Q:=dj Z;cases U;rename_i h;obtain ⟨b,F,hc⟩:=h.live Q;obtain ⟨b',cs,e,n,hh,h0,E⟩:=as9 hG Q;rw [F] at n;cases n;have l:∀j,w.cell? ⟨b,j,none⟩=cs[j]?:=λ j=>by simp [World.cell?,hh]
   cases m with
   | none=>
     have M:off<D.length:=d C;have hx:cs[off]?=some cs[off]:=by simp [show off<cs.size by omega]
     have G:=ai4 (P:=P) (w:=w) S b off [cs[off]] rfl λ j v A=>by
      cases j with
      | zero=>simp at A; subst A; rw [l]; simpa using hx
      | succ j=>simp at A
     simp only [l4,execOp,T,hc];refine ⟨_,by simp only [Sem.run_bind,G,Result.andThen_ok]; rfl,?_⟩;simp only [List.getD_cons_zero];exact E off _ _ (by simp [M]) hx
   | some k=>
     have M:off+k<=D.length:=d C
     have G:=ai4 (P:=P) (w:=w) S b off ((cs.toList.drop off).take k) (by simp; omega) λ j v A=>by
      rw [zad] at A;split at A
      ·rw [zab] at A;rw [l];simpa using A
      cases A
     simp only [l4,execOp,T,hc];refine ⟨_,by simp only [Sem.run_bind,G,Result.andThen_ok]; rfl,?_⟩;refine .agg _ _ (by simp; omega) λ i x c hx R=>?_;rw [zad] at hx;split at hx
     ·rename_i V;rw [zab] at hx;refine E (off+i) x c hx ?_;simp only [zas,zad,V,if_true,zab] at R;simpa using R
     cases hx
  first | exact (d C).elim | exact (d.2 C).elim | exact d.2.elim
 ·rename_i id ver idx off;unfold ldr at d |-;split at d
  ·rename_i sz z h6 wr xs Z;have Q:=n8 Z;cases U;rename_i h;obtain ⟨p,L,b,F,hc⟩:=h.live Q;simp only at p L;have O:=as9 hG Q;simp only [ay] at O;rcases O with ⟨K,_⟩ | ⟨b',cs,e,fr,n,hh,h5,h4,h0,Y⟩
   ·rw [K] at p; simp at p
   rw [F] at n;cases n;have hx:xs[idx]?=some (xs.getD idx z):=by simp [p]
   obtain ⟨hl,N⟩:=Y idx _ hx;generalize xs.getD idx z=y at hl N |-;have l:∀j,w.cell? ⟨b,j,none⟩=cs[j]?:=λ j=>by simp [World.cell?,hh]
   have J:∃f:Nat->Value,∀(j:Nat) (q:RV),(y.cells.drop off)[j]?=some q->w.cell? ⟨b,idx*sz+off+j,none⟩=some (f j)/\(f j).oneCell'=true/\RelV w (d6 X.B s.ob ρ w) q (f j):=by
    refine ⟨λ j=>(cs[idx*sz+(off+j)]?).getD undef,λ j q A=>?_⟩;rw [zab] at A;obtain ⟨c,I,H,h3⟩:=N _ q A;simp only [I,zae];refine ⟨?_,H,h3⟩;rw [l,zaj,I]
   obtain ⟨f,W⟩:=J
   have hm:m.getD 1<=(y.cells.drop off).length:=by
    rw [List.length_drop,hl];cases m with
    | none=>have:off<sz:=d C; simp only [zaf]; omega
    | some k=>have:off+k<=sz:=d C; simp only [zae]; omega
   obtain ⟨c,I,H⟩:=aoo (P:=P) (a:=a) T S hc W hm;refine ⟨c,I,?_⟩;cases m with
   | none=>
     refine .r ?_;simpa using H
   | some k=>exact .r H
  first | exact (d C).elim | exact (d.2 C).elim | exact d.2.elim
 ·rename_i ys;generalize hc:a.eval x=c at U;cases U;rename_i b o' f hR W
  have hm:m.getD 1<=ys.length:=by
   cases m with
   | none=>have:0<ys.length:=d.2 C; simp only [zaf]; omega
   | some k=>have:k<=ys.length:=d.2 C; simpa using this
  obtain ⟨c,I,H⟩:=aoo (P:=P) (a:=a) T S hc W hm;refine ⟨c,I,?_⟩;cases m with
  | none=>exact .r H
  | some k=>exact .r H
 cases m<;>first | exact (d C).elim | exact (d.2 C).elim | exact d.2.elim
theorem awz {g:Bool} (m:g=true) {t:TypeId} {off:Nat} {x:Operand} {u:AV} {C:Array Go.Field} {A:Go.Field} {i:TypeInfo} (F:o.op=.fieldAddr t x k) (H:P.underlying t=some (.struct C)) (G:C[k]?=some A)
 (I:P.info? A.type=some i) (L:A.offset=off) (K:i.size≠0) (z:RA X s ρ w u (a.eval x)) (d:(fa1 g off u s.ob).ok):l4 P X a w s ρ o (fa1 g off u s.ob).v:=by
 have e:∀b o',a.eval x=.pointer (some ⟨b,o',none⟩)->(execOp a.eval o).run P w=.ok (.value (.pointer (some ⟨b,o'+off,none⟩))) w:=by
  intro b o' hx;simp [execOp,F,hx,Instr.fieldAt,run_underlying H,G,Instr.sureAddr,fieldPlace,sizeOf,typeInfo,I,K,aw,L]
 unfold fa1 at d |-;split at d
 ·split at d
  ·rename_i r p;have q:=dj p;cases z;rename_i h;obtain ⟨b,l,hc⟩:=h.live q;simp only [p];exact ⟨_,e b _ hc,.ptr _ _ _ _ rfl ⟨_,_,q,zaa _,λ _=>⟨b,l,rfl⟩⟩⟩
  first | exact (d m).elim | exact (d.2 m).elim | exact d.2.elim
 ·split at d
  ·rename_i sz r p;have q:=n8 p;cases z;rename_i h;obtain ⟨n,D,b,l,hc⟩:=h.live q;simp only [p];refine ⟨_,e b _ hc,.oel _ _ _ _ _ rfl ⟨_,_,q,zaa _,λ _=>⟨n,d m,b,l,?_⟩⟩⟩;rw [zaj]
  first | exact (d m).elim | exact (d.2 m).elim | exact d.2.elim
 ·generalize hc:a.eval x=c at z;cases z;rename_i b o' f J E;refine ⟨_,e b o' hc,.rp _ b _ (λ j=>f (off+j)) J λ j y B=>?_⟩;rw [zab] at B;have:=E (off+j) y B;rw [<- zaj] at this;exact this
 first | exact (d m).elim | exact (d.2 m).elim | exact d.2.elim
def ldv (cs:Array Value) (off:Nat):Option Nat->Value
 | none=>cs.getD off undef
 | some k=>.agg (cs.extract off (off+k))
theorem ai3 {t:TypeId} {m:Option Nat} (a:aab P t m=true) (cs:Array Value) (off:Nat) (b:off+m.getD 1<=cs.size) :
 (part t cs off).run P w=.ok (ldv cs off m) w:=by
 unfold aab at a;split at a
 ·rename_i l i c f;have:m=some i.size:=by simpa using a
  subst this;simp [part,isAgg,run_underlying c,sizeOf,typeInfo,f,ldv]
 ·rename_i k e i c f;have:m=some i.size:=by simpa using a
  subst this;simp [part,isAgg,run_underlying c,sizeOf,typeInfo,f,ldv]
 ·rename_i d i j h c f;have:m=none:=by simpa using a
  subst this;simp only [zaf] at b
  have g:(isAgg t).run P w=.ok false w:=by
   simp only [isAgg,Sem.run_bind,run_underlying c,Result.andThen_ok]
   rfl
  simp [part,g,show off<cs.size by omega,ldv]
 cases a
theorem auc {g:Bool} (n:g=true) {t:TypeId} {off:Nat} {m:Option Nat} {x:Operand} {u:AV} {A:Array Go.Field} {d:Go.Field} (z:o.op=.field t x k) (C:P.underlying t=some (.struct A)) (B:A[k]?=some d)
 (F:d.offset=off) (D:aab P d.type m=true) (l:RA X s ρ w u (a.eval x)) (f:(uh g off m u).1):l4 P X a w s ρ o (uh g off m u).2:=by
 subst F;unfold uh at f |-;split at f
 ·rename_i xs;generalize hc:a.eval x=c at l;cases l;rename_i cs E h
  have b:d.offset+m.getD 1<=cs.size:=by
   cases m with
   | none=>have:d.offset<xs.length:=f n; simp only [zaf]; omega
   | some q=>have:d.offset+q<=xs.length:=f n; simp only [zae]; omega
  have v:=ai3 (P:=P) (w:=w) D cs d.offset b
  have j:(execOp a.eval o).run P w=.ok (.value (ldv cs d.offset m)) w:=by
   simp only [execOp,z,hc,Instr.field,Sem.run_bind,run_underlying C,Result.andThen_ok,B,asAgg,Sem.run_pure,v]
  refine ⟨_,j,?_⟩;cases m with
  | none=>
    simp only [zaf] at b;simp only;exact h d.offset _ _ (by simp [show d.offset<xs.length by omega]) (by simp [show d.offset<cs.size by omega,ldv])
  | some q=>
    simp only [zae] at b;simp only;refine .agg _ _ (by simp; omega) λ i y c hy e=>?_;rw [zad] at hy;split at hy
    ·rename_i p;rw [zab] at hy;refine h (d.offset+i) y c hy ?_;rw [Array.getElem?_extract] at e;split at e
     ·exact e
     cases e
    cases hy
 ·rename_i xs;generalize hc:a.eval x=c at l;cases l;rename_i l;cases l;rename_i cs E h
  have b:d.offset+m.getD 1<=cs.size:=by
   cases m with
   | none=>have:d.offset<xs.length:=f n; simp only [zaf]; omega
   | some q=>have:d.offset+q<=xs.length:=f n; simp only [zae]; omega
  have v:=ai3 (P:=P) (w:=w) D cs d.offset b
  have j:(execOp a.eval o).run P w=.ok (.value (ldv cs d.offset m)) w:=by
   simp only [execOp,z,hc,Instr.field,Sem.run_bind,run_underlying C,Result.andThen_ok,B,asAgg,Sem.run_pure,v]
  refine ⟨_,j,?_⟩;cases m with
  | none=>
    simp only [zaf] at b;simp only;exact .r (h d.offset _ _ (by simp [show d.offset<xs.length by omega]) (by simp [show d.offset<cs.size by omega,ldv]))
  | some q=>
    simp only [zae] at b;simp only;refine .r (.agg _ _ (by simp; omega) λ i y c hy e=>?_);rw [zad] at hy;split at hy
    ·rename_i p;rw [zab] at hy;refine h (d.offset+i) y c hy ?_;rw [Array.getElem?_extract] at e;split at e
     ·exact e
     cases e
    cases hy
 first | exact (f n).elim | exact (f.2 n).elim
def RAO (X:Cx) (s:St) (ρ:Pl->Option Nat) (w:World) (a:Act):Option Operand->Option AV->Prop
 | none,none=>True
 | some x,some v=>RA X s ρ w v (a.eval x)
 | _,_=>False
theorem aar {d i:Int} {x:Option Operand} {v:Option AV} (h:bnd d v=some i) (hx:RAO X s ρ w a x v) :
 (x=none/\v=none/\i=d)\/∃x' k,x=some x'/\a.eval x'=.int k i:=by
 unfold bnd at h;split at h
 ·cases x with
  | none=>exact .inl ⟨rfl,rfl,by cases h; rfl⟩
  | some x=>exact hx.elim
 ·cases x with
  | none=>exact hx.elim
  | some x=>cases h; exact .inr ⟨x,_,rfl,i9 hx⟩
 cases h
theorem at3 {g:Bool} (p:g=true) {t:TypeId} {x:Operand} {C B:Option Operand} {u:AV} {l h:Option AV} (F:o.op=.slice t x C B none) (q:P.underlying t=some .string) (G:RA X s ρ w u (a.eval x))
 (E:RAO X s ρ w a C l) (I:RAO X s ρ w a B h)
 (c:(tx g u l h).1):l4 P X a w s ρ o (tx g u l h).2:=by
 unfold tx at c |-;split at c
 ·rename_i b;have r:=i9 G;split at c
  ·rename_i i j y v;obtain ⟨Q,L,M⟩:=c p;simp only [l4,execOp,F];refine ⟨_,?_,az _⟩;have A:=aar y E;have z:=aar v I;obtain ⟨d,rfl⟩:∃d:Nat,i=(d:Int):=⟨i.toNat,by omega⟩
   obtain ⟨e,rfl⟩:∃e:Nat,j=(e:Int):=⟨j.toNat,by omega⟩
   have m:d<=e:=by omega
   have n:e<=b.size:=by omega
   rcases A with ⟨rfl,rfl,H⟩ | ⟨O,N,rfl,k⟩<;>rcases z with ⟨rfl,rfl,D⟩ | ⟨K,J,rfl,f⟩
   ·have:d=0:=by omega
    have:e=b.size:=by omega
    subst this; subst d;simp [Instr.sliceAt,run_underlying q,Instr.slice,r,Instr.sliceBounds]
   ·have:d=0:=by omega
    subst d;simp [Instr.sliceAt,run_underlying q,Instr.slice,r,Instr.sliceBounds,Instr.sliceBound,f,asIntOf,n]
   ·have:e=b.size:=by omega
    subst this;simp [Instr.sliceAt,run_underlying q,Instr.slice,r,Instr.sliceBounds,Instr.sliceBound,k,asIntOf,m]
   simp [Instr.sliceAt,run_underlying q,Instr.slice,r,Instr.sliceBounds,Instr.sliceBound,k,f,asIntOf,m,n]
  first | exact (c p).elim | exact (c.2 p).elim
 first | exact (c p).elim | exact (c.2 p).elim
theorem alh {t e:TypeId} {inf:TypeInfo} {x:Operand} {D z p:Option Operand} {l h m:Option AV} {i j q:Int} {A:Option Addr} {len cap:Nat} (Q:o.op=.slice t x D z p) (N:P.underlying t=some (.slice e)) (F:P.info? e=some inf)
 (hx:a.eval x=.slice A len cap) (V:len<=cap) (C:bnd 0 l=some i) (B:bnd len h=some j) (E:bnd len m=some q)
 (L:RAO X s ρ w a D l) (W:RAO X s ρ w a z h)
 (U:RAO X s ρ w a p m) (u:p≠none->z≠none) (T:0<=i/\i<=j/\j<=q/\q<=len) :
 ∃G c,(execOp a.eval o).run P w=.ok (.value (.slice G (j-i).toNat c)) w/\c<=cap-i.toNat/\(j-i).toNat<=c/\(0<c->G=A.map (·.add (i.toNat*inf.size))):=by
 obtain ⟨e1,e2,e3,e4⟩:=T;obtain ⟨b,rfl⟩:∃b:Nat,i=(b:Int):=⟨i.toNat,by omega⟩
 obtain ⟨d,rfl⟩:∃d:Nat,j=(d:Int):=⟨j.toNat,by omega⟩
 obtain ⟨g,rfl⟩:∃g:Nat,q=(g:Int):=⟨q.toNat,by omega⟩
 have n:b<=d:=by omega
 have v:d<=g:=by omega
 have O:g<=len:=by omega
 have y:(Instr.sliceBounds true len cap (D.map a.eval) (z.map a.eval) (p.map a.eval)).run P w=.ok (b,d,if p.isNone then cap else g) w:=by
  rcases aar C L with ⟨rfl,rfl,R⟩ | ⟨x1,k1,rfl,k⟩<;>rcases aar B W with ⟨rfl,rfl,J⟩ | ⟨x2,Y,rfl,f⟩<;>rcases aar E U with ⟨rfl,rfl,K⟩ | ⟨x3,k3,rfl,r⟩
  ·have:b=0:=by omega
   have:d=len:=by omega
   subst this; subst b;simp [Instr.sliceBounds]
  ·exact absurd rfl (u (by simp))
  ·have:b=0:=by omega
   subst b;simp [Instr.sliceBounds,Instr.sliceBound,f,asIntOf,show d<=cap by omega]
  ·have:b=0:=by omega
   subst b;simp [Instr.sliceBounds,Instr.sliceBound,f,r,asIntOf,show g<=cap by omega,v]
  ·have:d=len:=by omega
   subst this;simp [Instr.sliceBounds,Instr.sliceBound,k,asIntOf,n]
  ·exact absurd rfl (u (by simp))
  ·simp [Instr.sliceBounds,Instr.sliceBound,k,f,asIntOf,show d<=cap by omega,n]
  simp [Instr.sliceBounds,Instr.sliceBound,k,f,r,asIntOf,show g<=cap by omega,n,v]
 generalize H:(if p.isNone then cap else g)=M at y;have S:M<=cap:=by rw [<- H]; split<;>omega
 have I:d<=M:=by rw [<- H]; split<;>omega
 refine ⟨if M=b then A else A.map (·.add (b*inf.size)),M-b,?_,by simp only [zal]; omega,by omega,λ Z=>?_⟩
 ·simp only [execOp,Q,Instr.sliceAt,Sem.run_bind,run_underlying N,Result.andThen_ok,Instr.slice,hx,y,sizeOf,typeInfo,run_program,F,Sem.run_pure];simp [show ((d:Int)-b).toNat=d-b by omega]
 rw [if_neg (by omega),zal]
theorem at4 {g:Bool} (D:g=true) {t e:TypeId} {inf:TypeInfo} {sz:Nat} {x:Operand} {lo Y mx:Option Operand} {u:AV} {l h m:Option AV} (ho:o.op=.slice t x lo Y mx) (ht:P.underlying t=some (.slice e)) (N:P.info? e=some inf)
 (I:inf.size=sz) (K:RA X s ρ w u (a.eval x)) (hl:RAO X s ρ w a lo l)
 (hh:RAO X s ρ w a Y h) (hm:RAO X s ρ w a mx m) (L:mx≠none->Y≠none)
 (d:(ou g sz u l h m s.ob).ok):l4 P X a w s ρ o (ou g sz u l h m s.ob).v:=by
 unfold ou at d |-;split at d
 ·rename_i h4 xs;split at d
  ·rename_i i j q h1 U h3;obtain ⟨rfl,G⟩:=d;have G:=G D;cases K;rename_i K;generalize hc:a.eval x=c at K;cases K;rename_i A cap h6 b o' gg O hA R Z h5;obtain ⟨A',B,n,C,f,F⟩:=alh (P:=P) (w:=w) (s:=s) (ρ:=ρ) ho ht N hc O h1 U h3 hl hh hm L G;have M:(j-i).toNat=((xs.take j.toNat).drop i.toNat).length:=by simp; omega
   rw [M] at n f;refine ⟨_,n,.r ?_⟩;subst I;refine .sl _ _ _ _ f (by omega) b (o'+i.toNat*inf.size) (λ p=>gg (i.toNat+p)) (λ S=>?_) (λ p y H=>?_) (λ p y k z H T=>?_) (λ p y k z H T=>?_)
   ·obtain ⟨V,hR⟩:=hA (by rw [List.length_drop,List.length_take] at S; omega);refine ⟨?_,hR⟩;rw [F (by omega),V];simp [aw]
   all_goals
    have E:xs[i.toNat+p]?=some y:=by
     rw [zab,zad] at H;split at H
     ·exact H
     cases H
   ·exact Z _ y E
   ·have:=h5 _ y k z E T;rw [show o'+i.toNat*inf.size+p*inf.size+k=o'+(i.toNat+p)*inf.size+k by rw [Nat.add_mul]; omega];exact this
   exact R _ y k z E T
  first | exact (d D).elim | exact (d.2 D).elim | exact d.2.elim
 ·rename_i id ver J n0;split at d
  ·rename_i i j q h1 U h3;split at d
   ·rename_i h4 r R;obtain ⟨rfl,G⟩:=d;have G:=G D;have e6:i.toNat+(j-i).toNat<=n0:=by omega
    obtain ⟨A,cap,e1,e2,e3,W,Q⟩:=ke K R;obtain ⟨A',B,n,C,f,F⟩:=alh (P:=P) (w:=w) (s:=s) (ρ:=ρ) ho ht N e1 e2 h1 U h3 hl hh hm L G;subst I;refine ⟨_,n,.own _ _ _ _ _ rfl ⟨_,_,n8 R,zaa _,λ _=>?_⟩⟩;refine ⟨A',B,rfl,f,zan (zan C (Nat.sub_le _ _)) e3,?_,λ S=>?_⟩
    ·clear Q;simp only at W |-;omega
    have e7:J+i.toNat+B<=J+cap:=by clear Q W; omega
    obtain ⟨b,cs,ee,fr,f1,f2,f3,f4⟩:=Q (by clear W Q; omega);refine ⟨b,cs,ee,fr,f1,?_,f3,zan (Nat.mul_le_mul_right _ e7) f4⟩;rw [F S,f2];simp [aw,Nat.add_mul]
   first | exact (d D).elim | exact (d.2 D).elim | exact d.2.elim
  first | exact (d D).elim | exact (d.2 D).elim | exact d.2.elim
 first | exact (d D).elim | exact (d.2 D).elim | exact d.2.elim
end

section
variable {P:Program} {X:Cx} {w w':World} {s:St} {ρ ρ':Pl->Option Nat} {a:Act} {o:Oper} {ob ob':Obs} {R R':Nat->Prop}
theorem ay.stays (h:Stays w w' R R' ob ob' ρ ρ') {x:Ob} (hx:ay w R ob ρ id x) (d:ρ' id=ρ id) (l:∀j,ρ' (.s id j)=ρ (.s id j)) (k:∀b,foot ρ id x b->w'.heap[b]?=w.heap[b]?):ay w' R' ob' ρ' id x:=by
 cases x with
 | abs T=>
   obtain ⟨b,a,f⟩:=hx;refine ⟨b,by rw [d,a],?_⟩;simp only [l];exact T.loc f (k b (.inl a)) λ j c hc=>k c (.inr ⟨rfl,j,hc⟩)
 | map es clock=>
   obtain ⟨b,a,f⟩:=hx;exact ⟨b,by rw [d,a],by rw [k b (.inl a)]; exact f⟩
 | iter m since seen stepped=>
   obtain ⟨b,m',a,f,g⟩:=hx;exact ⟨b,m',by rw [d,a],by rw [k b (.inl a)]; exact f,g.stays h⟩
 | box cells=>
   obtain ⟨b,cs,e,a,f,g,o⟩:=hx;exact ⟨b,cs,e,by rw [d,a],by rw [k b (.inl a),f],g,λ i x c n hc=>(o i x c n hc).stays h⟩
 | row sz z app wr xs=>
   rcases hx with ⟨a,f,g⟩ | ⟨b,cs,e,fr,a,f,g,o,v,p⟩
   ·exact .inl ⟨a,by rw [d,f],g⟩
   refine .inr ⟨b,cs,e,fr,by rw [d,a],by rw [k b (.inl a),f],g,o,v,λ i x n=>⟨(p i x n).1,λ j y q=>?_⟩⟩;obtain ⟨c,t,u,r⟩:=(p i x n).2 j y q;exact ⟨c,t,u,r.mono h.free⟩
theorem ay.lt {x:Ob} (hx:ay w R ob ρ id x) (d:ρ id=some b):b<w.heap.size:=by
 cases x with
 | abs T=>
   obtain ⟨f,a,c⟩:=hx;rw [d] at a; cases a;obtain ⟨cs,e,g,_⟩:=T.root c;exact (zai.1 g).1
 | map es clock=>
   obtain ⟨f,a,c⟩:=hx;rw [d] at a; cases a;exact (zai.1 c).1
 | iter m since seen stepped=>
   obtain ⟨f,m',a,c,_⟩:=hx;rw [d] at a; cases a;exact (zai.1 c).1
 | box cells=>
   obtain ⟨f,cs,e,a,c,g,h⟩:=hx;rw [d] at a; cases a;exact (zai.1 c).1
 | row sz z app wr xs=>
   rcases hx with ⟨a,c,_⟩ | ⟨f,cs,e,fr,a,c,_⟩
   ·rw [d] at c; cases c
   rw [d] at a; cases a;exact (zai.1 c).1
theorem Gam.lt (d:Gam X s ρ a w) {x:Nat×Ob} (hx:s.ob id=some x) (c:ρ id=some b):b<w.heap.size:=
 (d.obj id x.1 x.2 hx).lt c
theorem ay.foot_lt {x:Ob} (hx:ay w R ob ρ id x) (a:foot ρ id x b):b<w.heap.size:=by
 rcases a with a | ⟨h,j,a⟩
 ·exact hx.lt a
 cases x with
 | abs T=>
   obtain ⟨e,d,c⟩:=hx;exact T.lt c j b a
 | box _=>cases h
 | map _ _=>cases h
 | iter _ _ _ _=>cases h
 | row _ _ _ _ _=>cases h
theorem Gam.foot_lt (d:Gam X s ρ a w) {x:Nat×Ob} (hx:s.ob id=some x) (c:foot ρ id x.2 b):b<w.heap.size:=(d.obj id x.1 x.2 hx).foot_lt c
theorem ar8 (e:a.tmps.size=X.n) {d:Nat} (b:d<X.n) (c:Value) (t:Nat):(a.put (some d) c).tmps.getD t undef=if t=d then c else a.tmps.getD t undef:=by
 simp only [Act.put];by_cases h:t=d
 ·subst h;simp [e,b]
 simp [h,Array.getElem?_setIfInBounds_ne (Ne.symm h)]
theorem Gam.step (c:Gam X s ρ a w) (q:Stays w w' (d6 X.B s.ob ρ w) (d6 X.B ob' ρ' w') s.ob ob' ρ ρ')
 (k:∀id v o,ob' id=some (v,o)->(s.ob id=some (v,o)/\ρ' id=ρ id/\(∀j,ρ' (.s id j)=ρ (.s id j))/\∀b,foot ρ id o b->w'.heap[b]?=w.heap[b]?)\/ay w' (d6 X.B ob' ρ' w') ob' ρ' id o)
 (l:∀id d x x' b,ob' id=some x->ob' d=some x'->foot ρ' id x.2 b->foot ρ' d x'.2 b->id=d)
 (D:Keeps X.I X.w0 w') (g:∀id v o b,ob' id=some (v,o)->foot ρ' id o b->X.I b\/X.w0.heap.size<=b)
 (i:∀id b o,X.pn id=some b->s.ob id=some (0,o)->o.pinned=true->ρ id=some b->ρ' id=some b/\∃o',ob' id=some (0,o')/\o'.pinned=true):Gam X ⟨s.e,ob'⟩ ρ' a w':=by
 refine ⟨⟨λ id v o h=>?_,l,D,g,λ id b h=>?_⟩,c.sz,c.df,λ t=>(c.env t).stays q,c.pnn,c.small,c.base⟩
 ·rcases k id v o h with ⟨f,m,r,p⟩ | f
  ·exact (c.obj id v o f).stays q m r p
  exact f
 obtain ⟨f,o,m,p,r⟩:=c.pin id b h;obtain ⟨E,o',u,A⟩:=i id b o h m p f;refine ⟨E,o',u,A,λ F=>?_⟩;obtain ⟨K,z,y,J,C⟩:=q.obj id 0 o m;rw [u] at y;cases y;obtain ⟨_,G,H⟩:=C rfl;have n:o.isRow=true:=by cases o<;>cases o'<;>first | rfl | exact G.elim | cases F
 exact (r n).trans λ cs e fr hc=>H b cs e fr f hc
theorem Gam.see (b:Gam X s ρ a w) {d:Nat} (f:d<X.n) {x:AV} (hx:RA X s ρ w x c):Gam X ⟨put d x s.e,s.ob⟩ ρ (a.put (some d) c) w:=by
 refine ⟨b.toMem,by simp [Act.put,b.sz],b.df,λ t=>?_,b.pnn,b.small,b.base⟩;rw [ar8 b.sz f];simp only [put];split
 ·exact hx
 exact b.env t
theorem Gam.drew (c:Gam X s ρ a w) (k:Nat):Gam X s ρ a { w with drawn:=k }:=by
 have d:Stays w { w with drawn:=k } (d6 X.B s.ob ρ w) (d6 X.B s.ob ρ { w with drawn:=k }) s.ob s.ob ρ ρ:=
  ⟨λ b h=>⟨h,rfl⟩,λ id v o h=>⟨v,o,h,zaa _,λ _=>⟨rfl,t7.refl o,λ b cs e fr _ h=>⟨cs,e,fr,h,rfl⟩⟩⟩⟩
 exact ⟨⟨λ id v o h=>(c.obj id v o h).stays d rfl (λ _=>rfl) λ _ _=>rfl,c.inj,⟨c.keeps.os,c.keeps.tape,c.keeps.output,c.keeps.size,c.keeps.block⟩,c.own,c.pin⟩,c.sz,c.df,λ t=>(c.env t).stays d,c.pnn,c.small,c.base⟩
structure OneMore (w w':World) (x:Obj):Prop where
 os:w'.os=w.os
 tape:w'.tape=w.tape
 output:w'.output=w.output
 heap:w'.heap=w.heap.push x
theorem OneMore.new {x:Obj} (h:OneMore w w' x):w'.heap[w.heap.size]?=some x:=by rw [h.heap]; simp
theorem OneMore.old {x:Obj} (h:OneMore w w' x) (a:b<w.heap.size):w'.heap[b]?=w.heap[b]?:=by
 rw [h.heap,Array.getElem?_push,if_neg (by omega)]
theorem OneMore.size {x:Obj} (h:OneMore w w' x):w'.heap.size=w.heap.size+1:=by rw [h.heap]; simp
theorem rn {v:Nat} {x:Ob} (h:ob id=some (v,x)):v<nv ob id:=by simp [nv,h]
theorem Stays.alloc (m:Gam X s ρ a w) {x:Obj} (i:OneMore w w' x) (id ver:Nat) (k:∀v o,s.ob id=some (v,o)->v<ver) (o':Ob) (g:o'.isAbs=false:=by rfl) :
 Stays w w' (d6 X.B s.ob ρ w) (d6 X.B (upd id (ver,o') s.ob) (m5 ρ id (some w.heap.size)) w') s.ob (upd id (ver,o') s.ob) ρ (m5 ρ id (some w.heap.size)):=by
 refine ⟨λ b ⟨p,n,l⟩=>⟨⟨by rw [i.size]; omega,?_,l⟩,i.old p⟩,λ j v o h=>?_⟩
 ·rintro ⟨j,v,o,d,q,f⟩;by_cases c:j=id
  ·subst c;simp [upd] at d;obtain ⟨rfl,rfl⟩:=d;rw [ca g] at f;simp [m5] at f;omega
  simp only [upd,c,if_false] at d;exact n ⟨j,v,o,d,q,(qv c).1 f⟩
 by_cases c:j=id
 ·subst c;exact ⟨ver,o',by simp [upd],Nat.le_of_lt (k v o h),λ e=>by have:=k v o h; omega⟩
 refine ⟨v,o,by simp [upd,c,h],zaa _,λ _=>⟨by simp [m5,c],t7.refl o,λ b cs e fr r t=>⟨cs,e,fr,?_,rfl⟩⟩⟩;rw [i.old (m.lt h r),t]
theorem Gam.alloc (f:Gam X s ρ a w) {x:Obj} (m:OneMore w w' x) (id ver:Nat) (u:X.pn id=none) (F:∀v o,s.ob id=some (v,o)->v<ver) (o':Ob)
 (H:ay w' (d6 X.B (upd id (ver,o') s.ob) (m5 ρ id (some w.heap.size)) w') (upd id (ver,o') s.ob) (m5 ρ id (some w.heap.size)) id o') (l:o'.isAbs=false:=by rfl) :
 Gam X ⟨s.e,upd id (ver,o') s.ob⟩ (m5 ρ id (some w.heap.size)) a w':=by
 refine f.step (Stays.alloc f m id ver F o' l) (λ j v o h=>?_) (λ i j x x' b E c z t=>?_) ?_ (λ j v o b h g=>?_) (λ j b o h hc J r=>?_)
 ·by_cases c:j=id
  ·subst c;simp [upd] at h;obtain ⟨rfl,rfl⟩:=h;exact .inr H
  simp only [upd,c,if_false] at h;refine .inl ⟨h,by simp [m5,c],by simp [m5],λ b r=>m.old (f.foot_lt h r)⟩
 ·have p:∀k (y:Nat×Ob),upd id (ver,o') s.ob k=some y->foot (m5 ρ id (some w.heap.size)) k y.2 b->(k=id/\b=w.heap.size)\/(k≠id/\s.ob k=some y/\foot ρ k y.2 b/\b<w.heap.size):=λ k y q n=>by
   by_cases d:k=id
   ·subst d;simp [upd] at q;subst q;rw [ca l] at n;simp [m5] at n;exact .inl ⟨rfl,n.symm⟩
   simp only [upd,d,if_false] at q;rw [qv d] at n;exact .inr ⟨d,q,n,f.foot_lt q n⟩
  rcases p i x E z with ⟨A,g⟩ | ⟨A,g,I,L⟩<;>rcases p j x' c t with ⟨C,D⟩ | ⟨C,D,G,K⟩
  ·rw [A,C]
  ·omega
  ·omega
  exact f.inj i j x x' b g D I G
 ·refine f.keeps.trans ⟨m.os,m.tape,m.output,by rw [m.size]; omega,λ b r _=>m.old r⟩
 ·by_cases c:j=id
  ·subst c;simp [upd] at h;obtain ⟨rfl,rfl⟩:=h;rw [ca l] at g;simp [m5] at g;subst g;exact .inr f.keeps.size
  simp only [upd,c,if_false] at h;rw [qv c] at g;exact f.own j v o b h g
 have c:j≠id:=λ e=>by rw [e,u] at h; cases h
 exact ⟨by simp [m5,c,r],o,by simp [upd,c,hc],J⟩
structure Mods (w w':World) (b:Nat) (x:Obj):Prop where
 os:w'.os=w.os
 tape:w'.tape=w.tape
 output:w'.output=w.output
 size:w'.heap.size=w.heap.size
 new:w'.heap[b]?=some x
 old:∀k,k≠b->w'.heap[k]?=w.heap[k]?
theorem gp {v ver:Nat} {x x':Ob} (b:ob id=some (v,x)) (h:x'.isAbs=x.isAbs) {p:Nat×Ob} (a:upd id (ver,x') ob j=some p) (c:foot ρ j p.2 k):∃q,ob j=some q/\foot ρ j q.2 k:=by
 by_cases d:j=id
 ·subst d;simp [upd] at a;subst a;exact ⟨_,b,(sf rfl (λ _=>rfl) h).1 c⟩
 simp only [upd,d,if_false] at a;exact ⟨p,a,c⟩
theorem Stays.modifyG (P:Gam X s ρ a w) {v:Nat} {x x':Ob} {y:Obj} (m:s.ob id=some (v,x)) (hx:x.own=true) (J:ρ id=some b)
 (z:Mods w w' b y) (G:∀cs e fr,w.heap[b]?=some (.cells cs e fr)->∃d e' i,y=.cells d e' i/\d.size=cs.size) (ver:Nat) (A:(ver=v/\t7 x x')\/v<ver) (N:x.isAbs=false:=by rfl) (n:x'.isAbs=false:=by rfl) :
 Stays w w' (d6 X.B s.ob ρ w) (d6 X.B (upd id (ver,x') s.ob) ρ w') s.ob (upd id (ver,x') s.ob) ρ ρ:=by
 refine ⟨λ k ⟨M,I,K⟩=>?_,λ j u o h=>?_⟩
 ·have c:k≠b:=λ h=>I ⟨id,v,x,m,hx,.inl (by rw [J,h])⟩;refine ⟨⟨by rw [z.size]; exact M,?_,K⟩,z.old k c⟩;rintro ⟨j,u,o,t,O,E⟩;unfold upd at t;split at t
  ·rename_i p;subst p;cases t;rw [ca n,J] at E;cases E;exact c rfl
  exact I ⟨j,u,o,t,O,E⟩
 have f:∀(k:Nat) (q:Array Value) (l:TypeId) (g:Nat×Nat),w.heap[k]?=some (.cells q l g)->∃H D C,w'.heap[k]?=some (.cells H D C)/\H.size=q.size:=by
  intro k q l g r;by_cases c:k=b
  ·subst c;obtain ⟨d,e',i,hy,L⟩:=G _ _ _ r;exact ⟨d,e',i,by rw [z.new,hy],L⟩
  exact ⟨q,l,g,by rw [z.old k c,r],rfl⟩
 by_cases p:j=id
 ·subst p;rw [m] at h;cases h;rcases A with ⟨rfl,r⟩ | A
  ·exact ⟨_,x',by simp [upd],zaa _,λ _=>⟨rfl,r,λ k q l g _ F=>f k q l g F⟩⟩
  exact ⟨ver,x',by simp [upd],Nat.le_of_lt A,λ h=>by omega⟩
 exact ⟨u,o,by simp [upd,p,h],zaa _,λ _=>⟨rfl,t7.refl o,λ k q l g _ F=>f k q l g F⟩⟩
theorem Stays.modify (m:Gam X s ρ a w) {v:Nat} {x x':Ob} {cs d:Array Value} {e e':TypeId} {fr g:Nat×Nat} (f:s.ob id=some (v,x)) (hx:x.own=true) (n:ρ id=some b)
 (j:w.heap[b]?=some (.cells cs e fr)) (o:Mods w w' b (.cells d e' g)) (k:d.size=cs.size) (ver:Nat) (l:(ver=v/\t7 x x')\/v<ver) (i:x.isAbs=false:=by rfl) (c:x'.isAbs=false:=by rfl) :
 Stays w w' (d6 X.B s.ob ρ w) (d6 X.B (upd id (ver,x') s.ob) ρ w') s.ob (upd id (ver,x') s.ob) ρ ρ:=
 Stays.modifyG m f hx n o (λ q r p h=>by rw [j] at h; cases h; exact ⟨_,_,_,rfl,k⟩) ver l i c
theorem Gam.modifyG (n:Gam X s ρ a w) {v:Nat} {x x':Ob} {y:Obj} (c:s.ob id=some (v,x)) (hx:x.own=true) (I:ρ id=some b)
 (r:Mods w w' b y) (K:∀cs e fr,w.heap[b]?=some (.cells cs e fr)->∃t e' F,y=.cells t e' F/\t.size=cs.size) (ver:Nat) (O:(ver=v/\t7 x x')\/v<ver) (q:X.pn id=none\/(ver=v/\t7 x x'/\(x.pinned=true->x'.pinned=true)))
 (Q:ay w' (d6 X.B (upd id (ver,x') s.ob) ρ w') (upd id (ver,x') s.ob) ρ id x') (l:x.isAbs=false:=by rfl) (d:x'.isAbs=false:=by rfl):Gam X ⟨s.e,upd id (ver,x') s.ob⟩ ρ a w':=by
 have H:∀j u,j≠id->s.ob j=some u->∀k,foot ρ j u.2 k->k≠b:=λ j u g h k f m=>by
  subst m;exact g (n.inj j id u _ k h c f (.inl I))
 refine n.step (Stays.modifyG n c hx I r K ver O l d) (λ j u o h=>?_) (λ i j p U k N g J A=>?_) ?_ (λ j u o k h C=>?_) (λ j k o h hc M f=>?_)
 ·by_cases g:j=id
  ·subst g;simp [upd] at h;obtain ⟨rfl,rfl⟩:=h;exact .inr Q
  simp only [upd,g,if_false] at h;exact .inl ⟨h,rfl,λ _=>rfl,λ k f=>r.old k (H j _ g h k f)⟩
 ·obtain ⟨_,D,E⟩:=gp c (d.trans l.symm) N J;obtain ⟨_,C,T⟩:=gp c (d.trans l.symm) g A;exact n.inj i j _ _ k D C E T
 ·have f:=n.keeps;refine ⟨r.os.trans f.os,r.tape.trans f.tape,r.output.trans f.output,by rw [r.size]; exact f.size,λ k z L=>?_⟩;by_cases m:k=b
  ·subst m;rcases n.own id v x k c (.inl I) with h | h
   ·exact absurd h L
   omega
  rw [r.old k m];exact f.block k z L
 ·obtain ⟨⟨S,P⟩,D,E⟩:=gp c (d.trans l.symm) h C;exact n.own j S P k D E
 refine ⟨f,?_⟩;by_cases g:j=id
 ·subst g;rw [c] at hc;cases hc;rcases q with q | ⟨rfl,R,G⟩
  ·rw [q] at h; cases h
  exact ⟨x',by simp [upd],G M⟩
 exact ⟨o,by simp [upd,g,hc],M⟩
theorem Gam.modify (o:Gam X s ρ a w) {v:Nat} {x x':Ob} {cs d:Array Value} {e e':TypeId} {fr i:Nat×Nat} (f:s.ob id=some (v,x)) (hx:x.own=true) (p:ρ id=some b)
 (k:w.heap[b]?=some (.cells cs e fr)) (r:Mods w w' b (.cells d e' i)) (l:d.size=cs.size) (ver:Nat) (m:(ver=v/\t7 x x')\/v<ver) (g:X.pn id=none\/(ver=v/\t7 x x'/\(x.pinned=true->x'.pinned=true)))
 (n:ay w' (d6 X.B (upd id (ver,x') s.ob) ρ w') (upd id (ver,x') s.ob) ρ id x') (j:x.isAbs=false:=by rfl) (c:x'.isAbs=false:=by rfl):Gam X ⟨s.e,upd id (ver,x') s.ob⟩ ρ a w':=
 o.modifyG f hx p r (λ q u t h=>by rw [k] at h; cases h; exact ⟨_,_,_,rfl,l⟩) ver m g n j c
theorem Stays.freeze1 {v sz:Nat} {z:RV} {a n:Bool} {xs:List RV} (d:s.ob id=some (v,.row sz z a n xs)) :
 Stays w w (d6 X.B s.ob ρ w) (d6 X.B (upd id (v,.row sz z a false xs) s.ob) ρ w) s.ob (upd id (v,.row sz z a false xs) s.ob) ρ ρ:=by
 refine ⟨λ b ⟨l,k,i⟩=>⟨⟨l,?_,i⟩,rfl⟩,λ j u o h=>?_⟩
 ·rintro ⟨j,u,o,c,g,m⟩;unfold upd at c;split at c
  ·cases c; cases g
  exact k ⟨j,u,o,c,g,m⟩
 by_cases f:j=id
 ·subst f;rw [d] at h;cases h;exact ⟨v,.row sz z a false xs,by simp [upd],zaa _,λ _=>⟨rfl,⟨rfl,zaa _⟩,λ b cs e fr _ h=>⟨cs,e,fr,h,rfl⟩⟩⟩
 exact ⟨u,o,by simp [upd,f,h],zaa _,λ _=>⟨rfl,t7.refl o,λ b cs e fr _ h=>⟨cs,e,fr,h,rfl⟩⟩⟩
theorem Gam.freeze1 (f:Gam X s ρ a w) {v sz:Nat} {z:RV} {c D:Bool} {xs:List RV} (b:s.ob id=some (v,.row sz z c D xs)):Gam X ⟨s.e,upd id (v,.row sz z c false xs) s.ob⟩ ρ a w:=by
 have r:=Stays.freeze1 (X:=X) (w:=w) (ρ:=ρ) b;refine f.step r (λ j u o h=>?_) (λ i j p E k x d q g=>?_) f.keeps (λ j u o k h l=>?_) (λ j k o h hc t B=>⟨B,?_⟩)
 ·by_cases d:j=id
  ·subst d;simp [upd] at h;obtain ⟨rfl,rfl⟩:=h;refine .inr ?_;have:=(f.obj _ _ _ b).stays r rfl (λ _=>rfl) (λ _ _=>rfl);exact this
  simp only [upd,d,if_false] at h;exact .inl ⟨h,rfl,λ _=>rfl,λ _ _=>rfl⟩
 ·obtain ⟨_,m,n⟩:=gp (x':=.row sz z c false xs) b rfl x q;obtain ⟨_,l,C⟩:=gp (x':=.row sz z c false xs) b rfl d g;exact f.inj i j _ _ k m l n C
 ·obtain ⟨⟨A,y⟩,m,n⟩:=gp (x':=.row sz z c false xs) (p:=(u,o)) b rfl h l;exact f.own j A y k m n
 by_cases d:j=id
 ·subst d;rw [b] at hc;cases hc;exact ⟨.row sz z c false xs,by simp [upd],t⟩
 exact ⟨o,by simp [upd,d,hc],t⟩
theorem Stays.shut1 {v sz:Nat} {z:RV} {xs:List RV} (a:s.ob id=some (v,.row sz z true true xs)) :
 Stays w w (d6 X.B s.ob ρ w) (d6 X.B (upd id (v,.row sz z false true xs) s.ob) ρ w) s.ob (upd id (v,.row sz z false true xs) s.ob) ρ ρ:=by
 refine ⟨λ b ⟨m,f,l⟩=>⟨⟨m,?_,l⟩,rfl⟩,λ j u o h=>?_⟩
 ·rintro ⟨j,u,o,d,n,i⟩;obtain ⟨⟨r,q⟩,g,k⟩:=gp (x':=.row sz z false true xs) (p:=(u,o)) a rfl d i;by_cases c:j=id
  ·subst c;rw [a] at g;cases g;exact f ⟨j,_,_,a,rfl,k⟩
  simp only [upd,c,if_false] at d;exact f ⟨j,u,o,d,n,i⟩
 by_cases c:j=id
 ·subst c;rw [a] at h;cases h;exact ⟨v,.row sz z false true xs,by simp [upd],zaa _,λ _=>⟨rfl,⟨rfl,zaa _⟩,λ b cs e fr _ h=>⟨cs,e,fr,h,rfl⟩⟩⟩
 exact ⟨u,o,by simp [upd,c,h],zaa _,λ _=>⟨rfl,t7.refl o,λ b cs e fr _ h=>⟨cs,e,fr,h,rfl⟩⟩⟩
theorem Gam.shut1 (g:Gam X s ρ a w) {v sz:Nat} {z:RV} {xs:List RV} (c:s.ob id=some (v,.row sz z true true xs)) (q:xs≠[]):Gam X ⟨s.e,upd id (v,.row sz z false true xs) s.ob⟩ ρ a w:=by
 have t:=Stays.shut1 (X:=X) (w:=w) (ρ:=ρ) c;refine g.step t (λ j u o h=>?_) (λ i j p G k A d r n=>?_) g.keeps (λ j u o k h l=>?_) (λ j k o h hc x E=>⟨E,?_⟩)
 ·by_cases d:j=id
  ·subst d;simp [upd] at h;obtain ⟨rfl,rfl⟩:=h;refine .inr ?_;rcases (g.obj _ _ _ c).stays t rfl (λ _=>rfl) (λ _ _=>rfl) with ⟨f,_⟩ | ⟨b,cs,e,fr,f,l,m,y,F,C⟩
   ·exact absurd f q
   exact .inr ⟨b,cs,e,fr,f,l,m,(λ h=>by cases h),F,C⟩
  simp only [upd,d,if_false] at h;exact .inl ⟨h,rfl,λ _=>rfl,λ _ _=>rfl⟩
 ·obtain ⟨_,f,m⟩:=gp (x':=.row sz z false true xs) c rfl A r;obtain ⟨_,l,y⟩:=gp (x':=.row sz z false true xs) c rfl d n;exact g.inj i j _ _ k f l m y
 ·obtain ⟨⟨D,B⟩,f,m⟩:=gp (x':=.row sz z false true xs) (p:=(u,o)) c rfl h l;exact g.own j D B k f m
 by_cases d:j=id
 ·subst d;rw [c] at hc;cases hc;cases x
 exact ⟨o,by simp [upd,d,hc],x⟩
theorem Gam.frz {ob:Obs} (h:Gam X ⟨s.e,ob⟩ ρ a w) (i:Nat):Gam X ⟨s.e,Ev.frz ob i (ob i)⟩ ρ a w:=by
 rcases hi:ob i with _ | ⟨v,b | ⟨sz,z,c,d,xs⟩ | T | _ | _⟩
 ·exact h
 ·exact h
 ·exact h.freeze1 (s:=⟨s.e,ob⟩) hi
 ·exact h
 ·exact h
 exact h
theorem Gam.freeze:∀(l:List Nat) {ob:Obs},Gam X ⟨s.e,ob⟩ ρ a w->Gam X ⟨s.e,Ev.freeze ob l⟩ ρ a w
 | [],_,h=>h
 | i::is,_,h=>Gam.freeze is (h.frz i)
theorem avf {v sz:Nat} {z:RV} {c e:Bool} {xs:List RV} {ob:Obs} (h:ob i=some (v,.row sz z c e xs)):∃b,Ev.frz ob j (ob j) i=some (v,.row sz z c b xs)/\(e=false\/i=j->b=false):=by
 by_cases a:i=j
 ·subst a;rw [h];exact ⟨false,by simp [Ev.frz,upd],λ _=>rfl⟩
 refine ⟨e,?_,λ k=>k.resolve_right a⟩;rcases hj:ob j with _ | ⟨m,d | ⟨l,n,f,b,g⟩ | T | _ | _⟩<;>simp [Ev.frz,upd,a,h]
theorem abt {i v sz:Nat} {z:RV} {b:Bool} {xs:List RV}:∀(l:List Nat) (ob:Obs) (d:Bool),ob i=some (v,.row sz z b d xs)->∃c,Ev.freeze ob l i=some (v,.row sz z b c xs)/\(d=false\/i∈l->c=false)
 | [],ob,d,h=>⟨d,h,λ h=>h.resolve_right (by simp)⟩
 | j::l,ob,d,h=>by
   obtain ⟨f,g,e⟩:=avf (j:=j) h;obtain ⟨k,m,n⟩:=abt l _ f g;refine ⟨k,m,λ a=>n ?_⟩;rcases a with a | a
   ·exact .inl (e (.inl a))
   rcases zag.1 a with a | a
   ·exact .inl (e (.inr a))
   exact .inr a
theorem apk (r:Gam X s ρ a w) {ver k len sz:Nat} {z:RV} {D:Bool} {xs:List RV} (f:s.ob id=some (ver,.row sz z D false xs)) (h:RA X s ρ w (.own id ver k len) c) :
 RelV w (d6 X.B s.ob ρ w) (.sl sz ((xs.drop k).take len)) c:=by
 cases h;rename_i h;obtain ⟨A,cap,rfl,O,F,J,H⟩:=h.live f;have p:((xs.drop k).take len).length=len:=by simp; omega
 rcases r.obj id ver _ f with ⟨n,E⟩ | ⟨b,cs,e,fr,n,E,P,S,Q,C⟩
 ·subst n;have:len=0:=by have:k+len<=0:=J; omega
  subst this;refine (?_:RelV w (d6 X.B s.ob ρ w) (.sl sz []) _);exact .sl sz [] A cap (by simp) F 0 0 (λ _ _=>undef) (by simp) (by simp) (by simp) (by simp)
 have m:=RelV.sl (w:=w) (R:=d6 X.B s.ob ρ w) sz ((xs.drop k).take len) A cap (by omega) F b (k*sz) (λ i j=>(cs[(k+i)*sz+j]?).getD undef);rw [p] at m
 have d:∀(i:Nat) (x:RV),((xs.drop k).take len)[i]?=some x->xs[k+i]?=some x:=λ i x g=>by
  rw [zad] at g;split at g
  ·rwa [zab] at g
  cases g
 refine m (λ N=>?_) (λ i x g=>(C _ x (d i x g)).1) (λ i x j y g u=>?_) (λ i x j y g u=>?_)
 ·obtain ⟨U,K,e',L,G,I,T,M⟩:=H (by omega);rw [n] at G;cases G;refine ⟨I,(zai.1 E).1,?_,r.base b (r.own _ _ _ b f (.inl n))⟩;rintro ⟨j,v,o,l,t,q⟩;have:=r.inj id j _ _ b f l (.inl n) q;subst this;rw [f] at l;cases l;cases t
 ·obtain ⟨c,l,t,q⟩:=(C _ x (d i x g)).2 j y u;rw [l];refine ⟨?_,t⟩;simp only [World.cell?,E,Option.isSome_none,zak,if_false,zae];rw [<- l,Nat.add_mul]
 obtain ⟨c,l,t,q⟩:=(C _ x (d i x g)).2 j y u;rw [l];exact q
theorem afv (k:Gam X s ρ a w) {ob:Obs} {x:AV} {y:RV} {f l:List Nat} (h:x.rv ob=some (y,f)) (b:∀i∈f,i∈l) (e:s.ob=Ev.freeze ob l) (hx:RA X s ρ w x c):RelV w (d6 X.B s.ob ρ w) y c:=by
 unfold AV.rv at h;split at h
 ·cases h; cases hx; assumption
 ·cases h; cases hx;exact .sl _ [] none 0 (by simp) (by simp) 0 0 (λ _ _=>undef) (by simp) (by simp) (by simp) (by simp)
 ·split at h
  ·rename_i j;cases h;obtain ⟨m,d,g⟩:=abt l ob _ (n8 j);rw [g (.inr (b _ (by simp)))] at d;rw [<- e] at d;exact apk k d hx
  cases h
 cases h
theorem Stays.nil (id ver:Nat) (g:∀v o,s.ob id=some (v,o)->v<ver) (x:Ob) (f:x.isAbs=false:=by rfl) :
 Stays w w (d6 X.B s.ob ρ w) (d6 X.B (upd id (ver,x) s.ob) (m5 ρ id none) w) s.ob (upd id (ver,x) s.ob) ρ (m5 ρ id none):=by
 refine ⟨λ b ⟨l,k,i⟩=>⟨⟨l,?_,i⟩,rfl⟩,λ j v o h=>?_⟩
 ·rintro ⟨j,v,o,c,m,d⟩;by_cases a:j=id
  ·subst a;simp [upd] at c;obtain ⟨rfl,rfl⟩:=c;rw [ca f] at d;simp [m5] at d
  simp only [upd,a,if_false] at c;exact k ⟨j,v,o,c,m,(qv a).1 d⟩
 by_cases a:j=id
 ·subst a;exact ⟨ver,x,by simp [upd],Nat.le_of_lt (g v o h),λ e=>by have:=g v o h; omega⟩
 exact ⟨v,o,by simp [upd,a,h],zaa _,λ _=>⟨by simp [m5,a],t7.refl o,λ b cs e fr p n=>⟨cs,e,fr,n,rfl⟩⟩⟩
theorem Gam.nil (n:Gam X s ρ a w) (id ver:Nat) (t:X.pn id=none) (C:∀v o,s.ob id=some (v,o)->v<ver) (sz:Nat) (z:RV) (A:Bool) :
 Gam X ⟨s.e,upd id (ver,.row sz z true A []) s.ob⟩ (m5 ρ id none) a w:=by
 refine n.step (Stays.nil id ver C _ rfl) (λ j v o h=>?_) (λ i j p x k B c u r=>?_) n.keeps (λ j v o b h f=>?_) (λ j b o h hc F H=>?_)
 ·by_cases c:j=id
  ·subst c;simp [upd] at h;obtain ⟨rfl,rfl⟩:=h;exact .inr (.inl ⟨rfl,by simp [m5],rfl⟩)
  simp only [upd,c,if_false] at h;exact .inl ⟨h,by simp [m5,c],by simp [m5],λ _ _=>rfl⟩
 ·have l:∀g (y:Nat×Ob),upd id (ver,.row sz z true A []) s.ob g=some y->foot (m5 ρ id none) g y.2 k->s.ob g=some y/\foot ρ g y.2 k:=λ g y q m=>by
   by_cases d:g=id
   ·subst d;simp [upd] at q;subst q;rw [ca rfl] at m;simp [m5] at m
   simp only [upd,d,if_false] at q;rw [qv d] at m;exact ⟨q,m⟩
  obtain ⟨D,f⟩:=l i p B u;obtain ⟨E,G⟩:=l j x c r;exact n.inj i j p x k D E f G
 ·by_cases c:j=id
  ·subst c;simp [upd] at h;obtain ⟨rfl,rfl⟩:=h;rw [ca rfl] at f;simp [m5] at f
  simp only [upd,c,if_false] at h;rw [qv c] at f;exact n.own j v o b h f
 have c:j≠id:=λ e=>by rw [e,t] at h; cases h
 exact ⟨by simp [m5,c,H],o,by simp [upd,c,hc],F⟩
theorem Gam.unpinned (f:Gam X s ρ a w) {v sz:Nat} {z:RV} {c i:Bool} {xs:List RV} (e:s.ob id=some (v,.row sz z c i xs)) (d:(c || !par id)=true):X.pn id=none:=by
 cases hp:par id with
 | false=>exact f.pnn id hp
 | true=>
   rw [hp] at d;have d:c=true:=by simpa using d
   subst d;rcases h:X.pn id with _ | b
   ·rfl
   obtain ⟨_,o,hc,g,_⟩:=f.pin id b h;rw [e] at hc;cases hc;cases g
end

end Go.Ev

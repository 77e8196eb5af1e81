import Derived.WalkKit
open Nat renaming le_refl → zaa, add_assoc → zaj, le_trans → zan
open List renaming getElem?_drop → zab, getElem?_take → zad, mem_cons → zag, getElem?_eq_some_iff → zam, not_mem_nil → zao, length_eq_zero_iff → zap, getElem?_toArray → zas
open BitVec renaming ofInt → zac
open Option renaming getD_some → zae, getD_none → zaf, map_eq_some_iff → zaq
open Bool renaming and_eq_true → zah, false_eq_true → zak
open Array renaming getElem?_eq_some_iff → zai
open Int renaming toNat_natCast → zal, eq_ofNat_of_zero_le → zar
namespace Go.Ev
set_option maxHeartbeats 8000000
set_option maxRecDepth 100000
open Go
set_option linter.unusedSectionVars false
set_option linter.unnecessarySimpa false
set_option linter.unusedSimpArgs false
set_option linter.unusedVariables false
inductive RV where
 | v (x:Value)
 | agg (xs:List RV)
 | sl (sz:Nat) (xs:List RV)
inductive AV where
 | r (x:RV)
 | agg (xs:List AV)
 | tup (xs:List AV)
 | nils (sz:Nat) (z:RV)
 | own (id ver lo len:Nat)
 | ptr (id ver off:Nat)
 | oel (id ver idx off:Nat)
 | rp (ys:List RV)
 | fn (f:Fn) (cap:List AV) (k:Nat:=0)
 | mp (id ver:Nat)
 | ifc (t:TypeId) (x:AV)
 | gd (b:Bool) (x:AV)
 | undef
instance:Inhabited RV:=⟨.v (.bool false)⟩
instance:Inhabited AV:=⟨.undef⟩
inductive Pl where
 | o (id:Nat)
 | s (id j:Nat)
deriving DecidableEq
instance:Coe Nat Pl:=⟨Pl.o⟩
def RV.cells:RV->List RV
 | .agg xs=>xs
 | x=>[x]
def AV.cells:AV->List AV
 | .agg xs=>xs
 | .r (.agg xs)=>xs.map .r
 | x=>[x]
def RV.one:RV->Bool
 | .v x=>x.oneCell'
 | .agg _=>false
 | .sl _ _=>true
section
variable (w:World) (R:Nat->Prop)
inductive RelV:RV->Value->Prop where
 | v (x:Value):RelV (.v x) x
 | agg (xs:List RV) (cs:Array Value) (hl:cs.size=xs.length) (h:∀(i:Nat) (x:RV) (c:Value),xs[i]?=some x->cs[i]?=some c->RelV x c):RelV (.agg xs) (.agg cs)
 | sl (sz:Nat) (xs:List RV) (A:Option Addr) (cap:Nat) (hc:xs.length<=cap) (hm:cap<=maxLen) (b o:Nat) (g:Nat->Nat->Value)
  (hA:0<xs.length->A=some ⟨b,o,none⟩/\R b)
  (hz:∀(i:Nat) (x:RV),xs[i]?=some x->x.cells.length=sz)
  (hg:∀(i:Nat) (x:RV) (j:Nat) (y:RV),xs[i]?=some x->x.cells[j]?=some y->w.cell? ⟨b,o+i*sz+j,none⟩=some (g i j)/\(g i j).oneCell'=true)
  (hr:∀(i:Nat) (x:RV) (j:Nat) (y:RV),xs[i]?=some x->x.cells[j]?=some y->RelV y (g i j)):RelV (.sl sz xs) (.slice A xs.length cap)
end
variable {c:Value}
theorem RelV.mono {w w':World} {R R':Nat->Prop} {x:RV} (h:RelV w R x c) (e:∀b,R b->R' b/\w'.heap[b]?=w.heap[b]?):RelV w' R' x c:=by
 induction h with
 | v x=>exact .v x
 | agg xs cs hl _ ih=>exact .agg xs cs hl ih
 | sl sz xs A cap hc hm b o g hA hz hg hr ih=>
   refine .sl sz xs A cap hc hm b o g (λ a=>⟨(hA a).1,(e b (hA a).2).1⟩) hz (λ i x j y d l=>?_) ih
   have a:0<xs.length:=by
    have:=(zam.1 d).1;omega
   obtain ⟨k,f⟩:=hg i x j y d l;refine ⟨?_,f⟩;rw [<- k];simp only [World.cell?];rw [(e b (hA a).2).2]
structure AbsT where
 size:Nat
 Q:World->Nat->(Nat->Option Nat)->Prop
 loc:∀{w w':World} {b:Nat} {φ:Nat->Option Nat},Q w b φ->w'.heap[b]?=w.heap[b]?->(∀j c,φ j=some c->w'.heap[c]?=w.heap[c]?)->Q w' b φ
 root:∀{w:World} {b:Nat} {φ:Nat->Option Nat},Q w b φ->∃cs e,w.heap[b]?=some (.cells cs e (0,0))/\cs.size=size
 lt:∀{w:World} {b:Nat} {φ:Nat->Option Nat},Q w b φ->∀j c,φ j=some c->c<w.heap.size
 view:List RV
 rp:∀{w:World} {b:Nat} {φ:Nat->Option Nat} (R:Nat->Prop),Q w b φ->R b->(∀j c,φ j=some c->R c) ->
  ∃g:Nat->Value,∀(j:Nat) (y:RV),view[j]?=some y->w.cell? ⟨b,0+j,none⟩=some (g j)/\(g j).oneCell'=true/\RelV w R y (g j)
inductive Ob where
 | box (cells:List AV)
 | row (sz:Nat) (z:RV) (app wr:Bool) (xs:List RV)
 | abs (T:AbsT)
 | map (es:List MapEntry) (clock:Nat)
 | iter (m:AV) (since:Nat) (seen:List Nat) (stepped:Nat)
def Ob.own:Ob->Bool
 | .box _=>true
 | .row _ _ _ wr _=>wr
 | .abs _=>true
 | .map _ _=>true
 | .iter _ _ _ _=>true
def Ob.pinned:Ob->Bool
 | .row _ _ app _ _=>!app
 | _=>true
def Ob.isRow:Ob->Bool
 | .row _ _ _ _ _=>true
 | _=>false
def par (id:Nat):Bool:=bif decide (1000000<=id) then decide (id<2000000) else false
variable {id:Nat}
theorem ai8 (h:id<1000000):par id=false:=by unfold par; rw [decide_eq_false (by omega)]; rfl
def se (w w':World) (b:Nat):Prop:=∀cs e fr,w.heap[b]?=some (.cells cs e fr)->∃a e' c,w'.heap[b]?=some (.cells a e' c)/\a.size=cs.size
theorem se.refl (w:World) (b:Nat):se w w b:=λ cs e fr h=>⟨cs,e,fr,h,rfl⟩
variable {k:Nat}
theorem se.trans {a b c:World} (h:se a b k) (g:se b c k):se a c k:=λ cs e fr q=>by
 obtain ⟨i,p,j,n,r⟩:=h cs e fr q;obtain ⟨d,m,f,l,o⟩:=g i p j n;exact ⟨d,m,f,l,o.trans r⟩
def Ob.isAbs:Ob->Bool
 | .abs _=>true
 | _=>false
def foot (ρ:Pl->Option Nat) (id:Nat) (o:Ob) (b:Nat):Prop:=ρ id=some b\/(o.isAbs=true/\∃j,ρ (.s id j)=some b)
variable {b:Nat}
theorem el {ρ:Pl->Option Nat} {o:Ob} (h:o.isAbs=false):foot ρ id o b↔ρ id=some b:=by simp [foot,h]
variable {o':Ob}
theorem vc {ρ ρ':Pl->Option Nat} {a:Nat} {o:Ob} (c:ρ' a=ρ id) (e:∀j,ρ' (.s a j)=ρ (.s id j)) (d:o'.isAbs=o.isAbs):foot ρ' a o' b↔foot ρ id o b:=by simp only [foot,c,e,d]
def ye (ρ ρ':Pl->Option Nat) (i a:Nat):Prop:=ρ' (.o a)=ρ (.o i)/\∀j,ρ' (.s a j)=ρ (.s i j)
variable {i:Nat}
theorem ye.foot {ρ ρ':Pl->Option Nat} {a:Nat} (h:ye ρ ρ' i a) {o:Ob} (c:o'.isAbs=o.isAbs):foot ρ' a o' b↔foot ρ i o b:=vc h.1 h.2 c
def s6 (ρ:Pl->Option Nat) (id:Nat) (b:Option Nat):Pl->Option Nat:=λ i=>if i=id then b else ρ i
variable {j:Nat}
theorem tq {ρ:Pl->Option Nat} {o:Ob} {x:Option Nat} (h:j≠id):foot (s6 ρ id x) j o b↔foot ρ j o b:=vc (by simp [s6,h]) (by simp [s6]) rfl
abbrev Obs:=Nat->Option (Nat×Ob)
def adh (w:World) (ρ:Pl->Option Nat) (id:Nat) (a len:Nat) (c:Value):Ob->Prop
 | .box _=>∃A cap,c=.slice A len cap/\len<=cap/\cap<=maxLen /\
  (0<cap->∃b cs e fr,ρ id=some b/\A=some ⟨b,a,none⟩/\w.heap[b]?=some (.cells cs e fr)/\a+cap<=cs.size)
 | .abs _=>False
 | .map _ _=>False
 | .iter _ _ _ _=>False
 | .row sz _ _ _ xs=>∃A cap,c=.slice A len cap/\len<=cap/\cap<=maxLen/\a+len<=xs.length /\
  (0<cap->∃b cs e fr,ρ id=some b/\A=some ⟨b,a*sz,none⟩/\w.heap[b]?=some (.cells cs e fr)/\(a+cap)*sz<=cs.size)
def a4j (ρ:Pl->Option Nat) (id idx off:Nat) (c:Value):Ob->Prop
 | .box _=>∃b,ρ id=some b/\c=.pointer (some ⟨b,idx+off,none⟩)
 | .abs _=>False
 | .map _ _=>False
 | .iter _ _ _ _=>False
 | .row sz _ _ _ xs=>idx<xs.length/\off<=sz/\∃b,ρ id=some b/\c=.pointer (some ⟨b,idx*sz+off,none⟩)
def At (ob:Obs) (id ver:Nat) (X:Ob->Prop):Prop:=∃v o,ob id=some (v,o)/\ver<=v/\(ver=v->X o)
section
variable (w:World) (R:Nat->Prop) (ob:Obs) (ρ:Pl->Option Nat)
inductive RelA:AV->Value->Prop where
 | r {x:RV} {c:Value} (h:RelV w R x c):RelA (.r x) c
 | agg (xs:List AV) (cs:Array Value) (hl:cs.size=xs.length) (h:∀(i:Nat) (x:AV) (c:Value),xs[i]?=some x->cs[i]?=some c->RelA x c):RelA (.agg xs) (.agg cs)
 | tup (xs:List AV) (cs:Array Value) (hl:cs.size=xs.length) (h:∀(i:Nat) (x:AV) (c:Value),xs[i]?=some x->cs[i]?=some c->RelA x c):RelA (.tup xs) (.tuple cs)
 | nils (sz:Nat) (z:RV):RelA (.nils sz z) (.slice none 0 0)
 | own (id ver lo len:Nat) (c:Value) (hc:c.oneCell'=true) (h:At ob id ver (adh w ρ id lo len c)):RelA (.own id ver lo len) c
 | ptr (id ver off:Nat) (c:Value) (hc:c.oneCell'=true) (h:At ob id ver λ _=>∃b,ρ id=some b/\c=.pointer (some ⟨b,off,none⟩)):RelA (.ptr id ver off) c
 | oel (id ver idx off:Nat) (c:Value) (hc:c.oneCell'=true) (h:At ob id ver (a4j ρ id idx off c)):RelA (.oel id ver idx off) c
 | rp (ys:List RV) (b o:Nat) (g:Nat->Value) (hR:R b) (hg:∀(j:Nat) (y:RV),ys[j]?=some y->w.cell? ⟨b,o+j,none⟩=some (g j)/\(g j).oneCell'=true/\RelV w R y (g j)) :
  RelA (.rp ys) (.pointer (some ⟨b,o,none⟩))
 | fn (f:Fn) (xs:List AV) (k:Nat) (fs cs:Array Value) (hk:fs.size=k) (hl:fs.size+cs.size=xs.length) (h:∀(i:Nat) (x:AV) (c:Value),xs[i]?=some x->(fs++cs)[i]?=some c->RelA x c):RelA (.fn f xs k) (.func f fs cs)
 | mp (id ver:Nat) (c:Value) (hc:c.oneCell'=true) (h:At ob id ver λ _=>∃b,ρ id=some b/\c=.map (some b)):RelA (.mp id ver) c
 | ifc (t:TypeId) {x:AV} {c:Value} (h:RelA x c):RelA (.ifc t x) (.iface t c)
 | gd (b:Bool) {x:AV} {c:Value} (h:b=true->RelA x c) (hf:b=false->c=undef):RelA (.gd b x) c
 | undef (c:Value):RelA .undef c
end
def z9:Ob->Ob->Prop
 | .box _,.box _=>True
 | .abs T,.abs T'=>T'.size=T.size
 | .map _ _,.map _ _=>True
 | .iter _ _ _ _,.iter _ _ _ _=>True
 | .row sz _ _ _ xs,.row sz' _ _ _ xs'=>sz'=sz/\xs.length<=xs'.length
 | .row sz _ _ _ _,.box _=>sz=1
 | _,_=>False
theorem z9.refl (o:Ob):z9 o o:=by cases o<;>simp [z9]
structure Stays (w w':World) (R R':Nat->Prop) (ob ob':Obs) (ρ ρ':Pl->Option Nat):Prop where
 free:∀b,R b->R' b/\w'.heap[b]?=w.heap[b]?
 obj:∀id v o,ob id=some (v,o)->∃v' o',ob' id=some (v',o')/\v<=v'/\(v=v'->ρ' id=ρ id/\z9 o o' /\
  (∀b cs e fr,ρ id=some b->w.heap[b]?=some (.cells cs e fr)->∃cs' e' fr',w'.heap[b]?=some (.cells cs' e' fr')/\cs'.size=cs.size))
section
variable {w w':World} {R R':Nat->Prop} {ob ob':Obs} {ρ ρ':Pl->Option Nat}
theorem Stays.at_ (h:Stays w w' R R' ob ob' ρ ρ') {ver:Nat} {X d:Ob->Prop} (k:At ob id ver X)
 (hx:∀o o',X o->ρ' id=ρ id->z9 o o'->(∀b cs e fr,ρ id=some b->w.heap[b]?=some (.cells cs e fr)->∃a e' c,w'.heap[b]?=some (.cells a e' c)/\a.size=cs.size)->d o') :
 At ob' id ver d:=by
 obtain ⟨v,o,m,p,f⟩:=k;obtain ⟨j,o',g,r,l⟩:=h.obj id v o m;refine ⟨j,o',g,zan p r,λ e=>?_⟩;obtain ⟨n,q,i⟩:=l (by omega);exact hx o o' (f (by omega)) n q i
theorem RelA.stays (h:Stays w w' R R' ob ob' ρ ρ') {x:AV} (hx:RelA w R ob ρ x c):RelA w' R' ob' ρ' x c:=by
 induction hx with
 | r u=>exact .r (u.mono h.free)
 | agg xs cs hl _ ih=>exact .agg xs cs hl ih
 | tup xs cs hl _ ih=>exact .tup xs cs hl ih
 | nils sz z=>exact .nils sz z
 | own id ver lo len c hc ha=>
   refine .own id ver lo len c hc (h.at_ ha λ o o' i a d v=>?_);cases o with
   | box _=>
     cases o' with
     | box _=>
       obtain ⟨A,cap,p,n,q,G⟩:=i;refine ⟨A,cap,p,n,q,λ u=>?_⟩;obtain ⟨b,cs,e,fr,s,E,D,C⟩:=G u;obtain ⟨m,e',l,B,F⟩:=v b cs e fr s D;exact ⟨b,m,e',l,by rw [a,s],E,B,by rw [F]; exact C⟩
     | _=>exact d.elim
   | abs _=>exact i.elim
   | map _ _=>exact i.elim
   | iter _ _ _ _=>exact i.elim
   | row sz z1 a1 w1 xs=>
     cases o' with
     | box _=>
       obtain rfl:sz=1:=d;obtain ⟨A,cap,p,n,q,H,G⟩:=i;refine ⟨A,cap,p,n,q,λ u=>?_⟩;obtain ⟨b,cs,e,fr,s,E,D,C⟩:=G u;obtain ⟨m,e',l,B,F⟩:=v b cs e fr s D;exact ⟨b,m,e',l,by rw [a,s],by rw [E,Nat.mul_one],B,by rw [F]; simpa using C⟩
     | abs _=>exact d.elim
     | map _ _=>exact d.elim
     | iter _ _ _ _=>exact d.elim
     | row sz' z2 a2 w2 xs'=>
       obtain ⟨rfl,d⟩:=d;obtain ⟨A,cap,p,n,q,H,G⟩:=i;refine ⟨A,cap,p,n,q,by omega,λ u=>?_⟩;obtain ⟨b,cs,e,fr,s,E,D,C⟩:=G u;obtain ⟨m,e',l,B,F⟩:=v b cs e fr s D;exact ⟨b,m,e',l,by rw [a,s],E,B,by rw [F]; exact C⟩
 | ptr id ver off c hc ha=>exact .ptr id ver off c hc (h.at_ ha λ o o' i a d v=>by rw [a]; exact i)
 | oel id ver idx off c hc ha=>
   refine .oel id ver idx off c hc (h.at_ ha λ o o' i a d v=>?_);cases o with
   | box _=>
     cases o' with
     | box _=>
       obtain ⟨b,p,n⟩:=i;exact ⟨b,by rw [a]; exact p,n⟩
     | _=>exact d.elim
   | abs _=>exact i.elim
   | map _ _=>exact i.elim
   | iter _ _ _ _=>exact i.elim
   | row sz z1 a1 w1 xs=>
     cases o' with
     | box _=>
       obtain rfl:sz=1:=d;obtain ⟨p,n,b,q,H⟩:=i;exact ⟨b,by rw [a]; exact q,by rw [H,Nat.mul_one]⟩
     | abs _=>exact d.elim
     | map _ _=>exact d.elim
     | iter _ _ _ _=>exact d.elim
     | row sz' z2 a2 w2 xs'=>
       obtain ⟨rfl,d⟩:=d;obtain ⟨p,n,q⟩:=i;exact ⟨by omega,n,by rw [a]; exact q⟩
 | rp ys b o g hR hg=>
   refine .rp ys b o g (h.free b hR).1 λ j y K=>?_;obtain ⟨J,L,I⟩:=hg j y K;refine ⟨?_,L,I.mono h.free⟩;rw [<- J];simp only [World.cell?];rw [(h.free b hR).2]
 | fn f xs k fs cs d hl _ ih=>exact .fn f xs k fs cs d hl ih
 | mp id ver c hc ha=>exact .mp id ver c hc (h.at_ ha λ o o' i a d v=>by rw [a]; exact i)
 | ifc t _ ih=>exact .ifc t ih
 | gd b _ hf ih=>exact .gd b ih hf
 | undef c=>exact .undef c
end
structure St where
 e:Nat->AV
 ob:Obs
def Own (ob:Obs) (ρ:Pl->Option Nat) (b:Nat):Prop:=∃id v o,ob id=some (v,o)/\o.own=true/\foot ρ id o b
def j8 (B:Nat->Prop) (ob:Obs) (ρ:Pl->Option Nat) (w:World) (b:Nat):Prop:=b<w.heap.size/\¬Own ob ρ b/\B b
def cj (w:World) (R:Nat->Prop) (ob:Obs) (ρ:Pl->Option Nat) (id:Nat):Ob->Prop
 | .box cells=>∃b cs e,ρ id=some b/\w.heap[b]?=some (.cells cs e (0,0))/\cs.size=cells.length /\
  ∀(i:Nat) (x:AV) (c:Value),cells[i]?=some x->cs[i]?=some c->RelA w R ob ρ x c
 | .abs T=>∃b,ρ id=some b/\T.Q w b (λ j=>ρ (.s id j))
 | .map es clock=>∃b,ρ id=some b/\w.heap[b]?=some (.map es.toArray clock)
 | .iter m since seen stepped=>∃b m',ρ id=some b/\w.heap[b]?=some (.mapIter (some m') since seen.toArray stepped)/\RelA w R ob ρ m (.map (some m'))
 | .row sz _ app _ xs=>(xs=[]/\ρ id=none/\app=true)\/∃b cs e fr,ρ id=some b/\w.heap[b]?=some (.cells cs e fr) /\
  (∀k,k<cs.size->¬(fr.1<=k/\k<fr.2))/\(app=true->fr=(0,0))/\xs.length*sz<=cs.size /\
  ∀(i:Nat) (x:RV),xs[i]?=some x->x.cells.length=sz/\∀(j:Nat) (y:RV),x.cells[j]?=some y->∃c,cs[i*sz+j]?=some c/\c.oneCell'=true/\RelV w R y c
structure Keeps (I:Nat->Prop) (w w':World):Prop where
 os:w'.os=w.os
 tape:w'.tape=w.tape
 output:w'.output=w.output
 size:w.heap.size<=w'.heap.size
 block:∀b,b<w.heap.size->¬I b->w'.heap[b]?=w.heap[b]?
theorem Keeps.refl (I:Nat->Prop) (w:World):Keeps I w w:=⟨rfl,rfl,rfl,zaa _,λ _ _ _=>rfl⟩
theorem Keeps.trans {I:Nat->Prop} {a b c:World} (h:Keeps I a b) (k:Keeps I b c):Keeps I a c:=
 ⟨k.os.trans h.os,k.tape.trans h.tape,k.output.trans h.output,zan h.size k.size,λ i e d=>(k.block i (Nat.lt_of_lt_of_le e h.size) d).trans (h.block i e d)⟩
structure Cx where
 n:Nat
 I:Nat->Prop
 pn:Nat->Option Nat
 B:Nat->Prop
 w0:World
structure Mem (X:Cx) (ob:Obs) (ρ:Pl->Option Nat) (w:World):Prop where
 obj:∀id v o,ob id=some (v,o)->cj w (j8 X.B ob ρ w) ob ρ id o
 inj:∀id id' x x' b,ob id=some x->ob id'=some x'->foot ρ id x.2 b->foot ρ id' x'.2 b->id=id'
 keeps:Keeps X.I X.w0 w
 own:∀id v o b,ob id=some (v,o)->foot ρ id o b->X.I b\/X.w0.heap.size<=b
 pin:∀id b,X.pn id=some b->ρ id=some b/\∃o,ob id=some (0,o)/\o.pinned=true/\(o.isRow=true->se X.w0 w b)
structure Gam (X:Cx) (s:St) (ρ:Pl->Option Nat) (a:Act) (w:World):Prop extends Mem X s.ob ρ w where
 sz:a.tmps.size=X.n
 df:a.defers=[]
 env:∀t,RelA w (j8 X.B s.ob ρ w) s.ob ρ (s.e t) (a.tmps.getD t undef)
 pnn:∀id,par id=false->X.pn id=none
 small:X.n<=100000
 base:∀b,X.I b\/X.w0.heap.size<=b->X.B b

inductive Opd where
 | t (n:Nat)
 | c (x:AV)
inductive PO where
 | mov (x:Opd)
 | pick (c a b:Opd)
 | bin (op:BinOp) (x y:Opd)
 | beq (neg:Bool) (x y:Opd)
 | eqn (neg:Bool) (x:Opd)
 | un (op:UnOp) (x:Opd)
 | conv (k:IntKind) (x:Opd)
 | toStr (x:Opd)
 | toBytes (z:RV) (x:Opd)
 | new (zs:List AV)
 | box (x:Opd)
 | build (zs:List AV) (ps:List (Nat×Nat×Opd))
 | mkf (f:Fn) (xs:List Opd) (k:Nat:=0)
 | eqa (neg:Bool) (ks:List Nat) (x y:Opd)
 | bsl (sz:Nat) (z:RV) (ps:List Opd)
 | ld (n:Option Nat) (x:Opd)
 | st (n:Nat) (x y:Opd)
 | nck (x:Opd)
 | fa (off:Nat) (x:Opd)
 | fld (off:Nat) (n:Option Nat) (x:Opd)
 | ia (sz:Nat) (z:RV) (x i:Opd)
 | ixs (x i:Opd)
 | sls (x:Opd) (lo hi:Option Opd)
 | sll (sz:Nat) (x:Opd) (lo hi mx:Option Opd)
 | mks (sz:Nat) (z:RV) (bytes:Nat) (l c:Opd)
 | len (str:Bool) (x:Opd)
 | app (sz:Nat) (z:RV) (bytes:Nat) (x y:Opd)
 | cpy (sz:Nat) (x y:Opd)
 | ext (x:Opd) (i:Nat)
 | mm (mx:Bool) (x:Opd) (ys:List Opd)
 | iaa (n sz:Nat) (x i:Opd)
 | carry (sub:Bool) (x y c:Opd)
 | lkp (str:Bool) (z:RV) (comma:Bool) (x i:Opd)
 | lenm (x:Opd)
 | mki (t:TypeId) (x:Opd)
 | tas (t:TypeId) (z:RV) (comma:Bool) (x:Opd)
 | ent (x:Opd)
 | mkm
 | mset (str:Bool) (x i y:Opd)
 | ment (str:Bool) (z:RV) (x i:Opd)
 | mest (x i y:Opd)
 | no
 | mdel (str:Bool) (x i:Opd)
 | rng (x:Opd)
 | mrk (x:Opd)
 | cps (x y:Opd)
 | sla (n:Nat) (x:Opd)
 | clr (sz:Nat) (z:RV) (x:Opd)
structure Rs where
 ok:Prop
 v:AV
 ob:Obs
 rd:List Nat
 wr:List Nat
abbrev Env:=Nat->AV
def put (d:Nat) (x:AV) (e:Env):Env:=λ n=>if n=d then x else e n
def upd (id:Nat) (x:Nat×Ob) (ob:Obs):Obs:=λ n=>if n=id then some x else ob n
def Opd.ev (e:Env):Opd->AV
 | .t n=>e n
 | .c x=>x
abbrev bl (b:Bool):AV:=.r (.v (.bool b))
abbrev int (k:IntKind) (n:Int):AV:=.r (.v (.int k n))
abbrev Vs:=Prop×AV
def Rs.and (p:Prop) (r:Rs):Rs:=⟨p/\r.ok,r.v,r.ob,r.rd,r.wr⟩
def bad (g:Bool):Vs:=(g=true->False,.undef)
def v5 (g:Bool) (id:Nat) (ob:Obs):Rs:=⟨g=true->False,.undef,ob,[id],[]⟩
def AV.bare:AV->AV
 | .gd _ x=>x
 | x=>x
def AV.may (g:Bool):AV->Prop
 | .gd b _=>g=true->b=true
 | _=>True
def Vs.q (ob:Obs) (p:Prop) (v:Vs):Rs:=⟨p/\v.1,v.2,ob,[],[]⟩
def nv (ob:Obs) (id:Nat):Nat:=match ob id with | some (v,_)=>v+1 | none=>0
def abj (g:Bool) (op:BinOp) (k c:IntKind) (a b:Int):Vs:=
 match op with
 | .add=>(k=c,int k (k.wrap (a+b)))
 | .sub=>(k=c,int k (k.wrap (a-b)))
 | .mul=>(k=c,int k (k.wrap (a*b)))
 | .quo=>(k=c/\(g=true->¬b=0),int k (k.wrap (a.tdiv b)))
 | .rem=>(k=c/\(g=true->¬b=0),int k (a.tmod b))
 | .and=>(k=c,int k (k.wrap ((zac k.bits a &&& zac k.bits b).toNat)))
 | .or=>(k=c,int k (k.wrap ((zac k.bits a ||| zac k.bits b).toNat)))
 | .xor=>(k=c,int k (k.wrap ((zac k.bits a ^^^ zac k.bits b).toNat)))
 | .andNot=>(k=c,int k (k.wrap ((zac k.bits a &&& ~~~ zac k.bits b).toNat)))
 | .eql=>(k=c,bl (a == b))
 | .neq=>(k=c,bl (a != b))
 | .lss=>(k=c,bl (decide (a<b)))
 | .gtr=>(k=c,bl (decide (a>b)))
 | .leq=>(k=c,bl (decide (a<=b)))
 | .geq=>(k=c,bl (decide (a>=b)))
 | .shl=>((g=true->0<=b),int k (k.wrap (a*2^(min b.toNat k.bits))))
 | .shr=>((g=true->0<=b),int k (a.fdiv (2^(min b.toNat k.bits))))
abbrev aqx (a:ByteArray):AV:=.r (.v (.string a))
def abi (g:Bool) (op:BinOp) (a b:ByteArray):Vs:=
 match op with
 | .add=>((g=true->a.size+b.size<=9223372036854775807),aqx (a++b))
 | .eql=>(True,bl (a.toList == b.toList))
 | .neq=>(True,bl (!(a.toList == b.toList)))
 | .lss=>(True,bl (Op.bytesLess a.toList b.toList))
 | .geq=>(True,bl (!Op.bytesLess a.toList b.toList))
 | _=>bad g
def xx (g:Bool) (op:BinOp):AV->AV->Vs
 | .r (.v (.int k a)),.r (.v (.int k' b))=>abj g op k k' a b
 | .r (.v (.string a)),.r (.v (.string b))=>abi g op a b
 | _,_=>bad g
def qd (g:Bool):AV->AV->AV->Vs
 | .r (.v (.bool c)),.r (.v (.bool a)),.r (.v (.bool b))=>(True,bl (bif c then a else b))
 | .r (.v (.bool c)),.gd h (.r (.v (.bool a))),.r (.v (.bool b))=>((g=true->c=true->h=true),bl (bif c then a else b))
 | .r (.v (.bool c)),.r (.v (.bool a)),.gd h (.r (.v (.bool b)))=>((g=true->c=false->h=true),bl (bif c then a else b))
 | .r (.v (.bool c)),.r (.v (.bool a)),.undef=>((g=true->c=true),bl a)
 | .r (.v (.bool c)),.undef,.r (.v (.bool b))=>((g=true->c=false),bl b)
 | .r (.v (.bool c)),.gd h .undef,.r (.v (.bool b))=>((g=true->c=false),bl b)
 | .r (.v (.bool c)),.r (.v (.bool a)),.gd h .undef=>((g=true->c=true),bl a)
 | _,_,_=>bad g
def xy (g c:Bool):AV->AV->Vs
 | .r (.v (.bool a)),.r (.v (.bool b))=>(True,bl (bif c then !(a == b) else (a == b)))
 | _,_=>bad g
def un1 (g:Bool) (op:UnOp):AV->Vs
 | .r (.v (.int k n))=>match op with
   | .neg=>(True,int k (k.wrap (0-n)))
   | .xor=>(True,int k (k.wrap ((zac k.bits (if k.signed then -1 else k.max) ^^^ zac k.bits n).toNat)))
   | _=>bad g
 | .r (.v (.bool b))=>match op with
   | .not=>(True,bl !b)
   | _=>bad g
 | _=>bad g
def qp (g:Bool) (k:IntKind):AV->Vs
 | .r (.v (.int _ n))=>(True,int k (k.wrap n))
 | _=>bad g
def l9 (ob:Obs) (id ver:Nat):Option (Nat×RV×Bool×Bool×List RV):=
 match ob id with
 | some (v,.row sz z app wr xs)=>if ver=v then some (sz,z,app,wr,xs) else none
 | _=>none
def t5 (ob:Obs) (id ver:Nat):Option (List AV):=
 match ob id with
 | some (v,.box cells)=>if ver=v then some cells else none
 | _=>none
def go (ob:Obs) (id ver:Nat):Option Unit:=
 match ob id with
 | some (v,.box _)=>if ver=v then some () else none
 | some (v,.abs _)=>if ver=v then some () else none
 | _=>none
def leb (g str:Bool) (id n:Nat) (ob:Obs):Option (List AV)->Rs
 | some _=>⟨str=false,int .i64 n,ob,[id],[]⟩
 | none=>v5 g id ob
def sq (g str:Bool):AV->Obs->Rs
 | .r (.sl _ xs),ob=>Vs.q ob (str=false) (True,int .i64 xs.length)
 | .r (.v (.string s)),ob=>Vs.q ob (str=true) (True,int .i64 s.size)
 | .nils _ _,ob=>Vs.q ob (str=false) (True,int .i64 0)
 | .own id ver _ n,ob=>match l9 ob id ver with
   | some _=>⟨str=false,int .i64 n,ob,[id],[]⟩
   | none=>leb g str id n ob (t5 ob id ver)
 | _,ob=>Vs.q ob True (bad g)
def iab (g:Bool) (sz id ver a n:Nat) (i:Int) (ob:Obs):Option (List AV)->Rs
 | some _=>⟨sz=1/\(g=true->0<=i/\i<n),.ptr id ver (a+i.toNat),ob,[id],[]⟩
 | none=>v5 g id ob
def ia2 (g:Bool) (sz:Nat) (z:RV):AV->AV->Obs->Rs
 | .r (.sl sz' xs),.r (.v (.int _ i)),ob=>Vs.q ob (sz'=sz) ((g=true->0<=i/\i<xs.length),.rp (xs.getD i.toNat z).cells)
 | .own id ver lo n,.r (.v (.int _ i)),ob=>match l9 ob id ver with
   | some (sz',_)=>⟨sz'=sz/\(g=true->0<=i/\i<n),.oel id ver (lo+i.toNat) 0,ob,[id],[]⟩
   | none=>iab g sz id ver lo n i ob (t5 ob id ver)
 | _,_,ob=>Vs.q ob True (bad g)
def xm (g:Bool):AV->AV->Vs
 | .r (.v (.string s)),.r (.v (.int _ i))=>((g=true->0<=i/\i<s.size),int .u8 (s.data.toList.getD i.toNat 0).toNat)
 | _,_=>bad g
def ldb (id:Nat) (ob:Obs) (g:Bool) (n:Option Nat) (off:Nat):Option (List AV)->Rs
 | some cells=>match n with
   | none=>⟨g=true->off<cells.length,cells.getD off .undef,ob,[id],[]⟩
   | some n=>⟨g=true->off+n<=cells.length,.agg ((cells.drop off).take n),ob,[id],[]⟩
 | none=>v5 g id ob
def ldr (id:Nat) (ob:Obs) (g:Bool) (n:Option Nat) (idx off:Nat):Option (Nat×RV×Bool×Bool×List RV)->Rs
 | some (sz,z,_,_,xs)=>match n with
   | none=>⟨g=true->off<sz,.r ((xs.getD idx z).cells.getD off (.v (.bool false))),ob,[id],[]⟩
   | some n=>⟨g=true->off+n<=sz,.r (.agg (((xs.getD idx z).cells.drop off).take n)),ob,[id],[]⟩
 | none=>v5 g id ob
def ld1 (g:Bool) (n:Option Nat):AV->Obs->Rs
 | .ptr id ver off,ob=>ldb id ob g n off (t5 ob id ver)
 | .oel id ver idx off,ob=>ldr id ob g n idx off (l9 ob id ver)
 | .rp ys,ob=>match n with
   | none=>Vs.q ob True ((g=true->0<ys.length),.r (ys.getD 0 (.v (.bool false))))
   | some n=>Vs.q ob True ((g=true->n<=ys.length),.r (.agg (ys.take n)))
 | _,ob=>Vs.q ob True (bad g)
def uv (g:Bool):AV->Obs->Rs
 | .ptr id ver off,ob=>match go ob id ver with
   | some _=>⟨True,.ptr id ver off,ob,[id],[]⟩
   | none=>v5 g id ob
 | .oel id ver idx off,ob=>match l9 ob id ver with
   | some _=>⟨True,.oel id ver idx off,ob,[id],[]⟩
   | none=>v5 g id ob
 | .rp ys,ob=>Vs.q ob True (True,.rp ys)
 | .fn (.func f) xs k,ob=>Vs.q ob True (True,.fn (.func f) xs k)
 | _,ob=>Vs.q ob True (bad g)
def vd (g a:Bool):AV->Obs->Rs
 | .ptr id ver _,ob=>match go ob id ver with
   | some _=>⟨True,bl a,ob,[id],[]⟩
   | none=>v5 g id ob
 | .r (.v (.pointer none)),ob=>Vs.q ob True (True,bl !a)
 | _,ob=>Vs.q ob True (bad g)
def fa1 (g:Bool) (off:Nat):AV->Obs->Rs
 | .ptr id ver o,ob=>match t5 ob id ver with
   | some _=>⟨True,.ptr id ver (o+off),ob,[id],[]⟩
   | none=>v5 g id ob
 | .oel id ver idx o,ob=>match l9 ob id ver with
   | some (sz,_)=>⟨g=true->o+off<=sz,.oel id ver idx (o+off),ob,[id],[]⟩
   | none=>v5 g id ob
 | .rp ys,ob=>Vs.q ob True (True,.rp (ys.drop off))
 | _,ob=>Vs.q ob True (bad g)
def xp (g:Bool) (off:Nat) (n:Option Nat) (x:AV):Vs:=
 match x with
 | .agg cs=>match n with
   | none=>((g=true->off<cs.length),cs.getD off .undef)
   | some n=>((g=true->off+n<=cs.length),.agg ((cs.drop off).take n))
 | .r (.agg cs)=>match n with
   | none=>((g=true->off<cs.length),.r (cs.getD off (.v (.bool false))))
   | some n=>((g=true->off+n<=cs.length),.r (.agg ((cs.drop off).take n)))
 | _=>bad g
def bnd (d:Int):Option AV->Option Int
 | none=>some d
 | some (.r (.v (.int _ i)))=>some i
 | _=>none
def xg (g:Bool):AV->Option AV->Option AV->Vs
 | .r (.v (.string s)),lo,hi=>match bnd 0 lo,bnd s.size hi with
   | some l,some h=>((g=true->0<=l/\l<=h/\h<=s.size),aqx (s.extract l.toNat h.toNat))
   | _,_=>bad g
 | _,_,_=>bad g
def rb (g:Bool) (sz:Nat):AV->Option AV->Option AV->Option AV->Obs->Rs
 | .r (.sl sz' xs),lo,hi,mx,ob=>match bnd 0 lo,bnd xs.length hi,bnd xs.length mx with
   | some l,some h,some m=>Vs.q ob (sz'=sz) ((g=true->0<=l/\l<=h/\h<=m/\m<=xs.length),.r (.sl sz ((xs.take h.toNat).drop l.toNat)))
   | _,_,_=>Vs.q ob True (bad g)
 | .own id ver lo0 n,lo,hi,mx,ob=>match bnd 0 lo,bnd n hi,bnd n mx with
   | some l,some h,some m=>match l9 ob id ver with
     | some (sz',_)=>⟨sz'=sz/\(g=true->0<=l/\l<=h/\h<=m/\m<=n),.own id ver (lo0+l.toNat) (h-l).toNat,ob,[id],[]⟩
     | none=>v5 g id ob
   | _,_,_=>Vs.q ob True (bad g)
 | _,_,_,_,ob=>Vs.q ob True (bad g)
def zf (g:Bool) (id ver off n:Nat) (ob:Obs):Option (List AV)->Rs
 | some cells=>⟨g=true->off+n<=cells.length/\n<=maxLen,.own id ver off n,ob,[id],[]⟩
 | none=>v5 g id ob
def sh (g:Bool) (n:Nat):AV->Obs->Rs
 | .ptr id ver off,ob=>zf g id ver off n ob (t5 ob id ver)
 | _,ob=>Vs.q ob True (bad g)
def xq (g:Bool) (i:Nat):AV->Vs
 | .tup xs=>(i<xs.length,xs.getD i .undef)
 | _=>bad g
def c8 {a:Type} (l:List a) (i:Nat) (m:List a):List a:=l.take i++m++l.drop (i+m.length)
def src (ob:Obs):AV->Option (Nat×List RV×List Nat)
 | .r (.sl sz xs)=>some (sz,xs,[])
 | .nils sz _=>some (sz,[],[])
 | .own id ver lo len=>match l9 ob id ver with
   | some (sz,_,_,_,xs)=>some (sz,(xs.drop lo).take len,[id])
   | none=>none
 | _=>none
def agc:RV->UInt8
 | .v (.int _ n)=>UInt8.ofNat n.toNat
 | _=>0
def anl:RV->Bool
 | .v (.int .u8 n)=>decide (0<=n/\n<256)
 | _=>false
def AV.one:AV->Bool
 | .r x=>x.one
 | .agg _=>false
 | .tup _=>false
 | .gd _ _=>false
 | .undef=>false
 | _=>true
def AV.boxable:AV->Bool
 | .agg _=>true
 | .r (.agg _)=>true
 | x=>x.one
def ig (ob:Obs):Option (Nat×List RV×List Nat)->Rs
 | some (sz,ys,rd)=>⟨sz=1/\ys.all anl=true,aqx ⟨(ys.map agc).toArray⟩,ob,rd,[]⟩
 | none=>Vs.q ob False (False,.undef)
def dt (g:Bool) (e:Env):List AV->List (Nat×Nat×Opd)->Vs
 | zs,[]=>(True,.agg zs)
 | zs,(off,n,x)::r=>((x.ev e).may g/\(g=true->(x.ev e).bare.boxable=true/\(x.ev e).bare.cells.length=n/\off+n<=zs.length)/\(dt g e (c8 zs off (x.ev e).bare.cells) r).1,(dt g e (c8 zs off (x.ev e).bare.cells) r).2)
def n6 (e:Env):List Opd->List AV
 | []=>[]
 | x::xs=>(x.ev e).bare::n6 e xs
def bi (g:Bool) (e:Env):List Opd->Prop
 | []=>True
 | x::xs=>(x.ev e).may g/\bi g e xs
def eq2:Nat->AV->AV->Option Bool
 | 0,.r (.v (.int k a)),.r (.v (.int k' b))=>if k=k' then some (a == b) else none
 | 1,.r (.v (.bool a)),.r (.v (.bool b))=>some (a == b)
 | 2,.r (.v (.string a)),.r (.v (.string b))=>some (a.toList == b.toList)
 | _,_,_=>none
def eql:List Nat->List AV->List AV->Option Bool
 | [],[],[]=>some true
 | k::ks,x::xs,y::ys=>match eq2 k x y,eql ks xs ys with
   | some a,some b=>some (a&&b)
   | _,_=>none
 | _,_,_=>none
def AV.isA:AV->Bool
 | .agg _=>true
 | .r (.agg _)=>true
 | _=>false
def zo (g a:Bool):Option Bool->Vs
 | some b=>(True,bl (bif a then !b else b))
 | none=>bad g
def mmL (g c:Bool):AV->List AV->Vs
 | x,[]=>(True,x)
 | .r (.v (.int k a)),.r (.v (.int k' b))::ys=>mmL g c (int k (bif c then max a b else min a b)) ys
 | _,_=>bad g
def lm (g:Bool) (n sz:Nat):AV->AV->Obs->Rs
 | .ptr id ver o,.r (.v (.int _ i)),ob=>match t5 ob id ver with
   | some _=>⟨g=true->0<=i/\i<n,.ptr id ver (o+i.toNat*sz),ob,[id],[]⟩
   | none=>v5 g id ob
 | .oel id ver idx o,.r (.v (.int _ i)),ob=>match l9 ob id ver with
   | some (sz',_)=>⟨g=true->0<=i/\i<n/\o+n*sz<=sz',.oel id ver idx (o+i.toNat*sz),ob,[id],[]⟩
   | none=>v5 g id ob
 | .rp ys,.r (.v (.int _ i)),ob=>Vs.q ob True ((g=true->0<=i/\i<n),.rp (ys.drop (i.toNat*sz)))
 | _,_,ob=>Vs.q ob True (bad g)
def ko (g a:Bool):AV->AV->AV->Vs
 | .r (.v (.int .u64 x)),.r (.v (.int .u64 y)),.r (.v (.int .u64 c))=>((g=true->0<=x/\0<=y/\0<=c/\c<=1/\x<18446744073709551616/\y<18446744073709551616),
  bif a then .tup [int .u64 ((x+18446744073709551616-y-c)%18446744073709551616),int .u64 (if x<y+c then 1 else 0)]
  else .tup [int .u64 ((x+y+c)%18446744073709551616),int .u64 ((x+y+c)/18446744073709551616)])
 | _,_,_=>bad g
def de (str:Bool):Value->Bool
 | .int _ _=>!str
 | .string _=>str
 | _=>false
def ni:Value->Value->Option Bool
 | .int k a,.int k' b=>if k=k' then some (a == b) else none
 | .string a,.string b=>some (a == b)
 | _,_=>none
def be (k:Value):List MapEntry->Nat->Option (Option (Nat×Value))
 | [],_=>some none
 | e::es,i=>match ni k e.key with
   | some true=>some (some (i,e.val))
   | some false=>be k es (i+1)
   | none=>none
def okK (es:List MapEntry) (k:Value):Bool:=(be k es 0).isSome
def jq:Value->RV
 | .agg cs=>.agg (cs.toList.map .v)
 | x=>.v x
def lkR (es:List MapEntry) (k:Value) (z:RV):RV:=match be k es 0 with
 | some (some (_,v))=>jq v
 | _=>z
def lkB (es:List MapEntry) (k:Value):Bool:=match be k es 0 with
 | some (some _)=>true
 | _=>false
def ao (es:List MapEntry) (a:Nat) (k v:Value):List MapEntry:=match be k es 0 with
 | some (some (i,_))=>es.modify i λ e=>{ e with key:=k,val:=v }
 | _=>es++[⟨k,v,a⟩]
def ah (es:List MapEntry) (a:Nat) (k:Value):Nat:=match be k es 0 with
 | some (some _)=>a
 | _=>a+1
def aaj (es:List MapEntry) (a:Nat) (k:Value):Int:=match be k es 0 with
 | some (some (i,_))=>((((es[i]?).map (·.born)).getD 0:Nat):Int)
 | _=>a
def aak (es:List MapEntry) (a:Nat) (k z:Value):List MapEntry:=match be k es 0 with
 | some (some (i,_))=>es.modify i λ e=>{ e with key:=k }
 | _=>es++[⟨k,z,a⟩]
def ajg (es:List MapEntry) (n:Int) (v:Value):List MapEntry:=match es.findIdx? (λ e=>(e.born:Int) == n) with
 | some i=>es.modify i λ e=>{ e with val:=v }
 | none=>es
def arj (es:List MapEntry) (n:Int):Bool:=(es.findIdx? λ e=>(e.born:Int) == n).isSome
def aq (es:List MapEntry) (k:Value):List MapEntry:=match be k es 0 with
 | some (some (i,_))=>es.eraseIdx i
 | _=>es
def xb:List RV->Option (List Value)
 | []=>some []
 | .v x::xs=>match xb xs with
   | some l=>some (x::l)
   | none=>none
 | _=>none
def xc:List AV->Option (List Value)
 | []=>some []
 | .r (.v x)::xs=>match xc xs with
   | some l=>some (x::l)
   | none=>none
 | _=>none
def kh:Option (List Value)->Option Value
 | some l=>some (.agg l.toArray)
 | none=>none
def toV:AV->Option Value
 | .r (.v x)=>some x
 | .r (.agg xs)=>kh (xb xs)
 | .agg xs=>kh (xc xs)
 | _=>none
def t9 (ob:Obs) (id ver:Nat):Option (List MapEntry×Nat):=
 match ob id with
 | some (v,.map es c)=>if ver=v then some (es,c) else none
 | _=>none
def cb (ob:Obs) (id ver:Nat):Option (AV×Nat×List Nat×Nat):=
 match ob id with
 | some (v,.iter m since seen st)=>if ver=v then some (m,since,seen,st) else none
 | _=>none
def rc (g:Bool) (id:Nat) (ob:Obs) (f:List MapEntry->Vs):Option (List MapEntry×Nat)->Rs
 | some (es,_)=>⟨(f es).1,(f es).2,ob,[id],[]⟩
 | none=>v5 g id ob
def uy (g str:Bool) (z:RV) (a:Bool):AV->AV->Obs->Rs
 | .mp id ver,.r (.v k),ob=>rc g id ob (λ es=>((g=true->de str k=true/\okK es k=true),bif a then .tup [.r (lkR es k z),bl (lkB es k)] else .r (lkR es k z))) (t9 ob id ver)
 | _,_,ob=>Vs.q ob True (bad g)
def nq (g:Bool):AV->Obs->Rs
 | .mp id ver,ob=>rc g id ob (λ es=>(True,int .i64 es.length)) (t9 ob id ver)
 | _,ob=>Vs.q ob True (bad g)
def xd (g:Bool) (t:TypeId) (z:RV) (a:Bool):AV->Vs
 | .ifc t' x=>((g=true->t'=t\/a=true),if t'=t then (bif a then .tup [x,bl true] else x) else .tup [.r z,bl false])
 | _=>bad g
def an1 (es:List MapEntry) (a:List Nat):Option MapEntry:=match a.getLast? with
 | some b=>es.find? λ e=>e.born == b
 | none=>none
def zp:Option MapEntry->AV
 | some e=>.tup [.r (jq e.key),.r (jq e.val)]
 | none=>.undef
def sr (g:Bool) (id b:Nat) (ob:Obs) (a:List Nat) (d:Nat):Option (List MapEntry×Nat)->Rs
 | some (es,c)=>⟨g=true->c=d/\(an1 es a).isSome=true,zp (an1 es a),ob,[id,b],[]⟩
 | none=>⟨g=true->False,.undef,ob,[id,b],[]⟩
def rj (g:Bool) (id:Nat) (ob:Obs):Option (AV×Nat×List Nat×Nat)->Rs
 | some (.mp mid mver,_,seen,st)=>sr g id mid ob seen st (t9 ob mid mver)
 | _=>v5 g id ob
def ss (g:Bool):AV->Obs->Rs
 | .ptr id ver 0,ob=>rj g id ob (cb ob id ver)
 | _,ob=>Vs.q ob True (bad g)
def PO.see (g:Bool) (e:Env) (ob:Obs):PO->Rs
 | .mov x=>Vs.q ob ((x.ev e).may g) (True,(x.ev e).bare)
 | .pick c a b=>Vs.q ob ((c.ev e).may g) (qd g (c.ev e).bare (a.ev e) (b.ev e))
 | .bin op x y=>Vs.q ob ((x.ev e).may g/\(y.ev e).may g) (xx g op (x.ev e).bare (y.ev e).bare)
 | .beq neg x y=>Vs.q ob ((x.ev e).may g/\(y.ev e).may g) (xy g neg (x.ev e).bare (y.ev e).bare)
 | .eqn neg x=>Rs.and ((x.ev e).may g) (vd g neg (x.ev e).bare ob)
 | .un op x=>Vs.q ob ((x.ev e).may g) (un1 g op (x.ev e).bare)
 | .conv k x=>Vs.q ob ((x.ev e).may g) (qp g k (x.ev e).bare)
 | .len str x=>Rs.and ((x.ev e).may g) (sq g str (x.ev e).bare ob)
 | .ia sz z x i=>Rs.and ((x.ev e).may g/\(i.ev e).may g) (ia2 g sz z (x.ev e).bare (i.ev e).bare ob)
 | .ixs x i=>Vs.q ob ((x.ev e).may g/\(i.ev e).may g) (xm g (x.ev e).bare (i.ev e).bare)
 | .ld n x=>Rs.and ((x.ev e).may g) (ld1 g n (x.ev e).bare ob)
 | .nck x=>Rs.and ((x.ev e).may g) (uv g (x.ev e).bare ob)
 | .fa off x=>Rs.and ((x.ev e).may g) (fa1 g off (x.ev e).bare ob)
 | .fld off n x=>Vs.q ob ((x.ev e).may g) (xp g off n (x.ev e).bare)
 | .sls x lo hi=>Vs.q ob ((x.ev e).may g/\mayO g e lo/\mayO g e hi) (xg g (x.ev e).bare (bareO e lo) (bareO e hi))
 | .sll sz x lo hi mx=>Rs.and ((x.ev e).may g/\mayO g e lo/\mayO g e hi/\mayO g e mx) (rb g sz (x.ev e).bare (bareO e lo) (bareO e hi) (bareO e mx) ob)
 | .sla n x=>Rs.and ((x.ev e).may g) (sh g n (x.ev e).bare ob)
 | .ext x i=>Vs.q ob ((x.ev e).may g) (xq g i (x.ev e).bare)
 | .toStr x=>Rs.and ((x.ev e).may g) (ig ob (src ob (x.ev e).bare))
 | .build zs ps=>Vs.q ob True (dt g e zs ps)
 | .mkf f xs k=>Vs.q ob (bi g e xs) (True,.fn f (n6 e xs) k)
 | .eqa neg ks x y=>Vs.q ob ((x.ev e).may g/\(y.ev e).may g/\(g=true->(x.ev e).bare.isA=true/\(y.ev e).bare.isA=true)) (zo g neg (eql ks (x.ev e).bare.cells (y.ev e).bare.cells))
 | .mm mx x ys=>Vs.q ob ((x.ev e).may g/\bi g e ys) (mmL g mx (x.ev e).bare (n6 e ys))
 | .iaa n sz x i=>Rs.and ((x.ev e).may g/\(i.ev e).may g) (lm g n sz (x.ev e).bare (i.ev e).bare ob)
 | .carry sub x y c=>Vs.q ob ((x.ev e).may g/\(y.ev e).may g/\(c.ev e).may g) (ko g sub (x.ev e).bare (y.ev e).bare (c.ev e).bare)
 | .lkp str z comma x i=>Rs.and ((x.ev e).may g/\(i.ev e).may g) (uy g str z comma (x.ev e).bare (i.ev e).bare ob)
 | .lenm x=>Rs.and ((x.ev e).may g) (nq g (x.ev e).bare ob)
 | .mki t x=>Vs.q ob ((x.ev e).may g) (True,.ifc t (x.ev e).bare)
 | .tas t z comma x=>Vs.q ob ((x.ev e).may g) (xd g t z comma (x.ev e).bare)
 | .ent x=>Rs.and ((x.ev e).may g) (ss g (x.ev e).bare ob)
 | .no=>Vs.q ob True (bad g)
 | _=>Vs.q ob False (False,.undef)
where
 mayO (g:Bool) (e:Env):Option Opd->Prop
  | none=>True
  | some x=>(x.ev e).may g
 bareO (e:Env):Option Opd->Option AV
  | none=>none
  | some x=>some (x.ev e).bare
def AV.rv (ob:Obs):AV->Option (RV×List Nat)
 | .r x=>some (x,[])
 | .nils sz _=>some (.sl sz [],[])
 | .own id ver lo len=>match l9 ob id ver with
   | some (sz,_,_,_,xs)=>some (.sl sz ((xs.drop lo).take len),[id])
   | none=>none
 | _=>none
def rvs (ob:Obs):List AV->Option (List RV×List Nat)
 | []=>some ([],[])
 | x::xs=>match x.rv ob,rvs ob xs with
   | some (y,i),some (ys,j)=>some (y::ys,i++j)
   | _,_=>none
def AV.elt (ob:Obs):AV->Option (RV×List Nat)
 | .agg xs=>match rvs ob xs with
   | some (ys,i)=>some (.agg ys,i)
   | none=>none
 | x=>x.rv ob
def frz (ob:Obs) (i:Nat):Option (Nat×Ob)->Obs
 | some (v,.row sz z app _ xs)=>upd i (v,.row sz z app false xs) ob
 | _=>ob
def freeze (ob:Obs):List Nat->Obs
 | []=>ob
 | i::is=>freeze (frz ob i (ob i)) is
def z7 (ob:Obs):Rs:=⟨False,.undef,ob,[],[]⟩
def q9 (ob:Obs) (d:Nat) (x:Ob) (y:Nat->AV) (ok:Prop) (rd a:List Nat):Rs:=⟨ok,y (nv ob d),upd d (nv ob d,x) ob,d::rd,d::a⟩
def RV.good (sz:Nat) (x:RV):Bool:=x.cells.length == sz&&x.cells.all (·.one)
def stb (id:Nat) (ver:Nat) (ob:Obs) (n off:Nat) (y:List AV):Option (List AV)->Rs
 | some cells=>⟨y.length=n/\off+n<=cells.length/\y.all (·.one)=true,.undef,upd id (ver,.box (c8 cells off y)) ob,[id],[id]⟩
 | none=>z7 ob
def str (id:Nat) (ver:Nat) (ob:Obs) (n idx off:Nat) (y:List RV):Option (Nat×RV×Bool×Bool×List RV)->Rs
 | some (sz,z,app,wr,xs)=>
   ⟨y.length=n/\off+n<=sz/\wr=true/\y.all (·.one)=true,.undef,
    upd id (ver,.row sz z app wr (xs.set idx (match xs.getD idx z with | .agg cs=>.agg (c8 cs off y) | x=>y.getD 0 x))) ob,[id],[id]⟩
 | none=>z7 ob
def st2 (n:Nat) (x y:AV) (ob:Obs):Rs:=match x with
 | .ptr id ver off=>Rs.and (y.boxable=true) (stb id ver ob n off y.cells (t5 ob id ver))
 | .oel id ver idx off=>match rvs ob y.cells with
   | some (ys,[])=>Rs.and (y.boxable=true) (str id ver ob n idx off ys (l9 ob id ver))
   | _=>z7 ob
 | _=>z7 ob
def rk (d:Nat) (ob:Obs) (sz:Nat) (z:RV) (a:Nat):AV->Option (Nat×List RV×List Nat)->Rs
 | .nils sz' _,some (sy,ys,rd)=>q9 ob d (.row sz z true true ys) (λ v=>.own d v 0 ys.length) (sz'=sz/\sy=sz/\ys.length*a<=140737488355328/\ys.length<=maxLen) rd []
 | .own id ver 0 len,some (sy,ys,rd)=>match l9 ob id ver with
   | some (sz',z',app,wr,xs)=>⟨sz'=sz/\sy=sz/\(app || !par id)=true/\wr=true/\(len+ys.length)*a<=140737488355328/\len+ys.length<=maxLen,
    .own id (ver+1) 0 (len+ys.length),upd id (ver+1,.row sz z' app wr (xs.take len++ys)) ob,id::rd,[id]⟩
   | none=>z7 ob
 | _,_=>z7 ob
def spl {a:Type} (l:List a) (i:Nat) (m:List a):List a:=c8 l i m
def td (ob:Obs) (sz:Nat):AV->Option (Nat×List RV×List Nat)->Rs
 | .own id ver lo n,some (sy,ys,rd)=>match l9 ob id ver with
   | some (sz',z',app,wr,xs)=>⟨sz'=sz/\sy=sz/\wr=true,int .i64 ((Nat.min ys.length n:Nat):Int),upd id (ver,.row sz z' app wr (spl xs lo (ys.take n))) ob,id::rd,[id]⟩
   | none=>z7 ob
 | _,_=>z7 ob
def am (e:Env) (ob:Obs) (g:Bool):List Opd->Option (Prop×List RV×List Nat)
 | []=>some (True,[],[])
 | x::xs=>match (x.ev e).bare.elt ob,am e ob g xs with
   | some (y,i),some (p,ys,j)=>some ((x.ev e).may g/\p,y::ys,i++j)
   | _,_=>none
def acm (l:Int) (z:RV):List RV:=List.replicate l.toNat z
def gh (d:Nat) (z:RV) (ob:Obs):AV->Rs
 | .r (.v (.string s))=>q9 ob d (.row 1 z false true (s.data.toList.map λ b=>.v (.int .u8 b.toNat))) (λ v=>.own d v 0 s.size) (s.size<=maxLen) [] []
 | _=>z7 ob
def aa9 (d:Nat) (sz:Nat) (z:RV) (a:Nat) (ob:Obs):AV->AV->Rs
 | .r (.v (.int _ l)),.r (.v (.int _ c))=>q9 ob d (.row sz z true true (acm l z)) (λ v=>.own d v 0 l.toNat) (0<=l/\l<=c/\c<=maxLen/\c*a<=281474976710656) [] []
 | _,_=>z7 ob
def nf (id ver:Nat) (ob:Obs) (ok:List MapEntry->Prop) (b:List MapEntry->Nat->List MapEntry) (a:List MapEntry->Nat->Nat):Option (List MapEntry×Nat)->Rs
 | some (es,c)=>⟨ok es,.undef,upd id (ver,.map (b es c) (a es c)) ob,[id],[id]⟩
 | none=>z7 ob
def sf (str:Bool) (k:Value) (id ver:Nat) (ob:Obs):Option Value->Rs
 | some v=>nf id ver ob (λ es=>de str k=true/\okK es k=true) (λ es c=>ao es c k v) (λ es c=>ah es c k) (t9 ob id ver)
 | none=>z7 ob
def ajh (str:Bool) (k z:Value) (id ver:Nat) (ob:Obs):Option (List MapEntry×Nat)->Rs
 | some (es,c)=>⟨de str k=true/\okK es k=true,.tup [.r (lkR es k (.v z)),int .i64 (aaj es c k)],upd id (ver,.map (aak es c k z) (ah es c k)) ob,[id],[id]⟩
 | none=>z7 ob
def ady (str:Bool) (z:RV):AV->AV->Obs->Rs
 | .mp id ver,.r (.v k),ob=>match z with
   | .v zv=>ajh str k zv id ver ob (t9 ob id ver)
   | _=>z7 ob
 | _,_,ob=>z7 ob
def aly (n:Int) (id ver:Nat) (ob:Obs):Option Value->Rs
 | some v=>nf id ver ob (λ es=>arj es n=true) (λ es _=>ajg es n v) (λ _ c=>c) (t9 ob id ver)
 | none=>z7 ob
def agv:AV->AV->AV->Obs->Rs
 | .mp id ver,.r (.v (.int _ n)),y,ob=>aly n id ver ob (toV y)
 | _,_,_,ob=>z7 ob
def nl (str:Bool):AV->AV->AV->Obs->Rs
 | .mp id ver,.r (.v k),y,ob=>sf str k id ver ob (toV y)
 | _,_,_,ob=>z7 ob
def nn (str:Bool):AV->AV->Obs->Rs
 | .mp id ver,.r (.v k),ob=>nf id ver ob (λ es=>de str k=true/\okK es k=true) (λ es _=>aq es k) (λ _ c=>c) (t9 ob id ver)
 | _,_,ob=>z7 ob
def zg (d b a:Nat) (ob:Obs):Option (List MapEntry×Nat)->Rs
 | some (_,c)=>q9 ob d (.iter (.mp b a) c [] c) (λ v=>.ptr d v 0) True [b] []
 | none=>z7 ob
def si (d:Nat):AV->Obs->Rs
 | .mp mid mver,ob=>zg d mid mver ob (t9 ob mid mver)
 | _,ob=>z7 ob
def xr (ob:Obs):AV->AV->Rs
 | .own id ver lo n,.r (.v (.string s))=>match l9 ob id ver with
   | some (sz,z',app,wr,xs)=>⟨sz=1/\wr=true,int .i64 ((Nat.min (s.data.toList.map λ b=>RV.v (.int .u8 b.toNat)).length n:Nat):Int),upd id (ver,.row 1 z' app wr (spl xs lo ((s.data.toList.map λ b=>RV.v (.int .u8 b.toNat)).take n))) ob,[id],[id]⟩
   | none=>z7 ob
 | _,_=>z7 ob
def xw (ob:Obs) (sz:Nat) (z:RV):AV->Rs
 | .own id ver lo n=>match l9 ob id ver with
   | some (sz',z',app,wr,xs)=>⟨sz'=sz/\wr=true,.undef,upd id (ver,.row sz z' app wr (spl xs lo (List.replicate n z))) ob,[id],[id]⟩
   | none=>z7 ob
 | _=>z7 ob
def xl (ob:Obs):AV->Rs
 | .own id ver lo len=>match l9 ob id ver with
   | some (sz,z',app,wr,xs)=>⟨app=true/\wr=true/\0<len,.own id ver lo len,upd id (ver,.row sz z' false wr xs) ob,[id],[id]⟩
   | none=>z7 ob
 | _=>z7 ob
def PO.act (d:Nat) (e:Env) (ob:Obs):PO->Rs
 | .new zs=>q9 ob d (.box zs) (λ v=>.ptr d v 0) True [] []
 | .box x=>q9 ob d (.box (x.ev e).bare.cells) (λ v=>.ptr d v 0) ((x.ev e).may true/\(x.ev e).bare.boxable=true) [] []
 | .bsl sz z ps=>match am e ob true ps with
   | some (p,ys,fz)=>q9 (freeze ob fz) d (.row sz z true true ys) (λ v=>.own d v 0 ys.length) (p/\ys.all (·.good sz)=true/\d∉fz) fz fz
   | none=>z7 ob
 | .st n x y=>Rs.and ((x.ev e).may true/\(y.ev e).may true) (st2 n (x.ev e).bare (y.ev e).bare ob)
 | .cpy sz x y=>Rs.and ((x.ev e).may true/\(y.ev e).may true) (td ob sz (x.ev e).bare (src ob (y.ev e).bare))
 | .app sz z bytes x y=>Rs.and ((x.ev e).may true/\(y.ev e).may true) (rk d ob sz z bytes (x.ev e).bare (src ob (y.ev e).bare))
 | .toBytes z x=>Rs.and ((x.ev e).may true) (gh d z ob (x.ev e).bare)
 | .mks sz z bytes l c=>Rs.and ((l.ev e).may true/\(c.ev e).may true) (aa9 d sz z bytes ob (l.ev e).bare (c.ev e).bare)
 | .mkm=>q9 ob d (.map [] 0) (λ v=>.mp d v) True [] []
 | .ment str z x i=>Rs.and ((x.ev e).may true/\(i.ev e).may true) (ady str z (x.ev e).bare (i.ev e).bare ob)
 | .mest x i y=>Rs.and ((x.ev e).may true/\(i.ev e).may true/\(y.ev e).may true) (agv (x.ev e).bare (i.ev e).bare (y.ev e).bare ob)
 | .mset str x i y=>Rs.and ((x.ev e).may true/\(i.ev e).may true/\(y.ev e).may true) (nl str (x.ev e).bare (i.ev e).bare (y.ev e).bare ob)
 | .mdel str x i=>Rs.and ((x.ev e).may true/\(i.ev e).may true) (nn str (x.ev e).bare (i.ev e).bare ob)
 | .rng x=>Rs.and ((x.ev e).may true) (si d (x.ev e).bare ob)
 | .mrk x=>Rs.and ((x.ev e).may true) (xl ob (x.ev e).bare)
 | .clr sz z x=>Rs.and ((x.ev e).may true) (xw ob sz z (x.ev e).bare)
 | .cps x y=>Rs.and ((x.ev e).may true/\(y.ev e).may true) (xr ob (x.ev e).bare (y.ev e).bare)
 | _=>z7 ob

def Opd.us:Opd->List Nat
 | .t n=>[n]
 | .c _=>[]
def usO:Option Opd->List Nat
 | none=>[]
 | some x=>x.us
def usL:List Opd->List Nat
 | []=>[]
 | x::xs=>x.us++usL xs
def usP:List (Nat×Nat×Opd)->List Nat
 | []=>[]
 | (_,_,x)::r=>x.us++usP r
def PO.us:PO->List Nat
 | .mov x=>x.us
 | .pick c a b=>c.us++(a.us++b.us)
 | .bin _ x y=>x.us++y.us
 | .beq _ x y=>x.us++y.us
 | .eqn _ x=>x.us
 | .un _ x=>x.us
 | .conv _ x=>x.us
 | .toStr x=>x.us
 | .sla _ x=>x.us
 | .clr _ _ x=>x.us
 | .toBytes _ x=>x.us
 | .new _=>[]
 | .box x=>x.us
 | .build _ ps=>usP ps
 | .mkf _ xs _=>usL xs
 | .eqa _ _ x y=>x.us++y.us
 | .bsl _ _ ps=>usL ps
 | .ld _ x=>x.us
 | .st _ x y=>x.us++y.us
 | .nck x=>x.us
 | .fa _ x=>x.us
 | .fld _ _ x=>x.us
 | .ia _ _ x i=>x.us++i.us
 | .ixs x i=>x.us++i.us
 | .sls x lo hi=>x.us++(usO lo++usO hi)
 | .sll _ x lo hi mx=>x.us++(usO lo++(usO hi++usO mx))
 | .mks _ _ _ l c=>l.us++c.us
 | .len _ x=>x.us
 | .app _ _ _ x y=>x.us++y.us
 | .cpy _ x y=>x.us++y.us
 | .ext x _=>x.us
 | .mm _ x ys=>x.us++usL ys
 | .iaa _ _ x i=>x.us++i.us
 | .carry _ x y c=>x.us++(y.us++c.us)
 | .lkp _ _ _ x i=>x.us++i.us
 | .lenm x=>x.us
 | .mki _ x=>x.us
 | .tas _ _ _ x=>x.us
 | .ent x=>x.us
 | .mkm=>[]
 | .no=>[]
 | .mset _ x i y=>x.us++(i.us++y.us)
 | .mest x i y=>x.us++(i.us++y.us)
 | .ment _ _ x i=>x.us++i.us
 | .mdel _ x i=>x.us++i.us
 | .rng x=>x.us
 | .mrk x=>x.us
 | .cps x y=>x.us++y.us
theorem bn {p:Nat->Prop} {a b:List Nat} (h:∀t,t∈a++b->p t):(∀t,t∈a->p t)/\∀t,t∈b->p t:=⟨λ t c=>h t (by simp [c]),λ t c=>h t (by simp [c])⟩
section
variable {e e':Env} {ob ob':Obs}
theorem v4 {x:Opd} (h:∀t,t∈x.us->e' t=e t):x.ev e'=x.ev e:=by
 cases x with
 | t n=>exact h n (by simp [Opd.us])
 | c x=>rfl
theorem ux {g:Bool} {x:Option Opd} (h:∀t,t∈usO x->e' t=e t):PO.see.mayO g e' x=PO.see.mayO g e x:=by
 cases x with
 | none=>rfl
 | some x=>simp only [PO.see.mayO,v4 h]
theorem sb {x:Option Opd} (h:∀t,t∈usO x->e' t=e t):PO.see.bareO e' x=PO.see.bareO e x:=by
 cases x with
 | none=>rfl
 | some x=>simp only [PO.see.bareO,v4 h]
theorem aho {g:Bool}:∀{c:List (Nat×Nat×Opd)} {b:List AV},(∀t,t∈usP c->e' t=e t)->dt g e' b c=dt g e b c
 | [],b,h=>rfl
 | (off,n,x)::r,b,h=>by
   obtain ⟨d,f⟩:=bn (a:=x.us) h;simp only [dt,v4 d];rw [aho f]
theorem mw:∀{xs:List Opd},(∀t,t∈usL xs->e' t=e t)->n6 e' xs=n6 e xs
 | [],h=>rfl
 | x::r,h=>by
   obtain ⟨b,c⟩:=bn (a:=x.us) h;simp only [n6,v4 b,mw c]
theorem qh {g:Bool}:∀{xs:List Opd},(∀t,t∈usL xs->e' t=e t)->bi g e' xs=bi g e xs
 | [],h=>rfl
 | x::r,h=>by
   obtain ⟨b,c⟩:=bn (a:=x.us) h;simp only [bi,v4 b,qh c]
theorem ajv {g:Bool}:∀{xs:List Opd},(∀t,t∈usL xs->e' t=e t)->am e' ob g xs=am e ob g xs
 | [],h=>rfl
 | x::r,h=>by
   obtain ⟨b,c⟩:=bn (a:=x.us) h;simp only [am,v4 b,ajv c]
theorem ay8 {o:PO} {g:Bool} (h:∀t,t∈o.us->e' t=e t):o.see g e' ob=o.see g e ob:=by
 cases o with
 | pick c a b | carry _ c a b=>
   obtain ⟨i,d⟩:=bn (a:=c.us) h;obtain ⟨d,j⟩:=bn d;simp only [PO.see,v4 i,v4 d,v4 j]
 | bin _ x y | beq _ x y | eqa _ _ x y | ia _ _ x y | ixs x y | iaa _ _ x y | lkp _ _ _ x y=>
   obtain ⟨i,d⟩:=bn h;simp only [PO.see,v4 i,v4 d]
 | sls x lo hi=>
   obtain ⟨i,d⟩:=bn (a:=x.us) h;obtain ⟨d,j⟩:=bn d;simp only [PO.see,v4 i,ux d,ux j,sb d,sb j]
 | sll _ x lo hi mx=>
   obtain ⟨i,d⟩:=bn (a:=x.us) h;obtain ⟨d,j⟩:=bn (a:=usO lo) d;obtain ⟨j,l⟩:=bn j;simp only [PO.see,v4 i,ux d,ux j,ux l,sb d,sb j,sb l]
 | mm _ x ys=>
   obtain ⟨i,d⟩:=bn (a:=x.us) h;simp only [PO.see,v4 i,qh d,mw d]
 | build zs ps=>simp only [PO.see,aho (show ∀t,t∈usP ps->e' t=e t from h)]
 | mkf f xs k=>
   simp only [PO.see,qh (show ∀t,t∈usL xs->e' t=e t from h),mw (show ∀t,t∈usL xs->e' t=e t from h)]
 | sla _ x | lenm x | mki _ x | tas _ _ _ x | ent x | mov x | eqn _ x | un _ x | conv _ x | toStr x | ld _ x | nck x | fa _ x | fld _ _ x | len _ x | ext x _=>
   simp only [PO.see,v4 (show ∀t,t∈x.us->e' t=e t from h)]
 | toBytes _ _ | new _ | box _ | bsl _ _ _ | st _ _ _ | mks _ _ _ _ _ | app _ _ _ _ _ | cpy _ _ _ | mkm | mset _ _ _ _ | ment _ _ _ _ | mest _ _ _ | mdel _ _ _ | rng _ | mrk _ | cps _ _ | clr _ _ _ | no=>rfl
theorem a1g {o:PO} {d:Nat} (h:∀t,t∈o.us->e' t=e t):o.act d e' ob=o.act d e ob:=by
 cases o with
 | mset _ x i y | mest x i y=>
   obtain ⟨c,b⟩:=bn (a:=x.us) h;obtain ⟨b,f⟩:=bn b;simp only [PO.act,v4 c,v4 b,v4 f]
 | st _ x y | mks _ _ _ x y | app _ _ _ x y | cpy _ x y | mdel _ x y | ment _ _ x y | cps x y=>
   obtain ⟨c,b⟩:=bn h;simp only [PO.act,v4 c,v4 b]
 | bsl _ _ ps=>simp only [PO.act,ajv (show ∀t,t∈usL ps->e' t=e t from h)]
 | box x | toBytes _ x | rng x | mrk x | clr _ _ x=>simp only [PO.act,v4 (show ∀t,t∈x.us->e' t=e t from h)]
 | _=>rfl
theorem q8 {ver:Nat} (h:ob' id=ob id):l9 ob' id ver=l9 ob id ver:=by unfold l9; rw [h]
theorem bo {ver:Nat} (h:ob' id=ob id):t5 ob' id ver=t5 ob id ver:=by unfold t5; rw [h]
theorem ale {ver:Nat} (h:ob' id=ob id):go ob' id ver=go ob id ver:=by unfold go; rw [h]
theorem oh {ver:Nat} (h:ob' id=ob id):t9 ob' id ver=t9 ob id ver:=by unfold t9; rw [h]
theorem aal {ver:Nat} (h:ob' id=ob id):cb ob' id ver=cb ob id ver:=by unfold cb; rw [h]
theorem aa6 (h:ob' id=ob id):nv ob' id=nv ob id:=by unfold nv; rw [h]
def ct (ob ob':Obs) (l:List Nat):Prop:=∀i,i∈l->ob' i=ob i
def u6 (ob ob':Obs) (f:Obs->Rs):Prop:=(f ob).ok->ct ob ob' (f ob).rd->(f ob').ok/\(f ob').v=(f ob).v
theorem u6.and {p:Prop} {f:Obs->Rs} (h:u6 ob ob' f):u6 ob ob' λ ob=>Rs.and p (f ob):=λ ⟨c,a⟩ b=>⟨⟨c,(h a b).1⟩,(h a b).2⟩
theorem u5 {p:Prop} {v:Vs}:u6 ob ob' λ ob=>Vs.q ob p v:=λ h _=>⟨h,rfl⟩
theorem as8 {g:Bool} {ver:Nat} {k:Nat×RV×Bool×Bool×List RV->Obs->Rs} (d:∀x,id∈(k x ob).rd) (c:∀x,u6 ob ob' (k x)) :
 u6 ob ob' λ ob=>match l9 ob id ver with | some x=>k x ob | none=>v5 g id ob:=by
 intro a b;rcases hr:l9 ob id ver with _ | x
 ·simp only [hr] at a b |-;rw [q8 (b id (by simp [v5])),hr];exact ⟨a,rfl⟩
 simp only [hr] at a b |-;rw [q8 (b id (d x)),hr];exact c x a b
theorem ath {g:Bool} {ver:Nat} {k:List AV->Obs->Rs} (d:∀x,id∈(k x ob).rd) (c:∀x,u6 ob ob' (k x)) :
 u6 ob ob' λ ob=>match t5 ob id ver with | some x=>k x ob | none=>v5 g id ob:=by
 intro a b;rcases hr:t5 ob id ver with _ | x
 ·simp only [hr] at a b |-;rw [bo (b id (by simp [v5])),hr];exact ⟨a,rfl⟩
 simp only [hr] at a b |-;rw [bo (b id (d x)),hr];exact c x a b
theorem alc {g:Bool} {ver:Nat} {k:Unit->Obs->Rs} (d:∀x,id∈(k x ob).rd) (c:∀x,u6 ob ob' (k x)) :
 u6 ob ob' λ ob=>match go ob id ver with | some x=>k x ob | none=>v5 g id ob:=by
 intro a b;rcases hr:go ob id ver with _ | x
 ·simp only [hr] at a b |-;rw [ale (b id (by simp [v5])),hr];exact ⟨a,rfl⟩
 simp only [hr] at a b |-;rw [ale (b id (d x)),hr];exact c x a b
theorem ald {g:Bool} {ver:Nat} {f:List MapEntry->Vs}:u6 ob ob' λ ob=>rc g id ob f (t9 ob id ver):=by
 intro a b;rcases hr:t9 ob id ver with _ | ⟨es,c⟩
 ·simp only [hr] at a b |-;rw [oh (b id (by simp [rc,v5])),hr];exact ⟨a,rfl⟩
 simp only [hr] at a b |-;rw [oh (b id (by simp [rc])),hr];exact ⟨a,rfl⟩
theorem ata {g str:Bool} {z:RV} {a:Bool} {x y:AV}:u6 ob ob' (uy g str z a x y):=by
 cases x with
 | mp id ver=>cases y with
   | r y=>cases y with
     | v k=>exact ald
     | _=>exact u5
   | _=>exact u5
 | _=>exact u5
theorem aq2 {g:Bool} {x:AV}:u6 ob ob' (nq g x):=by
 cases x with
 | mp id ver=>exact ald
 | _=>exact u5
theorem atg {g:Bool} {x:AV}:u6 ob ob' (ss g x):=by
 cases x with
 | ptr id ver off=>cases off with
   | succ off=>exact u5
   | zero=>
     intro a b;simp only [ss] at a b |-;rcases hr:cb ob id ver with _ | ⟨m,d,e,f⟩
     ·rw [hr] at a b;rw [aal (b id (by simp [rj,v5])),hr];exact ⟨a,rfl⟩
     rw [hr] at a b;cases m with
     | mp mid mver=>
       simp only [rj] at a b |-;rcases hm:t9 ob mid mver with _ | ⟨es,c⟩
       ·rw [hm] at a b;rw [aal (b id (by simp [sr])),hr];simp only [rj];rw [oh (b mid (by simp [sr])),hm];exact ⟨a,rfl⟩
       rw [hm] at a b;rw [aal (b id (by simp [sr])),hr];simp only [rj];rw [oh (b mid (by simp [sr])),hm];exact ⟨a,rfl⟩
     | _=>
       rw [aal (b id (by simp [rj,v5])),hr];exact ⟨a,rfl⟩
 | _=>exact u5
theorem atb {g str:Bool} {x:AV}:u6 ob ob' (sq g str x):=by
 cases x with
 | own id ver lo n=>
   intro a b;simp only [sq] at a b |-;rcases hr:l9 ob id ver with _ | c
   ·rw [hr] at a b;simp only at a b |-;rcases hb:t5 ob id ver with _ | q
    ·rw [hb] at a b;have d:=b id (by simp [v5,leb]);rw [q8 d,hr];simp only;rw [bo d,hb];exact ⟨a,rfl⟩
    rw [hb] at a b;have d:=b id (by simp [leb]);rw [q8 d,hr];simp only;rw [bo d,hb];exact ⟨a,rfl⟩
   rw [hr] at a b;rw [q8 (b id (by simp)),hr];exact ⟨a,rfl⟩
 | r x=>cases x with
   | v x=>cases x<;>exact u5
   | _=>exact u5
 | _=>exact u5
theorem avt {g:Bool} {sz:Nat} {z:RV} {x y:AV}:u6 ob ob' (ia2 g sz z x y):=by
 rcases y with ⟨v | _ | _⟩ | _ | _ | _ | _ | _ | _ | _ | _ | _ | _ | _ | _
 ·cases v with
  | int k i=>
    cases x with
    | own id ver lo n=>
      intro a b;simp only [ia2] at a b |-;rcases hr:l9 ob id ver with _ | c
      ·rw [hr] at a b;simp only at a b |-;rcases hb:t5 ob id ver with _ | q
       ·rw [hb] at a b;have d:=b id (by simp [v5,iab]);rw [q8 d,hr];simp only;rw [bo d,hb];exact ⟨a,rfl⟩
       rw [hb] at a b;have d:=b id (by simp [iab]);rw [q8 d,hr];simp only;rw [bo d,hb];exact ⟨a,rfl⟩
      rw [hr] at a b;rw [q8 (b id (by simp)),hr];exact ⟨a,rfl⟩
    | r x=>cases x<;>exact u5
    | _=>exact u5
  | _=>rcases x with ⟨_ | _ | _⟩ | _ | _ | _ | _ | _ | _ | _ | _ | _ | _ | _ | _<;>exact u5
 all_goals rcases x with ⟨_ | _ | _⟩ | _ | _ | _ | _ | _ | _ | _ | _ | _ | _ | _ | _<;>exact u5
theorem ate {g:Bool} {n sz:Nat} {x y:AV}:u6 ob ob' (lm g n sz x y):=by
 rcases y with ⟨v | _ | _⟩ | _ | _ | _ | _ | _ | _ | _ | _ | _ | _ | _ | _
 ·cases v with
  | int k i=>
    cases x with
    | ptr id ver o=>
      intro a b;simp only [lm] at a b |-;rcases hr:t5 ob id ver with _ | c
      ·rw [hr] at a b;rw [bo (b id (by simp [v5,ldb,ldr])),hr];exact ⟨a,rfl⟩
      rw [hr] at a b;rw [bo (b id (by simp)),hr];exact ⟨a,rfl⟩
    | oel id ver j o=>
      intro a b;simp only [lm] at a b |-;rcases hr:l9 ob id ver with _ | c
      ·rw [hr] at a b;rw [q8 (b id (by simp [v5,ldb,ldr])),hr];exact ⟨a,rfl⟩
      rw [hr] at a b;rw [q8 (b id (by simp)),hr];exact ⟨a,rfl⟩
    | _=>exact u5
  | _=>rcases x with ⟨_ | _ | _⟩ | _ | _ | _ | _ | _ | _ | _ | _ | _ | _ | _ | _<;>exact u5
 all_goals rcases x with ⟨_ | _ | _⟩ | _ | _ | _ | _ | _ | _ | _ | _ | _ | _ | _ | _<;>exact u5
theorem as9 {g:Bool} {x:AV}:u6 ob ob' (uv g x):=by
 cases x with
 | ptr id ver off=>exact alc (k:=λ _ ob=>⟨True,.ptr id ver off,ob,[id],[]⟩) (λ _=>by simp) λ _ h _=>⟨h,rfl⟩
 | oel id ver i off=>exact as8 (k:=λ _ ob=>⟨True,.oel id ver i off,ob,[id],[]⟩) (λ _=>by simp) λ _ h _=>⟨h,rfl⟩
 | fn f xs=>cases f<;>exact u5
 | _=>exact u5
theorem atf {g b:Bool} {x:AV}:u6 ob ob' (vd g b x):=by
 cases x with
 | ptr id ver off=>exact alc (k:=λ _ ob=>⟨True,bl b,ob,[id],[]⟩) (λ _=>by simp) λ _ h _=>⟨h,rfl⟩
 | r x=>cases x with
   | v x=>cases x with
     | pointer a=>cases a<;>exact u5
     | _=>exact u5
   | _=>exact u5
 | _=>exact u5
theorem avu {g:Bool} {off:Nat} {x:AV}:u6 ob ob' (fa1 g off x):=by
 cases x with
 | ptr id ver o=>exact ath (k:=λ _ ob=>⟨True,.ptr id ver (o+off),ob,[id],[]⟩) (λ _=>by simp) λ _ h _=>⟨h,rfl⟩
 | oel id ver i o=>
   intro a b;simp only [fa1] at a b |-;rcases hr:l9 ob id ver with _ | c
   ·rw [hr] at a b;rw [q8 (b id (by simp [v5,ldb,ldr])),hr];exact ⟨a,rfl⟩
   rw [hr] at a b;rw [q8 (b id (by simp)),hr];exact ⟨a,rfl⟩
 | _=>exact u5
theorem atd {g:Bool} {n:Option Nat} {off:Nat} {c:Option (List AV)}:u6 ob ob' λ ob=>ldb id ob g n off c:=by
 unfold ldb;intro h a;split at h<;>(try split at h)<;>exact ⟨h,rfl⟩
theorem atc {g:Bool} {n:Option Nat} {idx off:Nat} {c:Option (Nat×RV×Bool×Bool×List RV)}:u6 ob ob' λ ob=>ldr id ob g n idx off c:=by
 unfold ldr;intro h a;split at h<;>(try split at h)<;>exact ⟨h,rfl⟩
theorem a3b {g:Bool} {n:Option Nat} {off:Nat} {c:List AV}:id∈(ldb id ob g n off (some c)).rd:=by unfold ldb; cases n<;>simp
theorem a3a {g:Bool} {n:Option Nat} {idx off:Nat} {c:Nat×RV×Bool×Bool×List RV}:id∈(ldr id ob g n idx off (some c)).rd:=by unfold ldr; cases n<;>simp
theorem avs {g:Bool} {n:Option Nat} {x:AV}:u6 ob ob' (ld1 g n x):=by
 cases x with
 | ptr id ver off=>
   intro a b;simp only [ld1] at a b |-;rcases hr:t5 ob id ver with _ | c
   ·rw [hr] at a b;rw [bo (b id (by simp [v5,ldb,ldr])),hr];exact ⟨a,rfl⟩
   rw [hr] at a b;rw [bo (b id a3b),hr];exact atd a b
 | oel id ver i off=>
   intro a b;simp only [ld1] at a b |-;rcases hr:l9 ob id ver with _ | c
   ·rw [hr] at a b;rw [q8 (b id (by simp [v5,ldb,ldr])),hr];exact ⟨a,rfl⟩
   rw [hr] at a b;rw [q8 (b id a3a),hr];exact atc a b
 | rp ys=>cases n<;>exact u5
 | _=>exact u5
theorem as7 {g:Bool} {n:Nat} {x:AV}:u6 ob ob' (sh g n x):=by
 cases x with
 | ptr id ver o=>
   intro a b;simp only [sh] at a b |-;rcases hr:t5 ob id ver with _ | c
   ·rw [hr] at a b;rw [bo (b id (by simp [v5,zf])),hr];exact ⟨a,rfl⟩
   rw [hr] at a b;rw [bo (b id (by simp [zf])),hr];exact ⟨a,rfl⟩
 | _=>exact u5
theorem as6 {g:Bool} {sz:Nat} {x:AV} {f d e:Option AV}:u6 ob ob' (rb g sz x f d e):=by
 cases x with
 | own id ver l0 n=>
   intro a b;rcases h1:bnd 0 f with _ | l<;>rcases h2:bnd n d with _ | h<;>rcases h3:bnd n e with _ | m<;>simp only [rb,h1,h2,h3] at a b |-
   all_goals first
    | exact ⟨a,rfl⟩
    | (rcases hr:l9 ob id ver with _ | c
       ·rw [hr] at a b;rw [q8 (b id (by simp [v5])),hr];exact ⟨a,rfl⟩
       rw [hr] at a b;rw [q8 (b id (by simp)),hr]
       exact ⟨a,rfl⟩)
 | r x=>cases x with
   | sl sz' xs=>
     intro a b;simp only [rb] at a b |-;split at a<;>exact ⟨a,rfl⟩
   | _=>exact u5
 | _=>exact u5
theorem abt {x:AV} {sz:Nat} {ys:List RV} {l:List Nat} (h:src ob x=some (sz,ys,l)) (a:ct ob ob' l):src ob' x=some (sz,ys,l):=by
 unfold src at h |-;split at h
 ·exact h
 ·exact h
 ·rename_i id ver b len;rcases hr:l9 ob id ver with _ | c
  ·simp only [hr] at h; cases h
  simp only [hr] at h;cases h;rw [q8 (a id (by simp)),hr]
 cases h
theorem as5 {x:AV}:u6 ob ob' λ ob=>ig ob (src ob x):=by
 intro a b;rcases hr:src ob x with _ | ⟨sz,ys,l⟩
 ·simp only [hr,ig] at a; exact a.1.elim
 simp only [hr,ig] at a b |-;rw [abt hr b];exact ⟨a,rfl⟩
theorem a15 {o:PO} {g:Bool} {e:Env}:u6 ob ob' λ ob=>o.see g e ob:=by
 cases o with
 | eqn _ x=>exact u6.and atf
 | len _ x=>exact u6.and atb
 | ia _ _ x i=>exact u6.and avt
 | iaa _ _ x i=>exact u6.and ate
 | ld _ x=>exact u6.and avs
 | nck x=>exact u6.and as9
 | fa _ x=>exact u6.and avu
 | sll _ x lo hi mx=>exact u6.and as6
 | sla n x=>exact u6.and as7
 | toStr x=>exact u6.and as5
 | lkp _ _ _ x i=>exact u6.and ata
 | lenm x=>exact u6.and aq2
 | ent x=>exact u6.and atg
 | _=>exact u5
def pin:Option (Nat×Ob)->Option (Nat×Option Nat)
 | some (v,.box _)=>some (v,none)
 | some (v,.row sz _ _ _ _)=>some (v,some sz)
 | _=>none
def au7 (ob ob':Obs) (l:List Nat):Prop:=∀i,i∈l->pin (ob' i)=pin (ob i)
def PO.adr:PO->Bool
 | .fa _ _=>true
 | .iaa _ _ _ _=>true
 | .ia _ _ _ _=>true
 | _=>false
def ox (ob ob':Obs) (f:Obs->Rs):Prop:=(f ob).ok->au7 ob ob' (f ob).rd->(f ob').ok/\(f ob').v=(f ob).v
theorem ox.and {p:Prop} {f:Obs->Rs} (h:ox ob ob' f):ox ob ob' λ ob=>Rs.and p (f ob):=λ ⟨c,a⟩ b=>⟨⟨c,(h a b).1⟩,(h a b).2⟩
theorem od {p:Prop} {v:Vs}:ox ob ob' λ ob=>Vs.q ob p v:=λ h _=>⟨h,rfl⟩
theorem ak2 {ver:Nat} (h:pin (ob' id)=pin (ob id)):(t5 ob id ver=none/\t5 ob' id ver=none)\/∃c c',t5 ob id ver=some c/\t5 ob' id ver=some c':=by
 unfold t5
 revert h
 generalize ob id=q;generalize ob' id=j;intro h;rcases q with _ | ⟨v,c | ⟨sz,z,g,l,xs⟩ | T | _ | _⟩<;>rcases j with _ | ⟨f,c' | ⟨b,k,a,i,d⟩ | m | _ | _⟩<;>simp [pin] at h |-;subst h;by_cases e:ver=f<;>simp [e]
theorem ake {ver:Nat} (h:pin (ob' id)=pin (ob id)):(l9 ob id ver=none/\l9 ob' id ver=none)\/∃sz c c',l9 ob id ver=some (sz,c)/\l9 ob' id ver=some (sz,c'):=by
 unfold l9
 revert h
 generalize ob id=q;generalize ob' id=j;intro h;rcases q with _ | ⟨v,c | ⟨sz,z,g,l,xs⟩ | T | _ | _⟩<;>rcases j with _ | ⟨f,c' | ⟨b,k,a,i,d⟩ | m | _ | _⟩<;>simp [pin] at h |-;obtain ⟨rfl,rfl⟩:=h;by_cases e:ver=f<;>simp [e]
theorem atj {g:Bool} {off:Nat} {x:AV}:ox ob ob' (fa1 g off x):=by
 cases x with
 | ptr id ver o=>
   intro a e;simp only [fa1] at a e |-;have f:pin (ob' id)=pin (ob id):=e id (by split<;>simp [v5]);rcases ak2 (ver:=ver) f with ⟨b,d⟩ | ⟨c,c',b,d⟩
   ·rw [b] at a |-; rw [d]; exact ⟨a,rfl⟩
   rw [b]; rw [d]; exact ⟨trivial,rfl⟩
 | oel id ver i o=>
   intro a e;simp only [fa1] at a e |-;have f:pin (ob' id)=pin (ob id):=e id (by split<;>simp [v5]);rcases ake (ver:=ver) f with ⟨b,d⟩ | ⟨sz,c,c',b,d⟩
   ·rw [b] at a |-; rw [d]; exact ⟨a,rfl⟩
   rw [b] at a |-; rw [d]; exact ⟨a,rfl⟩
 | _=>exact od
theorem aq3 {g:Bool} {n sz:Nat} {x y:AV}:ox ob ob' (lm g n sz x y):=by
 rcases y with ⟨v | _ | _⟩ | _ | _ | _ | _ | _ | _ | _ | _ | _ | _ | _ | _
 ·cases v with
  | int k i=>
    cases x with
    | ptr id ver o=>
      intro a e;simp only [lm] at a e |-;have f:pin (ob' id)=pin (ob id):=e id (by split<;>simp [v5]);rcases ak2 (ver:=ver) f with ⟨b,d⟩ | ⟨c,c',b,d⟩
      ·rw [b] at a |-; rw [d]; exact ⟨a,rfl⟩
      rw [b] at a |-; rw [d]; exact ⟨a,rfl⟩
    | oel id ver j o=>
      intro a e;simp only [lm] at a e |-;have f:pin (ob' id)=pin (ob id):=e id (by split<;>simp [v5]);rcases ake (ver:=ver) f with ⟨b,d⟩ | ⟨h,c,c',b,d⟩
      ·rw [b] at a |-; rw [d]; exact ⟨a,rfl⟩
      rw [b] at a |-; rw [d]; exact ⟨a,rfl⟩
    | _=>exact od
  | _=>rcases x with ⟨_ | _ | _⟩ | _ | _ | _ | _ | _ | _ | _ | _ | _ | _ | _ | _<;>exact od
 all_goals rcases x with ⟨_ | _ | _⟩ | _ | _ | _ | _ | _ | _ | _ | _ | _ | _ | _ | _<;>exact od
theorem ati {g:Bool} {sz:Nat} {z:RV} {x y:AV}:ox ob ob' (ia2 g sz z x y):=by
 rcases y with ⟨v | _ | _⟩ | _ | _ | _ | _ | _ | _ | _ | _ | _ | _ | _ | _
 ·cases v with
  | int k i=>
    cases x with
    | own id ver lo n=>
      intro a j;simp only [ia2] at a j |-;have h:pin (ob' id)=pin (ob id):=j id (by split<;>first | simp | (cases t5 ob id ver<;>simp [v5,iab]));rcases ake (ver:=ver) h with ⟨b,f⟩ | ⟨l,c,c',b,f⟩
      ·rw [b] at a |-; rw [f];simp only at a |-;rcases ak2 (ver:=ver) h with ⟨e,d⟩ | ⟨q,m,e,d⟩
       ·rw [e] at a |-; rw [d]; exact ⟨a,rfl⟩
       rw [e] at a |-; rw [d]; exact ⟨a,rfl⟩
      rw [b] at a |-; rw [f]; exact ⟨a,rfl⟩
    | r x=>cases x<;>exact od
    | _=>exact od
  | _=>rcases x with ⟨_ | _ | _⟩ | _ | _ | _ | _ | _ | _ | _ | _ | _ | _ | _ | _<;>exact od
 all_goals rcases x with ⟨_ | _ | _⟩ | _ | _ | _ | _ | _ | _ | _ | _ | _ | _ | _ | _<;>exact od
theorem a4f {o:PO} {g:Bool} {e:Env} (h:o.adr=true):ox ob ob' λ ob=>o.see g e ob:=by
 cases o with
 | fa _ x=>exact ox.and atj
 | iaa _ _ x i=>exact ox.and aq3
 | ia _ _ x i=>exact ox.and ati
 | _=>cases h
theorem a1z {n:Nat} {x y:AV}:pin ((st2 n x y ob).ob i)=pin (ob i):=by
 cases x with
 | ptr id ver off=>
   simp only [st2,Rs.and];rcases hr:t5 ob id ver with _ | c
   ·rfl
   simp only [stb,upd];by_cases a:i=id
   ·subst a;rw [if_pos rfl];unfold t5 at hr;split at hr
    ·rename_i v e b;split at hr
     ·rename_i d; rw [b,d]; rfl
     cases hr
    cases hr
   rw [if_neg a]
 | oel id ver idx off=>
   simp only [st2];split
   ·rename_i ys hy;simp only [Rs.and];rcases hr:l9 ob id ver with _ | ⟨sz,z,j,m,xs⟩
    ·rfl
    simp only [str,upd];by_cases a:i=id
    ·subst a;rw [if_pos rfl];unfold l9 at hr;split at hr
     ·rename_i v g l f k h b;split at hr
      ·rename_i d; cases hr; rw [b,d]; rfl
      cases hr
     cases hr
    rw [if_neg a]
   rfl
 | _=>rfl
end

section
variable {ob ob':Obs} {e:Env}
def af (ob ob':Obs) (f:Obs->Rs):Prop:=(f ob).ok->ct ob ob' (f ob).rd ->
 (f ob').ok/\(f ob').v=(f ob).v/\(∀i,i∈(f ob).wr->i∈(f ob).rd/\(f ob').ob i=(f ob).ob i)/\(∀i,i∉(f ob).wr->(f ob').ob i=ob' i)
theorem af.and {p:Prop} {f:Obs->Rs} (h:af ob ob' f):af ob ob' λ ob=>Rs.and p (f ob):=λ ⟨c,a⟩ b=>⟨⟨c,(h a b).1⟩,(h a b).2⟩
theorem sp:af ob ob' λ ob=>z7 ob:=λ h _=>h.elim
theorem sn {d:Nat} {x:Ob} {y:Nat->AV} {ok:Prop} {rd:List Nat}:af ob ob' λ ob=>q9 ob d x y ok rd []:=by
 intro b e;have c:ob' d=ob d:=e d (by simp [q9]);refine ⟨b,?_,λ i a=>?_,λ i a=>?_⟩
 ·simp only [q9,aa6 c]
 ·simp only [q9,zag,zao,or_false] at a;subst a;simp [q9,upd,aa6 c]
 simp only [q9,zag,zao,or_false] at a;simp [q9,upd,a]
theorem ans (ob:Obs) (i j:Nat):frz ob i (ob i) j=if j=i then frz ob i (ob i) i else ob j:=by
 by_cases h:j=i
 ·subst h; simp
 rw [if_neg h];generalize ob i=q;rcases q with _ | ⟨v,_ | _ | _ | _ | _⟩
 ·rfl
 ·rfl
 ·simp [frz,upd,h]
 ·rfl
 ·rfl
 rfl
theorem a0j (h:ob' i=ob i):frz ob' i (ob' i) i=frz ob i (ob i) i:=by
 rcases hq:ob i with _ | ⟨v,_ | _ | _ | _ | _⟩<;>rw [h,hq]
 ·exact h.trans hq |>.trans hq.symm
 ·exact h.trans hq |>.trans hq.symm
 ·simp [frz,upd]
 ·exact h.trans hq |>.trans hq.symm
 ·exact h.trans hq |>.trans hq.symm
 exact h.trans hq |>.trans hq.symm
theorem ab4:∀(l:List Nat) {ob ob':Obs} {i:Nat},ob' i=ob i->freeze ob' l i=freeze ob l i
 | [],_,_,_,h=>h
 | j::l,ob,ob',i,h=>by
   refine ab4 l ?_;rw [ans ob,ans ob'];by_cases a:i=j
   ·subst a; simp only [if_true]; exact a0j h
   simp only [if_neg a]; exact h
theorem afw:∀(l:List Nat) {ob:Obs} {i:Nat},i∉l->freeze ob l i=ob i
 | [],_,_,_=>rfl
 | j::l,ob,i,h=>by
   simp only [zag,not_or] at h;rw [freeze,afw l h.2,ans,if_neg h.1]
theorem ah0 {x:AV} {y:RV} {l:List Nat} (h:x.rv ob=some (y,l)) (a:ct ob ob' l):x.rv ob'=some (y,l):=by
 unfold AV.rv at h |-;split at h
 ·exact h
 ·exact h
 ·rename_i id ver b len;rcases hr:l9 ob id ver with _ | c
  ·simp only [hr] at h; cases h
  simp only [hr] at h;cases h;rw [q8 (a id (by simp)),hr]
 cases h
theorem aa1 {a b:List Nat} (h:ct ob ob' (a++b)):ct ob ob' a/\ct ob ob' b:=⟨λ i c=>h i (by simp [c]),λ i c=>h i (by simp [c])⟩
theorem abu:∀{xs:List AV} {ys:List RV} {l:List Nat},rvs ob xs=some (ys,l)->ct ob ob' l->rvs ob' xs=some (ys,l)
 | [],ys,l,h,hs=>h
 | x::xs,ys,l,h,hs=>by
   simp only [rvs] at h |-;split at h
   ·rename_i y k e j b d;cases h;obtain ⟨a,c⟩:=aa1 hs;rw [ah0 b a,abu d c]
   cases h
theorem aui {x:AV} {y:RV} {l:List Nat} (h:x.elt ob=some (y,l)) (a:ct ob ob' l):x.elt ob'=some (y,l):=by
 unfold AV.elt at h |-;split at h
 ·split at h
  ·rename_i ys j b;cases h;simp only [abu b a]
  cases h
 exact ah0 h a
theorem af3 {g:Bool}:∀{xs:List Opd} {p:Prop} {ys:List RV} {l:List Nat},am e ob g xs=some (p,ys,l)->ct ob ob' l->am e ob' g xs=some (p,ys,l)
 | [],p,ys,l,h,hs=>h
 | x::xs,p,ys,l,h,hs=>by
   simp only [am] at h |-;split at h
   ·rename_i y k i f j c b;cases h;obtain ⟨a,d⟩:=aa1 hs;rw [aui c a,af3 b d]
   cases h
theorem awk {d sz:Nat} {z:RV} {j:List Opd}:af ob ob' λ ob=>PO.act d e ob (.bsl sz z j):=by
 intro a f;simp only [PO.act] at a f |-;rcases hr:am e ob true j with _ | ⟨p,ys,c⟩
 ·rw [hr] at a; exact a.elim
 rw [hr] at a f;have h:ct ob ob' c:=λ i b=>f i (by simp [q9,b]);have k:ob' d=ob d:=f d (by simp [q9]);rw [af3 hr h];refine ⟨a,?_,λ i b=>?_,λ i b=>?_⟩
 ·simp only [q9,aa6 (ab4 c k)]
 ·refine ⟨b,?_⟩;simp only [q9,zag] at b;simp only [q9,upd,aa6 (ab4 c k)];split
  ·rfl
  rename_i g;exact ab4 c (h i (b.resolve_left g))
 simp only [q9,zag,not_or] at b;simp only [q9,upd,if_neg b.1];exact afw c b.2
theorem ll {x:Nat×Ob} {ok:Prop} {v:AV} {rd:List Nat}:af ob ob' λ ob=>⟨ok,v,upd id x ob,id::rd,[id]⟩:=by
 intro b c;refine ⟨b,rfl,λ i a=>?_,λ i a=>?_⟩
 ·simp only [zag,zao,or_false] at a;subst a;simp [upd]
 simp only [zag,zao,or_false] at a;simp [upd,a]
theorem az9 {n:Nat} {x y:AV}:af ob ob' (st2 n x y):=by
 cases x with
 | ptr id ver off=>
   intro a b;simp only [st2] at a b |-;rcases hr:t5 ob id ver with _ | c
   ·rw [hr] at a; exact a.2.elim
   rw [hr] at a b;rw [bo (b id (by simp [Rs.and,stb])),hr];exact af.and (f:=λ ob=>stb id ver ob n off y.cells (some c)) ll a b
 | oel id ver idx off=>
   intro a b;simp only [st2] at a b |-;split at a
   ·rename_i ys hy;rw [abu hy (λ i g=>by simp at g)];rw [hy] at b;simp only at b |-;rcases hr:l9 ob id ver with _ | ⟨sz,z,d,e,xs⟩
    ·rw [hr] at a; exact a.2.elim
    rw [hr] at a b;rw [q8 (b id (by simp [Rs.and,str])),hr];exact af.and (f:=λ ob=>str id ver ob n idx off ys (some (sz,z,d,e,xs))) ll a b
   exact a.elim
 | _=>exact λ h _=>h.elim
theorem awl {d sz:Nat} {z:RV} {c:Nat} {x y:AV}:af ob ob' λ ob=>rk d ob sz z c x (src ob y):=by
 intro a b;rcases hy:src ob y with _ | ⟨l,ys,rd⟩
 ·simp only [hy] at a;unfold rk at a;split at a
  ·rename_i h; cases h
  ·rename_i h; cases h
  exact a.elim
 simp only [hy] at a b |-;cases x with
 | nils e j=>
   have g:ct ob ob' rd:=λ i f=>b i (by simp [rk,q9,f]);rw [abt hy g];exact sn (ok:=_) a b
 | own id ver lo len=>
   cases lo with
   | succ lo=>exact a.elim
   | zero=>
     simp only [rk] at a b;rcases hr:l9 ob id ver with _ | ⟨e,j,k,m,xs⟩
     ·rw [hr] at a; exact a.elim
     rw [hr] at a b;have g:ct ob ob' rd:=λ i f=>b i (by simp [f]);rw [abt hy g];simp only [rk];rw [hr,q8 (b id (by simp)),hr];exact ll a b
 | _=>exact a.elim
theorem awh {sz:Nat} {x y:AV}:af ob ob' λ ob=>td ob sz x (src ob y):=by
 intro a b;rcases hy:src ob y with _ | ⟨k,ys,rd⟩
 ·simp only [hy] at a;unfold td at a;split at a
  ·rename_i h; cases h
  exact a.elim
 simp only [hy] at a b |-;cases x with
 | own id ver lo len=>
   simp only [td] at a b;rcases hr:l9 ob id ver with _ | ⟨f,g,c,j,xs⟩
   ·rw [hr] at a; exact a.elim
   rw [hr] at a b;have d:ct ob ob' rd:=λ i e=>b i (by simp [e]);rw [abt hy d];simp only [td];rw [hr,q8 (b id (by simp)),hr];exact ll a b
 | _=>exact a.elim
theorem awj {sz:Nat} {z:RV} {x:AV}:af ob ob' λ ob=>xw ob sz z x:=by
 intro a b;cases x with
 | own id ver lo len=>
   simp only [xw] at a b |-;rcases hr:l9 ob id ver with _ | ⟨d,e,c,f,xs⟩
   ·rw [hr] at a; exact a.elim
   rw [hr] at a b;rw [q8 (b id (by simp)),hr];exact ll (rd:=[]) a b
 | _=>exact a.elim
theorem aig {ver:Nat} {ok:List MapEntry->Prop} {e:List MapEntry->Nat->List MapEntry} {d:List MapEntry->Nat->Nat}:af ob ob' λ ob=>nf id ver ob ok e d (t9 ob id ver):=by
 intro a b;rcases hr:t9 ob id ver with _ | ⟨es,c⟩
 ·simp only [hr,nf] at a; exact a.elim
 simp only [hr,nf] at a b |-;rw [oh (b id (by simp)),hr];exact ll (rd:=[]) a b
theorem at6 {str:Bool} {x i y:AV}:af ob ob' (nl str x i y):=by
 cases x with
 | mp id ver=>cases i with
   | r i=>cases i with
     | v k=>
       show af ob ob' λ ob=>sf str k id ver ob (toV y);generalize toV y=q;cases q with
       | none=>exact λ h _=>h.elim
       | some v=>exact aig
     | _=>exact λ h _=>h.elim
   | _=>exact λ h _=>h.elim
 | _=>exact λ h _=>h.elim
theorem at7 {x i y:AV}:af ob ob' (agv x i y):=by
 cases x with
 | mp id ver=>cases i with
   | r i=>cases i with
     | v k=>cases k with
       | int q n=>
         show af ob ob' λ ob=>aly n id ver ob (toV y);generalize toV y=q;cases q with
         | none=>exact λ h _=>h.elim
         | some v=>exact aig
       | _=>exact λ h _=>h.elim
     | _=>exact λ h _=>h.elim
   | _=>exact λ h _=>h.elim
 | _=>exact λ h _=>h.elim
theorem at8 {str:Bool} {z:RV} {x i:AV}:af ob ob' (ady str z x i):=by
 cases x with
 | mp id ver=>cases i with
   | r i=>cases i with
     | v k=>cases z with
       | v zv=>
         intro a b;simp only [ady] at a b |-;rcases hr:t9 ob id ver with _ | ⟨es,c⟩
         ·simp only [hr,ajh] at a; exact a.elim
         simp only [hr,ajh] at a b |-;rw [oh (b id (by simp)),hr];exact ll (rd:=[]) a b
       | _=>exact λ h _=>h.elim
     | _=>exact λ h _=>h.elim
   | _=>exact λ h _=>h.elim
 | _=>exact λ h _=>h.elim
theorem at9 {str:Bool} {x i:AV}:af ob ob' (nn str x i):=by
 cases x with
 | mp id ver=>cases i with
   | r i=>cases i with
     | v k=>exact aig
     | _=>exact λ h _=>h.elim
   | _=>exact λ h _=>h.elim
 | _=>exact λ h _=>h.elim
theorem awf {d:Nat} {x:AV}:af ob ob' (si d x):=by
 cases x with
 | mp id ver=>
   intro a b;simp only [si] at a b |-;rcases hr:t9 ob id ver with _ | ⟨es,c⟩
   ·rw [hr] at a; exact a.elim
   rw [hr] at a b;rw [oh (b id (by simp [zg,q9])),hr];exact sn (ok:=_) a b
 | _=>exact λ h _=>h.elim
theorem awg {x:AV}:af ob ob' λ ob=>xl ob x:=by
 cases x with
 | own id ver lo len=>
   intro a b;simp only [xl] at a b |-;rcases hr:l9 ob id ver with _ | ⟨d,e,c,f,xs⟩
   ·rw [hr] at a; exact a.elim
   rw [hr] at a b;rw [q8 (b id (by simp)),hr];exact ll (rd:=[]) a b
 | _=>exact λ h _=>h.elim
theorem awi {x y:AV}:af ob ob' λ ob=>xr ob x y:=by
 cases x with
 | own id ver lo len=>
   cases y with
   | r q=>cases q with
     | v u=>cases u with
       | string sv=>
         intro a b;simp only [xr] at a b |-;rcases hr:l9 ob id ver with _ | ⟨d,e,c,f,xs⟩
         ·rw [hr] at a; exact a.elim
         rw [hr] at a b;rw [q8 (b id (by simp)),hr];exact ll (rd:=[]) a b
       | _=>exact λ h _=>h.elim
     | _=>exact λ h _=>h.elim
   | _=>exact λ h _=>h.elim
 | _=>exact λ h _=>h.elim
theorem a4g {o:PO} {d:Nat}:af ob ob' λ ob=>o.act d e ob:=by
 cases o with
 | new zs=>exact sn
 | box x=>exact sn
 | bsl sz z ps=>exact awk
 | st n x y=>exact af.and az9
 | app sz z bytes x y=>exact af.and awl
 | clr sz z x=>exact af.and awj
 | cpy sz x y=>exact af.and awh
 | mkm=>exact sn
 | mset str x i y=>exact af.and at6
 | ment str z x i=>exact af.and at8
 | mest x i y=>exact af.and at7
 | mdel str x i=>exact af.and at9
 | rng x=>exact af.and awf
 | mrk x=>exact af.and awg
 | cps x y=>exact af.and awi
 | toBytes z x=>
   refine af.and ?_;generalize (x.ev e).bare=y;rcases y with ⟨v | _ | _⟩ | _ | _ | _ | _ | _ | _ | _ | _ | _ | _ | _ | _
   ·cases v<;>first | exact sn | exact sp
   all_goals exact sp
 | mks sz z bytes l c=>
   refine af.and ?_;generalize (l.ev e).bare=y;generalize (c.ev e).bare=a;rcases y with ⟨v | _ | _⟩ | _ | _ | _ | _ | _ | _ | _ | _ | _ | _ | _ | _
   ·cases v with
    | int k i=>
      rcases a with ⟨v | _ | _⟩ | _ | _ | _ | _ | _ | _ | _ | _ | _ | _ | _ | _
      ·cases v<;>first | exact sn | exact sp
      all_goals exact sp
    | _=>exact sp
   all_goals exact sp
 | _=>exact sp
end

def eqv:Value->Value->Bool
 | .int k a,.int k' b=>k == k'&&a == b
 | .bool a,.bool b=>a == b
 | .string a,.string b=>a.data.toList == b.data.toList
 | .pointer none,.pointer none=>true
 | .nilFunc,.nilFunc=>true
 | .nilIface,.nilIface=>true
 | .map none,.map none=>true
 | _,_=>false
theorem aju {a b:Value} (h:eqv a b=true):a=b:=by
 unfold eqv at h;split at h
 ·rw [zah,beq_iff_eq,beq_iff_eq] at h;rw [h.1,h.2]
 ·rw [beq_iff_eq] at h;rw [h]
 ·rename_i a b;rw [beq_iff_eq] at h;obtain ⟨⟨a⟩⟩:=a;obtain ⟨⟨b⟩⟩:=b;simp only at h;rw [h]
 ·rfl
 ·rfl
 ·rfl
 ·rfl
 cases h
def eqz:Value->AV->Bool
 | .slice none 0 0,.nils _ _=>true
 | v,.r (.v x)=>eqv v x
 | _,_=>false
def opd:Operand->Opd->Bool
 | .tmp t,.t n=>t == n
 | .const v,.c x=>eqz v x
 | .func f,.c (.fn (.func f') [] 0)=>f == f'
 | _,_=>false
section
variable {w:World} {R:Nat->Prop} {ob:Obs} {ρ:Pl->Option Nat}
theorem akw {v:Value} {x:AV} (h:eqz v x=true):RelA w R ob ρ x v:=by
 unfold eqz at h;split at h
 ·exact .nils _ _
 ·rw [aju h]; exact .r (.v _)
 cases h
theorem agq {a:Act} {e:Env} (b:∀t,RelA w R ob ρ (e t) (a.tmps.getD t undef)) {x:Operand} {y:Opd} (h:opd x y=true):RelA w R ob ρ (y.ev e) (a.eval x):=by
 unfold opd at h;split at h
 ·simp at h; subst h; exact b _
 ·exact akw h
 ·simp at h; subst h; exact .fn _ [] 0 #[] #[] rfl rfl (by simp)
 cases h
theorem RelA.bare {g:Bool} (b:g=true) {x:AV} (h:RelA w R ob ρ x c) (a:x.may g):RelA w R ob ρ x.bare c:=by
 cases h<;>first | (simp only [AV.bare]; constructor<;>assumption) | skip
 simp only [AV.bare,AV.may] at *;rename_i h d;exact h (a b)
end
def ah5:Option Operand->Option Opd->Bool
 | none,none=>true
 | some x,some y=>opd x y
 | _,_=>false
def dm (P:Program) (t:TypeId) (f:TypeId->TypeInfo->Bool):Bool:=
 match P.underlying t with
 | some (.slice e)=>match P.info? e with
   | some i=>f e i
   | none=>false
 | _=>false
def ai (P:Program) (t:TypeId) (f:TypeDesc->Bool):Bool:=
 match P.underlying t with
 | some d=>f d
 | none=>false
def ack (P:Program) (t:TypeId) (n:Option Nat):Bool:=
 match P.underlying t,P.info? t with
 | some (.struct _),some i=>n == some i.size
 | some (.array _ _),some i=>n == some i.size
 | some _,some _=>n == none
 | _,_=>false
def ag1 (P:Program) (t:TypeId) (f:Nat) (k:Go.Field->TypeInfo->Bool):Bool:=
 match P.underlying t with
 | some (.struct fs)=>match fs[f]? with
   | some fd=>match P.info? fd.type with
     | some i=>k fd i
     | none=>false
   | none=>false
 | _=>false
def eqr:Value->RV->Bool
 | .slice none 0 0,.sl _ []=>true
 | v,.v x=>eqv v x
 | _,_=>false
def x7 {a b:Type} (f:a->b->Bool):List a->List b->Bool
 | [],[]=>true
 | x::xs,y::ys=>f x y&&x7 f xs ys
 | _,_=>false
def tl (P:Program) (t:TypeId) (p:Nat×Operand) (q:Nat×Nat×Opd):Bool:=
 opd p.2 q.2.2&&(match P.underlying t with
 | some (.struct fs)=>match fs[p.1]? with
   | some f=>match P.info? f.type with
     | some i=>f.offset == q.1&&i.size == q.2.1
     | none=>false
   | none=>false
 | some (.array _ e)=>match P.info? e with
   | some i=>p.1*i.size == q.1&&i.size == q.2.1
   | none=>false
 | _=>false)
def aby (str:Bool):TypeDesc->Bool
 | .string=>str
 | .slice _=>!str
 | _=>false
def ak1 (P:Program):TypeDesc->Bool
 | .struct fs=>fs.all λ f=>(P.info? f.type).isSome
 | .array _ e=>(P.info? e).isSome
 | _=>false
def afo:Nat->TypeDesc->Bool
 | 0,.int _=>true
 | 1,.bool=>true
 | 2,.string=>true
 | _,_=>false
def afy (g:TypeId->List Nat->Bool) (P:Program):List Go.Field->List Nat->Nat->Bool
 | [],ks,_=>ks.isEmpty
 | f :: fs, ks, i => f.name != "_" && f.offset == i && decide (P.cellsOf f.type ≤ ks.length) && g f.type (ks.take (P.cellsOf f.type)) && afy g P fs (ks.drop (P.cellsOf f.type)) (i + P.cellsOf f.type)
def afz (g:TypeId->List Nat->Bool) (P:Program) (e:TypeId):Nat->List Nat->Bool
 | 0,ks=>ks.isEmpty
 | n+1,ks=>decide (P.cellsOf e<=ks.length)&&g e (ks.take (P.cellsOf e))&&afz g P e n (ks.drop (P.cellsOf e))
def yc (P:Program):Nat->TypeId->List Nat->Bool
 | 0,_,_=>false
 | d+1,t,ks=>match P.underlying t with
   | some (.struct fs)=>afy (yc P d) P fs.toList ks 0 && !P.stoodInHeld t
   | some (.array n e)=>(P.info? e).isSome&&afz (yc P d) P e n ks
   | some u=>(match ks with
     | [k]=>afo k u
     | _=>false)
   | none=>false
def ajl (P:Program) (t:TypeId):Bool:=match P.underlying t with
 | some (.struct _)=>true
 | some (.array _ _)=>true
 | _=>false
def aww (P:Program) (t:TypeId) (a:List Nat):Bool:=
 yc P 4 t a&&ajl P t && !P.eqGuardType P.depth t
def aks (P:Program) (a:Bool) (f:FuncId):Bool:=match P.funcs[f]? with
 | some fn => fn.body.isNone && (fn.name == if a then "math/bits.Sub64" else "math/bits.Add64") && (fn.origin == "" || fn.origin == fn.name)
 | none=>false
def ya (P:Program) (t:TypeId) (str:Bool) (f:TypeId->Bool):Bool:=
 match P.underlying t with
 | some (.map k e)=>(match P.underlying k with
   | some (.int _)=>!str
   | some .string=>str
   | _=>false)&&f e
 | _=>false
def yf (P:Program) (z:RV) (e:TypeId):Bool:=match P.info? e with
 | some i=>match i.zero with
   | some v=>match v,z with
     | .agg cs,.agg xs=>x7 eqr cs.toList xs&&xs.all (λ x=>match x with | .v _=>true | _=>false)
     | v,.v x=>eqv v x
     | _,_=>false
   | none=>false
 | none=>false
def ac3 (P:Program) (t:TypeId):Bool:=match P.underlying t with
 | some (.interface _)=>false
 | some _=>true
 | none=>false
def an8 (P:Program) (o:Oper) (po:PO):Bool:=
 match o.op,po with
 | .move x,.mov y=>opd x y
 | .assign x,.mov y=>opd x y
 | .pick c a b,.pick c' a' b'=>opd c c'&&opd a a'&&opd b b'
 | .binOp op t x y _,.bin op' x' y'=>op == op'&&opd x x'&&opd y y'
 | .binOp op t x y _,.beq neg x' y'=>(if neg then op == .neq else op == .eql)&&ai P t (λ d=>match d with | .bool=>true | _=>false)&&opd x x'&&opd y y'
 | .unOp op _ x,.un op' x'=>op == op'&&opd x x'
 | .convert a d x,.conv k x'=>ai P a (λ _=>true)&&ai P d (λ u=>match u with | .int k'=>k == k' | _=>false)&&opd x x'
 | .call c,.len str x'=>match c.callee with
   | .builtin .len=>match c.args.toList,c.argTypes.toList with
     | [x],[t]=>opd x x'&&ai P t (aby str)
     | _,_=>false
   | _=>false
 | .indexAddr t x i,.ia sz _ x' i'=>dm P t (λ _ inf=>inf.size == sz)&&opd x x'&&opd i i'
 | .index t x i,.ixs x' i'=>ai P t (λ d=>match d with | .string=>true | _=>false)&&opd x x'&&opd i i'
 | .load t x,.ld n x'=>ack P t n&&opd x x'
 | .nilCheck x,.nck x'=>opd x x'
 | .fieldAddr t x f,.fa off x'=>ag1 P t f (λ g i=>g.offset == off&&i.size != 0)&&opd x x'
 | .field t x f,.fld off n x'=>ag1 P t f (λ g i=>g.offset == off&&ack P g.type n)&&opd x x'
 | .slice t x lo hi mx,.sla n x'=>(match P.underlying t with
   | some (.array n' e)=>n' == n&&(match P.info? e with | some inf=>inf.size == 1 | none=>false)
   | _=>false)&&opd x x'&&lo.isNone&&hi.isNone&&mx.isNone
 | .slice t x lo hi mx,.sls x' lo' hi'=>ai P t (λ d=>match d with | .string=>true | _=>false)&&mx.isNone&&opd x x'&&ah5 lo lo'&&ah5 hi hi'
 | .slice t x lo hi mx,.sll sz x' lo' hi' mx'=>dm P t (λ _ inf=>inf.size == sz)&&opd x x'&&ah5 lo lo'&&ah5 hi hi'&&ah5 mx mx'&&(mx.isNone||hi.isSome)
 | .extract x i,.ext x' i'=>i == i'&&opd x x'
 | .convert a d x,.toStr x'=>dm P a (λ e _=>ai P e (λ d=>match d with | .int .u8=>true | _=>false))&&ai P d (λ d=>match d with | .string=>true | _=>false)&&opd x x'
 | .build t ps,.build zs qs=>(match P.info? t with | some i=>(match i.zero with | some z=>x7 eqz z.cells.toList zs | none=>false) | none=>false)&&ai P t (ak1 P)&&x7 (tl P t) ps.toList qs
 | .makeFunc f first cap,.mkf f' xs k=>f == f'&&first.size == k&&x7 opd (first++cap).toList xs
 | .call c,.mm mx x' ys'=>(match c.callee with
   | .builtin .min=>!mx
   | .builtin .max=>mx
   | _=>false)&&(match c.args.toList with
   | x::ys=>opd x x'&&x7 opd ys ys'
   | _=>false)
 | .indexAddr t x i,.iaa n sz x' i'=>(match P.underlying t with
   | some (.array n' e)=>n == n'&&(match P.info? e with
     | some inf=>inf.size == sz
     | none=>false)
   | _=>false)&&opd x x'&&opd i i'
 | .call c,.carry sub x' y' z'=>(match c.callee with
   | .value (.func f)=>aks P sub f
   | _=>false)&&(match c.args.toList with
   | [x,y,z]=>opd x x'&&opd y y'&&opd z z'
   | _=>false)
 | .binOp op t x y _,.eqa neg ks x' y'=>(if neg then op == .neq else op == .eql)&&aww P t ks&&opd x x'&&opd y y'
 | .lookup t x i c,.lkp str z c' x' i'=>ya P t str (yf P z)&&c == c'&&opd x x'&&opd i i'
 | .call c,.lenm x'=>match c.callee with
   | .builtin .len=>match c.args.toList,c.argTypes.toList with
     | [x],[t]=>opd x x'&&ai P t (λ d=>match d with | .map _ _=>true | _=>false)
     | _,_=>false
   | _=>false
 | .makeInterface t x,.mki t' x'=>t == t'&&ac3 P t&&opd x x'
 | .typeAssert x _ t c,.tas t' z c' x'=>t == t'&&ac3 P t&&yf P z t&&c == c'&&opd x x'
 | .entry x,.ent x'=>opd x x'
 | .binOp op t x y _,.eqn neg x'=>(match y with | .const (.pointer none)=>true | _=>false)&&(if neg then op == .neq else op == .eql)&&ai P t (λ d=>match d with | .pointer _=>true | _=>false)&&opd x x'
 | _,.no=>true
 | _,_=>false
def PO.nod:PO->Bool
 | .st _ _ _=>true
 | .mset _ _ _ _=>true
 | .mest _ _ _=>true
 | .mdel _ _ _=>true
 | .clr _ _ _=>true
 | _=>false
def af8 (P:Program) (o:Oper) (po:PO):Bool:=
 match o.op,po with
 | .alloc e,.new zs=>match P.info? e with
   | some i=>match i.zero with
     | some z=>x7 eqz z.cells.toList zs
     | none=>false
   | none=>false
 | .box _ x,.box x'=>opd x x'
 | .buildSlice t n ps,.bsl sz _ ps'=>dm P t (λ _ i=>i.size == sz&&i.zero.isSome)&&n == ps'.length&&x7 (λ p q=>opd p.2 q) ps.toList ps'&&ps.toList.map (·.1) == List.range n&&n*sz<=16777216&&n<=16777216
 | .store t x y,.st n x' y'=>(match P.info? t with | some i=>i.size == n | none=>false)&&opd x x'&&opd y y'
 | .call c,.app sz _ bytes x' y'=>match c.callee with
   | .builtin .append=>match c.args.toList,c.argTypes.toList with
     | [x,y],[t,u]=>dm P t (λ _ i=>i.size == sz&&i.bytes == bytes&&(match i.zero with | some z=>z.cells.size == sz | none=>false)&&sz != 0)&&dm P u (λ _ _=>true)&&opd x x'&&opd y y'
     | _,_=>false
   | _=>false
 | .call c,.cpy sz x' y'=>match c.callee with
   | .builtin .copy=>match c.args.toList,c.argTypes.toList with
     | [x,y],[t,u]=>dm P t (λ _ i=>i.size == sz)&&dm P u (λ _ _=>true)&&opd x x'&&opd y y'
     | _,_=>false
   | _=>false
 | .convert a d x,.toBytes _ x'=>ai P a (λ d=>match d with | .string=>true | _=>false)&&dm P d (λ e i=>i.size == 1&&ai P e (λ d=>match d with | .int .u8=>true | _=>false))&&opd x x'
 | .makeSlice t l c,.mks sz z bytes l' c'=>dm P t (λ _ i=>i.size == sz&&i.bytes == bytes&&sz != 0&&(match i.zero with | some v=>x7 eqr v.cells.toList z.cells&&v.cells.size == sz | none=>false))&&opd l l'&&opd c c'
 | .makeMap _ r,.mkm=>r.isNone
 | .mapEntry t x i,.ment str z x' i'=>ya P t str (yf P z)&&opd x x'&&opd i i'
 | .entryStore _ x i y,.mest x' i' y'=>opd x x'&&opd i i'&&opd y y'
 | .mapUpdate t x i y,.mset str x' i' y'=>ya P t str (λ _=>true)&&opd x x'&&opd i i'&&opd y y'
 | .call c,.mdel str x' i'=>match c.callee with
   | .builtin .delete=>match c.args.toList,c.argTypes.toList with
     | [x,i],[t,_]=>ya P t str (λ _=>true)&&opd x x'&&opd i i'
     | _,_=>false
   | _=>false
 | .range t x,.rng x'=>ai P t (λ d=>match d with | .map _ _=>true | _=>false)&&opd x x'
 | .call c,.clr sz z x'=>match c.callee with
   | .builtin .clear=>match c.args.toList,c.argTypes.toList with
     | [x],[t]=>dm P t (λ _ i=>i.size == sz&&(match i.zero with | some v=>x7 eqr v.cells.toList z.cells&&v.cells.size == sz | none=>false))&&opd x x'
     | _,_=>false
   | _=>false
 | .call c,.cps x' y'=>match c.callee with
   | .builtin .copy=>match c.args.toList,c.argTypes.toList with
     | [x,y],[t,_]=>dm P t (λ _ i=>i.size == 1)&&opd x x'&&opd y y'
     | _,_=>false
   | _=>false
 | .convert a d x,.mrk x'=>dm P a (λ e _=>ai P e (λ d=>match d with | .int .u8=>true | _=>false))&&a == d&&opd x x'
 | _,_=>false

abbrev RA (X:Cx) (s:St) (ρ:Pl->Option Nat) (w:World):AV->Value->Prop:=RelA w (j8 X.B s.ob ρ w) s.ob ρ
def o7 (P:Program) (X:Cx) (a:Act) (w:World) (s:St) (ρ:Pl->Option Nat) (o:Oper) (v:AV):Prop:=
 ∃c,(execOp a.eval o).run P w=.ok (.value c) w/\RA X s ρ w v c
section
variable {P:Program} {X:Cx} {w:World} {s:St} {ρ:Pl->Option Nat} {a:Act} {o:Oper}
theorem j7 {g:Bool} (d:Gam X s ρ a w) (c:g=true) {x:Operand} {y:Opd} (h:opd x y=true) (b:(y.ev s.e).may g):RA X s ρ w (y.ev s.e).bare (a.eval x):=
 (agq d.env h).bare c b
theorem ap2 {k:IntKind} {m:Int} (h:RA X s ρ w (int k m) c):c=.int k m:=by cases h; rename_i h; cases h; rfl
theorem m7 {x:Value} (h:RA X s ρ w (.r (.v x)) c):c=x:=by cases h; rename_i h; cases h; rfl
theorem cr (x:Value):RA X s ρ w (.r (.v x)) x:=.r (.v x)
theorem aza {g:Bool} (d:g=true) {op:BinOp} {t ty:TypeId} {x y:Operand} {u v:AV} (h:o.op=.binOp op t x y ty) (j:RA X s ρ w u (a.eval x)) (i:RA X s ρ w v (a.eval y))
 (c:(xx g op u v).1):o7 P X a w s ρ o (xx g op u v).2:=by
 unfold xx at c |-;split at c
 ·rename_i k m q m';have e:=ap2 j;have f:=ap2 i;simp only [o7,execOp,h,e,f];cases op<;>simp only [abj] at c |-
  all_goals first
   | (subst c; refine ⟨_,?_,cr _⟩; simp [eqGuard,binOp,Op.intArith,Op.intBits,Op.intCmp]; done)
   | (obtain ⟨rfl,c⟩:=c; refine ⟨_,?_,cr _⟩; simp [eqGuard,binOp,Op.intDiv,c d]; done)
   | (refine ⟨_,?_,cr _⟩; have p:=c d; simp [eqGuard,binOp,Op.shift,show ¬m'<0 by omega]; done)
 ·rename_i b n;have e:=m7 j;have f:=m7 i;simp only [o7,execOp,h,e,f];cases op<;>simp only [abi,bad] at c |-
  ·refine ⟨_,?_,cr _⟩;have p:=c d
   have l:¬(((b.size+n.size:Nat):Int)>IntKind.i64.max):=by
    rw [show IntKind.i64.max=9223372036854775807 from rfl]; omega
   simp only [eqGuard,binOp,Op.stringOp,Sem.run_bind,Sem.run_ite,Sem.run_pure,if_neg l];simp
  all_goals first
   | first | exact (c d).elim | exact (c.2 d).elim
   | (refine ⟨_,?_,cr _⟩; simp [eqGuard,binOp,Op.stringOp]; done)
 first | exact (c d).elim | exact (c.2 d).elim
theorem avj {g:Bool} (k:g=true) {x y z:Operand} {u v t:AV} (l:o.op=.pick x y z) (m:RA X s ρ w u (a.eval x)) (p:RA X s ρ w v (a.eval y)) (n:RA X s ρ w t (a.eval z))
 (b:(qd g u v t).1):o7 P X a w s ρ o (qd g u v t).2:=by
 unfold qd at b |-;split at b
 ·have f:=m7 m;have j:=m7 p;have i:=m7 n;simp only [o7,execOp,l,f,j,i];rename_i c d e;refine ⟨_,?_,cr _⟩;cases c<;>simp [asBool]
 ·have f:=m7 m;have i:=m7 n;rename_i c h d e;simp only [o7,execOp,l,f,i];refine ⟨_,?_,cr _⟩;cases c
  ·simp [asBool]
  cases p with
  | gd _ hv1 hv2=>
    have j:=m7 (hv1 (b k rfl));simp [asBool,j]
 ·have f:=m7 m;have j:=m7 p;rename_i c d h e;simp only [o7,execOp,l,f,j];refine ⟨_,?_,cr _⟩;cases c
  ·cases n with
   | gd _ ht1 ht2=>
     have i:=m7 (ht1 (b k rfl));simp [asBool,i]
  simp [asBool]
 ·have f:=m7 m;have j:=m7 p;simp only [o7,execOp,l,f,j];refine ⟨_,?_,cr _⟩;simp [asBool,b k]
 ·have f:=m7 m;have i:=m7 n;simp only [o7,execOp,l,f,i];refine ⟨_,?_,cr _⟩;simp [asBool,b k]
 ·have f:=m7 m;have i:=m7 n;simp only [o7,execOp,l,f,i];refine ⟨_,?_,cr _⟩;simp [asBool,b k]
 ·have f:=m7 m;have j:=m7 p;simp only [o7,execOp,l,f,j];refine ⟨_,?_,cr _⟩;simp [asBool,b k]
 first | exact (b k).elim | exact (b.2 k).elim
theorem azb {g:Bool} (e:g=true) {c:Bool} {op:BinOp} {t ty:TypeId} {x y:Operand} {u v:AV} (j:o.op=.binOp op t x y ty) (d:op=if c then .neq else .eql) (f:P.underlying t=some .bool)
 (h:RA X s ρ w u (a.eval x)) (k:RA X s ρ w v (a.eval y)) (b:(xy g c u v).1):o7 P X a w s ρ o (xy g c u v).2:=by
 unfold xy at b |-;split at b
 ·have i:=m7 h;have l:=m7 k;simp only [o7,execOp,j,i,l];refine ⟨_,?_,cr _⟩;subst d;cases c<;>simp [eqGuard,binOp,run_equal_bool w t _ _ f]
 first | exact (b e).elim | exact (b.2 e).elim
theorem alm {x:AV} (h:RA X s ρ w x c) (b:x.isA=true):∃cs,c=.agg cs/\∀(i:Nat) (y:AV),x.cells[i]?=some y->∃v,cs[i]?=some v/\RA X s ρ w y v:=by
 cases h with
 | agg xs cs hl hr=>
   refine ⟨cs,rfl,λ i y hy=>?_⟩;simp only [AV.cells] at hy;have a:=(zam.1 hy).1;have hc:cs[i]?=some (cs[i]'(by omega)):=by simp [show i<cs.size by omega]
   exact ⟨_,hc,hr i y _ hy hc⟩
 | r h0=>
   cases h0 with
   | agg xs cs hl hr=>
     refine ⟨cs,rfl,λ i y hy=>?_⟩;simp only [AV.cells,List.getElem?_map,zaq] at hy;obtain ⟨z,d,rfl⟩:=hy;have a:=(zam.1 d).1;have hc:cs[i]?=some (cs[i]'(by omega)):=by simp [show i<cs.size by omega]
     exact ⟨_,hc,.r (hr i z _ d hc)⟩
   | _=>cases b
 | _=>cases b
theorem aze {t:TypeId} {d:Nat} (a:ai P t (afo k)=true) {u v:AV} {b:Bool} {c':Value} (h:eq2 k u v=some b) (e:RA X s ρ w u c) (i:RA X s ρ w v c'):(Op.equalIn (d+1) t c c').run P w=.ok b w:=by
 unfold ai at a;split at a
 ·rename_i f g;unfold eq2 at h;split at h
  ·split at h
   ·rename_i j;subst j;cases h;rw [m7 e,m7 i];cases f<;>first | (simp [afo] at a; done) | exact run_equalIn_int w d t _ _ _ _ g
   cases h
  ·cases h;rw [m7 e,m7 i];cases f<;>first | (simp [afo] at a; done) | exact run_equalIn_bool' w d t _ _ g
  ·cases h;rw [m7 e,m7 i];cases f<;>first | (simp [afo] at a; done) | exact run_equalIn_string w d t _ _ g
  cases h
 cases a
theorem af0:∀{a:List Nat} {c vs:List AV} {b:Bool} (n:Nat),eql a c vs=some b->∃d e,eql (a.take n) (c.take n) (vs.take n)=some d/\eql (a.drop n) (c.drop n) (vs.drop n)=some e/\b=(d&&e)
 | a,c,vs,b,0,h=>⟨true,b,by simp [eql],by simpa using h,by simp⟩
 | [],[],[],b,n+1,h=>by simp [eql] at h; subst h; exact ⟨true,true,by simp [eql],by simp [eql],rfl⟩
 | k::a,u::c,v::vs,b,n+1,h=>by
   simp only [eql] at h;split at h
   ·rename_i p q g j;cases h;obtain ⟨d,e,f,l,i⟩:=af0 n j;refine ⟨p&&d,e,?_,by simpa using l,by rw [i,Bool.and_assoc]⟩;simp only [List.take_succ_cons,eql,g,f]
   cases h
 | [],_::_,_,_,n+1,h=>by cases h
 | [],[],_::_,_,n+1,h=>by cases h
 | _::_,[],_,_,n+1,h=>by cases h
 | _::_,_::_,[],_,n+1,h=>by cases h
theorem ac9:∀{a:List Nat} {c vs:List AV} {b:Bool},eql a c vs=some b->c.length=a.length/\vs.length=a.length
 | [],[],[],b,h=>⟨rfl,rfl⟩
 | k::a,u::c,v::vs,b,h=>by
   simp only [eql] at h;split at h
   ·rename_i p q e d;have:=ac9 d;simp only [List.length_cons];omega
   cases h
 | [],_::_,_,_,h=>by cases h
 | [],[],_::_,_,h=>by cases h
 | _::_,[],_,_,h=>by cases h
 | _::_,_::_,[],_,h=>by cases h
def AtR (X:Cx) (s:St) (ρ:Pl->Option Nat) (w:World) (xs:Array Value) (off:Nat) (a:List AV):Prop:=∀i u,a[i]?=some u->∃c,xs[off+i]?=some c/\RA X s ρ w u c
theorem AtR.take {xs:Array Value} {off n:Nat} {b:List AV} (h:AtR X s ρ w xs off b):AtR X s ρ w xs off (b.take n):=λ i u a=>by
 rw [zad] at a;split at a
 ·exact h i u a
 cases a
theorem AtR.drop {xs:Array Value} {off n:Nat} {b:List AV} (h:AtR X s ρ w xs off b):AtR X s ρ w xs (off+n) (b.drop n):=λ i u a=>by
 rw [zab] at a;have:=h _ u a
 rwa [<- zaj] at this
theorem AtR.cut {xs:Array Value} {off n:Nat} {a:List AV} (h:AtR X s ρ w xs off a) (f:a.length<=n):AtR X s ρ w (xs.extract off (off+n)) 0 a:=λ i u d=>by
 obtain ⟨c,hc,e⟩:=h i u d;have g:i<a.length:=(zam.1 d).1;refine ⟨c,?_,e⟩;have b:=(zai.1 hc).1;rw [Nat.zero_add,Array.getElem?_extract_of_lt (by omega)];rw [<- hc,Array.getElem?_eq_getElem b]
def aas (X:Cx) (s:St) (ρ:Pl->Option Nat) (w:World) (P:Program) (t:TypeId) (a:List AV) (c:Value):Prop:=
 if ajl P t=true then ∃cs,c=.agg cs/\AtR X s ρ w cs 0 a else ∃u,a=[u]/\RA X s ρ w u c
theorem aah {d:Nat} {t:TypeId} {g:List Nat} (a:yc P d t g=true) {xs:Array Value} {off:Nat} {h:List AV} (hx:AtR X s ρ w xs off h) (b:h.length=g.length) (hc:g.length<=P.cellsOf t) :
 ∃c,(part t xs off).run P w=.ok c w/\aas X s ρ w P t h c:=by
 cases d with
 | zero=>cases a
 | succ d=>
   unfold yc at a;unfold aas ajl;cases hu:P.underlying t with
   | none=>rw [hu] at a; cases a
   | some kd=>
     obtain ⟨i,m⟩:=info_of_underlying hu
     have f:((∃n e',kd=.array n e')\/(∃j,kd=.struct j))->(part t xs off).run P w=.ok (.agg (xs.extract off (off+P.cellsOf t))) w:=by
      rintro (⟨n,e',rfl⟩ | ⟨j,rfl⟩)<;>simp [part,isAgg,run_underlying hu,run_sizeOf w m]
     rw [hu] at a;cases kd
     case struct j=>exact ⟨_,f (.inr ⟨_,rfl⟩),by simp only [↓reduceIte]; exact ⟨_,rfl,hx.cut (by omega)⟩⟩
     case array n e=>exact ⟨_,f (.inl ⟨_,_,rfl⟩),by simp only [↓reduceIte]; exact ⟨_,rfl,hx.cut (by omega)⟩⟩
     all_goals
      simp only at a
      match g,a with
      | [k],a=>
        match h,b with
        | [u],_=>
          obtain ⟨c,l,o⟩:=hx 0 u rfl;rw [Nat.add_zero] at l;refine ⟨c,by simp [part,isAgg,run_underlying hu,l],?_⟩;simp only [zak,↓reduceIte];exact ⟨u,rfl,o⟩
theorem amn (D:Nat):∀(d:Nat) {t:TypeId} {g:List Nat},yc P d t g=true->∀{m vs:List AV} {b:Bool} {c c':Value},eql g m vs=some b->aas X s ρ w P t m c->aas X s ρ w P t vs c' ->
 (Op.equalIn (D+d) t c c').run P w=.ok b w
 | 0,_,_,a,_,_,_,_,_,_,_,_=>by cases a
 | d+1,t,g,a,m,vs,b,c,c',l,C,B=>by
   have W:∀{t:TypeId} {g:List Nat},yc P d t g=true->∀{m vs:List AV} {b:Bool} {c c':Value},eql g m vs=some b->aas X s ρ w P t m c->aas X s ρ w P t vs c'->(Op.equalIn (D+d) t c c').run P w=.ok b w:=λ h=>amn D d h;unfold yc at a;unfold aas ajl at C B;cases hd:P.underlying t with
   | none=>rw [hd] at a; cases a
   | some kd=>
     rw [hd] at a C B;have h0:ai P t (λ _=>true)=true:=by simp [ai,hd]
     cases kd
     case struct fs=>
      simp only [↓reduceIte] at C B;simp only [zah,Bool.not_eq_true'] at a;obtain ⟨cs,rfl,L⟩:=C;obtain ⟨o,rfl,A⟩:=B;have F:P.fieldsOf t=fs:=by simp [Program.fieldsOf,hd]
      have:=run_equalIn_struct w (D+d) t cs o (by rw [F]; exact hd) a.2;rw [show D+(d+1)=D+d+1 from rfl,this,F];clear this F hd;obtain ⟨a,_⟩:=a
      have G:∀(fl:List Go.Field) (i:Nat) {g:List Nat} {m vs:List AV} {b:Bool},afy (yc P d) P fl g i=true->eql g m vs=some b->AtR X s ρ w cs i m->AtR X s ρ w o i vs->(Op.eqFields (D+d) cs o fl).run P w=.ok b w:=by
       intro fl
       induction fl with
       | nil=>
         intro i g m vs b z l J K;simp only [afy,List.isEmpty_iff] at z;subst z;obtain ⟨E,H⟩:=ac9 l;obtain rfl:m=[]:=zap.1 E;obtain rfl:vs=[]:=zap.1 H;cases l;simp [Op.eqFields]
       | cons f fl ihl=>
         intro i g m vs b z l J K;simp only [afy,zah,bne_iff_ne,ne_eq,beq_iff_eq,decide_eq_true_eq] at z;obtain ⟨⟨⟨⟨Z,f2⟩,f3⟩,I⟩,T⟩:=z;obtain ⟨M,b2,E,H,rfl⟩:=af0 (P.cellsOf f.type) l;obtain ⟨N,R⟩:=ac9 E;have r:(g.take (P.cellsOf f.type)).length<=P.cellsOf f.type:=by simp; omega
         obtain ⟨x,S,O⟩:=aah I J.take N r;obtain ⟨y,U,Q⟩:=aah I K.take R r;simp only [Op.eqFields,if_pos Z,Sem.run_bind];rw [f2,S,Result.andThen_ok,U,Result.andThen_ok,W I E O Q,Result.andThen_ok];cases M
         ·simp
         simpa using ihl (i+P.cellsOf f.type) T H J.drop K.drop
      exact G _ 0 a l L A
     case array n e=>
      simp only [↓reduceIte] at C B;simp only [zah] at a;obtain ⟨cs,rfl,L⟩:=C;obtain ⟨o,rfl,A⟩:=B;obtain ⟨i,hi⟩:=Option.isSome_iff_exists.1 a.1;rw [show D+(d+1)=D+d+1 from rfl,run_equalIn_array w (D+d) cs o hd hi];obtain ⟨_,a⟩:=a
      have G:∀(n j:Nat) {g:List Nat} {m vs:List AV} {b:Bool},afz (yc P d) P e n g=true->eql g m vs=some b->AtR X s ρ w cs (j*P.cellsOf e) m->AtR X s ρ w o (j*P.cellsOf e) vs->(Op.eqItems (D+d) e (P.cellsOf e) cs o (List.range' j n)).run P w=.ok b w:=by
       intro n
       induction n with
       | zero=>
         intro j g m vs b z l J K;simp only [afz,List.isEmpty_iff] at z;subst z;obtain ⟨E,H⟩:=ac9 l;obtain rfl:m=[]:=zap.1 E;obtain rfl:vs=[]:=zap.1 H;cases l;simp [Op.eqItems]
       | succ n ihn=>
         intro j g m vs b z l J K;simp only [afz,zah,decide_eq_true_eq] at z;obtain ⟨⟨f3,I⟩,T⟩:=z;obtain ⟨M,b2,E,H,rfl⟩:=af0 (P.cellsOf e) l;obtain ⟨N,R⟩:=ac9 E;have r:(g.take (P.cellsOf e)).length<=P.cellsOf e:=by simp; omega
         obtain ⟨x,S,O⟩:=aah I J.take N r;obtain ⟨y,U,Q⟩:=aah I K.take R r;simp only [List.range'_succ,Op.eqItems,Sem.run_bind];rw [S,Result.andThen_ok,U,Result.andThen_ok,W I E O Q,Result.andThen_ok];cases M
         ·simp
         have Y:=J.drop (n:=P.cellsOf e);have V:=K.drop (n:=P.cellsOf e);rw [<- Nat.succ_mul] at Y V;simpa using ihn (j+1) T H Y V
      rw [List.range_eq_range'];exact G n 0 a l (by simpa using L) (by simpa using A)
     all_goals
      simp only [zak,↓reduceIte] at C B a;obtain ⟨u,rfl,C⟩:=C;obtain ⟨v,rfl,B⟩:=B
      match g,a,l with
      | [k],a,l=>
        simp only [eql] at l;split at l
        ·rename_i p q hp hq;cases hq;cases l;rw [Bool.and_true];exact aze (by simpa [ai,hd] using a) hp C B
        cases l
theorem ay7 {g:Bool} (z:g=true) {d:Bool} {k:List Nat} {op:BinOp} {t ty:TypeId} {x y:Operand} {u v:AV} (B:o.op=.binOp op t x y ty) (m:op=if d then .neq else .eql) (q:aww P t k=true)
 (h:RA X s ρ w u (a.eval x)) (C:RA X s ρ w v (a.eval y)) (D:u.isA=true) (F:v.isA=true) (f:(zo g d (eql k u.cells v.cells)).1):o7 P X a w s ρ o (zo g d (eql k u.cells v.cells)).2:=by
 rcases he:eql k u.cells v.cells with _ | b
 ·rw [he] at f; first | exact (f z).elim | exact (f.2 z).elim
 simp only [aww,zah,Bool.not_eq_true'] at q;obtain ⟨⟨E,r⟩,A⟩:=q;obtain ⟨cs,hc,p⟩:=alm h D;obtain ⟨e,n,j⟩:=alm C F
 have l:(Op.equal t (.agg cs) (.agg e)).run P w=.ok b w:=by
  have:=amn (X:=X) (s:=s) (ρ:=ρ) (w:=w) 9996 4 E he (c:=.agg cs) (c':=.agg e) (by unfold aas; rw [if_pos r]; exact ⟨cs,rfl,λ i u h=>by simpa using p i u h⟩) (by unfold aas; rw [if_pos r]; exact ⟨e,rfl,λ i u h=>by simpa using j i u h⟩);exact this
 simp only [o7,execOp,B,hc,n];refine ⟨_,?_,cr _⟩;subst m;cases d<;>simp [binOp,l,run_eqGuard_agg w _ t x y cs e A]
theorem a14 {g:Bool} (c:g=true) {op:UnOp} {t:TypeId} {x:Operand} {u:AV} (f:o.op=.unOp op t x) (e:RA X s ρ w u (a.eval x)) (b:(un1 g op u).1):o7 P X a w s ρ o (un1 g op u).2:=by
 unfold un1 at b |-;split at b
 ·have d:=m7 e;simp only [o7,execOp,f,d];cases op<;>simp only [bad,c,true_implies,forall_const] at b |-
  all_goals first
   | first | exact (b c).elim | exact (b.2 c).elim
   | (refine ⟨_,?_,cr _⟩; simp [Op.unary,Op.intArith,Op.intBits]; done)
 ·have d:=m7 e;simp only [o7,execOp,f,d];cases op<;>simp only [bad,c,true_implies,forall_const] at b |-
  all_goals first
   | first | exact (b c).elim | exact (b.2 c).elim
   | (refine ⟨_,?_,cr _⟩; simp [Op.unary]; done)
 first | exact (b c).elim | exact (b.2 c).elim
theorem avl {g:Bool} (c:g=true) {k:IntKind} {t e:TypeId} {d:TypeDesc} {x:Operand} {u:AV} (i:o.op=.convert t e x) (h:P.underlying t=some d) (l:P.underlying e=some (.int k)) (f:RA X s ρ w u (a.eval x))
 (b:(qp g k u).1):o7 P X a w s ρ o (qp g k u).2:=by
 unfold qp at b |-;split at b
 ·have j:=m7 f;simp only [o7,execOp,i,j];refine ⟨_,?_,cr _⟩;simp [convert,run_underlying h,run_underlying l,Conv.intToInt]
 first | exact (b c).elim | exact (b.2 c).elim
theorem u4 {ob:Obs} {ver:Nat} {r:Nat×RV×Bool×Bool×List RV} (h:l9 ob id ver=some r):ob id=some (ver,.row r.1 r.2.1 r.2.2.1 r.2.2.2.1 r.2.2.2.2):=by
 unfold l9 at h;split at h
 ·split at h
  ·rename_i a b;cases h;rw [a,b]
  cases h
 cases h
theorem fv {ob:Obs} {ver:Nat} {r:List AV} (h:t5 ob id ver=some r):ob id=some (ver,.box r):=by
 unfold t5 at h;split at h
 ·split at h
  ·rename_i a b;cases h;rw [a,b]
  cases h
 cases h
theorem ai5 {ob:Obs} {ver:Nat} {r:Unit} (h:go ob id ver=some r):∃o,ob id=some (ver,o):=by
 unfold go at h;split at h
 ·split at h
  ·rename_i a b;exact ⟨_,by rw [a,b]⟩
  cases h
 ·split at h
  ·rename_i a b;exact ⟨_,by rw [a,b]⟩
  cases h
 cases h
theorem At.live {ob:Obs} {ver:Nat} {X:Ob->Prop} {o:Ob} (h:At ob id ver X) (a:ob id=some (ver,o)):X o:=by
 obtain ⟨v,o',b,d,c⟩:=h;rw [b] at a;cases a;exact c rfl
theorem mu {ver a len:Nat} {r:Nat×RV×Bool×Bool×List RV} (h:RA X s ρ w (.own id ver a len) c) (b:l9 s.ob id ver=some r) :
 adh w ρ id a len c (.row r.1 r.2.1 r.2.2.1 r.2.2.2.1 r.2.2.2.2):=by
 cases h;rename_i h;exact h.live (u4 b)
theorem ay1 {g:Bool} (z:g=true) {str:Bool} {x:Operand} {u:AV} {t:TypeId} {d:TypeDesc} {c:Call} (G:o.op=.call c) (hc:c.callee=.builtin .len) (hx:c.args=#[x]) (F:c.argTypes=#[t]) (B:P.underlying t=some d)
 (j:aby str d=true) (p:RA X s ρ w u (a.eval x))
 (f:(sq g str u s.ob).ok):o7 P X a w s ρ o (sq g str u s.ob).v:=by
 have l:∀(m:Nat) (v:Value),a.eval x=v->(∀e,d=.slice e->∃A k,v=.slice A m k)->(d=.string->∃b,v=.string b/\b.size=m)->o7 P X a w s ρ o (int .i64 m):=by
  intro m v y D J;simp only [o7,execOp,G];refine ⟨_,?_,cr _⟩;unfold aby at j;split at j
  ·rename_i B;obtain ⟨b,rfl,rfl⟩:=J rfl;simp [resolve,hc,hx,F,y,invoke,builtin,Builtin.len_,run_underlying B,goInt]
  ·rename_i B;obtain ⟨A,k,rfl⟩:=D _ rfl;simp [resolve,hc,hx,F,y,invoke,builtin,Builtin.len_,run_underlying B,goInt]
  cases j
 unfold sq at f |-;split at f
 ·cases p;rename_i p;generalize y:a.eval x=v at p;cases p;rename_i A cap M b o g hc Q C N z;refine l _ _ y (λ e i=>⟨A,cap,rfl⟩) (λ i=>?_);subst i;simp only [aby] at j;have:=f.1;rw [j] at this;cases this
 ·have D:=m7 p;refine l _ _ D (λ e i=>?_) (λ i=>⟨_,rfl,rfl⟩);subst i;have:=f.1;simp only [aby] at j;rw [this] at j;cases j
 ·generalize y:a.eval x=v at p;cases p;refine l 0 _ y (λ e i=>⟨_,_,rfl⟩) (λ i=>?_);subst i;simp only [aby] at j;have:=f.1;rw [j] at this;cases this
 ·split at f
  ·rename_i r C;obtain ⟨A,cap,E,H,I,O,L⟩:=mu p C;simp only [C];refine l _ _ E (λ e i=>⟨_,_,rfl⟩) (λ i=>?_);subst i;simp only [aby] at j;have:str=false:=f;rw [j] at this;cases this
  rename_i id ver _ n _ K;rcases hb:t5 s.ob id ver with _ | q
  ·rw [hb] at f;exact (f z).elim
  rw [hb] at f
  obtain ⟨A,cap,E,H,I,L⟩:adh w ρ _ _ _ (a.eval x) (.box q):=by
   cases p;rename_i h;exact h.live (fv hb)
  refine l _ _ E (λ e i=>⟨_,_,rfl⟩) (λ i=>?_);subst i;simp only [aby] at j;have:str=false:=f;rw [j] at this;cases this
 first | exact (f z).elim | exact (f.2 z).elim | exact f.2.elim
theorem ci (b o k:Nat):(⟨b,o,none⟩:Addr).add k=⟨b,o+k,none⟩:=by
 unfold Addr.add; split<;>simp_all
theorem a17 {g:Bool} (D:g=true) {t e:TypeId} {i:TypeInfo} {sz:Nat} {z:RV} {x y:Operand} {u v:AV} (L:o.op=.indexAddr t x y) (H:P.underlying t=some (.slice e)) (K:P.info? e=some i)
 (hz:i.size=sz) (C:RA X s ρ w u (a.eval x)) (M:RA X s ρ w v (a.eval y))
 (d:(ia2 g sz z u v s.ob).ok):o7 P X a w s ρ o (ia2 g sz z u v s.ob).v:=by
 unfold ia2 at d |-;subst hz;split at d
 ·rename_i sz xs k m;have G:=m7 M;obtain ⟨rfl,n⟩:=d;obtain ⟨n,T⟩:=n D;cases C;rename_i C;generalize hc:a.eval x=c at C;cases C;rename_i A cap hm b o' V U hA E h0 F;obtain ⟨rfl,W⟩:=hA (by omega);obtain ⟨f,rfl⟩:∃f:Nat,m=(f:Int):=⟨m.toNat,by omega⟩
  have l:f<xs.length:=by omega
  simp only [o7,execOp,L];refine ⟨.pointer (some ⟨b,o'+f*i.size,none⟩),?_,?_⟩
  ·simp [Instr.indexAt,asIntOf,G,hc,run_underlying H,sizeOf,typeInfo,K,l,ci]
  simp only [Vs.q,zal];have hx:xs[f]?=some (xs.getD f z):=by simp [l]
  exact .rp _ b _ (λ j=>V f j) W λ j y Q=>⟨(F f _ j y hx Q).1,(F f _ j y hx Q).2,E f _ j y hx Q⟩
 ·rename_i id ver O m k q;split at d
  ·rename_i I r E;have G:=m7 M;obtain ⟨p,n⟩:=d;obtain ⟨n,T⟩:=n D;obtain ⟨A,cap,N,Z,e3,e4,S⟩:=mu C E;obtain ⟨b,cs,Y,fr,J,R,f3,f4⟩:=S (by omega);obtain ⟨f,rfl⟩:∃f:Nat,q=(f:Int):=⟨q.toNat,by omega⟩
   simp only [E];simp only [o7,execOp,L];refine ⟨.pointer (some ⟨b,(O+f)*I+0,none⟩),?_,?_⟩
   ·have l:f<m:=by omega
    simp [Instr.indexAt,asIntOf,G,N,R,run_underlying H,sizeOf,typeInfo,K,l,ci,p,Nat.add_mul]
   refine .oel id ver _ 0 _ rfl ⟨ver,_,u4 E,zaa _,λ _=>?_⟩;exact ⟨by rw [zal]; simp only at e4 |-; omega,Nat.zero_le _,b,J,by rw [zal]⟩
  rcases hb:t5 s.ob id ver with _ | B
  ·rw [hb] at d;exact (d D).elim
  rw [hb] at d;have G:=m7 M;obtain ⟨p,n⟩:=d;obtain ⟨n,T⟩:=n D
  obtain ⟨A,cap,N,Z,e3,S⟩:adh w ρ id O m (a.eval x) (.box B):=by
   cases C;rename_i h;exact h.live (fv hb)
  obtain ⟨b,cs,Y,fr,J,R,f3,f4⟩:=S (by omega);obtain ⟨f,rfl⟩:∃f:Nat,q=(f:Int):=⟨q.toNat,by omega⟩
  simp only [o7,execOp,L,iab];refine ⟨.pointer (some ⟨b,O+f,none⟩),?_,?_⟩
  ·have l:f<m:=by omega
   simp [Instr.indexAt,asIntOf,G,N,R,run_underlying H,sizeOf,typeInfo,K,l,ci,p]
  exact .ptr id ver _ _ rfl ⟨ver,_,fv hb,zaa _,λ _=>⟨b,J,by rw [zal]⟩⟩
 first | exact (d D).elim | exact (d.2 D).elim | exact d.2.elim
theorem as3 {g:Bool} (j:g=true) {e:Bool}:∀{vs:List AV} {cs:List Value} {u:AV} {c:Value},(mmL g e u vs).1->RA X s ρ w u c->vs.length=cs.length->(∀(i:Nat) (x:AV) (y:Value),vs[i]?=some x->cs[i]?=some y->RA X s ρ w x y) ->
 ∃r,(cs.foldlM (bif e then Builtin.max2 else Builtin.min2) c).run P w=.ok r w/\RA X s ρ w (mmL g e u vs).2 r
 | [],[],u,c,hok,hu,hl,h=>by
   have l:mmL g e u []=(True,u):=by unfold mmL; rfl
   exact ⟨c,by simp,by rw [l]; exact hu⟩
 | v::vs,d::cs,u,c,hok,hu,hl,h=>by
   have m:=h 0 v d rfl rfl;unfold mmL at hok;split at hok
   ·rename_i f;cases f
   ·rename_i k a o b ys f;cases f;have n:=m7 hu;have p:=m7 m;subst n; subst p;obtain ⟨r,g1,g2⟩   := as3 j (cs:=cs) hok (cr (.int k (bif e then max a b else min a b))) (by simpa using hl) (λ i x y hx hy=>h (i+1) x y (by simpa using hx) (by simpa using hy));refine ⟨r,?_,?_⟩
    ·rw [List.foldlM_cons,Sem.run_bind]
     have:((bif e then Builtin.max2 else Builtin.min2) (.int k a) (.int o b)).run P w=.ok (.int k (bif e then max a b else min a b)) w:=by
      cases e
      ·simp only [cond_false,Builtin.min2,Sem.run_pure];congr 2;rw [Int.min_def];split<;>split<;>omega
      simp only [cond_true,Builtin.max2,Sem.run_pure];congr 2;rw [Int.max_def];split<;>split<;>omega
     rw [this,Result.andThen_ok];exact g1
    rw [mmL]; exact g2
   first | exact (hok j).elim | exact (hok.2 j).elim
 | [],_::_,_,_,_,_,hl,_=>by cases hl
 | _::_,[],_,_,_,_,hl,_=>by cases hl
theorem a16 {g:Bool} (l:g=true) {d:Bool} {c:Call} {x:Operand} {ys:List Operand} {u:AV} {vs:List AV} (f:o.op=.call c) (hc:c.callee=.builtin (if d then .max else .min)) (hx:c.args.toList=x::ys) (j:RA X s ρ w u (a.eval x))
 (m:vs.length=ys.length) (h:∀(i:Nat) (v:AV) (y:Operand),vs[i]?=some v->ys[i]?=some y->RA X s ρ w v (a.eval y)) (e:(mmL g d u vs).1):o7 P X a w s ρ o (mmL g d u vs).2:=by
 obtain ⟨r,h1,h2⟩   := as3 l (P:=P) (cs:=ys.map a.eval) e j (by simp [m]) (λ i x y hx hy=>by
  rw [List.getElem?_map,zaq] at hy;obtain ⟨z,k,rfl⟩:=hy
  exact h i x z hx k)
 have b:c.args=(x::ys).toArray:=by rw [<- hx]
 refine ⟨r,?_,h2⟩;cases d
 ·simp only [if_false,cond_false,zak] at h1 hc;simp [execOp,f,resolve,hc,b,invoke,builtin,Builtin.min_,h1]
 simp only [if_true,cond_true] at h1 hc;simp [execOp,f,resolve,hc,b,invoke,builtin,Builtin.max_,h1]
theorem ay3 {g:Bool} (l:g=true) {t e:TypeId} {i:TypeInfo} {n sz:Nat} {x y:Operand} {u v:AV} (N:o.op=.indexAddr t x y) (I:P.underlying t=some (.array n e)) (M:P.info? e=some i)
 (Q:i.size=sz) (E:RA X s ρ w u (a.eval x)) (F:RA X s ρ w v (a.eval y)) (d:(lm g n sz u v s.ob).ok):o7 P X a w s ρ o (lm g n sz u v s.ob).v:=by
 subst Q
 have p:∀b o' k (m:Int),a.eval x=.pointer (some ⟨b,o',none⟩)->a.eval y=.int k m->0<=m->m<n->(execOp a.eval o).run P w=.ok (.value (.pointer (some ⟨b,o'+m.toNat*i.size,none⟩))) w:=by
  intro b o' k m hx hy S O;simp [execOp,N,hx,hy,Instr.indexAt,asIntOf,run_underlying I,Instr.sureAddr,sizeOf,typeInfo,M,ci,S,O]
 unfold lm at d |-;split at d
 ·rename_i id ver o' k m;split at d
  ·rename_i r z;have C:=fv z;have B:=m7 F;cases E;rename_i h;obtain ⟨b,q,hc⟩:=h.live C;simp only [z];exact ⟨_,p b _ k m hc B (d l).1 (d l).2,.ptr _ _ _ _ rfl ⟨_,_,C,zaa _,λ _=>⟨b,q,rfl⟩⟩⟩
  first | exact (d l).elim | exact (d.2 l).elim | exact d.2.elim
 ·rename_i id ver idx o' k m;split at d
  ·rename_i K r z;have C:=u4 z;have B:=m7 F;cases E;rename_i h;obtain ⟨A,G,b,q,hc⟩:=h.live C;simp only [z];obtain ⟨D,R,T⟩:=d l;refine ⟨_,p b _ k m hc B D R,.oel _ _ _ _ _ rfl ⟨_,_,C,zaa _,λ _=>⟨A,?_,b,q,?_⟩⟩⟩
   ·have:m.toNat*i.size<=n*i.size:=Nat.mul_le_mul_right _ (by omega);simp only;omega
   rw [zaj]
  first | exact (d l).elim | exact (d.2 l).elim | exact d.2.elim
 ·rename_i ys k m;have B:=m7 F;generalize hc:a.eval x=c at E;cases E;rename_i b o' f J L;obtain ⟨_,D⟩:=d;refine ⟨_,p b o' k m hc B (D l).1 (D l).2,.rp _ b _ (λ j=>f (m.toNat*i.size+j)) J λ j y H=>?_⟩;rw [zab] at H;have:=L (m.toNat*i.size+j) y H;rw [<- zaj] at this;exact this
 first | exact (d l).elim | exact (d.2 l).elim | exact d.2.elim
def aab:Array Value->Sem Value:=λ args=>do
 let (x, y, b) ← Extern.MathBitsCarry.three "Sub64" args
 pure (Extern.MathBitsCarry.pair ((x+Extern.MathBitsCarry.m64-y-b)%Extern.MathBitsCarry.m64) (if x<y+b then 1 else 0))
theorem as2 (x y b:Nat) (a:b<=1) (w:World) :
 (aab #[.int .u64 x,.int .u64 y,.int .u64 b]).run P w =
  .ok (.tuple #[.int .u64 (((x+18446744073709551616-y-b)%18446744073709551616:Nat):Int),.int .u64 ((if x<y+b then 1 else 0:Nat):Int)]) w:=by
 have:b=0\/b=1:=by omega
 rcases this with rfl | rfl<;>rfl
theorem arx {b : Bool} {fn : Func} (h : fn.name = if b then "math/bits.Sub64" else "math/bits.Add64") (i : fn.origin = "" ∨ fn.origin = fn.name) :
 Extern.findNext fn = none ∧ Extern.find fn = some (if b then aab else add64Entry) ∧ (fn.name == "runtime.NumGoroutine") = false := by
 have a : fn.origin = "" ∨ fn.origin = if b then "math/bits.Sub64" else "math/bits.Add64" := by rw [← h]; exact i
 unfold Extern.findNext Extern.find;rw [h];cases b<;>simp only [if_true,if_false,zak] at a |-
 ·have c : Extern.allGenericRows.lookup "math/bits.Add64" = none := by kernel_rfl
  have g : Extern.allTypedRows.lookup "math/bits.Add64" = none := by kernel_rfl
  have f : Extern.allRows.lookup "math/bits.Add64" = some add64Entry := by kernel_rfl
  have d : Extern.allNextRows.lookup "math/bits.Add64" = none := by kernel_rfl
  have e : Extern.allNextRows.lookup "" = none := by kernel_rfl
  refine ⟨?_,?_,by decide⟩
  ·rcases a with a | a<;>simp [a,d,e]
  simp [c,g,f]
 have c : Extern.allGenericRows.lookup "math/bits.Sub64" = none := by kernel_rfl
 have g : Extern.allTypedRows.lookup "math/bits.Sub64" = none := by kernel_rfl
 have f : Extern.allRows.lookup "math/bits.Sub64" = some aab := by kernel_rfl
 have d : Extern.allNextRows.lookup "math/bits.Sub64" = none := by kernel_rfl
 have e : Extern.allNextRows.lookup "" = none := by kernel_rfl
 refine ⟨?_,?_,by decide⟩
 ·rcases a with a | a<;>simp [a,d,e]
 simp [c,g,f]
theorem asw {g:Bool} (A:g=true) {e:Bool} {c:Call} {f:FuncId} {x y z:Operand} {u v t:AV} (J:o.op=.call c) (hc:c.callee=.value (.func f)) (l:aks P e f=true) (hx:c.args.toList=[x,y,z])
 (M:RA X s ρ w u (a.eval x)) (L:RA X s ρ w v (a.eval y)) (E:RA X s ρ w t (a.eval z)) (h:(ko g e u v t).1):o7 P X a w s ρ o (ko g e u v t).2:=by
 unfold ko at h |-;split at h
 ·rename_i p q r;have N:=m7 M;have R:=m7 L;have G:=m7 E;obtain ⟨C,D,B,F,T,U⟩:=h A;have j:c.args=#[x,y,z]:=by rw [show c.args=c.args.toList.toArray by simp,hx]
  unfold aks at l;split at l
  ·rename_i fn n;simp only [zah,Bool.or_eq_true,beq_iff_eq] at l;obtain ⟨⟨H,S⟩,K⟩:=l;obtain ⟨O,I,Q⟩:=arx S K;have k:=λ args w=>run_callFunc_extern (P:=P) n Q H O I args w
   have b:(execOp a.eval o).run P w=(((if e then aab else add64Entry) #[.int .u64 p,.int .u64 q,.int .u64 r]).run P w).andThen (λ v w'=>Result.ok (Next.value v) w'):=by
    have m:c.args.map a.eval=#[.int .u64 p,.int .u64 q,.int .u64 r]:=by rw [j,<- N,<- R,<- G]; simp
    rw [<- k,<- m];simp [execOp,J,resolve,hc,Act.eval,Deferred.ofValue,invoke]
    try rfl
   cases e
   ·simp only [if_false,zak] at b;rw [run_add64 p q r C D B F,Result.andThen_ok] at b;refine ⟨_,b,.tup _ _ rfl λ i x c hx hc=>?_⟩;rcases i with _ | _ | i
    ·simp at hx hc; subst hx; subst hc; exact cr _
    ·simp at hx hc; subst hx; subst hc; exact cr _
    simp at hx
   simp only [if_true] at b;obtain ⟨p,rfl⟩:=zar C;obtain ⟨q,rfl⟩:=zar D;obtain ⟨r,rfl⟩:=zar B;have d:=b;rw [as2 p q r (by omega),Result.andThen_ok] at d;refine ⟨_,d,.tup _ _ rfl λ i x c hx hc=>?_⟩;rcases i with _ | _ | i
   ·simp only [zas,List.getElem?_cons_zero,Option.some.injEq] at hx hc;subst hx; subst hc;have:(((p+18446744073709551616-q-r)%18446744073709551616:Nat):Int)=((p:Int)+18446744073709551616-q-r)%18446744073709551616:=by omega
    rw [this];exact cr _
   ·simp only [zas,List.getElem?_cons_zero,List.getElem?_cons_succ,Option.some.injEq] at hx hc;subst hx; subst hc;have:((if p<q+r then 1 else 0:Nat):Int)=if (p:Int)<q+r then 1 else 0:=by split<;>split<;>omega
    rw [<- this];exact cr _
   simp at hx
  cases l
 first | exact (h A).elim | exact (h.2 A).elim
theorem ay2 {g:Bool} (f:g=true) {t:TypeId} {x y:Operand} {u v:AV} (j:o.op=.index t x y) (h:P.underlying t=some .string)
 (n:RA X s ρ w u (a.eval x)) (l:RA X s ρ w v (a.eval y)) (c:(xm g u v).1):o7 P X a w s ρ o (xm g u v).2:=by
 unfold xm at c |-;split at c
 ·rename_i b k m;have p:=m7 n;have r:=m7 l;obtain ⟨A,B⟩:=c f;obtain ⟨d,rfl⟩:∃d:Nat,m=(d:Int):=⟨m.toNat,by omega⟩
  have e:d<b.size:=by omega
  simp only [o7,execOp,j];refine ⟨_,?_,cr _⟩
  have z:b[d]?=some (b.data.toList.getD d 0):=by
   have q:d<b.data.size:=e;have i:b[d]?=some (b[d]'e):=getElem?_pos b d e;rw [i];simp only [List.getD_eq_getElem?_getD,Array.getElem?_toList];rw [Array.getElem?_eq_getElem q]
   rfl
  simp [Instr.index,asIntOf,p,r,run_underlying h,z]
 first | exact (c f).elim | exact (c.2 f).elim
theorem ayy {g:Bool} (i:g=true) {x:Operand} {u:AV} (k:o.op=.nilCheck x) (f:RA X s ρ w u (a.eval x)) (d:(uv g u s.ob).ok):o7 P X a w s ρ o (uv g u s.ob).v:=by
 unfold uv at d |-;split at d
 ·split at d
  ·rename_i r j;have e:=f;cases f;rename_i h;obtain ⟨o',l⟩:=ai5 j;obtain ⟨b,_,hc⟩:=h.live l;simp only [o7,execOp,k,hc,j];exact ⟨_,rfl,by rw [<- hc]; exact e⟩
  first | exact (d i).elim | exact (d.2 i).elim | exact d.2.elim
 ·split at d
  ·rename_i r j;have e:=f;cases f;rename_i h;obtain ⟨_,_,b,_,hc⟩:=h.live (u4 j);simp only [o7,execOp,k,hc,j];exact ⟨_,rfl,by rw [<- hc]; exact e⟩
  first | exact (d i).elim | exact (d.2 i).elim | exact d.2.elim
 ·have e:=f;generalize hc:a.eval x=c at f e;cases f;simp only [o7,execOp,k,hc];exact ⟨_,rfl,e⟩
 ·have e:=f;generalize hc:a.eval x=c at f e;cases f;simp only [o7,execOp,k,hc];exact ⟨_,rfl,e⟩
 first | exact (d i).elim | exact (d.2 i).elim | exact d.2.elim
theorem ak9 (b o:Nat) (cs:List Value) (h:∀j v,cs[j]?=some v->w.cell? ⟨b,o+j,none⟩=some v):(loadCells ⟨b,o,none⟩ cs.length).run P w=.ok cs.toArray w:=
 run_loadCells_list w ⟨b,o,none⟩ cs λ j v a=>by rw [ci]; exact h j v a
theorem amm {t:TypeId} {m:Option Nat} (a:ack P t m=true) (b o:Nat) (cs:List Value) (f:cs.length=m.getD 1) (h:∀j v,cs[j]?=some v->w.cell? ⟨b,o+j,none⟩=some v) :
 (Instr.loadAt t (.pointer (some ⟨b,o,none⟩))).run P w=.ok (match m with | none=>cs.getD 0 undef | some _=>.agg cs.toArray) w:=by
 unfold ack at a;split at a
 ·rename_i q i g n;have:m=some i.size:=by simpa using a
  subst this;have l:=ak9 (P:=P) b o cs h;simp only [zae] at f;rw [f] at l;simp [Instr.loadAt,Instr.sureAddr,loadVar,isAgg,run_underlying g,sizeOf,typeInfo,n,l]
 ·rename_i k e i g n;have:m=some i.size:=by simpa using a
  subst this;have l:=ak9 (P:=P) b o cs h;simp only [zae] at f;rw [f] at l;simp [Instr.loadAt,Instr.sureAddr,loadVar,isAgg,run_underlying g,sizeOf,typeInfo,n,l]
 ·rename_i d i r s g n;have:m=none:=by simpa using a
  subst this;simp only [zaf] at f;obtain ⟨c,rfl⟩:=List.length_eq_one_iff.1 f;have hc:=h 0 c rfl;simp only [Nat.add_zero] at hc
  have p:(isAgg t).run P w=.ok false w:=by
   simp only [isAgg,Sem.run_bind,run_underlying g,Result.andThen_ok]
   rfl
  simp [Instr.loadAt,Instr.sureAddr,loadVar,p,hc]
 cases a
theorem ay5 {g:Bool} (f:g=true) {x:Operand} {u:AV} (j:o.op=.extract x i) (e:RA X s ρ w u (a.eval x)) (b:(xq g i u).1):o7 P X a w s ρ o (xq g i u).2:=by
 unfold xq at b |-;split at b
 ·rename_i xs;generalize hc:a.eval x=c at e;cases e;rename_i cs l h;have d:i<cs.size:=by omega
  simp only [o7,execOp,j,hc];refine ⟨cs[i],?_,h i _ _ ?_ (by simp [d])⟩
  ·simp [Instr.extract,d]
  have k:i<xs.length:=b;simp [k]
 first | exact (b f).elim | exact (b.2 f).elim
theorem aw3 {ys:List RV} {o:Nat} {g:Nat->Value} (e:∀(j:Nat) (y:RV),ys[j]?=some y->w.cell? ⟨b,o+j,none⟩=some (g j)) :
 ((List.range ys.length).map g).length=ys.length/\∀j v,((List.range ys.length).map g)[j]?=some v->w.cell? ⟨b,o+j,none⟩=some v:=by
 refine ⟨by simp,λ j v d=>?_⟩;rw [List.getElem?_map,zaq] at d;obtain ⟨k,f,rfl⟩:=d;obtain ⟨c,a⟩:=zam.1 f;rw [List.getElem_range] at a;subst a;rw [List.length_range] at c;exact e j ys[j] (by simp [c])
theorem asu {m:Option Nat} {t:TypeId} {x:Operand} {ys:List RV} {o':Nat} {f:Nat->Value} {R:Nat->Prop} (u:o.op=.load t x) (r:ack P t m=true) (hx:a.eval x=.pointer (some ⟨b,o',none⟩))
 (n:∀(j:Nat) (y:RV),ys[j]?=some y->w.cell? ⟨b,o'+j,none⟩=some (f j)/\(f j).oneCell'=true/\RelV w R y (f j)) (h:m.getD 1<=ys.length) :
 ∃c,(execOp a.eval o).run P w=.ok (.value c) w/\RelV w R (match m with | none=>ys.getD 0 (.v (.bool false)) | some k=>.agg (ys.take k)) c:=by
 obtain ⟨p,q⟩:=aw3 (ys:=ys.take (m.getD 1)) (w:=w) (b:=b) (o:=o') (g:=f) λ j y d=>by
  rw [zad] at d;split at d
  ·exact (n j y d).1
  cases d
 rw [List.length_take,Nat.min_eq_left h] at p q;have s:=amm r b o' _ p q;simp only [execOp,u,hx];refine ⟨_,by simp only [Sem.run_bind,s,Result.andThen_ok]; rfl,?_⟩;cases m with
 | none=>
   simp only [zaf] at h |-;have:ys[0]?=some (ys.getD 0 (.v (.bool false))):=by simp [show 0<ys.length by omega]
   have:=(n 0 _ this).2.2;simpa using this
 | some k=>
   simp only [zae] at h |-;refine .agg _ _ (by simp; omega) λ i x c hx hc=>?_;rw [zad] at hx;split at hx
   ·rename_i e
    have l:c=f i:=by
     simp [e] at hc;exact hc.symm
    subst l;exact (n i x hx).2.2
   cases hx
theorem axy (b:Gam X s ρ a w) {ver:Nat} {ob:Ob} (h:s.ob id=some (ver,ob)):cj w (j8 X.B s.ob ρ w) s.ob ρ id ob:=b.obj id ver ob h
theorem asv {g:Bool} (C:g=true) {m:Option Nat} {t:TypeId} {x:Operand} {u:AV} (hG:Gam X s ρ a w) (T:o.op=.load t x) (S:ack P t m=true) (U:RA X s ρ w u (a.eval x))
 (d:(ld1 g m u s.ob).ok):o7 P X a w s ρ o (ld1 g m u s.ob).v:=by
 unfold ld1 at d |-;split at d
 ·rename_i id ver off;unfold ldb at d |-;split at d
  ·rename_i D hr;have Q:=fv hr;cases U;rename_i h;obtain ⟨b,G,hc⟩:=h.live Q;obtain ⟨b',cs,e,n,Y,W,E⟩:=axy hG Q;rw [G] at n;cases n;have l:∀j,w.cell? ⟨b,j,none⟩=cs[j]?:=λ j=>by simp [World.cell?,Y]
   cases m with
   | none=>
     have L:off<D.length:=d C;have hx:cs[off]?=some cs[off]:=by simp [show off<cs.size by omega]
     have F:=amm (P:=P) (w:=w) S b off [cs[off]] rfl λ j v A=>by
      cases j with
      | zero=>simp at A; subst A; rw [l]; simpa using hx
      | succ j=>simp at A
     simp only [o7,execOp,T,hc];refine ⟨_,by simp only [Sem.run_bind,F,Result.andThen_ok]; rfl,?_⟩;simp only [List.getD_cons_zero];exact E off _ _ (by simp [L]) hx
   | some k=>
     have L:off+k<=D.length:=d C
     have F:=amm (P:=P) (w:=w) S b off ((cs.toList.drop off).take k) (by simp; omega) λ j v A=>by
      rw [zad] at A;split at A
      ·rw [zab] at A;rw [l];simpa using A
      cases A
     simp only [o7,execOp,T,hc];refine ⟨_,by simp only [Sem.run_bind,F,Result.andThen_ok]; rfl,?_⟩;refine .agg _ _ (by simp; omega) λ i x c hx O=>?_;rw [zad] at hx;split at hx
     ·rename_i V;rw [zab] at hx;refine E (off+i) x c hx ?_;simp only [zas,zad,V,if_true,zab] at O;simpa using O
     cases hx
  first | exact (d C).elim | exact (d.2 C).elim | exact d.2.elim
 ·rename_i id ver idx off;unfold ldr at d |-;split at d
  ·rename_i sz z h5 wr xs hr;have Q:=u4 hr;cases U;rename_i h;obtain ⟨p,J,b,G,hc⟩:=h.live Q;simp only at p J;have M:=axy hG Q;simp only [cj] at M;rcases M with ⟨R,_⟩ | ⟨b',cs,e,fr,n,Y,h6,h4,W,h0⟩
   ·rw [R] at p; simp at p
   rw [G] at n;cases n;have hx:xs[idx]?=some (xs.getD idx z):=by simp [p]
   obtain ⟨hl,K⟩:=h0 idx _ hx;generalize xs.getD idx z=y at hl K |-;have l:∀j,w.cell? ⟨b,j,none⟩=cs[j]?:=λ j=>by simp [World.cell?,Y]
   have N:∃f:Nat->Value,∀(j:Nat) (q:RV),(y.cells.drop off)[j]?=some q->w.cell? ⟨b,idx*sz+off+j,none⟩=some (f j)/\(f j).oneCell'=true/\RelV w (j8 X.B s.ob ρ w) q (f j):=by
    refine ⟨λ j=>(cs[idx*sz+(off+j)]?).getD undef,λ j q A=>?_⟩;rw [zab] at A;obtain ⟨c,I,H,h3⟩:=K _ q A;simp only [I,zae];refine ⟨?_,H,h3⟩;rw [l,zaj,I]
   obtain ⟨f,Z⟩:=N
   have hm:m.getD 1<=(y.cells.drop off).length:=by
    rw [List.length_drop,hl];cases m with
    | none=>have:off<sz:=d C; simp only [zaf]; omega
    | some k=>have:off+k<=sz:=d C; simp only [zae]; omega
   obtain ⟨c,I,H⟩:=asu (P:=P) (a:=a) T S hc Z hm;refine ⟨c,I,?_⟩;cases m with
   | none=>
     refine .r ?_;simpa using H
   | some k=>exact .r H
  first | exact (d C).elim | exact (d.2 C).elim | exact d.2.elim
 ·rename_i ys;generalize hc:a.eval x=c at U;cases U;rename_i b o' f hR Z
  have hm:m.getD 1<=ys.length:=by
   cases m with
   | none=>have:0<ys.length:=d.2 C; simp only [zaf]; omega
   | some k=>have:k<=ys.length:=d.2 C; simpa using this
  obtain ⟨c,I,H⟩:=asu (P:=P) (a:=a) T S hc Z hm;refine ⟨c,I,?_⟩;cases m with
  | none=>exact .r H
  | some k=>exact .r H
 cases m<;>first | exact (d C).elim | exact (d.2 C).elim | exact d.2.elim
theorem a18 {g:Bool} (m:g=true) {t:TypeId} {off:Nat} {x:Operand} {u:AV} {C:Array Go.Field} {A:Go.Field} {i:TypeInfo} (H:o.op=.fieldAddr t x k) (I:P.underlying t=some (.struct C)) (L:C[k]?=some A)
 (F:P.info? A.type=some i) (J:A.offset=off) (K:i.size≠0) (z:RA X s ρ w u (a.eval x)) (d:(fa1 g off u s.ob).ok):o7 P X a w s ρ o (fa1 g off u s.ob).v:=by
 have e:∀b o',a.eval x=.pointer (some ⟨b,o',none⟩)->(execOp a.eval o).run P w=.ok (.value (.pointer (some ⟨b,o'+off,none⟩))) w:=by
  intro b o' hx;simp [execOp,H,hx,Instr.fieldAt,run_underlying I,L,Instr.sureAddr,fieldPlace,sizeOf,typeInfo,F,K,ci,J]
 unfold fa1 at d |-;split at d
 ·split at d
  ·rename_i r n;have q:=fv n;cases z;rename_i h;obtain ⟨b,l,hc⟩:=h.live q;simp only [n];exact ⟨_,e b _ hc,.ptr _ _ _ _ rfl ⟨_,_,q,zaa _,λ _=>⟨b,l,rfl⟩⟩⟩
  first | exact (d m).elim | exact (d.2 m).elim | exact d.2.elim
 ·split at d
  ·rename_i sz r n;have q:=u4 n;cases z;rename_i h;obtain ⟨p,B,b,l,hc⟩:=h.live q;simp only [n];refine ⟨_,e b _ hc,.oel _ _ _ _ _ rfl ⟨_,_,q,zaa _,λ _=>⟨p,d m,b,l,?_⟩⟩⟩;rw [zaj]
  first | exact (d m).elim | exact (d.2 m).elim | exact d.2.elim
 ·generalize hc:a.eval x=c at z;cases z;rename_i b o' f E G;refine ⟨_,e b o' hc,.rp _ b _ (λ j=>f (off+j)) E λ j y D=>?_⟩;rw [zab] at D;have:=G (off+j) y D;rw [<- zaj] at this;exact this
 first | exact (d m).elim | exact (d.2 m).elim | exact d.2.elim
def ldv (cs:Array Value) (off:Nat):Option Nat->Value
 | none=>cs.getD off undef
 | some k=>.agg (cs.extract off (off+k))
theorem aml {t:TypeId} {m:Option Nat} (a:ack P t m=true) (cs:Array Value) (off:Nat) (c:off+m.getD 1<=cs.size) :
 (part t cs off).run P w=.ok (ldv cs off m) w:=by
 unfold ack at a;split at a
 ·rename_i j i b f;have:m=some i.size:=by simpa using a
  subst this;simp [part,isAgg,run_underlying b,sizeOf,typeInfo,f,ldv]
 ·rename_i k e i b f;have:m=some i.size:=by simpa using a
  subst this;simp [part,isAgg,run_underlying b,sizeOf,typeInfo,f,ldv]
 ·rename_i d i h l b f;have:m=none:=by simpa using a
  subst this;simp only [zaf] at c
  have g:(isAgg t).run P w=.ok false w:=by
   simp only [isAgg,Sem.run_bind,run_underlying b,Result.andThen_ok]
   rfl
  simp [part,g,show off<cs.size by omega,ldv]
 cases a
theorem ay4 {g:Bool} (n:g=true) {t:TypeId} {off:Nat} {m:Option Nat} {x:Operand} {u:AV} {A:Array Go.Field} {d:Go.Field} (z:o.op=.field t x k) (B:P.underlying t=some (.struct A)) (D:A[k]?=some d)
 (E:d.offset=off) (C:ack P d.type m=true) (l:RA X s ρ w u (a.eval x)) (f:(xp g off m u).1):o7 P X a w s ρ o (xp g off m u).2:=by
 subst E;unfold xp at f |-;split at f
 ·rename_i xs;generalize hc:a.eval x=c at l;cases l;rename_i cs F h
  have b:d.offset+m.getD 1<=cs.size:=by
   cases m with
   | none=>have:d.offset<xs.length:=f n; simp only [zaf]; omega
   | some q=>have:d.offset+q<=xs.length:=f n; simp only [zae]; omega
  have v:=aml (P:=P) (w:=w) C cs d.offset b
  have j:(execOp a.eval o).run P w=.ok (.value (ldv cs d.offset m)) w:=by
   simp only [execOp,z,hc,Instr.field,Sem.run_bind,run_underlying B,Result.andThen_ok,D,asAgg,Sem.run_pure,v]
  refine ⟨_,j,?_⟩;cases m with
  | none=>
    simp only [zaf] at b;simp only;exact h d.offset _ _ (by simp [show d.offset<xs.length by omega]) (by simp [show d.offset<cs.size by omega,ldv])
  | some q=>
    simp only [zae] at b;simp only;refine .agg _ _ (by simp; omega) λ i y c hy e=>?_;rw [zad] at hy;split at hy
    ·rename_i p;rw [zab] at hy;refine h (d.offset+i) y c hy ?_;rw [Array.getElem?_extract] at e;split at e
     ·exact e
     cases e
    cases hy
 ·rename_i xs;generalize hc:a.eval x=c at l;cases l;rename_i l;cases l;rename_i cs F h
  have b:d.offset+m.getD 1<=cs.size:=by
   cases m with
   | none=>have:d.offset<xs.length:=f n; simp only [zaf]; omega
   | some q=>have:d.offset+q<=xs.length:=f n; simp only [zae]; omega
  have v:=aml (P:=P) (w:=w) C cs d.offset b
  have j:(execOp a.eval o).run P w=.ok (.value (ldv cs d.offset m)) w:=by
   simp only [execOp,z,hc,Instr.field,Sem.run_bind,run_underlying B,Result.andThen_ok,D,asAgg,Sem.run_pure,v]
  refine ⟨_,j,?_⟩;cases m with
  | none=>
    simp only [zaf] at b;simp only;exact .r (h d.offset _ _ (by simp [show d.offset<xs.length by omega]) (by simp [show d.offset<cs.size by omega,ldv]))
  | some q=>
    simp only [zae] at b;simp only;refine .r (.agg _ _ (by simp; omega) λ i y c hy e=>?_);rw [zad] at hy;split at hy
    ·rename_i p;rw [zab] at hy;refine h (d.offset+i) y c hy ?_;rw [Array.getElem?_extract] at e;split at e
     ·exact e
     cases e
    cases hy
 first | exact (f n).elim | exact (f.2 n).elim
def RAO (X:Cx) (s:St) (ρ:Pl->Option Nat) (w:World) (a:Act):Option Operand->Option AV->Prop
 | none,none=>True
 | some x,some v=>RA X s ρ w v (a.eval x)
 | _,_=>False
theorem ac4 {d i:Int} {x:Option Operand} {v:Option AV} (h:bnd d v=some i) (hx:RAO X s ρ w a x v) :
 (x=none/\v=none/\i=d)\/∃x' k,x=some x'/\a.eval x'=.int k i:=by
 unfold bnd at h;split at h
 ·cases x with
  | none=>exact .inl ⟨rfl,rfl,by cases h; rfl⟩
  | some x=>exact hx.elim
 ·cases x with
  | none=>exact hx.elim
  | some x=>cases h; exact .inr ⟨x,_,rfl,m7 hx⟩
 cases h
theorem ayv {g:Bool} (n:g=true) {t:TypeId} {x:Operand} {C B:Option Operand} {u:AV} {l h:Option AV} (F:o.op=.slice t x C B none) (q:P.underlying t=some .string) (G:RA X s ρ w u (a.eval x))
 (E:RAO X s ρ w a C l) (D:RAO X s ρ w a B h)
 (c:(xg g u l h).1):o7 P X a w s ρ o (xg g u l h).2:=by
 unfold xg at c |-;split at c
 ·rename_i b;have r:=m7 G;split at c
  ·rename_i i j y z;obtain ⟨L,K,O⟩:=c n;simp only [o7,execOp,F];refine ⟨_,?_,cr _⟩;have v:=ac4 y E;have A:=ac4 z D;obtain ⟨d,rfl⟩:∃d:Nat,i=(d:Int):=⟨i.toNat,by omega⟩
   obtain ⟨e,rfl⟩:∃e:Nat,j=(e:Int):=⟨j.toNat,by omega⟩
   have k:d<=e:=by omega
   have p:e<=b.size:=by omega
   rcases v with ⟨rfl,rfl,I⟩ | ⟨M,N,rfl,m⟩<;>rcases A with ⟨rfl,rfl,H⟩ | ⟨J,Q,rfl,f⟩
   ·have:d=0:=by omega
    have:e=b.size:=by omega
    subst this; subst d;simp [Instr.sliceAt,run_underlying q,Instr.slice,r,Instr.sliceBounds]
   ·have:d=0:=by omega
    subst d;simp [Instr.sliceAt,run_underlying q,Instr.slice,r,Instr.sliceBounds,Instr.sliceBound,f,asIntOf,p]
   ·have:e=b.size:=by omega
    subst this;simp [Instr.sliceAt,run_underlying q,Instr.slice,r,Instr.sliceBounds,Instr.sliceBound,m,asIntOf,k]
   simp [Instr.sliceAt,run_underlying q,Instr.slice,r,Instr.sliceBounds,Instr.sliceBound,m,f,asIntOf,k,p]
  first | exact (c n).elim | exact (c.2 n).elim
 first | exact (c n).elim | exact (c.2 n).elim
theorem ape {t e:TypeId} {inf:TypeInfo} {x:Operand} {D z p:Option Operand} {l h m:Option AV} {i j q:Int} {A:Option Addr} {len cap:Nat} (Q:o.op=.slice t x D z p) (I:P.underlying t=some (.slice e)) (F:P.info? e=some inf)
 (hx:a.eval x=.slice A len cap) (T:len<=cap) (C:bnd 0 l=some i) (E:bnd len h=some j) (B:bnd len m=some q)
 (S:RAO X s ρ w a D l) (J:RAO X s ρ w a z h)
 (N:RAO X s ρ w a p m) (u:p≠none->z≠none) (W:0<=i/\i<=j/\j<=q/\q<=len) :
 ∃G c,(execOp a.eval o).run P w=.ok (.value (.slice G (j-i).toNat c)) w/\c<=cap-i.toNat/\(j-i).toNat<=c/\(0<c->G=A.map (·.add (i.toNat*inf.size))):=by
 obtain ⟨e1,Z,e3,e4⟩:=W;obtain ⟨b,rfl⟩:∃b:Nat,i=(b:Int):=⟨i.toNat,by omega⟩
 obtain ⟨d,rfl⟩:∃d:Nat,j=(d:Int):=⟨j.toNat,by omega⟩
 obtain ⟨g,rfl⟩:∃g:Nat,q=(g:Int):=⟨q.toNat,by omega⟩
 have k:b<=d:=by omega
 have y:d<=g:=by omega
 have K:g<=len:=by omega
 have v:(Instr.sliceBounds true len cap (D.map a.eval) (z.map a.eval) (p.map a.eval)).run P w=.ok (b,d,if p.isNone then cap else g) w:=by
  rcases ac4 C S with ⟨rfl,rfl,V⟩ | ⟨x1,k1,rfl,n⟩<;>rcases ac4 E J with ⟨rfl,rfl,U⟩ | ⟨Y,k2,rfl,f⟩<;>rcases ac4 B N with ⟨rfl,rfl,O⟩ | ⟨x3,k3,rfl,r⟩
  ·have:b=0:=by omega
   have:d=len:=by omega
   subst this; subst b;simp [Instr.sliceBounds]
  ·exact absurd rfl (u (by simp))
  ·have:b=0:=by omega
   subst b;simp [Instr.sliceBounds,Instr.sliceBound,f,asIntOf,show d<=cap by omega]
  ·have:b=0:=by omega
   subst b;simp [Instr.sliceBounds,Instr.sliceBound,f,r,asIntOf,show g<=cap by omega,y]
  ·have:d=len:=by omega
   subst this;simp [Instr.sliceBounds,Instr.sliceBound,n,asIntOf,k]
  ·exact absurd rfl (u (by simp))
  ·simp [Instr.sliceBounds,Instr.sliceBound,n,f,asIntOf,show d<=cap by omega,k]
  simp [Instr.sliceBounds,Instr.sliceBound,n,f,r,asIntOf,show g<=cap by omega,k,y]
 generalize H:(if p.isNone then cap else g)=M at v;have R:M<=cap:=by rw [<- H]; split<;>omega
 have L:d<=M:=by rw [<- H]; split<;>omega
 refine ⟨if M=b then A else A.map (·.add (b*inf.size)),M-b,?_,by simp only [zal]; omega,by omega,λ h0=>?_⟩
 ·simp only [execOp,Q,Instr.sliceAt,Sem.run_bind,run_underlying I,Result.andThen_ok,Instr.slice,hx,v,sizeOf,typeInfo,run_program,F,Sem.run_pure];simp [show ((d:Int)-b).toNat=d-b by omega]
 rw [if_neg (by omega),zal]
theorem ayw {g:Bool} (D:g=true) {t e:TypeId} {inf:TypeInfo} {sz:Nat} {x:Operand} {lo hi mx:Option Operand} {u:AV} {l h m:Option AV} (ho:o.op=.slice t x lo hi mx) (ht:P.underlying t=some (.slice e)) (J:P.info? e=some inf)
 (K:inf.size=sz) (O:RA X s ρ w u (a.eval x)) (hl:RAO X s ρ w a lo l)
 (hh:RAO X s ρ w a hi h) (hm:RAO X s ρ w a mx m) (M:mx≠none->hi≠none)
 (d:(rb g sz u l h m s.ob).ok):o7 P X a w s ρ o (rb g sz u l h m s.ob).v:=by
 unfold rb at d |-;split at d
 ·rename_i U xs;split at d
  ·rename_i i j q h1 W h3;obtain ⟨rfl,G⟩:=d;have G:=G D;cases O;rename_i O;generalize hc:a.eval x=c at O;cases O;rename_i A cap h5 b o' gg N hA Q S T;obtain ⟨A',C,n,B,f,E⟩:=ape (P:=P) (w:=w) (s:=s) (ρ:=ρ) ho ht J hc N h1 W h3 hl hh hm M G;have L:(j-i).toNat=((xs.take j.toNat).drop i.toNat).length:=by simp; omega
   rw [L] at n f;refine ⟨_,n,.r ?_⟩;subst K;refine .sl _ _ _ _ f (by omega) b (o'+i.toNat*inf.size) (λ p=>gg (i.toNat+p)) (λ V=>?_) (λ p y H=>?_) (λ p y k z H Z=>?_) (λ p y k z H Z=>?_)
   ·obtain ⟨h4,hR⟩:=hA (by rw [List.length_drop,List.length_take] at V; omega);refine ⟨?_,hR⟩;rw [E (by omega),h4];simp [ci]
   all_goals
    have F:xs[i.toNat+p]?=some y:=by
     rw [zab,zad] at H;split at H
     ·exact H
     cases H
   ·exact S _ y F
   ·have:=T _ y k z F Z;rw [show o'+i.toNat*inf.size+p*inf.size+k=o'+(i.toNat+p)*inf.size+k by rw [Nat.add_mul]; omega];exact this
   exact Q _ y k z F Z
  first | exact (d D).elim | exact (d.2 D).elim | exact d.2.elim
 ·rename_i id ver I n0;split at d
  ·rename_i i j q h1 W h3;split at d
   ·rename_i U r Q;obtain ⟨rfl,G⟩:=d;have G:=G D;have e6:i.toNat+(j-i).toNat<=n0:=by omega
    obtain ⟨A,cap,e1,e2,e3,Y,R⟩:=mu O Q;obtain ⟨A',C,n,B,f,E⟩:=ape (P:=P) (w:=w) (s:=s) (ρ:=ρ) ho ht J e1 e2 h1 W h3 hl hh hm M G;subst K;refine ⟨_,n,.own _ _ _ _ _ rfl ⟨_,_,u4 Q,zaa _,λ _=>?_⟩⟩;refine ⟨A',C,rfl,f,zan (zan B (Nat.sub_le _ _)) e3,?_,λ V=>?_⟩
    ·clear R;simp only at Y |-;omega
    have e7:I+i.toNat+C<=I+cap:=by clear R Y; omega
    obtain ⟨b,cs,ee,fr,f1,f2,f3,f4⟩:=R (by clear Y R; omega);refine ⟨b,cs,ee,fr,f1,?_,f3,zan (Nat.mul_le_mul_right _ e7) f4⟩;rw [E V,f2];simp [ci,Nat.add_mul]
   first | exact (d D).elim | exact (d.2 D).elim | exact d.2.elim
  first | exact (d D).elim | exact (d.2 D).elim | exact d.2.elim
 first | exact (d D).elim | exact (d.2 D).elim | exact d.2.elim
end

section
variable {P:Program} {X:Cx} {w w':World} {s:St} {ρ ρ':Pl->Option Nat} {a:Act} {o:Oper} {ob ob':Obs} {R R':Nat->Prop}
theorem cj.stays (h:Stays w w' R R' ob ob' ρ ρ') {x:Ob} (hx:cj w R ob ρ id x) (d:ρ' id=ρ id) (l:∀j,ρ' (.s id j)=ρ (.s id j)) (k:∀b,foot ρ id x b->w'.heap[b]?=w.heap[b]?):cj w' R' ob' ρ' id x:=by
 cases x with
 | abs T=>
   obtain ⟨b,a,f⟩:=hx;refine ⟨b,by rw [d,a],?_⟩;simp only [l];exact T.loc f (k b (.inl a)) λ j c hc=>k c (.inr ⟨rfl,j,hc⟩)
 | map es clock=>
   obtain ⟨b,a,f⟩:=hx;exact ⟨b,by rw [d,a],by rw [k b (.inl a)]; exact f⟩
 | iter m since seen stepped=>
   obtain ⟨b,m',a,f,g⟩:=hx;exact ⟨b,m',by rw [d,a],by rw [k b (.inl a)]; exact f,g.stays h⟩
 | box cells=>
   obtain ⟨b,cs,e,a,f,g,o⟩:=hx;exact ⟨b,cs,e,by rw [d,a],by rw [k b (.inl a),f],g,λ i x c n hc=>(o i x c n hc).stays h⟩
 | row sz z app wr xs=>
   rcases hx with ⟨a,f,g⟩ | ⟨b,cs,e,fr,a,f,g,o,t,p⟩
   ·exact .inl ⟨a,by rw [d,f],g⟩
   refine .inr ⟨b,cs,e,fr,by rw [d,a],by rw [k b (.inl a),f],g,o,t,λ i x n=>⟨(p i x n).1,λ j y u=>?_⟩⟩;obtain ⟨c,q,v,r⟩:=(p i x n).2 j y u;exact ⟨c,q,v,r.mono h.free⟩
theorem cj.lt {x:Ob} (hx:cj w R ob ρ id x) (d:ρ id=some b):b<w.heap.size:=by
 cases x with
 | abs T=>
   obtain ⟨f,a,c⟩:=hx;rw [d] at a; cases a;obtain ⟨cs,e,g,_⟩:=T.root c;exact (zai.1 g).1
 | map es clock=>
   obtain ⟨f,a,c⟩:=hx;rw [d] at a; cases a;exact (zai.1 c).1
 | iter m since seen stepped=>
   obtain ⟨f,m',a,c,_⟩:=hx;rw [d] at a; cases a;exact (zai.1 c).1
 | box cells=>
   obtain ⟨f,cs,e,a,c,g,h⟩:=hx;rw [d] at a; cases a;exact (zai.1 c).1
 | row sz z app wr xs=>
   rcases hx with ⟨a,c,_⟩ | ⟨f,cs,e,fr,a,c,_⟩
   ·rw [d] at c; cases c
   rw [d] at a; cases a;exact (zai.1 c).1
theorem Gam.lt (c:Gam X s ρ a w) {x:Nat×Ob} (hx:s.ob id=some x) (d:ρ id=some b):b<w.heap.size:=
 (c.obj id x.1 x.2 hx).lt d
theorem cj.foot_lt {x:Ob} (hx:cj w R ob ρ id x) (a:foot ρ id x b):b<w.heap.size:=by
 rcases a with a | ⟨h,j,a⟩
 ·exact hx.lt a
 cases x with
 | abs T=>
   obtain ⟨e,d,c⟩:=hx;exact T.lt c j b a
 | box _=>cases h
 | map _ _=>cases h
 | iter _ _ _ _=>cases h
 | row _ _ _ _ _=>cases h
theorem Gam.foot_lt (c:Gam X s ρ a w) {x:Nat×Ob} (hx:s.ob id=some x) (d:foot ρ id x.2 b):b<w.heap.size:=(c.obj id x.1 x.2 hx).foot_lt d
theorem awt (b:a.tmps.size=X.n) {d:Nat} (e:d<X.n) (c:Value) (t:Nat):(a.put (some d) c).tmps.getD t undef=if t=d then c else a.tmps.getD t undef:=by
 simp only [Act.put];by_cases h:t=d
 ·subst h;simp [b,e]
 simp [h,Array.getElem?_setIfInBounds_ne (Ne.symm h)]
theorem Gam.step (c:Gam X s ρ a w) (q:Stays w w' (j8 X.B s.ob ρ w) (j8 X.B ob' ρ' w') s.ob ob' ρ ρ')
 (i:∀id v o,ob' id=some (v,o)->(s.ob id=some (v,o)/\ρ' id=ρ id/\(∀j,ρ' (.s id j)=ρ (.s id j))/\∀b,foot ρ id o b->w'.heap[b]?=w.heap[b]?)\/cj w' (j8 X.B ob' ρ' w') ob' ρ' id o)
 (k:∀id d x x' b,ob' id=some x->ob' d=some x'->foot ρ' id x.2 b->foot ρ' d x'.2 b->id=d)
 (H:Keeps X.I X.w0 w') (l:∀id v o b,ob' id=some (v,o)->foot ρ' id o b->X.I b\/X.w0.heap.size<=b)
 (g:∀id b o,X.pn id=some b->s.ob id=some (0,o)->o.pinned=true->ρ id=some b->ρ' id=some b/\∃o',ob' id=some (0,o')/\o'.pinned=true):Gam X ⟨s.e,ob'⟩ ρ' a w':=by
 refine ⟨⟨λ id v o h=>?_,k,H,l,λ id b h=>?_⟩,c.sz,c.df,λ t=>(c.env t).stays q,c.pnn,c.small,c.base⟩
 ·rcases i id v o h with ⟨f,m,r,p⟩ | f
  ·exact (c.obj id v o f).stays q m r p
  exact f
 obtain ⟨f,o,m,p,r⟩:=c.pin id b h;obtain ⟨D,o',y,G⟩:=g id b o h m p f;refine ⟨D,o',y,G,λ E=>?_⟩;obtain ⟨J,z,u,K,F⟩:=q.obj id 0 o m;rw [y] at u;cases u;obtain ⟨_,A,C⟩:=F rfl;have n:o.isRow=true:=by cases o<;>cases o'<;>first | rfl | exact A.elim | cases E
 exact (r n).trans λ cs e fr hc=>C b cs e fr f hc
theorem Gam.see (b:Gam X s ρ a w) {d:Nat} (f:d<X.n) {x:AV} (hx:RA X s ρ w x c):Gam X ⟨put d x s.e,s.ob⟩ ρ (a.put (some d) c) w:=by
 refine ⟨b.toMem,by simp [Act.put,b.sz],b.df,λ t=>?_,b.pnn,b.small,b.base⟩;rw [awt b.sz f];simp only [put];split
 ·exact hx
 exact b.env t
theorem Gam.drew (c:Gam X s ρ a w) (k:Nat):Gam X s ρ a { w with drawn:=k }:=by
 have d:Stays w { w with drawn:=k } (j8 X.B s.ob ρ w) (j8 X.B s.ob ρ { w with drawn:=k }) s.ob s.ob ρ ρ:=
  ⟨λ b h=>⟨h,rfl⟩,λ id v o h=>⟨v,o,h,zaa _,λ _=>⟨rfl,z9.refl o,λ b cs e fr _ h=>⟨cs,e,fr,h,rfl⟩⟩⟩⟩
 exact ⟨⟨λ id v o h=>(c.obj id v o h).stays d rfl (λ _=>rfl) λ _ _=>rfl,c.inj,⟨c.keeps.os,c.keeps.tape,c.keeps.output,c.keeps.size,c.keeps.block⟩,c.own,c.pin⟩,c.sz,c.df,λ t=>(c.env t).stays d,c.pnn,c.small,c.base⟩
structure OneMore (w w':World) (x:Obj):Prop where
 os:w'.os=w.os
 tape:w'.tape=w.tape
 output:w'.output=w.output
 heap:w'.heap=w.heap.push x
theorem OneMore.new {x:Obj} (h:OneMore w w' x):w'.heap[w.heap.size]?=some x:=by rw [h.heap]; simp
theorem OneMore.old {x:Obj} (h:OneMore w w' x) (a:b<w.heap.size):w'.heap[b]?=w.heap[b]?:=by
 rw [h.heap,Array.getElem?_push,if_neg (by omega)]
theorem OneMore.size {x:Obj} (h:OneMore w w' x):w'.heap.size=w.heap.size+1:=by rw [h.heap]; simp
theorem ut {v:Nat} {x:Ob} (h:ob id=some (v,x)):v<nv ob id:=by simp [nv,h]
theorem Stays.alloc (r:Gam X s ρ a w) {x:Obj} (g:OneMore w w' x) (id ver:Nat) (k:∀v o,s.ob id=some (v,o)->v<ver) (o':Ob) (f:o'.isAbs=false:=by rfl) :
 Stays w w' (j8 X.B s.ob ρ w) (j8 X.B (upd id (ver,o') s.ob) (s6 ρ id (some w.heap.size)) w') s.ob (upd id (ver,o') s.ob) ρ (s6 ρ id (some w.heap.size)):=by
 refine ⟨λ b ⟨m,p,q⟩=>⟨⟨by rw [g.size]; omega,?_,q⟩,g.old m⟩,λ j v o h=>?_⟩
 ·rintro ⟨j,v,o,d,n,i⟩;by_cases c:j=id
  ·subst c;simp [upd] at d;obtain ⟨rfl,rfl⟩:=d;rw [el f] at i;simp [s6] at i;omega
  simp only [upd,c,if_false] at d;exact p ⟨j,v,o,d,n,(tq c).1 i⟩
 by_cases c:j=id
 ·subst c;exact ⟨ver,o',by simp [upd],Nat.le_of_lt (k v o h),λ e=>by have:=k v o h; omega⟩
 refine ⟨v,o,by simp [upd,c,h],zaa _,λ _=>⟨by simp [s6,c],z9.refl o,λ b cs e fr t l=>⟨cs,e,fr,?_,rfl⟩⟩⟩;rw [g.old (r.lt h t),l]
theorem Gam.alloc (g:Gam X s ρ a w) {x:Obj} (m:OneMore w w' x) (id ver:Nat) (z:X.pn id=none) (I:∀v o,s.ob id=some (v,o)->v<ver) (o':Ob)
 (H:cj w' (j8 X.B (upd id (ver,o') s.ob) (s6 ρ id (some w.heap.size)) w') (upd id (ver,o') s.ob) (s6 ρ id (some w.heap.size)) id o') (l:o'.isAbs=false:=by rfl) :
 Gam X ⟨s.e,upd id (ver,o') s.ob⟩ (s6 ρ id (some w.heap.size)) a w':=by
 refine g.step (Stays.alloc g m id ver I o' l) (λ j v o h=>?_) (λ i j x x' b F c u t=>?_) ?_ (λ j v o b h f=>?_) (λ j b o h hc G q=>?_)
 ·by_cases c:j=id
  ·subst c;simp [upd] at h;obtain ⟨rfl,rfl⟩:=h;exact .inr H
  simp only [upd,c,if_false] at h;refine .inl ⟨h,by simp [s6,c],by simp [s6],λ b q=>m.old (g.foot_lt h q)⟩
 ·have p:∀k (y:Nat×Ob),upd id (ver,o') s.ob k=some y->foot (s6 ρ id (some w.heap.size)) k y.2 b->(k=id/\b=w.heap.size)\/(k≠id/\s.ob k=some y/\foot ρ k y.2 b/\b<w.heap.size):=λ k y r n=>by
   by_cases d:k=id
   ·subst d;simp [upd] at r;subst r;rw [el l] at n;simp [s6] at n;exact .inl ⟨rfl,n.symm⟩
   simp only [upd,d,if_false] at r;rw [tq d] at n;exact .inr ⟨d,r,n,g.foot_lt r n⟩
  rcases p i x F u with ⟨C,f⟩ | ⟨C,f,E,L⟩<;>rcases p j x' c t with ⟨A,D⟩ | ⟨A,D,J,K⟩
  ·rw [C,A]
  ·omega
  ·omega
  exact g.inj i j x x' b f D E J
 ·refine g.keeps.trans ⟨m.os,m.tape,m.output,by rw [m.size]; omega,λ b q _=>m.old q⟩
 ·by_cases c:j=id
  ·subst c;simp [upd] at h;obtain ⟨rfl,rfl⟩:=h;rw [el l] at f;simp [s6] at f;subst f;exact .inr g.keeps.size
  simp only [upd,c,if_false] at h;rw [tq c] at f;exact g.own j v o b h f
 have c:j≠id:=λ e=>by rw [e,z] at h; cases h
 exact ⟨by simp [s6,c,q],o,by simp [upd,c,hc],G⟩
structure Mods (w w':World) (b:Nat) (x:Obj):Prop where
 os:w'.os=w.os
 tape:w'.tape=w.tape
 output:w'.output=w.output
 size:w'.heap.size=w.heap.size
 new:w'.heap[b]?=some x
 old:∀k,k≠b->w'.heap[k]?=w.heap[k]?
theorem jw {v ver:Nat} {x x':Ob} (b:ob id=some (v,x)) (h:x'.isAbs=x.isAbs) {p:Nat×Ob} (a:upd id (ver,x') ob j=some p) (c:foot ρ j p.2 k):∃q,ob j=some q/\foot ρ j q.2 k:=by
 by_cases d:j=id
 ·subst d;simp [upd] at a;subst a;exact ⟨_,b,(vc rfl (λ _=>rfl) h).1 c⟩
 simp only [upd,d,if_false] at a;exact ⟨p,a,c⟩
theorem Stays.modifyG (P:Gam X s ρ a w) {v:Nat} {x x':Ob} {y:Obj} (n:s.ob id=some (v,x)) (hx:x.own=true) (I:ρ id=some b)
 (r:Mods w w' b y) (A:∀cs e fr,w.heap[b]?=some (.cells cs e fr)->∃d e' l,y=.cells d e' l/\d.size=cs.size) (ver:Nat) (D:(ver=v/\z9 x x')\/v<ver) (M:x.isAbs=false:=by rfl) (m:x'.isAbs=false:=by rfl) :
 Stays w w' (j8 X.B s.ob ρ w) (j8 X.B (upd id (ver,x') s.ob) ρ w') s.ob (upd id (ver,x') s.ob) ρ ρ:=by
 refine ⟨λ k ⟨K,H,O⟩=>?_,λ j u o h=>?_⟩
 ·have c:k≠b:=λ h=>H ⟨id,v,x,n,hx,.inl (by rw [I,h])⟩;refine ⟨⟨by rw [r.size]; exact K,?_,O⟩,r.old k c⟩;rintro ⟨j,u,o,p,L,E⟩;unfold upd at p;split at p
  ·rename_i t;subst t;cases p;rw [el m,I] at E;cases E;exact c rfl
  exact H ⟨j,u,o,p,L,E⟩
 have f:∀(k:Nat) (q:Array Value) (i:TypeId) (g:Nat×Nat),w.heap[k]?=some (.cells q i g)->∃J F G,w'.heap[k]?=some (.cells J F G)/\J.size=q.size:=by
  intro k q i g z;by_cases c:k=b
  ·subst c;obtain ⟨d,e',l,hy,N⟩:=A _ _ _ z;exact ⟨d,e',l,by rw [r.new,hy],N⟩
  exact ⟨q,i,g,by rw [r.old k c,z],rfl⟩
 by_cases t:j=id
 ·subst t;rw [n] at h;cases h;rcases D with ⟨rfl,z⟩ | D
  ·exact ⟨_,x',by simp [upd],zaa _,λ _=>⟨rfl,z,λ k q i g _ C=>f k q i g C⟩⟩
  exact ⟨ver,x',by simp [upd],Nat.le_of_lt D,λ h=>by omega⟩
 exact ⟨u,o,by simp [upd,t,h],zaa _,λ _=>⟨rfl,z9.refl o,λ k q i g _ C=>f k q i g C⟩⟩
theorem Stays.modify (n:Gam X s ρ a w) {v:Nat} {x x':Ob} {cs d:Array Value} {e e':TypeId} {fr k:Nat×Nat} (i:s.ob id=some (v,x)) (hx:x.own=true) (o:ρ id=some b)
 (j:w.heap[b]?=some (.cells cs e fr)) (l:Mods w w' b (.cells d e' k)) (f:d.size=cs.size) (ver:Nat) (m:(ver=v/\z9 x x')\/v<ver) (g:x.isAbs=false:=by rfl) (c:x'.isAbs=false:=by rfl) :
 Stays w w' (j8 X.B s.ob ρ w) (j8 X.B (upd id (ver,x') s.ob) ρ w') s.ob (upd id (ver,x') s.ob) ρ ρ:=
 Stays.modifyG n i hx o l (λ q r p h=>by rw [j] at h; cases h; exact ⟨_,_,_,rfl,f⟩) ver m g c
theorem Gam.modifyG (r:Gam X s ρ a w) {v:Nat} {x x':Ob} {y:Obj} (c:s.ob id=some (v,x)) (hx:x.own=true) (J:ρ id=some b)
 (n:Mods w w' b y) (C:∀cs e fr,w.heap[b]?=some (.cells cs e fr)->∃t e' K,y=.cells t e' K/\t.size=cs.size) (ver:Nat) (Q:(ver=v/\z9 x x')\/v<ver) (q:X.pn id=none\/(ver=v/\z9 x x'/\(x.pinned=true->x'.pinned=true)))
 (P:cj w' (j8 X.B (upd id (ver,x') s.ob) ρ w') (upd id (ver,x') s.ob) ρ id x') (m:x.isAbs=false:=by rfl) (d:x'.isAbs=false:=by rfl):Gam X ⟨s.e,upd id (ver,x') s.ob⟩ ρ a w':=by
 have A:∀j u,j≠id->s.ob j=some u->∀k,foot ρ j u.2 k->k≠b:=λ j u g h k f l=>by
  subst l;exact g (r.inj j id u _ k h c f (.inl J))
 refine r.step (Stays.modifyG r c hx J n C ver Q m d) (λ j u o h=>?_) (λ i j p U k O g F E=>?_) ?_ (λ j u o k h I=>?_) (λ j k o h hc L f=>?_)
 ·by_cases g:j=id
  ·subst g;simp [upd] at h;obtain ⟨rfl,rfl⟩:=h;exact .inr P
  simp only [upd,g,if_false] at h;exact .inl ⟨h,rfl,λ _=>rfl,λ k f=>n.old k (A j _ g h k f)⟩
 ·obtain ⟨_,G,D⟩:=jw c (d.trans m.symm) O F;obtain ⟨_,I,S⟩:=jw c (d.trans m.symm) g E;exact r.inj i j _ _ k G I D S
 ·have f:=r.keeps;refine ⟨n.os.trans f.os,n.tape.trans f.tape,n.output.trans f.output,by rw [n.size]; exact f.size,λ k H M=>?_⟩;by_cases l:k=b
  ·subst l;rcases r.own id v x k c (.inl J) with h | h
   ·exact absurd h M
   omega
  rw [n.old k l];exact f.block k H M
 ·obtain ⟨⟨R,T⟩,G,D⟩:=jw c (d.trans m.symm) h I;exact r.own j R T k G D
 refine ⟨f,?_⟩;by_cases g:j=id
 ·subst g;rw [c] at hc;cases hc;rcases q with q | ⟨rfl,N,z⟩
  ·rw [q] at h; cases h
  exact ⟨x',by simp [upd],z L⟩
 exact ⟨o,by simp [upd,g,hc],L⟩
theorem Gam.modify (p:Gam X s ρ a w) {v:Nat} {x x':Ob} {cs d:Array Value} {e e':TypeId} {fr l:Nat×Nat} (j:s.ob id=some (v,x)) (hx:x.own=true) (r:ρ id=some b)
 (k:w.heap[b]?=some (.cells cs e fr)) (m:Mods w w' b (.cells d e' l)) (f:d.size=cs.size) (ver:Nat) (o:(ver=v/\z9 x x')\/v<ver) (g:X.pn id=none\/(ver=v/\z9 x x'/\(x.pinned=true->x'.pinned=true)))
 (n:cj w' (j8 X.B (upd id (ver,x') s.ob) ρ w') (upd id (ver,x') s.ob) ρ id x') (i:x.isAbs=false:=by rfl) (c:x'.isAbs=false:=by rfl):Gam X ⟨s.e,upd id (ver,x') s.ob⟩ ρ a w':=
 p.modifyG j hx r m (λ q u t h=>by rw [k] at h; cases h; exact ⟨_,_,_,rfl,f⟩) ver o g n i c
theorem Stays.freeze1 {v sz:Nat} {z:RV} {a l:Bool} {xs:List RV} (d:s.ob id=some (v,.row sz z a l xs)) :
 Stays w w (j8 X.B s.ob ρ w) (j8 X.B (upd id (v,.row sz z a false xs) s.ob) ρ w) s.ob (upd id (v,.row sz z a false xs) s.ob) ρ ρ:=by
 refine ⟨λ b ⟨i,m,n⟩=>⟨⟨i,?_,n⟩,rfl⟩,λ j u o h=>?_⟩
 ·rintro ⟨j,u,o,c,f,k⟩;unfold upd at c;split at c
  ·cases c; cases f
  exact m ⟨j,u,o,c,f,k⟩
 by_cases g:j=id
 ·subst g;rw [d] at h;cases h;exact ⟨v,.row sz z a false xs,by simp [upd],zaa _,λ _=>⟨rfl,⟨rfl,zaa _⟩,λ b cs e fr _ h=>⟨cs,e,fr,h,rfl⟩⟩⟩
 exact ⟨u,o,by simp [upd,g,h],zaa _,λ _=>⟨rfl,z9.refl o,λ b cs e fr _ h=>⟨cs,e,fr,h,rfl⟩⟩⟩
theorem Gam.freeze1 (f:Gam X s ρ a w) {v sz:Nat} {z:RV} {b C:Bool} {xs:List RV} (c:s.ob id=some (v,.row sz z b C xs)):Gam X ⟨s.e,upd id (v,.row sz z b false xs) s.ob⟩ ρ a w:=by
 have t:=Stays.freeze1 (X:=X) (w:=w) (ρ:=ρ) c;refine f.step t (λ j u o h=>?_) (λ i j p E k x d m l=>?_) f.keeps (λ j u o k h q=>?_) (λ j k o h hc r y=>⟨y,?_⟩)
 ·by_cases d:j=id
  ·subst d;simp [upd] at h;obtain ⟨rfl,rfl⟩:=h;refine .inr ?_;have:=(f.obj _ _ _ c).stays t rfl (λ _=>rfl) (λ _ _=>rfl);exact this
  simp only [upd,d,if_false] at h;exact .inl ⟨h,rfl,λ _=>rfl,λ _ _=>rfl⟩
 ·obtain ⟨_,n,g⟩:=jw (x':=.row sz z b false xs) c rfl x m;obtain ⟨_,q,B⟩:=jw (x':=.row sz z b false xs) c rfl d l;exact f.inj i j _ _ k n q g B
 ·obtain ⟨⟨A,D⟩,n,g⟩:=jw (x':=.row sz z b false xs) (p:=(u,o)) c rfl h q;exact f.own j A D k n g
 by_cases d:j=id
 ·subst d;rw [c] at hc;cases hc;exact ⟨.row sz z b false xs,by simp [upd],r⟩
 exact ⟨o,by simp [upd,d,hc],r⟩
theorem Stays.shut1 {v sz:Nat} {z:RV} {xs:List RV} (a:s.ob id=some (v,.row sz z true true xs)) :
 Stays w w (j8 X.B s.ob ρ w) (j8 X.B (upd id (v,.row sz z false true xs) s.ob) ρ w) s.ob (upd id (v,.row sz z false true xs) s.ob) ρ ρ:=by
 refine ⟨λ b ⟨l,i,n⟩=>⟨⟨l,?_,n⟩,rfl⟩,λ j u o h=>?_⟩
 ·rintro ⟨j,u,o,d,m,g⟩;obtain ⟨⟨q,r⟩,f,k⟩:=jw (x':=.row sz z false true xs) (p:=(u,o)) a rfl d g;by_cases c:j=id
  ·subst c;rw [a] at f;cases f;exact i ⟨j,_,_,a,rfl,k⟩
  simp only [upd,c,if_false] at d;exact i ⟨j,u,o,d,m,g⟩
 by_cases c:j=id
 ·subst c;rw [a] at h;cases h;exact ⟨v,.row sz z false true xs,by simp [upd],zaa _,λ _=>⟨rfl,⟨rfl,zaa _⟩,λ b cs e fr _ h=>⟨cs,e,fr,h,rfl⟩⟩⟩
 exact ⟨u,o,by simp [upd,c,h],zaa _,λ _=>⟨rfl,z9.refl o,λ b cs e fr _ h=>⟨cs,e,fr,h,rfl⟩⟩⟩
theorem Gam.shut1 (m:Gam X s ρ a w) {v sz:Nat} {z:RV} {xs:List RV} (c:s.ob id=some (v,.row sz z true true xs)) (n:xs≠[]):Gam X ⟨s.e,upd id (v,.row sz z false true xs) s.ob⟩ ρ a w:=by
 have x:=Stays.shut1 (X:=X) (w:=w) (ρ:=ρ) c;refine m.step x (λ j u o h=>?_) (λ i j p G k B f r q=>?_) m.keeps (λ j u o k h l=>?_) (λ j k o h hc t F=>⟨F,?_⟩)
 ·by_cases f:j=id
  ·subst f;simp [upd] at h;obtain ⟨rfl,rfl⟩:=h;refine .inr ?_;rcases (m.obj _ _ _ c).stays x rfl (λ _=>rfl) (λ _ _=>rfl) with ⟨d,_⟩ | ⟨b,cs,e,fr,d,l,g,y,E,A⟩
   ·exact absurd d n
   exact .inr ⟨b,cs,e,fr,d,l,g,(λ h=>by cases h),E,A⟩
  simp only [upd,f,if_false] at h;exact .inl ⟨h,rfl,λ _=>rfl,λ _ _=>rfl⟩
 ·obtain ⟨_,d,g⟩:=jw (x':=.row sz z false true xs) c rfl B r;obtain ⟨_,l,y⟩:=jw (x':=.row sz z false true xs) c rfl f q;exact m.inj i j _ _ k d l g y
 ·obtain ⟨⟨D,C⟩,d,g⟩:=jw (x':=.row sz z false true xs) (p:=(u,o)) c rfl h l;exact m.own j D C k d g
 by_cases f:j=id
 ·subst f;rw [c] at hc;cases hc;cases t
 exact ⟨o,by simp [upd,f,hc],t⟩
theorem Gam.frz {ob:Obs} (h:Gam X ⟨s.e,ob⟩ ρ a w) (i:Nat):Gam X ⟨s.e,Ev.frz ob i (ob i)⟩ ρ a w:=by
 rcases hi:ob i with _ | ⟨v,b | ⟨sz,z,c,d,xs⟩ | T | _ | _⟩
 ·exact h
 ·exact h
 ·exact h.freeze1 (s:=⟨s.e,ob⟩) hi
 ·exact h
 ·exact h
 exact h
theorem Gam.freeze:∀(l:List Nat) {ob:Obs},Gam X ⟨s.e,ob⟩ ρ a w->Gam X ⟨s.e,Ev.freeze ob l⟩ ρ a w
 | [],_,h=>h
 | i::is,_,h=>Gam.freeze is (h.frz i)
theorem a0h {v sz:Nat} {z:RV} {c d:Bool} {xs:List RV} {ob:Obs} (h:ob i=some (v,.row sz z c d xs)):∃a,Ev.frz ob j (ob j) i=some (v,.row sz z c a xs)/\(d=false\/i=j->a=false):=by
 by_cases b:i=j
 ·subst b;rw [h];exact ⟨false,by simp [Ev.frz,upd],λ _=>rfl⟩
 refine ⟨d,?_,λ l=>l.resolve_right b⟩;rcases hj:ob j with _ | ⟨m,e | ⟨k,n,f,a,g⟩ | T | _ | _⟩<;>simp [Ev.frz,upd,b,h]
theorem aea {i v sz:Nat} {z:RV} {c:Bool} {xs:List RV}:∀(l:List Nat) (ob:Obs) (b:Bool),ob i=some (v,.row sz z c b xs)->∃d,Ev.freeze ob l i=some (v,.row sz z c d xs)/\(b=false\/i∈l->d=false)
 | [],ob,b,h=>⟨b,h,λ h=>h.resolve_right (by simp)⟩
 | j::l,ob,b,h=>by
   obtain ⟨g,k,e⟩:=a0h (j:=j) h;obtain ⟨f,n,m⟩:=aea l _ g k;refine ⟨f,n,λ a=>m ?_⟩;rcases a with a | a
   ·exact .inl (e (.inl a))
   rcases zag.1 a with a | a
   ·exact .inl (e (.inr a))
   exact .inr a
theorem atr (r:Gam X s ρ a w) {ver k len sz:Nat} {z:RV} {C:Bool} {xs:List RV} (f:s.ob id=some (ver,.row sz z C false xs)) (h:RA X s ρ w (.own id ver k len) c) :
 RelV w (j8 X.B s.ob ρ w) (.sl sz ((xs.drop k).take len)) c:=by
 cases h;rename_i h;obtain ⟨A,cap,rfl,N,G,I,H⟩:=h.live f;have m:((xs.drop k).take len).length=len:=by simp; omega
 rcases r.obj id ver _ f with ⟨p,E⟩ | ⟨b,cs,e,fr,p,E,M,S,T,u⟩
 ·subst p;have:len=0:=by have:k+len<=0:=I; omega
  subst this;refine (?_:RelV w (j8 X.B s.ob ρ w) (.sl sz []) _);exact .sl sz [] A cap (by simp) G 0 0 (λ _ _=>undef) (by simp) (by simp) (by simp) (by simp)
 have n:=RelV.sl (w:=w) (R:=j8 X.B s.ob ρ w) sz ((xs.drop k).take len) A cap (by omega) G b (k*sz) (λ i j=>(cs[(k+i)*sz+j]?).getD undef);rw [m] at n
 have d:∀(i:Nat) (x:RV),((xs.drop k).take len)[i]?=some x->xs[k+i]?=some x:=λ i x g=>by
  rw [zad] at g;split at g
  ·rwa [zab] at g
  cases g
 refine n (λ U=>?_) (λ i x g=>(u _ x (d i x g)).1) (λ i x j y g D=>?_) (λ i x j y g D=>?_)
 ·obtain ⟨O,K,e',L,F,J,Q,P⟩:=H (by omega);rw [p] at F;cases F;refine ⟨J,(zai.1 E).1,?_,r.base b (r.own _ _ _ b f (.inl p))⟩;rintro ⟨j,v,o,l,t,q⟩;have:=r.inj id j _ _ b f l (.inl p) q;subst this;rw [f] at l;cases l;cases t
 ·obtain ⟨c,l,t,q⟩:=(u _ x (d i x g)).2 j y D;rw [l];refine ⟨?_,t⟩;simp only [World.cell?,E,Option.isSome_none,zak,if_false,zae];rw [<- l,Nat.add_mul]
 obtain ⟨c,l,t,q⟩:=(u _ x (d i x g)).2 j y D;rw [l];exact q
theorem ai0 (j:Gam X s ρ a w) {ob:Obs} {x:AV} {y:RV} {f l:List Nat} (h:x.rv ob=some (y,f)) (b:∀i∈f,i∈l) (e:s.ob=Ev.freeze ob l) (hx:RA X s ρ w x c):RelV w (j8 X.B s.ob ρ w) y c:=by
 unfold AV.rv at h;split at h
 ·cases h; cases hx; assumption
 ·cases h; cases hx;exact .sl _ [] none 0 (by simp) (by simp) 0 0 (λ _ _=>undef) (by simp) (by simp) (by simp) (by simp)
 ·split at h
  ·rename_i g;cases h;obtain ⟨k,d,m⟩:=aea l ob _ (u4 g);rw [m (.inr (b _ (by simp)))] at d;rw [<- e] at d;exact atr j d hx
  cases h
 cases h
theorem Stays.nil (id ver:Nat) (g:∀v o,s.ob id=some (v,o)->v<ver) (x:Ob) (d:x.isAbs=false:=by rfl) :
 Stays w w (j8 X.B s.ob ρ w) (j8 X.B (upd id (ver,x) s.ob) (s6 ρ id none) w) s.ob (upd id (ver,x) s.ob) ρ (s6 ρ id none):=by
 refine ⟨λ b ⟨k,m,n⟩=>⟨⟨k,?_,n⟩,rfl⟩,λ j v o h=>?_⟩
 ·rintro ⟨j,v,o,c,l,f⟩;by_cases a:j=id
  ·subst a;simp [upd] at c;obtain ⟨rfl,rfl⟩:=c;rw [el d] at f;simp [s6] at f
  simp only [upd,a,if_false] at c;exact m ⟨j,v,o,c,l,(tq a).1 f⟩
 by_cases a:j=id
 ·subst a;exact ⟨ver,x,by simp [upd],Nat.le_of_lt (g v o h),λ e=>by have:=g v o h; omega⟩
 exact ⟨v,o,by simp [upd,a,h],zaa _,λ _=>⟨by simp [s6,a],z9.refl o,λ b cs e fr p i=>⟨cs,e,fr,i,rfl⟩⟩⟩
theorem Gam.nil (n:Gam X s ρ a w) (id ver:Nat) (u:X.pn id=none) (E:∀v o,s.ob id=some (v,o)->v<ver) (sz:Nat) (z:RV) (A:Bool) :
 Gam X ⟨s.e,upd id (ver,.row sz z true A []) s.ob⟩ (s6 ρ id none) a w:=by
 refine n.step (Stays.nil id ver E _ rfl) (λ j v o h=>?_) (λ i j p x k C c t r=>?_) n.keeps (λ j v o b h g=>?_) (λ j b o h hc D H=>?_)
 ·by_cases c:j=id
  ·subst c;simp [upd] at h;obtain ⟨rfl,rfl⟩:=h;exact .inr (.inl ⟨rfl,by simp [s6],rfl⟩)
  simp only [upd,c,if_false] at h;exact .inl ⟨h,by simp [s6,c],by simp [s6],λ _ _=>rfl⟩
 ·have l:∀f (y:Nat×Ob),upd id (ver,.row sz z true A []) s.ob f=some y->foot (s6 ρ id none) f y.2 k->s.ob f=some y/\foot ρ f y.2 k:=λ f y q m=>by
   by_cases d:f=id
   ·subst d;simp [upd] at q;subst q;rw [el rfl] at m;simp [s6] at m
   simp only [upd,d,if_false] at q;rw [tq d] at m;exact ⟨q,m⟩
  obtain ⟨F,g⟩:=l i p C t;obtain ⟨B,G⟩:=l j x c r;exact n.inj i j p x k F B g G
 ·by_cases c:j=id
  ·subst c;simp [upd] at h;obtain ⟨rfl,rfl⟩:=h;rw [el rfl] at g;simp [s6] at g
  simp only [upd,c,if_false] at h;rw [tq c] at g;exact n.own j v o b h g
 have c:j≠id:=λ e=>by rw [e,u] at h; cases h
 exact ⟨by simp [s6,c,H],o,by simp [upd,c,hc],D⟩
theorem Gam.unpinned (f:Gam X s ρ a w) {v sz:Nat} {z:RV} {c g:Bool} {xs:List RV} (e:s.ob id=some (v,.row sz z c g xs)) (d:(c || !par id)=true):X.pn id=none:=by
 cases hp:par id with
 | false=>exact f.pnn id hp
 | true=>
   rw [hp] at d;have d:c=true:=by simpa using d
   subst d;rcases h:X.pn id with _ | b
   ·rfl
   obtain ⟨_,o,hc,i,_⟩:=f.pin id b h;rw [e] at hc;cases hc;cases i
end

end Go.Ev

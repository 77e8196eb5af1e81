import Derived.WalkKit
open Nat renaming le_refl → zaa, add_assoc → zai, le_trans → zan
open BitVec renaming ofInt → zab
open List renaming getElem?_drop → zac, mem_cons → zad, getElem?_take → zae, getElem?_eq_some_iff → zam, not_mem_nil → zap, length_eq_zero_iff → zaq, getElem?_toArray → zat
open Bool renaming and_eq_true → zaf, false_eq_true → zaj
open Array renaming getElem?_eq_some_iff → zah
open Int renaming toNat_natCast → zak, eq_ofNat_of_zero_le → zas
open Option renaming getD_some → zal, getD_none → zao, map_eq_some_iff → zar
namespace Go.Ev
set_option maxHeartbeats 8000000
set_option maxRecDepth 100000
open Go
set_option linter.unusedSectionVars false
set_option linter.unnecessarySimpa false
set_option linter.unusedVariables false
inductive RV where
 | v (x:Value)
 | agg (xs:List RV)
 | sl (sz:Nat) (xs:List RV)
inductive AV where
 | r (x:RV)
 | agg (xs:List AV)
 | tup (xs:List AV)
 | nils (sz:Nat) (z:RV)
 | own (id ver lo len:Nat)
 | ptr (id ver off:Nat)
 | oel (id ver idx off:Nat)
 | rp (ys:List RV)
 | fn (f:Fn) (cap:List AV) (k:Nat:=0)
 | mp (id ver:Nat)
 | ifc (t:TypeId) (x:AV)
 | gd (b:Bool) (x:AV)
 | undef
instance:Inhabited RV:=⟨.v (.bool false)⟩
instance:Inhabited AV:=⟨.undef⟩
inductive Pl where
 | o (id:Nat)
 | s (id j:Nat)
deriving DecidableEq
instance:Coe Nat Pl:=⟨Pl.o⟩
def RV.cells:RV->List RV
 | .agg xs=>xs
 | x=>[x]
def AV.cells:AV->List AV
 | .agg xs=>xs
 | .r (.agg xs)=>xs.map .r
 | x=>[x]
def RV.one:RV->Bool
 | .v x=>x.oneCell'
 | .agg _=>false
 | .sl _ _=>true
section
variable (w:World) (R:Nat->Prop)
inductive RelV:RV->Value->Prop where
 | v (x:Value):RelV (.v x) x
 | agg (xs:List RV) (cs:Array Value) (hl:cs.size=xs.length) (h:∀(i:Nat) (x:RV) (c:Value),xs[i]?=some x->cs[i]?=some c->RelV x c):RelV (.agg xs) (.agg cs)
 | sl (sz:Nat) (xs:List RV) (A:Option Addr) (cap:Nat) (hc:xs.length<=cap) (hm:cap<=maxLen) (b o:Nat) (g:Nat->Nat->Value)
  (hA:0<xs.length->A=some ⟨b,o,none⟩/\R b)
  (hz:∀(i:Nat) (x:RV),xs[i]?=some x->x.cells.length=sz)
  (hg:∀(i:Nat) (x:RV) (j:Nat) (y:RV),xs[i]?=some x->x.cells[j]?=some y->w.cell? ⟨b,o+i*sz+j,none⟩=some (g i j)/\(g i j).oneCell'=true)
  (hr:∀(i:Nat) (x:RV) (j:Nat) (y:RV),xs[i]?=some x->x.cells[j]?=some y->RelV y (g i j)):RelV (.sl sz xs) (.slice A xs.length cap)
end
variable {c:Value}
theorem RelV.mono {w d:World} {R R':Nat->Prop} {x:RV} (h:RelV w R x c) (e:∀b,R b->R' b/\d.heap[b]?=w.heap[b]?):RelV d R' x c:=by
 induction h with
 | v x=>exact .v x
 | agg xs cs hl _ ih=>exact .agg xs cs hl ih
 | sl sz xs A cap hc hm b o g hA hz hg hr ih=>
   refine .sl sz xs A cap hc hm b o g (λ a=>⟨(hA a).1,(e b (hA a).2).1⟩) hz (λ i x j y hi l=>?_) ih
   have a:0<xs.length:=by
    have:=(zam.1 hi).1;omega
   obtain ⟨k,f⟩:=hg i x j y hi l;refine ⟨?_,f⟩;rw [<- k];simp only [World.cell?];rw [(e b (hA a).2).2]
structure AbsT where
 size:Nat
 Q:World->Nat->(Nat->Option Nat)->Prop
 loc:∀{w w':World} {b:Nat} {φ:Nat->Option Nat},Q w b φ->w'.heap[b]?=w.heap[b]?->(∀j c,φ j=some c->w'.heap[c]?=w.heap[c]?)->Q w' b φ
 root:∀{w:World} {b:Nat} {φ:Nat->Option Nat},Q w b φ->∃cs e,w.heap[b]?=some (.cells cs e (0,0))/\cs.size=size
 lt:∀{w:World} {b:Nat} {φ:Nat->Option Nat},Q w b φ->∀j c,φ j=some c->c<w.heap.size
 view:List RV
 rp:∀{w:World} {b:Nat} {φ:Nat->Option Nat} (R:Nat->Prop),Q w b φ->R b->(∀j c,φ j=some c->R c) ->
  ∃g:Nat->Value,∀(j:Nat) (y:RV),view[j]?=some y->w.cell? ⟨b,0+j,none⟩=some (g j)/\(g j).oneCell'=true/\RelV w R y (g j)
inductive Ob where
 | box (cells:List AV)
 | row (sz:Nat) (z:RV) (app wr:Bool) (xs:List RV)
 | abs (T:AbsT)
 | map (es:List MapEntry) (clock:Nat)
 | iter (m:AV) (since:Nat) (seen:List Nat) (stepped:Nat)
def Ob.own:Ob->Bool
 | .box _=>true
 | .row _ _ _ wr _=>wr
 | .abs _=>true
 | .map _ _=>true
 | .iter _ _ _ _=>true
def Ob.pinned:Ob->Bool
 | .row _ _ app _ _=>!app
 | _=>true
def Ob.isRow:Ob->Bool
 | .row _ _ _ _ _=>true
 | _=>false
def par (id:Nat):Bool:=bif decide (1000000<=id) then decide (id<2000000) else false
variable {id:Nat}
theorem asm (h:id<1000000):par id=false:=by unfold par; rw [decide_eq_false (by omega)]; rfl
def zl (w d:World) (b:Nat):Prop:=∀cs e fr,w.heap[b]?=some (.cells cs e fr)->∃a e' c,d.heap[b]?=some (.cells a e' c)/\a.size=cs.size
theorem zl.refl (w:World) (b:Nat):zl w w b:=λ cs e fr h=>⟨cs,e,fr,h,rfl⟩
variable {k:Nat}
theorem zl.trans {a b c:World} (h:zl a b k) (g:zl b c k):zl a c k:=λ cs e fr q=>by
 obtain ⟨d,n,j,m,o⟩:=h cs e fr q;obtain ⟨i,p,f,l,r⟩:=g d n j m;exact ⟨i,p,f,l,r.trans o⟩
def Ob.isAbs:Ob->Bool
 | .abs _=>true
 | _=>false
def foot (ρ:Pl->Option Nat) (id:Nat) (o:Ob) (b:Nat):Prop:=ρ id=some b\/(o.isAbs=true/\∃j,ρ (.s id j)=some b)
variable {b:Nat}
theorem jz {ρ:Pl->Option Nat} {o:Ob} (h:o.isAbs=false):foot ρ id o b↔ρ id=some b:=by simp [foot,h]
variable {o':Ob}
theorem ace {ρ ρ':Pl->Option Nat} {a:Nat} {o:Ob} (e:ρ' a=ρ id) (c:∀j,ρ' (.s a j)=ρ (.s id j)) (d:o'.isAbs=o.isAbs):foot ρ' a o' b↔foot ρ id o b:=by simp only [foot,e,c,d]
def ae5 (ρ ρ':Pl->Option Nat) (i a:Nat):Prop:=ρ' (.o a)=ρ (.o i)/\∀j,ρ' (.s a j)=ρ (.s i j)
variable {i:Nat}
theorem ae5.foot {ρ ρ':Pl->Option Nat} {a:Nat} (h:ae5 ρ ρ' i a) {o:Ob} (c:o'.isAbs=o.isAbs):foot ρ' a o' b↔foot ρ i o b:=ace h.1 h.2 c
def u5 (ρ:Pl->Option Nat) (id:Nat) (b:Option Nat):Pl->Option Nat:=λ i=>if i=id then b else ρ i
variable {j:Nat}
theorem aba {ρ:Pl->Option Nat} {o:Ob} {x:Option Nat} (h:j≠id):foot (u5 ρ id x) j o b↔foot ρ j o b:=ace (by simp [u5,h]) (by simp [u5]) rfl
abbrev Obs:=Nat->Option (Nat×Ob)
def akx (w:World) (ρ:Pl->Option Nat) (id:Nat) (lo len:Nat) (c:Value):Ob->Prop
 | .box _=>∃A cap,c=.slice A len cap/\len<=cap/\cap<=maxLen /\
  (0<cap->∃b cs e fr,ρ id=some b/\A=some ⟨b,lo,none⟩/\w.heap[b]?=some (.cells cs e fr)/\lo+cap<=cs.size)
 | .abs _=>False
 | .map _ _=>False
 | .iter _ _ _ _=>False
 | .row sz _ _ _ xs=>∃A cap,c=.slice A len cap/\len<=cap/\cap<=maxLen/\lo+len<=xs.length /\
  (0<cap->∃b cs e fr,ρ id=some b/\A=some ⟨b,lo*sz,none⟩/\w.heap[b]?=some (.cells cs e fr)/\(lo+cap)*sz<=cs.size)
def bl8 (ρ:Pl->Option Nat) (id idx off:Nat) (c:Value):Ob->Prop
 | .box _=>∃b,ρ id=some b/\c=.pointer (some ⟨b,idx+off,none⟩)
 | .abs _=>False
 | .map _ _=>False
 | .iter _ _ _ _=>False
 | .row sz _ _ _ xs=>idx<xs.length/\off<=sz/\∃b,ρ id=some b/\c=.pointer (some ⟨b,idx*sz+off,none⟩)
def At (ob:Obs) (id ver:Nat) (X:Ob->Prop):Prop:=∃v o,ob id=some (v,o)/\ver<=v/\(ver=v->X o)
section
variable (w:World) (R:Nat->Prop) (ob:Obs) (ρ:Pl->Option Nat)
inductive RelA:AV->Value->Prop where
 | r {x:RV} {c:Value} (h:RelV w R x c):RelA (.r x) c
 | agg (xs:List AV) (cs:Array Value) (hl:cs.size=xs.length) (h:∀(i:Nat) (x:AV) (c:Value),xs[i]?=some x->cs[i]?=some c->RelA x c):RelA (.agg xs) (.agg cs)
 | tup (xs:List AV) (cs:Array Value) (hl:cs.size=xs.length) (h:∀(i:Nat) (x:AV) (c:Value),xs[i]?=some x->cs[i]?=some c->RelA x c):RelA (.tup xs) (.tuple cs)
 | nils (sz:Nat) (z:RV):RelA (.nils sz z) (.slice none 0 0)
 | own (id ver lo len:Nat) (c:Value) (hc:c.oneCell'=true) (h:At ob id ver (akx w ρ id lo len c)):RelA (.own id ver lo len) c
 | ptr (id ver off:Nat) (c:Value) (hc:c.oneCell'=true) (h:At ob id ver λ _=>∃b,ρ id=some b/\c=.pointer (some ⟨b,off,none⟩)):RelA (.ptr id ver off) c
 | oel (id ver idx off:Nat) (c:Value) (hc:c.oneCell'=true) (h:At ob id ver (bl8 ρ id idx off c)):RelA (.oel id ver idx off) c
 | rp (ys:List RV) (b o:Nat) (g:Nat->Value) (hR:R b) (hg:∀(j:Nat) (y:RV),ys[j]?=some y->w.cell? ⟨b,o+j,none⟩=some (g j)/\(g j).oneCell'=true/\RelV w R y (g j)) :
  RelA (.rp ys) (.pointer (some ⟨b,o,none⟩))
 | fn (f:Fn) (xs:List AV) (k:Nat) (fs cs:Array Value) (hk:fs.size=k) (hl:fs.size+cs.size=xs.length) (h:∀(i:Nat) (x:AV) (c:Value),xs[i]?=some x->(fs++cs)[i]?=some c->RelA x c):RelA (.fn f xs k) (.func f fs cs)
 | mp (id ver:Nat) (c:Value) (hc:c.oneCell'=true) (h:At ob id ver λ _=>∃b,ρ id=some b/\c=.map (some b)):RelA (.mp id ver) c
 | ifc (t:TypeId) {x:AV} {c:Value} (h:RelA x c):RelA (.ifc t x) (.iface t c)
 | gd (b:Bool) {x:AV} {c:Value} (h:b=true->RelA x c) (hf:b=false->c=undef):RelA (.gd b x) c
 | undef (c:Value):RelA .undef c
end
def bt:Ob->Ob->Prop
 | .box _,.box _=>True
 | .abs T,.abs T'=>T'.size=T.size
 | .map _ _,.map _ _=>True
 | .iter _ _ _ _,.iter _ _ _ _=>True
 | .row sz _ _ _ xs,.row sz' _ _ _ xs'=>sz'=sz/\xs.length<=xs'.length
 | .row sz _ _ _ _,.box _=>sz=1
 | _,_=>False
theorem bt.refl (o:Ob):bt o o:=by cases o<;>simp [bt]
structure Stays (w w':World) (R R':Nat->Prop) (ob ob':Obs) (ρ ρ':Pl->Option Nat):Prop where
 free:∀b,R b->R' b/\w'.heap[b]?=w.heap[b]?
 obj:∀id v o,ob id=some (v,o)->∃v' o',ob' id=some (v',o')/\v<=v'/\(v=v'->ρ' id=ρ id/\bt o o' /\
  (∀b cs e fr,ρ id=some b->w.heap[b]?=some (.cells cs e fr)->∃cs' e' fr',w'.heap[b]?=some (.cells cs' e' fr')/\cs'.size=cs.size))
section
variable {w w':World} {R R':Nat->Prop} {ob ob':Obs} {ρ ρ':Pl->Option Nat}
theorem Stays.at_ (h:Stays w w' R R' ob ob' ρ ρ') {ver:Nat} {X d:Ob->Prop} (p:At ob id ver X)
 (hx:∀o o',X o->ρ' id=ρ id->bt o o'->(∀b cs e fr,ρ id=some b->w.heap[b]?=some (.cells cs e fr)->∃a e' c,w'.heap[b]?=some (.cells a e' c)/\a.size=cs.size)->d o') :
 At ob' id ver d:=by
 obtain ⟨v,o,j,q,i⟩:=p;obtain ⟨r,o',g,l,f⟩:=h.obj id v o j;refine ⟨r,o',g,zan q l,λ e=>?_⟩;obtain ⟨n,k,m⟩:=f (by omega);exact hx o o' (i (by omega)) n k m
theorem RelA.stays (h:Stays w w' R R' ob ob' ρ ρ') {x:AV} (hx:RelA w R ob ρ x c):RelA w' R' ob' ρ' x c:=by
 induction hx with
 | r u=>exact .r (u.mono h.free)
 | agg xs cs hl _ ih=>exact .agg xs cs hl ih
 | tup xs cs hl _ ih=>exact .tup xs cs hl ih
 | nils sz z=>exact .nils sz z
 | own id ver lo len c hc ha=>
   refine .own id ver lo len c hc (h.at_ ha λ o o' i a d v=>?_);cases o with
   | box _=>
     cases o' with
     | box _=>
       obtain ⟨A,cap,p,n,q,D⟩:=i;refine ⟨A,cap,p,n,q,λ u=>?_⟩;obtain ⟨b,cs,e,fr,s,G,B,E⟩:=D u;obtain ⟨m,e',l,C,F⟩:=v b cs e fr s B;exact ⟨b,m,e',l,by rw [a,s],G,C,by rw [F]; exact E⟩
     | _=>exact d.elim
   | abs _=>exact i.elim
   | map _ _=>exact i.elim
   | iter _ _ _ _=>exact i.elim
   | row sz z1 a1 w1 xs=>
     cases o' with
     | box _=>
       obtain rfl:sz=1:=d;obtain ⟨A,cap,p,n,q,H,D⟩:=i;refine ⟨A,cap,p,n,q,λ u=>?_⟩;obtain ⟨b,cs,e,fr,s,G,B,E⟩:=D u;obtain ⟨m,e',l,C,F⟩:=v b cs e fr s B;exact ⟨b,m,e',l,by rw [a,s],by rw [G,Nat.mul_one],C,by rw [F]; simpa using E⟩
     | abs _=>exact d.elim
     | map _ _=>exact d.elim
     | iter _ _ _ _=>exact d.elim
     | row sz' z2 a2 w2 xs'=>
       obtain ⟨rfl,d⟩:=d;obtain ⟨A,cap,p,n,q,H,D⟩:=i;refine ⟨A,cap,p,n,q,by omega,λ u=>?_⟩;obtain ⟨b,cs,e,fr,s,G,B,E⟩:=D u;obtain ⟨m,e',l,C,F⟩:=v b cs e fr s B;exact ⟨b,m,e',l,by rw [a,s],G,C,by rw [F]; exact E⟩
 | ptr id ver off c hc ha=>exact .ptr id ver off c hc (h.at_ ha λ o o' i a d v=>by rw [a]; exact i)
 | oel id ver idx off c hc ha=>
   refine .oel id ver idx off c hc (h.at_ ha λ o o' i a d v=>?_);cases o with
   | box _=>
     cases o' with
     | box _=>
       obtain ⟨b,p,n⟩:=i;exact ⟨b,by rw [a]; exact p,n⟩
     | _=>exact d.elim
   | abs _=>exact i.elim
   | map _ _=>exact i.elim
   | iter _ _ _ _=>exact i.elim
   | row sz z1 a1 w1 xs=>
     cases o' with
     | box _=>
       obtain rfl:sz=1:=d;obtain ⟨p,n,b,q,H⟩:=i;exact ⟨b,by rw [a]; exact q,by rw [H,Nat.mul_one]⟩
     | abs _=>exact d.elim
     | map _ _=>exact d.elim
     | iter _ _ _ _=>exact d.elim
     | row sz' z2 a2 w2 xs'=>
       obtain ⟨rfl,d⟩:=d;obtain ⟨p,n,q⟩:=i;exact ⟨by omega,n,by rw [a]; exact q⟩
 | rp ys b o g hR hg=>
   refine .rp ys b o g (h.free b hR).1 λ j y K=>?_;obtain ⟨J,L,I⟩:=hg j y K;refine ⟨?_,L,I.mono h.free⟩;rw [<- J];simp only [World.cell?];rw [(h.free b hR).2]
 | fn f xs k fs cs d hl _ ih=>exact .fn f xs k fs cs d hl ih
 | mp id ver c hc ha=>exact .mp id ver c hc (h.at_ ha λ o o' i a d v=>by rw [a]; exact i)
 | ifc t _ ih=>exact .ifc t ih
 | gd b _ hf ih=>exact .gd b ih hf
 | undef c=>exact .undef c
end
structure St where
 e:Nat->AV
 ob:Obs
def Own (ob:Obs) (ρ:Pl->Option Nat) (b:Nat):Prop:=∃id v o,ob id=some (v,o)/\o.own=true/\foot ρ id o b
def g9 (B:Nat->Prop) (ob:Obs) (ρ:Pl->Option Nat) (w:World) (b:Nat):Prop:=b<w.heap.size/\¬Own ob ρ b/\B b
def il (w:World) (R:Nat->Prop) (ob:Obs) (ρ:Pl->Option Nat) (id:Nat):Ob->Prop
 | .box cells=>∃b cs e,ρ id=some b/\w.heap[b]?=some (.cells cs e (0,0))/\cs.size=cells.length /\
  ∀(i:Nat) (x:AV) (c:Value),cells[i]?=some x->cs[i]?=some c->RelA w R ob ρ x c
 | .abs T=>∃b,ρ id=some b/\T.Q w b (λ j=>ρ (.s id j))
 | .map es clock=>∃b,ρ id=some b/\w.heap[b]?=some (.map es.toArray clock)
 | .iter m since seen stepped=>∃b m',ρ id=some b/\w.heap[b]?=some (.mapIter (some m') since seen.toArray stepped)/\RelA w R ob ρ m (.map (some m'))
 | .row sz _ app _ xs=>(xs=[]/\ρ id=none/\app=true)\/∃b cs e fr,ρ id=some b/\w.heap[b]?=some (.cells cs e fr) /\
  (∀k,k<cs.size->¬(fr.1<=k/\k<fr.2))/\(app=true->fr=(0,0))/\xs.length*sz<=cs.size /\
  ∀(i:Nat) (x:RV),xs[i]?=some x->x.cells.length=sz/\∀(j:Nat) (y:RV),x.cells[j]?=some y->∃c,cs[i*sz+j]?=some c/\c.oneCell'=true/\RelV w R y c
structure Keeps (I:Nat->Prop) (w w':World):Prop where
 os:w'.os=w.os
 tape:w'.tape=w.tape
 output:w'.output=w.output
 size:w.heap.size<=w'.heap.size
 block:∀b,b<w.heap.size->¬I b->w'.heap[b]?=w.heap[b]?
theorem Keeps.refl (I:Nat->Prop) (w:World):Keeps I w w:=⟨rfl,rfl,rfl,zaa _,λ _ _ _=>rfl⟩
theorem Keeps.trans {I:Nat->Prop} {a b c:World} (h:Keeps I a b) (k:Keeps I b c):Keeps I a c:=
 ⟨k.os.trans h.os,k.tape.trans h.tape,k.output.trans h.output,zan h.size k.size,λ i hi d=>(k.block i (Nat.lt_of_lt_of_le hi h.size) d).trans (h.block i hi d)⟩
structure Cx where
 n:Nat
 I:Nat->Prop
 pn:Nat->Option Nat
 B:Nat->Prop
 w0:World
structure Mem (X:Cx) (ob:Obs) (ρ:Pl->Option Nat) (w:World):Prop where
 obj:∀id v o,ob id=some (v,o)->il w (g9 X.B ob ρ w) ob ρ id o
 inj:∀id id' x x' b,ob id=some x->ob id'=some x'->foot ρ id x.2 b->foot ρ id' x'.2 b->id=id'
 keeps:Keeps X.I X.w0 w
 own:∀id v o b,ob id=some (v,o)->foot ρ id o b->X.I b\/X.w0.heap.size<=b
 pin:∀id b,X.pn id=some b->ρ id=some b/\∃o,ob id=some (0,o)/\o.pinned=true/\(o.isRow=true->zl X.w0 w b)
structure Gam (X:Cx) (s:St) (ρ:Pl->Option Nat) (a:Act) (w:World):Prop extends Mem X s.ob ρ w where
 sz:a.tmps.size=X.n
 df:a.defers=[]
 env:∀t,RelA w (g9 X.B s.ob ρ w) s.ob ρ (s.e t) (a.tmps.getD t undef)
 pnn:∀id,par id=false->X.pn id=none
 small:X.n<=100000
 base:∀b,X.I b\/X.w0.heap.size<=b->X.B b

inductive Opd where
 | t (n:Nat)
 | c (x:AV)
inductive PO where
 | mov (x:Opd)
 | pick (c a b:Opd)
 | bin (op:BinOp) (x y:Opd)
 | beq (neg:Bool) (x y:Opd)
 | eqn (neg:Bool) (x:Opd)
 | un (op:UnOp) (x:Opd)
 | conv (k:IntKind) (x:Opd)
 | toStr (x:Opd)
 | toBytes (z:RV) (x:Opd)
 | new (zs:List AV)
 | box (x:Opd)
 | build (zs:List AV) (ps:List (Nat×Nat×Opd))
 | mkf (f:Fn) (xs:List Opd) (k:Nat:=0)
 | eqa (neg:Bool) (ks:List Nat) (x y:Opd)
 | bsl (sz:Nat) (z:RV) (ps:List Opd)
 | ld (n:Option Nat) (x:Opd)
 | st (n:Nat) (x y:Opd)
 | nck (x:Opd)
 | fa (off:Nat) (x:Opd)
 | fld (off:Nat) (n:Option Nat) (x:Opd)
 | ia (sz:Nat) (z:RV) (x i:Opd)
 | ixs (x i:Opd)
 | sls (x:Opd) (lo hi:Option Opd)
 | sll (sz:Nat) (x:Opd) (lo hi mx:Option Opd)
 | mks (sz:Nat) (z:RV) (bytes:Nat) (l c:Opd)
 | len (str:Bool) (x:Opd)
 | app (sz:Nat) (z:RV) (bytes:Nat) (x y:Opd)
 | cpy (sz:Nat) (x y:Opd)
 | ext (x:Opd) (i:Nat)
 | mm (mx:Bool) (x:Opd) (ys:List Opd)
 | iaa (n sz:Nat) (x i:Opd)
 | carry (sub:Bool) (x y c:Opd)
 | lkp (str:Bool) (z:RV) (comma:Bool) (x i:Opd)
 | lenm (x:Opd)
 | mki (t:TypeId) (x:Opd)
 | tas (t:TypeId) (z:RV) (comma:Bool) (x:Opd)
 | ent (x:Opd)
 | mkm
 | mset (str:Bool) (x i y:Opd)
 | mdel (str:Bool) (x i:Opd)
 | rng (x:Opd)
 | mrk (x:Opd)
 | cps (x y:Opd)
 | sla (n:Nat) (x:Opd)
 | clr (sz:Nat) (z:RV) (x:Opd)
structure Rs where
 ok:Prop
 v:AV
 ob:Obs
 rd:List Nat
 wr:List Nat
abbrev Env:=Nat->AV
def put (d:Nat) (x:AV) (e:Env):Env:=λ n=>if n=d then x else e n
def upd (id:Nat) (x:Nat×Ob) (ob:Obs):Obs:=λ n=>if n=id then some x else ob n
def Opd.ev (e:Env):Opd->AV
 | .t n=>e n
 | .c x=>x
abbrev bl (b:Bool):AV:=.r (.v (.bool b))
abbrev int (k:IntKind) (n:Int):AV:=.r (.v (.int k n))
abbrev Vs:=Prop×AV
def Rs.and (p:Prop) (r:Rs):Rs:=⟨p/\r.ok,r.v,r.ob,r.rd,r.wr⟩
def bad (g:Bool):Vs:=(g=true->False,.undef)
def ag (g:Bool) (id:Nat) (ob:Obs):Rs:=⟨g=true->False,.undef,ob,[id],[]⟩
def AV.bare:AV->AV
 | .gd _ x=>x
 | x=>x
def AV.may (g:Bool):AV->Prop
 | .gd b _=>g=true->b=true
 | _=>True
def Vs.q (ob:Obs) (p:Prop) (v:Vs):Rs:=⟨p/\v.1,v.2,ob,[],[]⟩
def nv (ob:Obs) (id:Nat):Nat:=match ob id with | some (v,_)=>v+1 | none=>0
def ain (g:Bool) (op:BinOp) (k c:IntKind) (a b:Int):Vs:=
 match op with
 | .add=>(k=c,int k (k.wrap (a+b)))
 | .sub=>(k=c,int k (k.wrap (a-b)))
 | .mul=>(k=c,int k (k.wrap (a*b)))
 | .quo=>(k=c/\(g=true->¬b=0),int k (k.wrap (a.tdiv b)))
 | .rem=>(k=c/\(g=true->¬b=0),int k (a.tmod b))
 | .and=>(k=c,int k (k.wrap ((zab k.bits a &&& zab k.bits b).toNat)))
 | .or=>(k=c,int k (k.wrap ((zab k.bits a ||| zab k.bits b).toNat)))
 | .xor=>(k=c,int k (k.wrap ((zab k.bits a ^^^ zab k.bits b).toNat)))
 | .andNot=>(k=c,int k (k.wrap ((zab k.bits a &&& ~~~ zab k.bits b).toNat)))
 | .eql=>(k=c,bl (a == b))
 | .neq=>(k=c,bl (a != b))
 | .lss=>(k=c,bl (decide (a<b)))
 | .gtr=>(k=c,bl (decide (a>b)))
 | .leq=>(k=c,bl (decide (a<=b)))
 | .geq=>(k=c,bl (decide (a>=b)))
 | .shl=>((g=true->0<=b),int k (k.wrap (a*2^(min b.toNat k.bits))))
 | .shr=>((g=true->0<=b),int k (a.fdiv (2^(min b.toNat k.bits))))
abbrev dj (a:ByteArray):AV:=.r (.v (.string a))
def aim (g:Bool) (op:BinOp) (a b:ByteArray):Vs:=
 match op with
 | .add=>((g=true->a.size+b.size<=9223372036854775807),dj (a++b))
 | .eql=>(True,bl (a.toList == b.toList))
 | .neq=>(True,bl (!(a.toList == b.toList)))
 | .lss=>(True,bl (Op.bytesLess a.toList b.toList))
 | .geq=>(True,bl (!Op.bytesLess a.toList b.toList))
 | _=>bad g
def aer (g:Bool) (op:BinOp):AV->AV->Vs
 | .r (.v (.int k a)),.r (.v (.int k' b))=>ain g op k k' a b
 | .r (.v (.string a)),.r (.v (.string b))=>aim g op a b
 | _,_=>bad g
def xw (g:Bool):AV->AV->AV->Vs
 | .r (.v (.bool c)),.r (.v (.bool a)),.r (.v (.bool b))=>(True,bl (bif c then a else b))
 | .r (.v (.bool c)),.gd h (.r (.v (.bool a))),.r (.v (.bool b))=>((g=true->c=true->h=true),bl (bif c then a else b))
 | .r (.v (.bool c)),.r (.v (.bool a)),.gd h (.r (.v (.bool b)))=>((g=true->c=false->h=true),bl (bif c then a else b))
 | .r (.v (.bool c)),.r (.v (.bool a)),.undef=>((g=true->c=true),bl a)
 | .r (.v (.bool c)),.undef,.r (.v (.bool b))=>((g=true->c=false),bl b)
 | .r (.v (.bool c)),.gd h .undef,.r (.v (.bool b))=>((g=true->c=false),bl b)
 | .r (.v (.bool c)),.r (.v (.bool a)),.gd h .undef=>((g=true->c=true),bl a)
 | _,_,_=>bad g
def aes (g c:Bool):AV->AV->Vs
 | .r (.v (.bool a)),.r (.v (.bool b))=>(True,bl (bif c then !(a == b) else (a == b)))
 | _,_=>bad g
def un1 (g:Bool) (op:UnOp):AV->Vs
 | .r (.v (.int k n))=>match op with
   | .neg=>(True,int k (k.wrap (0-n)))
   | .xor=>(True,int k (k.wrap ((zab k.bits (if k.signed then -1 else k.max) ^^^ zab k.bits n).toNat)))
   | _=>bad g
 | .r (.v (.bool b))=>match op with
   | .not=>(True,bl !b)
   | _=>bad g
 | _=>bad g
def yh (g:Bool) (k:IntKind):AV->Vs
 | .r (.v (.int _ n))=>(True,int k (k.wrap n))
 | _=>bad g
def l9 (ob:Obs) (id ver:Nat):Option (Nat×RV×Bool×Bool×List RV):=
 match ob id with
 | some (v,.row sz z app wr xs)=>if ver=v then some (sz,z,app,wr,xs) else none
 | _=>none
def u3 (ob:Obs) (id ver:Nat):Option (List AV):=
 match ob id with
 | some (v,.box cells)=>if ver=v then some cells else none
 | _=>none
def mr (ob:Obs) (id ver:Nat):Option Unit:=
 match ob id with
 | some (v,.box _)=>if ver=v then some () else none
 | some (v,.abs _)=>if ver=v then some () else none
 | _=>none
def leb (g str:Bool) (id n:Nat) (ob:Obs):Option (List AV)->Rs
 | some _=>⟨str=false,int .i64 n,ob,[id],[]⟩
 | none=>ag g id ob
def aah (g str:Bool):AV->Obs->Rs
 | .r (.sl _ xs),ob=>Vs.q ob (str=false) (True,int .i64 xs.length)
 | .r (.v (.string s)),ob=>Vs.q ob (str=true) (True,int .i64 s.size)
 | .nils _ _,ob=>Vs.q ob (str=false) (True,int .i64 0)
 | .own id ver _ n,ob=>match l9 ob id ver with
   | some _=>⟨str=false,int .i64 n,ob,[id],[]⟩
   | none=>leb g str id n ob (u3 ob id ver)
 | _,ob=>Vs.q ob True (bad g)
def iab (g:Bool) (sz id ver lo n:Nat) (i:Int) (ob:Obs):Option (List AV)->Rs
 | some _=>⟨sz=1/\(g=true->0<=i/\i<n),.ptr id ver (lo+i.toNat),ob,[id],[]⟩
 | none=>ag g id ob
def ia2 (g:Bool) (sz:Nat) (z:RV):AV->AV->Obs->Rs
 | .r (.sl sz' xs),.r (.v (.int _ i)),ob=>Vs.q ob (sz'=sz) ((g=true->0<=i/\i<xs.length),.rp (xs.getD i.toNat z).cells)
 | .own id ver lo n,.r (.v (.int _ i)),ob=>match l9 ob id ver with
   | some (sz',_)=>⟨sz'=sz/\(g=true->0<=i/\i<n),.oel id ver (lo+i.toNat) 0,ob,[id],[]⟩
   | none=>iab g sz id ver lo n i ob (u3 ob id ver)
 | _,_,ob=>Vs.q ob True (bad g)
def aeh (g:Bool):AV->AV->Vs
 | .r (.v (.string s)),.r (.v (.int _ i))=>((g=true->0<=i/\i<s.size),int .u8 (s.data.toList.getD i.toNat 0).toNat)
 | _,_=>bad g
def ldb (id:Nat) (ob:Obs) (g:Bool) (n:Option Nat) (off:Nat):Option (List AV)->Rs
 | some cells=>match n with
   | none=>⟨g=true->off<cells.length,cells.getD off .undef,ob,[id],[]⟩
   | some n=>⟨g=true->off+n<=cells.length,.agg ((cells.drop off).take n),ob,[id],[]⟩
 | none=>ag g id ob
def ldr (id:Nat) (ob:Obs) (g:Bool) (n:Option Nat) (idx off:Nat):Option (Nat×RV×Bool×Bool×List RV)->Rs
 | some (sz,z,_,_,xs)=>match n with
   | none=>⟨g=true->off<sz,.r ((xs.getD idx z).cells.getD off (.v (.bool false))),ob,[id],[]⟩
   | some n=>⟨g=true->off+n<=sz,.r (.agg (((xs.getD idx z).cells.drop off).take n)),ob,[id],[]⟩
 | none=>ag g id ob
def ld1 (g:Bool) (n:Option Nat):AV->Obs->Rs
 | .ptr id ver off,ob=>ldb id ob g n off (u3 ob id ver)
 | .oel id ver idx off,ob=>ldr id ob g n idx off (l9 ob id ver)
 | .rp ys,ob=>match n with
   | none=>Vs.q ob True ((g=true->0<ys.length),.r (ys.getD 0 (.v (.bool false))))
   | some n=>Vs.q ob True ((g=true->n<=ys.length),.r (.agg (ys.take n)))
 | _,ob=>Vs.q ob True (bad g)
def ab4 (g:Bool):AV->Obs->Rs
 | .ptr id ver off,ob=>match mr ob id ver with
   | some _=>⟨True,.ptr id ver off,ob,[id],[]⟩
   | none=>ag g id ob
 | .oel id ver idx off,ob=>match l9 ob id ver with
   | some _=>⟨True,.oel id ver idx off,ob,[id],[]⟩
   | none=>ag g id ob
 | .rp ys,ob=>Vs.q ob True (True,.rp ys)
 | .fn (.func f) xs k,ob=>Vs.q ob True (True,.fn (.func f) xs k)
 | _,ob=>Vs.q ob True (bad g)
def acg (g a:Bool):AV->Obs->Rs
 | .ptr id ver _,ob=>match mr ob id ver with
   | some _=>⟨True,bl a,ob,[id],[]⟩
   | none=>ag g id ob
 | .r (.v (.pointer none)),ob=>Vs.q ob True (True,bl !a)
 | _,ob=>Vs.q ob True (bad g)
def fa1 (g:Bool) (off:Nat):AV->Obs->Rs
 | .ptr id ver o,ob=>match u3 ob id ver with
   | some _=>⟨True,.ptr id ver (o+off),ob,[id],[]⟩
   | none=>ag g id ob
 | .oel id ver idx o,ob=>match l9 ob id ver with
   | some (sz,_)=>⟨g=true->o+off<=sz,.oel id ver idx (o+off),ob,[id],[]⟩
   | none=>ag g id ob
 | .rp ys,ob=>Vs.q ob True (True,.rp (ys.drop off))
 | _,ob=>Vs.q ob True (bad g)
def ajw (g:Bool) (off:Nat) (n:Option Nat) (x:AV):Vs:=
 match x with
 | .agg cs=>match n with
   | none=>((g=true->off<cs.length),cs.getD off .undef)
   | some n=>((g=true->off+n<=cs.length),.agg ((cs.drop off).take n))
 | .r (.agg cs)=>match n with
   | none=>((g=true->off<cs.length),.r (cs.getD off (.v (.bool false))))
   | some n=>((g=true->off+n<=cs.length),.r (.agg ((cs.drop off).take n)))
 | _=>bad g
def bnd (d:Int):Option AV->Option Int
 | none=>some d
 | some (.r (.v (.int _ i)))=>some i
 | _=>none
def ad4 (g:Bool):AV->Option AV->Option AV->Vs
 | .r (.v (.string s)),lo,hi=>match bnd 0 lo,bnd s.size hi with
   | some l,some h=>((g=true->0<=l/\l<=h/\h<=s.size),dj (s.extract l.toNat h.toNat))
   | _,_=>bad g
 | _,_,_=>bad g
def yu (g:Bool) (sz:Nat):AV->Option AV->Option AV->Option AV->Obs->Rs
 | .r (.sl sz' xs),lo,hi,mx,ob=>match bnd 0 lo,bnd xs.length hi,bnd xs.length mx with
   | some l,some h,some m=>Vs.q ob (sz'=sz) ((g=true->0<=l/\l<=h/\h<=m/\m<=xs.length),.r (.sl sz ((xs.take h.toNat).drop l.toNat)))
   | _,_,_=>Vs.q ob True (bad g)
 | .own id ver lo0 n,lo,hi,mx,ob=>match bnd 0 lo,bnd n hi,bnd n mx with
   | some l,some h,some m=>match l9 ob id ver with
     | some (sz',_)=>⟨sz'=sz/\(g=true->0<=l/\l<=h/\h<=m/\m<=n),.own id ver (lo0+l.toNat) (h-l).toNat,ob,[id],[]⟩
     | none=>ag g id ob
   | _,_,_=>Vs.q ob True (bad g)
 | _,_,_,_,ob=>Vs.q ob True (bad g)
def agb (g:Bool) (id ver off n:Nat) (ob:Obs):Option (List AV)->Rs
 | some cells=>⟨g=true->off+n<=cells.length/\n<=maxLen,.own id ver off n,ob,[id],[]⟩
 | none=>ag g id ob
def zy (g:Bool) (n:Nat):AV->Obs->Rs
 | .ptr id ver off,ob=>agb g id ver off n ob (u3 ob id ver)
 | _,ob=>Vs.q ob True (bad g)
def aen (g:Bool) (i:Nat):AV->Vs
 | .tup xs=>(i<xs.length,xs.getD i .undef)
 | _=>bad g
def d9 {a:Type} (l:List a) (i:Nat) (m:List a):List a:=l.take i++m++l.drop (i+m.length)
def src (ob:Obs):AV->Option (Nat×List RV×List Nat)
 | .r (.sl sz xs)=>some (sz,xs,[])
 | .nils sz _=>some (sz,[],[])
 | .own id ver lo len=>match l9 ob id ver with
   | some (sz,_,_,_,xs)=>some (sz,(xs.drop lo).take len,[id])
   | none=>none
 | _=>none
def zg:RV->UInt8
 | .v (.int _ n)=>UInt8.ofNat n.toNat
 | _=>0
def aki:RV->Bool
 | .v (.int .u8 n)=>decide (0<=n/\n<256)
 | _=>false
def AV.one:AV->Bool
 | .r x=>x.one
 | .agg _=>false
 | .tup _=>false
 | .gd _ _=>false
 | .undef=>false
 | _=>true
def AV.boxable:AV->Bool
 | .agg _=>true
 | .r (.agg _)=>true
 | x=>x.one
def ni (ob:Obs):Option (Nat×List RV×List Nat)->Rs
 | some (sz,ys,rd)=>⟨sz=1/\ys.all aki=true,dj ⟨(ys.map zg).toArray⟩,ob,rd,[]⟩
 | none=>Vs.q ob False (False,.undef)
def jn (g:Bool) (e:Env):List AV->List (Nat×Nat×Opd)->Vs
 | zs,[]=>(True,.agg zs)
 | zs,(off,n,x)::r=>((x.ev e).may g/\(g=true->(x.ev e).bare.boxable=true/\(x.ev e).bare.cells.length=n/\off+n<=zs.length)/\(jn g e (d9 zs off (x.ev e).bare.cells) r).1,(jn g e (d9 zs off (x.ev e).bare.cells) r).2)
def n7 (e:Env):List Opd->List AV
 | []=>[]
 | x::xs=>(x.ev e).bare::n7 e xs
def eu (g:Bool) (e:Env):List Opd->Prop
 | []=>True
 | x::xs=>(x.ev e).may g/\eu g e xs
def eq2:Nat->AV->AV->Option Bool
 | 0,.r (.v (.int k a)),.r (.v (.int k' b))=>if k=k' then some (a == b) else none
 | 1,.r (.v (.bool a)),.r (.v (.bool b))=>some (a == b)
 | 2,.r (.v (.string a)),.r (.v (.string b))=>some (a.toList == b.toList)
 | _,_,_=>none
def eql:List Nat->List AV->List AV->Option Bool
 | [],[],[]=>some true
 | k::ks,x::xs,y::ys=>match eq2 k x y,eql ks xs ys with
   | some a,some b=>some (a&&b)
   | _,_=>none
 | _,_,_=>none
def AV.isA:AV->Bool
 | .agg _=>true
 | .r (.agg _)=>true
 | _=>false
def agj (g a:Bool):Option Bool->Vs
 | some b=>(True,bl (bif a then !b else b))
 | none=>bad g
def mmL (g c:Bool):AV->List AV->Vs
 | x,[]=>(True,x)
 | .r (.v (.int k a)),.r (.v (.int k' b))::ys=>mmL g c (int k (bif c then max a b else min a b)) ys
 | _,_=>bad g
def se (g:Bool) (n sz:Nat):AV->AV->Obs->Rs
 | .ptr id ver o,.r (.v (.int _ i)),ob=>match u3 ob id ver with
   | some _=>⟨g=true->0<=i/\i<n,.ptr id ver (o+i.toNat*sz),ob,[id],[]⟩
   | none=>ag g id ob
 | .oel id ver idx o,.r (.v (.int _ i)),ob=>match l9 ob id ver with
   | some (sz',_)=>⟨g=true->0<=i/\i<n/\o+n*sz<=sz',.oel id ver idx (o+i.toNat*sz),ob,[id],[]⟩
   | none=>ag g id ob
 | .rp ys,.r (.v (.int _ i)),ob=>Vs.q ob True ((g=true->0<=i/\i<n),.rp (ys.drop (i.toNat*sz)))
 | _,_,ob=>Vs.q ob True (bad g)
def qr (g a:Bool):AV->AV->AV->Vs
 | .r (.v (.int .u64 x)),.r (.v (.int .u64 y)),.r (.v (.int .u64 c))=>((g=true->0<=x/\0<=y/\0<=c/\c<=1/\x<18446744073709551616/\y<18446744073709551616),
  bif a then .tup [int .u64 ((x+18446744073709551616-y-c)%18446744073709551616),int .u64 (if x<y+c then 1 else 0)]
  else .tup [int .u64 ((x+y+c)%18446744073709551616),int .u64 ((x+y+c)/18446744073709551616)])
 | _,_,_=>bad g
def sa (str:Bool):Value->Bool
 | .int _ _=>!str
 | .string _=>str
 | _=>false
def aew:Value->Value->Option Bool
 | .int k a,.int k' b=>if k=k' then some (a == b) else none
 | .string a,.string b=>some (a == b)
 | _,_=>none
def mt (k:Value):List MapEntry->Nat->Option (Option (Nat×Value))
 | [],_=>some none
 | e::es,i=>match aew k e.key with
   | some true=>some (some (i,e.val))
   | some false=>mt k es (i+1)
   | none=>none
def okK (es:List MapEntry) (k:Value):Bool:=(mt k es 0).isSome
def pe:Value->RV
 | .agg cs=>.agg (cs.toList.map .v)
 | x=>.v x
def lkR (es:List MapEntry) (k:Value) (z:RV):RV:=match mt k es 0 with
 | some (some (_,v))=>pe v
 | _=>z
def lkB (es:List MapEntry) (k:Value):Bool:=match mt k es 0 with
 | some (some _)=>true
 | _=>false
def qc (es:List MapEntry) (a:Nat) (k v:Value):List MapEntry:=match mt k es 0 with
 | some (some (i,_))=>es.modify i λ e=>{ e with key:=k,val:=v }
 | _=>es++[⟨k,v,a⟩]
def qd (es:List MapEntry) (a:Nat) (k:Value):Nat:=match mt k es 0 with
 | some (some _)=>a
 | _=>a+1
def ahf (es:List MapEntry) (k:Value):List MapEntry:=match mt k es 0 with
 | some (some (i,_))=>es.eraseIdx i
 | _=>es
def ady:List RV->Option (List Value)
 | []=>some []
 | .v x::xs=>match ady xs with
   | some l=>some (x::l)
   | none=>none
 | _=>none
def adz:List AV->Option (List Value)
 | []=>some []
 | .r (.v x)::xs=>match adz xs with
   | some l=>some (x::l)
   | none=>none
 | _=>none
def qh:Option (List Value)->Option Value
 | some l=>some (.agg l.toArray)
 | none=>none
def toV:AV->Option Value
 | .r (.v x)=>some x
 | .r (.agg xs)=>qh (ady xs)
 | .agg xs=>qh (adz xs)
 | _=>none
def ai (ob:Obs) (id ver:Nat):Option (List MapEntry×Nat):=
 match ob id with
 | some (v,.map es c)=>if ver=v then some (es,c) else none
 | _=>none
def gr (ob:Obs) (id ver:Nat):Option (AV×Nat×List Nat×Nat):=
 match ob id with
 | some (v,.iter m since seen st)=>if ver=v then some (m,since,seen,st) else none
 | _=>none
def yw (g:Bool) (id:Nat) (ob:Obs) (f:List MapEntry->Vs):Option (List MapEntry×Nat)->Rs
 | some (es,_)=>⟨(f es).1,(f es).2,ob,[id],[]⟩
 | none=>ag g id ob
def ab7 (g str:Bool) (z:RV) (a:Bool):AV->AV->Obs->Rs
 | .mp id ver,.r (.v k),ob=>yw g id ob (λ es=>((g=true->sa str k=true/\okK es k=true),bif a then .tup [.r (lkR es k z),bl (lkB es k)] else .r (lkR es k z))) (ai ob id ver)
 | _,_,ob=>Vs.q ob True (bad g)
def vc (g:Bool):AV->Obs->Rs
 | .mp id ver,ob=>yw g id ob (λ es=>(True,int .i64 es.length)) (ai ob id ver)
 | _,ob=>Vs.q ob True (bad g)
def ajl (g:Bool) (t:TypeId) (z:RV) (a:Bool):AV->Vs
 | .ifc t' x=>((g=true->t'=t\/a=true),if t'=t then (bif a then .tup [x,bl true] else x) else .tup [.r z,bl false])
 | _=>bad g
def azp (es:List MapEntry) (a:List Nat):Option MapEntry:=match a.getLast? with
 | some b=>es.find? λ e=>e.born == b
 | none=>none
def agk:Option MapEntry->AV
 | some e=>.tup [.r (pe e.key),.r (pe e.val)]
 | none=>.undef
def aai (g:Bool) (id b:Nat) (ob:Obs) (a:List Nat) (d:Nat):Option (List MapEntry×Nat)->Rs
 | some (es,c)=>⟨g=true->c=d/\(azp es a).isSome=true,agk (azp es a),ob,[id,b],[]⟩
 | none=>⟨g=true->False,.undef,ob,[id,b],[]⟩
def yz (g:Bool) (id:Nat) (ob:Obs):Option (AV×Nat×List Nat×Nat)->Rs
 | some (.mp mid mver,_,seen,st)=>aai g id mid ob seen st (ai ob mid mver)
 | _=>ag g id ob
def aaj (g:Bool):AV->Obs->Rs
 | .ptr id ver 0,ob=>yz g id ob (gr ob id ver)
 | _,ob=>Vs.q ob True (bad g)
def PO.see (g:Bool) (e:Env) (ob:Obs):PO->Rs
 | .mov x=>Vs.q ob ((x.ev e).may g) (True,(x.ev e).bare)
 | .pick c a b=>Vs.q ob ((c.ev e).may g) (xw g (c.ev e).bare (a.ev e) (b.ev e))
 | .bin op x y=>Vs.q ob ((x.ev e).may g/\(y.ev e).may g) (aer g op (x.ev e).bare (y.ev e).bare)
 | .beq neg x y=>Vs.q ob ((x.ev e).may g/\(y.ev e).may g) (aes g neg (x.ev e).bare (y.ev e).bare)
 | .eqn neg x=>Rs.and ((x.ev e).may g) (acg g neg (x.ev e).bare ob)
 | .un op x=>Vs.q ob ((x.ev e).may g) (un1 g op (x.ev e).bare)
 | .conv k x=>Vs.q ob ((x.ev e).may g) (yh g k (x.ev e).bare)
 | .len str x=>Rs.and ((x.ev e).may g) (aah g str (x.ev e).bare ob)
 | .ia sz z x i=>Rs.and ((x.ev e).may g/\(i.ev e).may g) (ia2 g sz z (x.ev e).bare (i.ev e).bare ob)
 | .ixs x i=>Vs.q ob ((x.ev e).may g/\(i.ev e).may g) (aeh g (x.ev e).bare (i.ev e).bare)
 | .ld n x=>Rs.and ((x.ev e).may g) (ld1 g n (x.ev e).bare ob)
 | .nck x=>Rs.and ((x.ev e).may g) (ab4 g (x.ev e).bare ob)
 | .fa off x=>Rs.and ((x.ev e).may g) (fa1 g off (x.ev e).bare ob)
 | .fld off n x=>Vs.q ob ((x.ev e).may g) (ajw g off n (x.ev e).bare)
 | .sls x lo hi=>Vs.q ob ((x.ev e).may g/\mayO g e lo/\mayO g e hi) (ad4 g (x.ev e).bare (bareO e lo) (bareO e hi))
 | .sll sz x lo hi mx=>Rs.and ((x.ev e).may g/\mayO g e lo/\mayO g e hi/\mayO g e mx) (yu g sz (x.ev e).bare (bareO e lo) (bareO e hi) (bareO e mx) ob)
 | .sla n x=>Rs.and ((x.ev e).may g) (zy g n (x.ev e).bare ob)
 | .ext x i=>Vs.q ob ((x.ev e).may g) (aen g i (x.ev e).bare)
 | .toStr x=>Rs.and ((x.ev e).may g) (ni ob (src ob (x.ev e).bare))
 | .build zs ps=>Vs.q ob True (jn g e zs ps)
 | .mkf f xs k=>Vs.q ob (eu g e xs) (True,.fn f (n7 e xs) k)
 | .eqa neg ks x y=>Vs.q ob ((x.ev e).may g/\(y.ev e).may g/\(g=true->(x.ev e).bare.isA=true/\(y.ev e).bare.isA=true)) (agj g neg (eql ks (x.ev e).bare.cells (y.ev e).bare.cells))
 | .mm mx x ys=>Vs.q ob ((x.ev e).may g/\eu g e ys) (mmL g mx (x.ev e).bare (n7 e ys))
 | .iaa n sz x i=>Rs.and ((x.ev e).may g/\(i.ev e).may g) (se g n sz (x.ev e).bare (i.ev e).bare ob)
 | .carry sub x y c=>Vs.q ob ((x.ev e).may g/\(y.ev e).may g/\(c.ev e).may g) (qr g sub (x.ev e).bare (y.ev e).bare (c.ev e).bare)
 | .lkp str z comma x i=>Rs.and ((x.ev e).may g/\(i.ev e).may g) (ab7 g str z comma (x.ev e).bare (i.ev e).bare ob)
 | .lenm x=>Rs.and ((x.ev e).may g) (vc g (x.ev e).bare ob)
 | .mki t x=>Vs.q ob ((x.ev e).may g) (True,.ifc t (x.ev e).bare)
 | .tas t z comma x=>Vs.q ob ((x.ev e).may g) (ajl g t z comma (x.ev e).bare)
 | .ent x=>Rs.and ((x.ev e).may g) (aaj g (x.ev e).bare ob)
 | _=>Vs.q ob False (False,.undef)
where
 mayO (g:Bool) (e:Env):Option Opd->Prop
  | none=>True
  | some x=>(x.ev e).may g
 bareO (e:Env):Option Opd->Option AV
  | none=>none
  | some x=>some (x.ev e).bare
def AV.rv (ob:Obs):AV->Option (RV×List Nat)
 | .r x=>some (x,[])
 | .nils sz _=>some (.sl sz [],[])
 | .own id ver lo len=>match l9 ob id ver with
   | some (sz,_,_,_,xs)=>some (.sl sz ((xs.drop lo).take len),[id])
   | none=>none
 | _=>none
def rvs (ob:Obs):List AV->Option (List RV×List Nat)
 | []=>some ([],[])
 | x::xs=>match x.rv ob,rvs ob xs with
   | some (y,i),some (ys,j)=>some (y::ys,i++j)
   | _,_=>none
def AV.elt (ob:Obs):AV->Option (RV×List Nat)
 | .agg xs=>match rvs ob xs with
   | some (ys,i)=>some (.agg ys,i)
   | none=>none
 | x=>x.rv ob
def frz (ob:Obs) (i:Nat):Option (Nat×Ob)->Obs
 | some (v,.row sz z app _ xs)=>upd i (v,.row sz z app false xs) ob
 | _=>ob
def freeze (ob:Obs):List Nat->Obs
 | []=>ob
 | i::is=>freeze (frz ob i (ob i)) is
def dp (ob:Obs):Rs:=⟨False,.undef,ob,[],[]⟩
def u9 (ob:Obs) (d:Nat) (x:Ob) (y:Nat->AV) (ok:Prop) (rd a:List Nat):Rs:=⟨ok,y (nv ob d),upd d (nv ob d,x) ob,d::rd,d::a⟩
def RV.good (sz:Nat) (x:RV):Bool:=x.cells.length == sz&&x.cells.all (·.one)
def stb (id:Nat) (ver:Nat) (ob:Obs) (n off:Nat) (y:List AV):Option (List AV)->Rs
 | some cells=>⟨y.length=n/\off+n<=cells.length/\y.all (·.one)=true,.undef,upd id (ver,.box (d9 cells off y)) ob,[id],[id]⟩
 | none=>dp ob
def str (id:Nat) (ver:Nat) (ob:Obs) (n idx off:Nat) (y:List RV):Option (Nat×RV×Bool×Bool×List RV)->Rs
 | some (sz,z,app,wr,xs)=>
   ⟨y.length=n/\off+n<=sz/\wr=true/\y.all (·.one)=true,.undef,
    upd id (ver,.row sz z app wr (xs.set idx (match xs.getD idx z with | .agg cs=>.agg (d9 cs off y) | x=>y.getD 0 x))) ob,[id],[id]⟩
 | none=>dp ob
def st2 (n:Nat) (x y:AV) (ob:Obs):Rs:=match x with
 | .ptr id ver off=>Rs.and (y.boxable=true) (stb id ver ob n off y.cells (u3 ob id ver))
 | .oel id ver idx off=>match rvs ob y.cells with
   | some (ys,[])=>Rs.and (y.boxable=true) (str id ver ob n idx off ys (l9 ob id ver))
   | _=>dp ob
 | _=>dp ob
def za (d:Nat) (ob:Obs) (sz:Nat) (z:RV) (a:Nat):AV->Option (Nat×List RV×List Nat)->Rs
 | .nils sz' _,some (sy,ys,rd)=>u9 ob d (.row sz z true true ys) (λ v=>.own d v 0 ys.length) (sz'=sz/\sy=sz/\ys.length*a<=140737488355328/\ys.length<=maxLen) rd []
 | .own id ver 0 len,some (sy,ys,rd)=>match l9 ob id ver with
   | some (sz',z',app,wr,xs)=>⟨sz'=sz/\sy=sz/\(app || !par id)=true/\wr=true/\(len+ys.length)*a<=140737488355328/\len+ys.length<=maxLen,
    .own id (ver+1) 0 (len+ys.length),upd id (ver+1,.row sz z' app wr (xs.take len++ys)) ob,id::rd,[id]⟩
   | none=>dp ob
 | _,_=>dp ob
def spl {a:Type} (l:List a) (i:Nat) (m:List a):List a:=d9 l i m
def aal (ob:Obs) (sz:Nat):AV->Option (Nat×List RV×List Nat)->Rs
 | .own id ver lo n,some (sy,ys,rd)=>match l9 ob id ver with
   | some (sz',z',app,wr,xs)=>⟨sz'=sz/\sy=sz/\wr=true,int .i64 ((Nat.min ys.length n:Nat):Int),upd id (ver,.row sz z' app wr (spl xs lo (ys.take n))) ob,id::rd,[id]⟩
   | none=>dp ob
 | _,_=>dp ob
def dr (e:Env) (ob:Obs) (g:Bool):List Opd->Option (Prop×List RV×List Nat)
 | []=>some (True,[],[])
 | x::xs=>match (x.ev e).bare.elt ob,dr e ob g xs with
   | some (y,i),some (p,ys,j)=>some ((x.ev e).may g/\p,y::ys,i++j)
   | _,_=>none
def bei (l:Int) (z:RV):List RV:=List.replicate l.toNat z
def ma (d:Nat) (z:RV) (ob:Obs):AV->Rs
 | .r (.v (.string s))=>u9 ob d (.row 1 z false true (s.data.toList.map λ b=>.v (.int .u8 b.toNat))) (λ v=>.own d v 0 s.size) (s.size<=maxLen) [] []
 | _=>dp ob
def aju (d:Nat) (sz:Nat) (z:RV) (a:Nat) (ob:Obs):AV->AV->Rs
 | .r (.v (.int _ l)),.r (.v (.int _ c))=>u9 ob d (.row sz z true true (bei l z)) (λ v=>.own d v 0 l.toNat) (0<=l/\l<=c/\c<=maxLen/\c*a<=281474976710656) [] []
 | _,_=>dp ob
def zb (id ver:Nat) (ob:Obs) (ok:List MapEntry->Prop) (b:List MapEntry->Nat->List MapEntry) (a:List MapEntry->Nat->Nat):Option (List MapEntry×Nat)->Rs
 | some (es,c)=>⟨ok es,.undef,upd id (ver,.map (b es c) (a es c)) ob,[id],[id]⟩
 | none=>dp ob
def zr (str:Bool) (k:Value) (id ver:Nat) (ob:Obs):Option Value->Rs
 | some v=>zb id ver ob (λ es=>sa str k=true/\okK es k=true) (λ es c=>qc es c k v) (λ es c=>qd es c k) (ai ob id ver)
 | none=>dp ob
def uz (str:Bool):AV->AV->AV->Obs->Rs
 | .mp id ver,.r (.v k),y,ob=>zr str k id ver ob (toV y)
 | _,_,_,ob=>dp ob
def va (str:Bool):AV->AV->Obs->Rs
 | .mp id ver,.r (.v k),ob=>zb id ver ob (λ es=>sa str k=true/\okK es k=true) (λ es _=>ahf es k) (λ _ c=>c) (ai ob id ver)
 | _,_,ob=>dp ob
def agc (d b a:Nat) (ob:Obs):Option (List MapEntry×Nat)->Rs
 | some (_,c)=>u9 ob d (.iter (.mp b a) c [] c) (λ v=>.ptr d v 0) True [b] []
 | none=>dp ob
def aaa (d:Nat):AV->Obs->Rs
 | .mp mid mver,ob=>agc d mid mver ob (ai ob mid mver)
 | _,ob=>dp ob
def agl (ob:Obs):AV->AV->Rs
 | .own id ver lo n,.r (.v (.string s))=>match l9 ob id ver with
   | some (sz,z',app,wr,xs)=>⟨sz=1/\wr=true,int .i64 ((Nat.min (s.data.toList.map λ b=>RV.v (.int .u8 b.toNat)).length n:Nat):Int),upd id (ver,.row 1 z' app wr (spl xs lo ((s.data.toList.map λ b=>RV.v (.int .u8 b.toNat)).take n))) ob,[id],[id]⟩
   | none=>dp ob
 | _,_=>dp ob
def aep (ob:Obs) (sz:Nat) (z:RV):AV->Rs
 | .own id ver lo n=>match l9 ob id ver with
   | some (sz',z',app,wr,xs)=>⟨sz'=sz/\wr=true,.undef,upd id (ver,.row sz z' app wr (spl xs lo (List.replicate n z))) ob,[id],[id]⟩
   | none=>dp ob
 | _=>dp ob
def aee (ob:Obs):AV->Rs
 | .own id ver lo len=>match l9 ob id ver with
   | some (sz,z',app,wr,xs)=>⟨app=true/\wr=true/\0<len,.own id ver lo len,upd id (ver,.row sz z' false wr xs) ob,[id],[id]⟩
   | none=>dp ob
 | _=>dp ob
def PO.act (d:Nat) (e:Env) (ob:Obs):PO->Rs
 | .new zs=>u9 ob d (.box zs) (λ v=>.ptr d v 0) True [] []
 | .box x=>u9 ob d (.box (x.ev e).bare.cells) (λ v=>.ptr d v 0) ((x.ev e).may true/\(x.ev e).bare.boxable=true) [] []
 | .bsl sz z ps=>match dr e ob true ps with
   | some (p,ys,fz)=>u9 (freeze ob fz) d (.row sz z true true ys) (λ v=>.own d v 0 ys.length) (p/\ys.all (·.good sz)=true/\d∉fz) fz fz
   | none=>dp ob
 | .st n x y=>Rs.and ((x.ev e).may true/\(y.ev e).may true) (st2 n (x.ev e).bare (y.ev e).bare ob)
 | .cpy sz x y=>Rs.and ((x.ev e).may true/\(y.ev e).may true) (aal ob sz (x.ev e).bare (src ob (y.ev e).bare))
 | .app sz z bytes x y=>Rs.and ((x.ev e).may true/\(y.ev e).may true) (za d ob sz z bytes (x.ev e).bare (src ob (y.ev e).bare))
 | .toBytes z x=>Rs.and ((x.ev e).may true) (ma d z ob (x.ev e).bare)
 | .mks sz z bytes l c=>Rs.and ((l.ev e).may true/\(c.ev e).may true) (aju d sz z bytes ob (l.ev e).bare (c.ev e).bare)
 | .mkm=>u9 ob d (.map [] 0) (λ v=>.mp d v) True [] []
 | .mset str x i y=>Rs.and ((x.ev e).may true/\(i.ev e).may true/\(y.ev e).may true) (uz str (x.ev e).bare (i.ev e).bare (y.ev e).bare ob)
 | .mdel str x i=>Rs.and ((x.ev e).may true/\(i.ev e).may true) (va str (x.ev e).bare (i.ev e).bare ob)
 | .rng x=>Rs.and ((x.ev e).may true) (aaa d (x.ev e).bare ob)
 | .mrk x=>Rs.and ((x.ev e).may true) (aee ob (x.ev e).bare)
 | .clr sz z x=>Rs.and ((x.ev e).may true) (aep ob sz z (x.ev e).bare)
 | .cps x y=>Rs.and ((x.ev e).may true/\(y.ev e).may true) (agl ob (x.ev e).bare (y.ev e).bare)
 | _=>dp ob

def Opd.us:Opd->List Nat
 | .t n=>[n]
 | .c _=>[]
def usO:Option Opd->List Nat
 | none=>[]
 | some x=>x.us
def usL:List Opd->List Nat
 | []=>[]
 | x::xs=>x.us++usL xs
def usP:List (Nat×Nat×Opd)->List Nat
 | []=>[]
 | (_,_,x)::r=>x.us++usP r
def PO.us:PO->List Nat
 | .mov x=>x.us
 | .pick c a b=>c.us++(a.us++b.us)
 | .bin _ x y=>x.us++y.us
 | .beq _ x y=>x.us++y.us
 | .eqn _ x=>x.us
 | .un _ x=>x.us
 | .conv _ x=>x.us
 | .toStr x=>x.us
 | .sla _ x=>x.us
 | .clr _ _ x=>x.us
 | .toBytes _ x=>x.us
 | .new _=>[]
 | .box x=>x.us
 | .build _ ps=>usP ps
 | .mkf _ xs _=>usL xs
 | .eqa _ _ x y=>x.us++y.us
 | .bsl _ _ ps=>usL ps
 | .ld _ x=>x.us
 | .st _ x y=>x.us++y.us
 | .nck x=>x.us
 | .fa _ x=>x.us
 | .fld _ _ x=>x.us
 | .ia _ _ x i=>x.us++i.us
 | .ixs x i=>x.us++i.us
 | .sls x lo hi=>x.us++(usO lo++usO hi)
 | .sll _ x lo hi mx=>x.us++(usO lo++(usO hi++usO mx))
 | .mks _ _ _ l c=>l.us++c.us
 | .len _ x=>x.us
 | .app _ _ _ x y=>x.us++y.us
 | .cpy _ x y=>x.us++y.us
 | .ext x _=>x.us
 | .mm _ x ys=>x.us++usL ys
 | .iaa _ _ x i=>x.us++i.us
 | .carry _ x y c=>x.us++(y.us++c.us)
 | .lkp _ _ _ x i=>x.us++i.us
 | .lenm x=>x.us
 | .mki _ x=>x.us
 | .tas _ _ _ x=>x.us
 | .ent x=>x.us
 | .mkm=>[]
 | .mset _ x i y=>x.us++(i.us++y.us)
 | .mdel _ x i=>x.us++i.us
 | .rng x=>x.us
 | .mrk x=>x.us
 | .cps x y=>x.us++y.us
theorem fk {p:Nat->Prop} {a b:List Nat} (h:∀t,t∈a++b->p t):(∀t,t∈a->p t)/\∀t,t∈b->p t:=⟨λ t c=>h t (by simp [c]),λ t c=>h t (by simp [c])⟩
section
variable {e e':Env} {ob ob':Obs}
theorem ae {x:Opd} (h:∀t,t∈x.us->e' t=e t):x.ev e'=x.ev e:=by
 cases x with
 | t n=>exact h n (by simp [Opd.us])
 | c x=>rfl
theorem ab5 {g:Bool} {x:Option Opd} (h:∀t,t∈usO x->e' t=e t):PO.see.mayO g e' x=PO.see.mayO g e x:=by
 cases x with
 | none=>rfl
 | some x=>simp only [PO.see.mayO,ae h]
theorem zh {x:Option Opd} (h:∀t,t∈usO x->e' t=e t):PO.see.bareO e' x=PO.see.bareO e x:=by
 cases x with
 | none=>rfl
 | some x=>simp only [PO.see.bareO,ae h]
theorem aqc {g:Bool}:∀{c:List (Nat×Nat×Opd)} {b:List AV},(∀t,t∈usP c->e' t=e t)->jn g e' b c=jn g e b c
 | [],b,h=>rfl
 | (off,n,x)::r,b,h=>by
   obtain ⟨f,d⟩:=fk (a:=x.us) h;simp only [jn,ae f];rw [aqc d]
theorem uk:∀{b:List Opd},(∀t,t∈usL b->e' t=e t)->n7 e' b=n7 e b
 | [],h=>rfl
 | x::r,h=>by
   obtain ⟨c,d⟩:=fk (a:=x.us) h;simp only [n7,ae c,uk d]
theorem ya {g:Bool}:∀{b:List Opd},(∀t,t∈usL b->e' t=e t)->eu g e' b=eu g e b
 | [],h=>rfl
 | x::r,h=>by
   obtain ⟨d,c⟩:=fk (a:=x.us) h;simp only [eu,ae d,ya c]
theorem ati {g:Bool}:∀{b:List Opd},(∀t,t∈usL b->e' t=e t)->dr e' ob g b=dr e ob g b
 | [],h=>rfl
 | x::r,h=>by
   obtain ⟨d,c⟩:=fk (a:=x.us) h;simp only [dr,ae d,ati c]
theorem bfy {o:PO} {g:Bool} (h:∀t,t∈o.us->e' t=e t):o.see g e' ob=o.see g e ob:=by
 cases o with
 | pick c a b | carry _ c a b=>
   obtain ⟨j,d⟩:=fk (a:=c.us) h;obtain ⟨d,i⟩:=fk d;simp only [PO.see,ae j,ae d,ae i]
 | bin _ x y | beq _ x y | eqa _ _ x y | ia _ _ x y | ixs x y | iaa _ _ x y | lkp _ _ _ x y=>
   obtain ⟨j,d⟩:=fk h;simp only [PO.see,ae j,ae d]
 | sls x lo hi=>
   obtain ⟨j,d⟩:=fk (a:=x.us) h;obtain ⟨d,i⟩:=fk d;simp only [PO.see,ae j,ab5 d,ab5 i,zh d,zh i]
 | sll _ x lo hi mx=>
   obtain ⟨j,d⟩:=fk (a:=x.us) h;obtain ⟨d,i⟩:=fk (a:=usO lo) d;obtain ⟨i,l⟩:=fk i;simp only [PO.see,ae j,ab5 d,ab5 i,ab5 l,zh d,zh i,zh l]
 | mm _ x ys=>
   obtain ⟨j,d⟩:=fk (a:=x.us) h;simp only [PO.see,ae j,ya d,uk d]
 | build zs ps=>simp only [PO.see,aqc (show ∀t,t∈usP ps->e' t=e t from h)]
 | mkf f xs k=>
   simp only [PO.see,ya (show ∀t,t∈usL xs->e' t=e t from h),uk (show ∀t,t∈usL xs->e' t=e t from h)]
 | sla _ x | lenm x | mki _ x | tas _ _ _ x | ent x | mov x | eqn _ x | un _ x | conv _ x | toStr x | ld _ x | nck x | fa _ x | fld _ _ x | len _ x | ext x _=>
   simp only [PO.see,ae (show ∀t,t∈x.us->e' t=e t from h)]
 | toBytes _ _ | new _ | box _ | bsl _ _ _ | st _ _ _ | mks _ _ _ _ _ | app _ _ _ _ _ | cpy _ _ _ | mkm | mset _ _ _ _ | mdel _ _ _ | rng _ | mrk _ | cps _ _ | clr _ _ _=>rfl
theorem big {o:PO} {d:Nat} (h:∀t,t∈o.us->e' t=e t):o.act d e' ob=o.act d e ob:=by
 cases o with
 | mset _ x i y=>
   obtain ⟨c,b⟩:=fk (a:=x.us) h;obtain ⟨b,f⟩:=fk b;simp only [PO.act,ae c,ae b,ae f]
 | st _ x y | mks _ _ _ x y | app _ _ _ x y | cpy _ x y | mdel _ x y | cps x y=>
   obtain ⟨c,b⟩:=fk h;simp only [PO.act,ae c,ae b]
 | bsl _ _ ps=>simp only [PO.act,ati (show ∀t,t∈usL ps->e' t=e t from h)]
 | box x | toBytes _ x | rng x | mrk x | clr _ _ x=>simp only [PO.act,ae (show ∀t,t∈x.us->e' t=e t from h)]
 | _=>rfl
theorem s8 {ver:Nat} (h:ob' id=ob id):l9 ob' id ver=l9 ob id ver:=by unfold l9; rw [h]
theorem fm {ver:Nat} (h:ob' id=ob id):u3 ob' id ver=u3 ob id ver:=by unfold u3; rw [h]
theorem av1 {ver:Nat} (h:ob' id=ob id):mr ob' id ver=mr ob id ver:=by unfold mr; rw [h]
theorem aa5 {ver:Nat} (h:ob' id=ob id):ai ob' id ver=ai ob id ver:=by unfold ai; rw [h]
theorem ahg {ver:Nat} (h:ob' id=ob id):gr ob' id ver=gr ob id ver:=by unfold gr; rw [h]
theorem aid (h:ob' id=ob id):nv ob' id=nv ob id:=by unfold nv; rw [h]
def iu (ob ob':Obs) (l:List Nat):Prop:=∀i,i∈l->ob' i=ob i
def x9 (ob ob':Obs) (f:Obs->Rs):Prop:=(f ob).ok->iu ob ob' (f ob).rd->(f ob').ok/\(f ob').v=(f ob).v
theorem x9.and {p:Prop} {f:Obs->Rs} (h:x9 ob ob' f):x9 ob ob' λ ob=>Rs.and p (f ob):=λ ⟨c,a⟩ b=>⟨⟨c,(h a b).1⟩,(h a b).2⟩
theorem x7 {p:Prop} {v:Vs}:x9 ob ob' λ ob=>Vs.q ob p v:=λ h _=>⟨h,rfl⟩
theorem a63 {g:Bool} {ver:Nat} {k:Nat×RV×Bool×Bool×List RV->Obs->Rs} (c:∀x,id∈(k x ob).rd) (d:∀x,x9 ob ob' (k x)) :
 x9 ob ob' λ ob=>match l9 ob id ver with | some x=>k x ob | none=>ag g id ob:=by
 intro a b;rcases hr:l9 ob id ver with _ | x
 ·simp only [hr] at a b |-;rw [s8 (b id (by simp [ag])),hr];exact ⟨a,rfl⟩
 simp only [hr] at a b |-;rw [s8 (b id (c x)),hr];exact d x a b
theorem a7c {g:Bool} {ver:Nat} {k:List AV->Obs->Rs} (c:∀x,id∈(k x ob).rd) (d:∀x,x9 ob ob' (k x)) :
 x9 ob ob' λ ob=>match u3 ob id ver with | some x=>k x ob | none=>ag g id ob:=by
 intro a b;rcases hr:u3 ob id ver with _ | x
 ·simp only [hr] at a b |-;rw [fm (b id (by simp [ag])),hr];exact ⟨a,rfl⟩
 simp only [hr] at a b |-;rw [fm (b id (c x)),hr];exact d x a b
theorem avz {g:Bool} {ver:Nat} {k:Unit->Obs->Rs} (c:∀x,id∈(k x ob).rd) (d:∀x,x9 ob ob' (k x)) :
 x9 ob ob' λ ob=>match mr ob id ver with | some x=>k x ob | none=>ag g id ob:=by
 intro a b;rcases hr:mr ob id ver with _ | x
 ·simp only [hr] at a b |-;rw [av1 (b id (by simp [ag])),hr];exact ⟨a,rfl⟩
 simp only [hr] at a b |-;rw [av1 (b id (c x)),hr];exact d x a b
theorem av0 {g:Bool} {ver:Nat} {f:List MapEntry->Vs}:x9 ob ob' λ ob=>yw g id ob f (ai ob id ver):=by
 intro a b;rcases hr:ai ob id ver with _ | ⟨es,c⟩
 ·simp only [hr] at a b |-;rw [aa5 (b id (by simp [yw,ag])),hr];exact ⟨a,rfl⟩
 simp only [hr] at a b |-;rw [aa5 (b id (by simp [yw])),hr];exact ⟨a,rfl⟩
theorem a65 {g str:Bool} {z:RV} {a:Bool} {x y:AV}:x9 ob ob' (ab7 g str z a x y):=by
 cases x with
 | mp id ver=>cases y with
   | r y=>cases y with
     | v k=>exact av0
     | _=>exact x7
   | _=>exact x7
 | _=>exact x7
theorem a3y {g:Bool} {x:AV}:x9 ob ob' (vc g x):=by
 cases x with
 | mp id ver=>exact av0
 | _=>exact x7
theorem a7b {g:Bool} {x:AV}:x9 ob ob' (aaj g x):=by
 cases x with
 | ptr id ver off=>cases off with
   | succ off=>exact x7
   | zero=>
     intro a b;simp only [aaj] at a b |-;rcases hr:gr ob id ver with _ | ⟨m,d,e,f⟩
     ·rw [hr] at a b;rw [ahg (b id (by simp [yz,ag])),hr];exact ⟨a,rfl⟩
     rw [hr] at a b;cases m with
     | mp mid mver=>
       simp only [yz] at a b |-;rcases hm:ai ob mid mver with _ | ⟨es,c⟩
       ·rw [hm] at a b;rw [ahg (b id (by simp [aai])),hr];simp only [];rw [aa5 (b mid (by simp [aai])),hm];exact ⟨a,rfl⟩
       rw [hm] at a b;rw [ahg (b id (by simp [aai])),hr];simp only [];rw [aa5 (b mid (by simp [aai])),hm];exact ⟨a,rfl⟩
     | _=>
       rw [ahg (b id (by simp [yz,ag])),hr];exact ⟨a,rfl⟩
 | _=>exact x7
theorem a66 {g str:Bool} {x:AV}:x9 ob ob' (aah g str x):=by
 cases x with
 | own id ver lo n=>
   intro a b;simp only [aah] at a b |-;rcases hr:l9 ob id ver with _ | c
   ·rw [hr] at a b;simp only at a b |-;rcases hb:u3 ob id ver with _ | q
    ·rw [hb] at a b;have d:=b id (by simp [ag,leb]);rw [s8 d,hr];simp only;rw [fm d,hb];exact ⟨a,rfl⟩
    rw [hb] at a b;have d:=b id (by simp [leb]);rw [s8 d,hr];simp only;rw [fm d,hb];exact ⟨a,rfl⟩
   rw [hr] at a b;rw [s8 (b id (by simp)),hr];exact ⟨a,rfl⟩
 | r x=>cases x with
   | v x=>cases x<;>exact x7
   | _=>exact x7
 | _=>exact x7
theorem ba4 {g:Bool} {sz:Nat} {z:RV} {x y:AV}:x9 ob ob' (ia2 g sz z x y):=by
 rcases y with ⟨v | _ | _⟩ | _ | _ | _ | _ | _ | _ | _ | _ | _ | _ | _ | _
 ·cases v with
  | int k i=>
    cases x with
    | own id ver lo n=>
      intro a b;simp only [ia2] at a b |-;rcases hr:l9 ob id ver with _ | c
      ·rw [hr] at a b;simp only at a b |-;rcases hb:u3 ob id ver with _ | q
       ·rw [hb] at a b;have d:=b id (by simp [ag,iab]);rw [s8 d,hr];simp only;rw [fm d,hb];exact ⟨a,rfl⟩
       rw [hb] at a b;have d:=b id (by simp [iab]);rw [s8 d,hr];simp only;rw [fm d,hb];exact ⟨a,rfl⟩
      rw [hr] at a b;rw [s8 (b id (by simp)),hr];exact ⟨a,rfl⟩
    | r x=>cases x<;>exact x7
    | _=>exact x7
  | _=>rcases x with ⟨_ | _ | _⟩ | _ | _ | _ | _ | _ | _ | _ | _ | _ | _ | _ | _<;>exact x7
 all_goals rcases x with ⟨_ | _ | _⟩ | _ | _ | _ | _ | _ | _ | _ | _ | _ | _ | _ | _<;>exact x7
theorem a69 {g:Bool} {n sz:Nat} {x y:AV}:x9 ob ob' (se g n sz x y):=by
 rcases y with ⟨v | _ | _⟩ | _ | _ | _ | _ | _ | _ | _ | _ | _ | _ | _ | _
 ·cases v with
  | int k i=>
    cases x with
    | ptr id ver o=>
      intro a b;simp only [se] at a b |-;rcases hr:u3 ob id ver with _ | c
      ·rw [hr] at a b;rw [fm (b id (by simp [ag])),hr];exact ⟨a,rfl⟩
      rw [hr] at a b;rw [fm (b id (by simp)),hr];exact ⟨a,rfl⟩
    | oel id ver j o=>
      intro a b;simp only [se] at a b |-;rcases hr:l9 ob id ver with _ | c
      ·rw [hr] at a b;rw [s8 (b id (by simp [ag])),hr];exact ⟨a,rfl⟩
      rw [hr] at a b;rw [s8 (b id (by simp)),hr];exact ⟨a,rfl⟩
    | _=>exact x7
  | _=>rcases x with ⟨_ | _ | _⟩ | _ | _ | _ | _ | _ | _ | _ | _ | _ | _ | _ | _<;>exact x7
 all_goals rcases x with ⟨_ | _ | _⟩ | _ | _ | _ | _ | _ | _ | _ | _ | _ | _ | _ | _<;>exact x7
theorem a64 {g:Bool} {x:AV}:x9 ob ob' (ab4 g x):=by
 cases x with
 | ptr id ver off=>exact avz (k:=λ _ ob=>⟨True,.ptr id ver off,ob,[id],[]⟩) (λ _=>by simp) λ _ h _=>⟨h,rfl⟩
 | oel id ver i off=>exact a63 (k:=λ _ ob=>⟨True,.oel id ver i off,ob,[id],[]⟩) (λ _=>by simp) λ _ h _=>⟨h,rfl⟩
 | fn f xs=>cases f<;>exact x7
 | _=>exact x7
theorem a7a {g b:Bool} {x:AV}:x9 ob ob' (acg g b x):=by
 cases x with
 | ptr id ver off=>exact avz (k:=λ _ ob=>⟨True,bl b,ob,[id],[]⟩) (λ _=>by simp) λ _ h _=>⟨h,rfl⟩
 | r x=>cases x with
   | v x=>cases x with
     | pointer a=>cases a<;>exact x7
     | _=>exact x7
   | _=>exact x7
 | _=>exact x7
theorem ba5 {g:Bool} {off:Nat} {x:AV}:x9 ob ob' (fa1 g off x):=by
 cases x with
 | ptr id ver o=>exact a7c (k:=λ _ ob=>⟨True,.ptr id ver (o+off),ob,[id],[]⟩) (λ _=>by simp) λ _ h _=>⟨h,rfl⟩
 | oel id ver i o=>
   intro a b;simp only [fa1] at a b |-;rcases hr:l9 ob id ver with _ | c
   ·rw [hr] at a b;rw [s8 (b id (by simp [ag])),hr];exact ⟨a,rfl⟩
   rw [hr] at a b;rw [s8 (b id (by simp)),hr];exact ⟨a,rfl⟩
 | _=>exact x7
theorem a68 {g:Bool} {n:Option Nat} {off:Nat} {c:Option (List AV)}:x9 ob ob' λ ob=>ldb id ob g n off c:=by
 unfold ldb;intro h a;split at h<;>(try split at h)<;>exact ⟨h,rfl⟩
theorem a67 {g:Bool} {n:Option Nat} {idx off:Nat} {c:Option (Nat×RV×Bool×Bool×List RV)}:x9 ob ob' λ ob=>ldr id ob g n idx off c:=by
 unfold ldr;intro h a;split at h<;>(try split at h)<;>exact ⟨h,rfl⟩
theorem bkn {g:Bool} {n:Option Nat} {off:Nat} {c:List AV}:id∈(ldb id ob g n off (some c)).rd:=by unfold ldb; cases n<;>simp
theorem bkm {g:Bool} {n:Option Nat} {idx off:Nat} {c:Nat×RV×Bool×Bool×List RV}:id∈(ldr id ob g n idx off (some c)).rd:=by unfold ldr; cases n<;>simp
theorem ba3 {g:Bool} {n:Option Nat} {x:AV}:x9 ob ob' (ld1 g n x):=by
 cases x with
 | ptr id ver off=>
   intro a b;simp only [ld1] at a b |-;rcases hr:u3 ob id ver with _ | c
   ·rw [hr] at a b;rw [fm (b id (by simp [ag,ldb])),hr];exact ⟨a,rfl⟩
   rw [hr] at a b;rw [fm (b id bkn),hr];exact a68 a b
 | oel id ver i off=>
   intro a b;simp only [ld1] at a b |-;rcases hr:l9 ob id ver with _ | c
   ·rw [hr] at a b;rw [s8 (b id (by simp [ag,ldr])),hr];exact ⟨a,rfl⟩
   rw [hr] at a b;rw [s8 (b id bkm),hr];exact a67 a b
 | rp ys=>cases n<;>exact x7
 | _=>exact x7
theorem a62 {g:Bool} {n:Nat} {x:AV}:x9 ob ob' (zy g n x):=by
 cases x with
 | ptr id ver o=>
   intro a b;simp only [zy] at a b |-;rcases hr:u3 ob id ver with _ | c
   ·rw [hr] at a b;rw [fm (b id (by simp [ag,agb])),hr];exact ⟨a,rfl⟩
   rw [hr] at a b;rw [fm (b id (by simp [agb])),hr];exact ⟨a,rfl⟩
 | _=>exact x7
theorem a61 {g:Bool} {sz:Nat} {x:AV} {lo hi d:Option AV}:x9 ob ob' (yu g sz x lo hi d):=by
 cases x with
 | own id ver l0 n=>
   intro a b;rcases h1:bnd 0 lo with _ | l<;>rcases h2:bnd n hi with _ | h<;>rcases h3:bnd n d with _ | m<;>simp only [yu,h1,h2,h3] at a b |-
   all_goals first
    | exact ⟨a,rfl⟩
    | (rcases hr:l9 ob id ver with _ | c
       ·rw [hr] at a b;rw [s8 (b id (by simp [ag])),hr];exact ⟨a,rfl⟩
       rw [hr] at a b;rw [s8 (b id (by simp)),hr]
       exact ⟨a,rfl⟩)
 | r x=>cases x with
   | sl sz' xs=>
     intro a b;simp only [yu] at a b |-;split at a<;>exact ⟨a,rfl⟩
   | _=>exact x7
 | _=>exact x7
theorem aix {x:AV} {sz:Nat} {ys:List RV} {l:List Nat} (h:src ob x=some (sz,ys,l)) (a:iu ob ob' l):src ob' x=some (sz,ys,l):=by
 unfold src at h |-;split at h
 ·exact h
 ·exact h
 ·rename_i id ver lo len;rcases hr:l9 ob id ver with _ | c
  ·simp only [hr] at h; cases h
  simp only [hr] at h;cases h;rw [s8 (a id (by simp)),hr]
 cases h
theorem a60 {x:AV}:x9 ob ob' λ ob=>ni ob (src ob x):=by
 intro a b;rcases hr:src ob x with _ | ⟨sz,ys,l⟩
 ·simp only [hr,ni] at a; exact a.1.elim
 simp only [hr,ni] at a b |-;rw [aix hr b];exact ⟨a,rfl⟩
theorem bjg {o:PO} {g:Bool} {e:Env}:x9 ob ob' λ ob=>o.see g e ob:=by
 cases o with
 | eqn _ x=>exact x9.and a7a
 | len _ x=>exact x9.and a66
 | ia _ _ x i=>exact x9.and ba4
 | iaa _ _ x i=>exact x9.and a69
 | ld _ x=>exact x9.and ba3
 | nck x=>exact x9.and a64
 | fa _ x=>exact x9.and ba5
 | sll _ x lo hi mx=>exact x9.and a61
 | sla n x=>exact x9.and a62
 | toStr x=>exact x9.and a60
 | lkp _ _ _ x i=>exact x9.and a65
 | lenm x=>exact x9.and a3y
 | ent x=>exact x9.and a7b
 | _=>exact x7
def pin:Option (Nat×Ob)->Option (Nat×Option Nat)
 | some (v,.box _)=>some (v,none)
 | some (v,.row sz _ _ _ _)=>some (v,some sz)
 | _=>none
def a90 (ob ob':Obs) (l:List Nat):Prop:=∀i,i∈l->pin (ob' i)=pin (ob i)
def PO.adr:PO->Bool
 | .fa _ _=>true
 | .iaa _ _ _ _=>true
 | .ia _ _ _ _=>true
 | _=>false
def xa (ob ob':Obs) (f:Obs->Rs):Prop:=(f ob).ok->a90 ob ob' (f ob).rd->(f ob').ok/\(f ob').v=(f ob).v
theorem xa.and {p:Prop} {f:Obs->Rs} (h:xa ob ob' f):xa ob ob' λ ob=>Rs.and p (f ob):=λ ⟨c,a⟩ b=>⟨⟨c,(h a b).1⟩,(h a b).2⟩
theorem vo {p:Prop} {v:Vs}:xa ob ob' λ ob=>Vs.q ob p v:=λ h _=>⟨h,rfl⟩
theorem au7 {ver:Nat} (h:pin (ob' id)=pin (ob id)):(u3 ob id ver=none/\u3 ob' id ver=none)\/∃c c',u3 ob id ver=some c/\u3 ob' id ver=some c':=by
 unfold u3
 revert h
 generalize ob id=q;generalize ob' id=e;intro h;rcases q with _ | ⟨v,c | ⟨sz,z,f,m,l⟩ | T | _ | _⟩<;>rcases e with _ | ⟨i,c' | ⟨b,k,a,d,g⟩ | j | _ | _⟩<;>simp [pin] at h |-;subst h;by_cases hv:ver=i<;>simp [hv]
theorem auf {ver:Nat} (h:pin (ob' id)=pin (ob id)):(l9 ob id ver=none/\l9 ob' id ver=none)\/∃sz c c',l9 ob id ver=some (sz,c)/\l9 ob' id ver=some (sz,c'):=by
 unfold l9
 revert h
 generalize ob id=q;generalize ob' id=e;intro h;rcases q with _ | ⟨v,c | ⟨sz,z,f,m,l⟩ | T | _ | _⟩<;>rcases e with _ | ⟨i,c' | ⟨b,k,a,d,g⟩ | j | _ | _⟩<;>simp [pin] at h |-;obtain ⟨rfl,rfl⟩:=h;by_cases hv:ver=i<;>simp [hv]
theorem a7e {g:Bool} {off:Nat} {x:AV}:xa ob ob' (fa1 g off x):=by
 cases x with
 | ptr id ver o=>
   intro a e;simp only [fa1] at a e |-;have f:pin (ob' id)=pin (ob id):=e id (by split<;>simp [ag]);rcases au7 (ver:=ver) f with ⟨d,b⟩ | ⟨c,c',d,b⟩
   ·rw [d] at a |-; rw [b]; exact ⟨a,rfl⟩
   rw [d]; rw [b]; exact ⟨trivial,rfl⟩
 | oel id ver i o=>
   intro a e;simp only [fa1] at a e |-;have f:pin (ob' id)=pin (ob id):=e id (by split<;>simp [ag]);rcases auf (ver:=ver) f with ⟨d,b⟩ | ⟨sz,c,c',d,b⟩
   ·rw [d] at a |-; rw [b]; exact ⟨a,rfl⟩
   rw [d] at a |-; rw [b]; exact ⟨a,rfl⟩
 | _=>exact vo
theorem a3z {g:Bool} {n sz:Nat} {x y:AV}:xa ob ob' (se g n sz x y):=by
 rcases y with ⟨v | _ | _⟩ | _ | _ | _ | _ | _ | _ | _ | _ | _ | _ | _ | _
 ·cases v with
  | int k i=>
    cases x with
    | ptr id ver o=>
      intro a e;simp only [se] at a e |-;have f:pin (ob' id)=pin (ob id):=e id (by split<;>simp [ag]);rcases au7 (ver:=ver) f with ⟨d,b⟩ | ⟨c,c',d,b⟩
      ·rw [d] at a |-; rw [b]; exact ⟨a,rfl⟩
      rw [d] at a |-; rw [b]; exact ⟨a,rfl⟩
    | oel id ver j o=>
      intro a e;simp only [se] at a e |-;have f:pin (ob' id)=pin (ob id):=e id (by split<;>simp [ag]);rcases auf (ver:=ver) f with ⟨d,b⟩ | ⟨h,c,c',d,b⟩
      ·rw [d] at a |-; rw [b]; exact ⟨a,rfl⟩
      rw [d] at a |-; rw [b]; exact ⟨a,rfl⟩
    | _=>exact vo
  | _=>rcases x with ⟨_ | _ | _⟩ | _ | _ | _ | _ | _ | _ | _ | _ | _ | _ | _ | _<;>exact vo
 all_goals rcases x with ⟨_ | _ | _⟩ | _ | _ | _ | _ | _ | _ | _ | _ | _ | _ | _ | _<;>exact vo
theorem a7d {g:Bool} {sz:Nat} {z:RV} {x y:AV}:xa ob ob' (ia2 g sz z x y):=by
 rcases y with ⟨v | _ | _⟩ | _ | _ | _ | _ | _ | _ | _ | _ | _ | _ | _ | _
 ·cases v with
  | int k i=>
    cases x with
    | own id ver lo n=>
      intro a h;simp only [ia2] at a h |-;have j:pin (ob' id)=pin (ob id):=h id (by split<;>first | simp | (cases u3 ob id ver<;>simp [ag,iab]));rcases auf (ver:=ver) j with ⟨e,b⟩ | ⟨l,c,c',e,b⟩
      ·rw [e] at a |-; rw [b];simp only at a |-;rcases au7 (ver:=ver) j with ⟨d,f⟩ | ⟨q,m,d,f⟩
       ·rw [d] at a |-; rw [f]; exact ⟨a,rfl⟩
       rw [d] at a |-; rw [f]; exact ⟨a,rfl⟩
      rw [e] at a |-; rw [b]; exact ⟨a,rfl⟩
    | r x=>cases x<;>exact vo
    | _=>exact vo
  | _=>rcases x with ⟨_ | _ | _⟩ | _ | _ | _ | _ | _ | _ | _ | _ | _ | _ | _ | _<;>exact vo
 all_goals rcases x with ⟨_ | _ | _⟩ | _ | _ | _ | _ | _ | _ | _ | _ | _ | _ | _ | _<;>exact vo
theorem bl2 {o:PO} {g:Bool} {e:Env} (h:o.adr=true):xa ob ob' λ ob=>o.see g e ob:=by
 cases o with
 | fa _ x=>exact xa.and a7e
 | iaa _ _ x i=>exact xa.and a3z
 | ia _ _ x i=>exact xa.and a7d
 | _=>cases h
theorem bi5 {n:Nat} {x y:AV}:pin ((st2 n x y ob).ob i)=pin (ob i):=by
 cases x with
 | ptr id ver off=>
   simp only [st2,Rs.and];rcases hr:u3 ob id ver with _ | c
   ·rfl
   simp only [stb,upd];by_cases hi:i=id
   ·subst hi;rw [if_pos rfl];unfold u3 at hr;split at hr
    ·rename_i v b a;split at hr
     ·rename_i hv; rw [a,hv]; rfl
     cases hr
    cases hr
   rw [if_neg hi]
 | oel id ver idx off=>
   simp only [st2];split
   ·rename_i ys hy;simp only [Rs.and];rcases hr:l9 ob id ver with _ | ⟨sz,z,g,l,k⟩
    ·rfl
    simp only [str,upd];by_cases hi:i=id
    ·subst hi;rw [if_pos rfl];unfold l9 at hr;split at hr
     ·rename_i v e j d f h a;split at hr
      ·rename_i hv; cases hr; rw [a,hv]; rfl
      cases hr
     cases hr
    rw [if_neg hi]
   rfl
 | _=>rfl
end

section
variable {ob ob':Obs} {e:Env}
def ej (ob ob':Obs) (f:Obs->Rs):Prop:=(f ob).ok->iu ob ob' (f ob).rd ->
 (f ob').ok/\(f ob').v=(f ob).v/\(∀i,i∈(f ob).wr->i∈(f ob).rd/\(f ob').ob i=(f ob).ob i)/\(∀i,i∉(f ob).wr->(f ob').ob i=ob' i)
theorem ej.and {p:Prop} {f:Obs->Rs} (h:ej ob ob' f):ej ob ob' λ ob=>Rs.and p (f ob):=λ ⟨c,a⟩ b=>⟨⟨c,(h a b).1⟩,(h a b).2⟩
theorem aag:ej ob ob' λ ob=>dp ob:=λ h _=>h.elim
theorem aaf {d:Nat} {x:Ob} {y:Nat->AV} {ok:Prop} {rd:List Nat}:ej ob ob' λ ob=>u9 ob d x y ok rd []:=by
 intro a c;have b:ob' d=ob d:=c d (by simp [u9]);refine ⟨a,?_,λ i hi=>?_,λ i hi=>?_⟩
 ·simp only [u9,aid b]
 ·simp only [u9,zad,zap,or_false] at hi;subst hi;simp [u9,upd,aid b]
 simp only [u9,zad,zap,or_false] at hi;simp [u9,upd,hi]
theorem azf (ob:Obs) (i j:Nat):frz ob i (ob i) j=if j=i then frz ob i (ob i) i else ob j:=by
 by_cases h:j=i
 ·subst h; simp
 rw [if_neg h];generalize ob i=q;rcases q with _ | ⟨v,_ | _ | _ | _ | _⟩
 ·rfl
 ·rfl
 ·simp [frz,upd,h]
 ·rfl
 ·rfl
 rfl
theorem bg9 (h:ob' i=ob i):frz ob' i (ob' i) i=frz ob i (ob i) i:=by
 rcases hq:ob i with _ | ⟨v,_ | _ | _ | _ | _⟩<;>rw [h,hq]
 ·exact h.trans hq |>.trans hq.symm
 ·exact h.trans hq |>.trans hq.symm
 ·simp [frz,upd]
 ·exact h.trans hq |>.trans hq.symm
 ·exact h.trans hq |>.trans hq.symm
 exact h.trans hq |>.trans hq.symm
theorem ajc:∀(l:List Nat) {ob ob':Obs} {i:Nat},ob' i=ob i->freeze ob' l i=freeze ob l i
 | [],_,_,_,h=>h
 | j::l,ob,ob',i,h=>by
   refine ajc l ?_;rw [azf ob,azf ob'];by_cases a:i=j
   ·subst a; simp only [if_true]; exact bg9 h
   simp only [if_neg a]; exact h
theorem anx:∀(l:List Nat) {ob:Obs} {i:Nat},i∉l->freeze ob l i=ob i
 | [],_,_,_=>rfl
 | j::l,ob,i,h=>by
   simp only [zad,not_or] at h;rw [freeze,anx l h.2,azf,if_neg h.1]
theorem aqt {x:AV} {y:RV} {l:List Nat} (h:x.rv ob=some (y,l)) (a:iu ob ob' l):x.rv ob'=some (y,l):=by
 unfold AV.rv at h |-;split at h
 ·exact h
 ·exact h
 ·rename_i id ver lo len;rcases hr:l9 ob id ver with _ | c
  ·simp only [hr] at h; cases h
  simp only [hr] at h;cases h;rw [s8 (a id (by simp)),hr]
 cases h
theorem ah6 {a b:List Nat} (h:iu ob ob' (a++b)):iu ob ob' a/\iu ob ob' b:=⟨λ i hi=>h i (by simp [hi]),λ i hi=>h i (by simp [hi])⟩
theorem ai1:∀{a:List AV} {ys:List RV} {l:List Nat},rvs ob a=some (ys,l)->iu ob ob' l->rvs ob' a=some (ys,l)
 | [],ys,l,h,hs=>h
 | x::a,ys,l,h,hs=>by
   simp only [rvs] at h |-;split at h
   ·rename_i y k f j d b;cases h;obtain ⟨c,e⟩:=ah6 hs;rw [aqt d c,ai1 b e]
   cases h
theorem a81 {x:AV} {y:RV} {l:List Nat} (h:x.elt ob=some (y,l)) (a:iu ob ob' l):x.elt ob'=some (y,l):=by
 unfold AV.elt at h |-;split at h
 ·split at h
  ·rename_i ys j b;cases h;simp only [ai1 b a]
  cases h
 exact aqt h a
theorem an6 {g:Bool}:∀{a:List Opd} {p:Prop} {ys:List RV} {l:List Nat},dr e ob g a=some (p,ys,l)->iu ob ob' l->dr e ob' g a=some (p,ys,l)
 | [],p,ys,l,h,hs=>h
 | x::a,p,ys,l,h,hs=>by
   simp only [dr] at h |-;split at h
   ·rename_i y k m i j d b;cases h;obtain ⟨c,f⟩:=ah6 hs;rw [a81 d c,an6 b f]
   cases h
theorem bbz {d sz:Nat} {z:RV} {h:List Opd}:ej ob ob' λ ob=>PO.act d e ob (.bsl sz z h):=by
 intro a c;simp only [PO.act] at a c |-;rcases hr:dr e ob true h with _ | ⟨p,ys,b⟩
 ·rw [hr] at a; exact a.elim
 rw [hr] at a c;have g:iu ob ob' b:=λ i hi=>c i (by simp [u9,hi]);have j:ob' d=ob d:=c d (by simp [u9]);rw [an6 hr g];refine ⟨a,?_,λ i hi=>?_,λ i hi=>?_⟩
 ·simp only [u9,aid (ajc b j)]
 ·refine ⟨hi,?_⟩;simp only [u9,zad] at hi;simp only [u9,upd,aid (ajc b j)];split
  ·rfl
  rename_i f;exact ajc b (g i (hi.resolve_left f))
 simp only [u9,zad,not_or] at hi;simp only [u9,upd,if_neg hi.1];exact anx b hi.2
theorem vq {x:Nat×Ob} {ok:Prop} {v:AV} {rd:List Nat}:ej ob ob' λ ob=>⟨ok,v,upd id x ob,id::rd,[id]⟩:=by
 intro a b;refine ⟨a,rfl,λ i hi=>?_,λ i hi=>?_⟩
 ·simp only [zad,zap,or_false] at hi;subst hi;simp [upd]
 simp only [zad,zap,or_false] at hi;simp [upd,hi]
theorem bgw {n:Nat} {x y:AV}:ej ob ob' (st2 n x y):=by
 cases x with
 | ptr id ver off=>
   intro a b;simp only [st2] at a b |-;rcases hr:u3 ob id ver with _ | c
   ·rw [hr] at a; exact a.2.elim
   rw [hr] at a b;rw [fm (b id (by simp [Rs.and,stb])),hr];exact ej.and (f:=λ ob=>stb id ver ob n off y.cells (some c)) vq a b
 | oel id ver idx off=>
   intro a b;simp only [st2] at a b |-;split at a
   ·rename_i ys hy;rw [ai1 hy (λ i hi=>by simp at hi)];rw [hy] at b;simp only at b |-;rcases hr:l9 ob id ver with _ | ⟨sz,z,d,g,e⟩
    ·rw [hr] at a; exact a.2.elim
    rw [hr] at a b;rw [s8 (b id (by simp [Rs.and,str])),hr];exact ej.and (f:=λ ob=>str id ver ob n idx off ys (some (sz,z,d,g,e))) vq a b
   exact a.elim
 | _=>exact λ h _=>h.elim
theorem bb0 {d sz:Nat} {z:RV} {c:Nat} {x y:AV}:ej ob ob' λ ob=>za d ob sz z c x (src ob y):=by
 intro a b;rcases hy:src ob y with _ | ⟨k,ys,rd⟩
 ·simp only [hy] at a;unfold za at a;split at a
  ·rename_i h; cases h
  ·rename_i h; cases h
  exact a.elim
 simp only [hy] at a b |-;cases x with
 | nils e j=>
   have f:iu ob ob' rd:=λ i hi=>b i (by simp [za,u9,hi]);rw [aix hy f];exact aaf (ok:=_) a b
 | own id ver lo len=>
   cases lo with
   | succ lo=>exact a.elim
   | zero=>
     simp only [za] at a b;rcases hr:l9 ob id ver with _ | ⟨e,j,g,m,l⟩
     ·rw [hr] at a; exact a.elim
     rw [hr] at a b;have f:iu ob ob' rd:=λ i hi=>b i (by simp [hi]);rw [aix hy f];simp only [za];rw [hr,s8 (b id (by simp)),hr];exact vq a b
 | _=>exact a.elim
theorem bbw {sz:Nat} {x y:AV}:ej ob ob' λ ob=>aal ob sz x (src ob y):=by
 intro a b;rcases hy:src ob y with _ | ⟨f,ys,rd⟩
 ·simp only [hy] at a;unfold aal at a;split at a
  ·rename_i h; cases h
  exact a.elim
 simp only [hy] at a b |-;cases x with
 | own id ver lo len=>
   simp only [aal] at a b;rcases hr:l9 ob id ver with _ | ⟨c,j,d,k,g⟩
   ·rw [hr] at a; exact a.elim
   rw [hr] at a b;have e:iu ob ob' rd:=λ i hi=>b i (by simp [hi]);rw [aix hy e];simp only [aal];rw [hr,s8 (b id (by simp)),hr];exact vq a b
 | _=>exact a.elim
theorem bby {sz:Nat} {z:RV} {x:AV}:ej ob ob' λ ob=>aep ob sz z x:=by
 intro a b;cases x with
 | own id ver lo len=>
   simp only [aep] at a b |-;rcases hr:l9 ob id ver with _ | ⟨d,f,c,g,e⟩
   ·rw [hr] at a; exact a.elim
   rw [hr] at a b;rw [s8 (b id (by simp)),hr];exact vq (rd:=[]) a b
 | _=>exact a.elim
theorem ay5 {ver:Nat} {ok:List MapEntry->Prop} {e:List MapEntry->Nat->List MapEntry} {d:List MapEntry->Nat->Nat}:ej ob ob' λ ob=>zb id ver ob ok e d (ai ob id ver):=by
 intro a b;rcases hr:ai ob id ver with _ | ⟨es,c⟩
 ·simp only [hr,zb] at a; exact a.elim
 simp only [hr,zb] at a b |-;rw [aa5 (b id (by simp)),hr];exact vq (rd:=[]) a b
theorem a76 {str:Bool} {x i y:AV}:ej ob ob' (uz str x i y):=by
 cases x with
 | mp id ver=>cases i with
   | r i=>cases i with
     | v k=>
       show ej ob ob' λ ob=>zr str k id ver ob (toV y);generalize toV y=q;cases q with
       | none=>exact λ h _=>h.elim
       | some v=>exact ay5
     | _=>exact λ h _=>h.elim
   | _=>exact λ h _=>h.elim
 | _=>exact λ h _=>h.elim
theorem a77 {str:Bool} {x i:AV}:ej ob ob' (va str x i):=by
 cases x with
 | mp id ver=>cases i with
   | r i=>cases i with
     | v k=>exact ay5
     | _=>exact λ h _=>h.elim
   | _=>exact λ h _=>h.elim
 | _=>exact λ h _=>h.elim
theorem bbu {d:Nat} {x:AV}:ej ob ob' (aaa d x):=by
 cases x with
 | mp id ver=>
   intro a b;simp only [aaa] at a b |-;rcases hr:ai ob id ver with _ | ⟨es,c⟩
   ·rw [hr] at a; exact a.elim
   rw [hr] at a b;rw [aa5 (b id (by simp [agc,u9])),hr];exact aaf (ok:=_) a b
 | _=>exact λ h _=>h.elim
theorem bbv {x:AV}:ej ob ob' λ ob=>aee ob x:=by
 cases x with
 | own id ver lo len=>
   intro a b;simp only [aee] at a b |-;rcases hr:l9 ob id ver with _ | ⟨d,f,c,g,e⟩
   ·rw [hr] at a; exact a.elim
   rw [hr] at a b;rw [s8 (b id (by simp)),hr];exact vq (rd:=[]) a b
 | _=>exact λ h _=>h.elim
theorem bbx {x y:AV}:ej ob ob' λ ob=>agl ob x y:=by
 cases x with
 | own id ver lo len=>
   cases y with
   | r q=>cases q with
     | v u=>cases u with
       | string sv=>
         intro a b;simp only [agl] at a b |-;rcases hr:l9 ob id ver with _ | ⟨d,f,c,g,e⟩
         ·rw [hr] at a; exact a.elim
         rw [hr] at a b;rw [s8 (b id (by simp)),hr];exact vq (rd:=[]) a b
       | _=>exact λ h _=>h.elim
     | _=>exact λ h _=>h.elim
   | _=>exact λ h _=>h.elim
 | _=>exact λ h _=>h.elim
theorem bl4 {o:PO} {d:Nat}:ej ob ob' λ ob=>o.act d e ob:=by
 cases o with
 | new zs=>exact aaf
 | box x=>exact aaf
 | bsl sz z ps=>exact bbz
 | st n x y=>exact ej.and bgw
 | app sz z bytes x y=>exact ej.and bb0
 | clr sz z x=>exact ej.and bby
 | cpy sz x y=>exact ej.and bbw
 | mkm=>exact aaf
 | mset str x i y=>exact ej.and a76
 | mdel str x i=>exact ej.and a77
 | rng x=>exact ej.and bbu
 | mrk x=>exact ej.and bbv
 | cps x y=>exact ej.and bbx
 | toBytes z x=>
   refine ej.and ?_;generalize (x.ev e).bare=y;rcases y with ⟨v | _ | _⟩ | _ | _ | _ | _ | _ | _ | _ | _ | _ | _ | _ | _
   ·cases v<;>first | exact aaf | exact aag
   all_goals exact aag
 | mks sz z bytes l c=>
   refine ej.and ?_;generalize (l.ev e).bare=y;generalize (c.ev e).bare=a;rcases y with ⟨v | _ | _⟩ | _ | _ | _ | _ | _ | _ | _ | _ | _ | _ | _ | _
   ·cases v with
    | int k i=>
      rcases a with ⟨v | _ | _⟩ | _ | _ | _ | _ | _ | _ | _ | _ | _ | _ | _ | _
      ·cases v<;>first | exact aaf | exact aag
      all_goals exact aag
    | _=>exact aag
   all_goals exact aag
 | _=>exact aag
end

def eqv:Value->Value->Bool
 | .int k a,.int k' b=>k == k'&&a == b
 | .bool a,.bool b=>a == b
 | .string a,.string b=>a.data.toList == b.data.toList
 | .pointer none,.pointer none=>true
 | .nilFunc,.nilFunc=>true
 | .nilIface,.nilIface=>true
 | .map none,.map none=>true
 | _,_=>false
theorem ath {a b:Value} (h:eqv a b=true):a=b:=by
 unfold eqv at h;split at h
 ·rw [zaf,beq_iff_eq,beq_iff_eq] at h;rw [h.1,h.2]
 ·rw [beq_iff_eq] at h;rw [h]
 ·rename_i a b;rw [beq_iff_eq] at h;obtain ⟨⟨a⟩⟩:=a;obtain ⟨⟨b⟩⟩:=b;simp only at h;rw [h]
 ·rfl
 ·rfl
 ·rfl
 ·rfl
 cases h
def eqz:Value->AV->Bool
 | .slice none 0 0,.nils _ _=>true
 | v,.r (.v x)=>eqv v x
 | _,_=>false
def opd:Operand->Opd->Bool
 | .tmp t,.t n=>t == n
 | .const v,.c x=>eqz v x
 | .func f,.c (.fn (.func f') [] 0)=>f == f'
 | _,_=>false
section
variable {w:World} {R:Nat->Prop} {ob:Obs} {ρ:Pl->Option Nat}
theorem au1 {v:Value} {x:AV} (h:eqz v x=true):RelA w R ob ρ x v:=by
 unfold eqz at h;split at h
 ·exact .nils _ _
 ·rw [ath h]; exact .r (.v _)
 cases h
theorem ao7 {a:Act} {e:Env} (b:∀t,RelA w R ob ρ (e t) (a.tmps.getD t undef)) {x:Operand} {y:Opd} (h:opd x y=true):RelA w R ob ρ (y.ev e) (a.eval x):=by
 unfold opd at h;split at h
 ·simp at h; subst h; exact b _
 ·exact au1 h
 ·simp at h; subst h; exact .fn _ [] 0 #[] #[] rfl rfl (by simp)
 cases h
theorem RelA.bare {g:Bool} (a:g=true) {x:AV} (h:RelA w R ob ρ x c) (b:x.may g):RelA w R ob ρ x.bare c:=by
 cases h<;>first | (simp only [AV.bare]; constructor<;>assumption) | skip
 simp only [AV.bare,AV.may] at *;rename_i h d;exact h (b a)
end
def aqz:Option Operand->Option Opd->Bool
 | none,none=>true
 | some x,some y=>opd x y
 | _,_=>false
def lu (P:Program) (t:TypeId) (f:TypeId->TypeInfo->Bool):Bool:=
 match P.underlying t with
 | some (.slice e)=>match P.info? e with
   | some i=>f e i
   | none=>false
 | _=>false
def de (P:Program) (t:TypeId) (f:TypeDesc->Bool):Bool:=
 match P.underlying t with
 | some d=>f d
 | none=>false
def aoq (P:Program) (t:TypeId) (n:Option Nat):Bool:=
 match P.underlying t,P.info? t with
 | some (.struct _),some i=>n == some i.size
 | some (.array _ _),some i=>n == some i.size
 | some _,some _=>n == none
 | _,_=>false
def au0 (P:Program) (t:TypeId) (f:Nat) (k:Go.Field->TypeInfo->Bool):Bool:=
 match P.underlying t with
 | some (.struct fs)=>match fs[f]? with
   | some fd=>match P.info? fd.type with
     | some i=>k fd i
     | none=>false
   | none=>false
 | _=>false
def eqr:Value->RV->Bool
 | .slice none 0 0,.sl _ []=>true
 | v,.v x=>eqv v x
 | _,_=>false
def bf {b a:Type} (f:b->a->Bool):List b->List a->Bool
 | [],[]=>true
 | x::xs,y::ys=>f x y&&bf f xs ys
 | _,_=>false
def aa1 (P:Program) (t:TypeId) (p:Nat×Operand) (q:Nat×Nat×Opd):Bool:=
 opd p.2 q.2.2&&(match P.underlying t with
 | some (.struct fs)=>match fs[p.1]? with
   | some f=>match P.info? f.type with
     | some i=>f.offset == q.1&&i.size == q.2.1
     | none=>false
   | none=>false
 | some (.array _ e)=>match P.info? e with
   | some i=>p.1*i.size == q.1&&i.size == q.2.1
   | none=>false
 | _=>false)
def ai7 (str:Bool):TypeDesc->Bool
 | .string=>str
 | .slice _=>!str
 | _=>false
def au6 (P:Program):TypeDesc->Bool
 | .struct fs=>fs.all λ f=>(P.info? f.type).isSome
 | .array _ e=>(P.info? e).isSome
 | _=>false
def anp:Nat->TypeDesc->Bool
 | 0,.int _=>true
 | 1,.bool=>true
 | 2,.string=>true
 | _,_=>false
def an1 (g:TypeId->List Nat->Bool) (P:Program):List Go.Field->List Nat->Nat->Bool
 | [],ks,_=>ks.isEmpty
 | f :: fs, ks, i => f.name != "_" && f.offset == i && decide (P.cellsOf f.type ≤ ks.length) && g f.type (ks.take (P.cellsOf f.type)) && an1 g P fs (ks.drop (P.cellsOf f.type)) (i + P.cellsOf f.type)
def an2 (g:TypeId->List Nat->Bool) (P:Program) (e:TypeId):Nat->List Nat->Bool
 | 0,ks=>ks.isEmpty
 | n+1,ks=>decide (P.cellsOf e<=ks.length)&&g e (ks.take (P.cellsOf e))&&an2 g P e n (ks.drop (P.cellsOf e))
def aez (P:Program):Nat->TypeId->List Nat->Bool
 | 0,_,_=>false
 | d+1,t,ks=>match P.underlying t with
   | some (.struct fs)=>an1 (aez P d) P fs.toList ks 0 && !P.stoodInHeld t
   | some (.array n e)=>(P.info? e).isSome&&an2 (aez P d) P e n ks
   | some u=>(match ks with
     | [k]=>anp k u
     | _=>false)
   | none=>false
def as9 (P:Program) (t:TypeId):Bool:=match P.underlying t with
 | some (.struct _)=>true
 | some (.array _ _)=>true
 | _=>false
def bcj (P:Program) (t:TypeId) (a:List Nat):Bool:=
 aez P 4 t a&&as9 P t && !P.eqGuardType P.depth t
def auu (P:Program) (a:Bool) (f:FuncId):Bool:=match P.funcs[f]? with
 | some fn => fn.body.isNone && (fn.name == if a then "math/bits.Sub64" else "math/bits.Add64") && (fn.origin == "" || fn.origin == fn.name)
 | none=>false
def ai9 (P:Program) (t:TypeId) (str:Bool) (f:TypeId->Bool):Bool:=
 match P.underlying t with
 | some (.map k e)=>(match P.underlying k with
   | some (.int _)=>!str
   | some .string=>str
   | _=>false)&&f e
 | _=>false
def art (P:Program) (z:RV) (e:TypeId):Bool:=match P.info? e with
 | some i=>match i.zero with
   | some v=>match v,z with
     | .agg cs,.agg xs=>bf eqr cs.toList xs&&xs.all (λ x=>match x with | .v _=>true | _=>false)
     | v,.v x=>eqv v x
     | _,_=>false
   | none=>false
 | none=>false
def a8a (P:Program) (t:TypeId):Bool:=match P.underlying t with
 | some (.interface _)=>false
 | some _=>true
 | none=>false
def azv (P:Program) (o:Oper) (po:PO):Bool:=
 match o.op,po with
 | .move x,.mov y=>opd x y
 | .assign x,.mov y=>opd x y
 | .pick c a b,.pick c' a' b'=>opd c c'&&opd a a'&&opd b b'
 | .binOp op t x y _,.bin op' x' y'=>op == op'&&opd x x'&&opd y y'
 | .binOp op t x y _,.beq neg x' y'=>(if neg then op == .neq else op == .eql)&&de P t (λ d=>match d with | .bool=>true | _=>false)&&opd x x'&&opd y y'
 | .unOp op _ x,.un op' x'=>op == op'&&opd x x'
 | .convert a d x,.conv k x'=>de P a (λ _=>true)&&de P d (λ u=>match u with | .int k'=>k == k' | _=>false)&&opd x x'
 | .call c,.len str x'=>match c.callee with
   | .builtin .len=>match c.args.toList,c.argTypes.toList with
     | [x],[t]=>opd x x'&&de P t (ai7 str)
     | _,_=>false
   | _=>false
 | .indexAddr t x i,.ia sz _ x' i'=>lu P t (λ _ inf=>inf.size == sz)&&opd x x'&&opd i i'
 | .index t x i,.ixs x' i'=>de P t (λ d=>match d with | .string=>true | _=>false)&&opd x x'&&opd i i'
 | .load t x,.ld n x'=>aoq P t n&&opd x x'
 | .nilCheck x,.nck x'=>opd x x'
 | .fieldAddr t x f,.fa off x'=>au0 P t f (λ g i=>g.offset == off&&i.size != 0)&&opd x x'
 | .slice t x lo hi mx,.sla n x'=>(match P.underlying t with
   | some (.array n' e)=>n' == n&&(match P.info? e with | some inf=>inf.size == 1 | none=>false)
   | _=>false)&&opd x x'&&lo.isNone&&hi.isNone&&mx.isNone
 | .slice t x lo hi mx,.sls x' lo' hi'=>de P t (λ d=>match d with | .string=>true | _=>false)&&mx.isNone&&opd x x'&&aqz lo lo'&&aqz hi hi'
 | .slice t x lo hi mx,.sll sz x' lo' hi' mx'=>lu P t (λ _ inf=>inf.size == sz)&&opd x x'&&aqz lo lo'&&aqz hi hi'&&aqz mx mx'&&(mx.isNone||hi.isSome)
 | .extract x i,.ext x' i'=>i == i'&&opd x x'
 | .convert a d x,.toStr x'=>lu P a (λ e _=>de P e (λ d=>match d with | .int .u8=>true | _=>false))&&de P d (λ d=>match d with | .string=>true | _=>false)&&opd x x'
 | .build t ps,.build zs qs=>(match P.info? t with | some i=>(match i.zero with | some z=>bf eqz z.cells.toList zs | none=>false) | none=>false)&&de P t (au6 P)&&bf (aa1 P t) ps.toList qs
 | .makeFunc f first cap,.mkf f' xs k=>f == f'&&first.size == k&&bf opd (first++cap).toList xs
 | .call c,.mm mx x' ys'=>(match c.callee with
   | .builtin .min=>!mx
   | .builtin .max=>mx
   | _=>false)&&(match c.args.toList with
   | x::ys=>opd x x'&&bf opd ys ys'
   | _=>false)
 | .indexAddr t x i,.iaa n sz x' i'=>(match P.underlying t with
   | some (.array n' e)=>n == n'&&(match P.info? e with
     | some inf=>inf.size == sz
     | none=>false)
   | _=>false)&&opd x x'&&opd i i'
 | .call c,.carry sub x' y' z'=>(match c.callee with
   | .value (.func f)=>auu P sub f
   | _=>false)&&(match c.args.toList with
   | [x,y,z]=>opd x x'&&opd y y'&&opd z z'
   | _=>false)
 | .binOp op t x y _,.eqa neg ks x' y'=>(if neg then op == .neq else op == .eql)&&bcj P t ks&&opd x x'&&opd y y'
 | .lookup t x i c,.lkp str z c' x' i'=>ai9 P t str (art P z)&&c == c'&&opd x x'&&opd i i'
 | .call c,.lenm x'=>match c.callee with
   | .builtin .len=>match c.args.toList,c.argTypes.toList with
     | [x],[t]=>opd x x'&&de P t (λ d=>match d with | .map _ _=>true | _=>false)
     | _,_=>false
   | _=>false
 | .entry x,.ent x'=>opd x x'
 | .binOp op t x y _,.eqn neg x'=>(match y with | .const (.pointer none)=>true | _=>false)&&(if neg then op == .neq else op == .eql)&&de P t (λ d=>match d with | .pointer _=>true | _=>false)&&opd x x'
 | _,_=>false
def PO.nod:PO->Bool
 | .st _ _ _=>true
 | .mset _ _ _ _=>true
 | .mdel _ _ _=>true
 | .clr _ _ _=>true
 | _=>false
def aoi (P:Program) (o:Oper) (po:PO):Bool:=
 match o.op,po with
 | .alloc e,.new zs=>match P.info? e with
   | some i=>match i.zero with
     | some z=>bf eqz z.cells.toList zs
     | none=>false
   | none=>false
 | .box _ x,.box x'=>opd x x'
 | .buildSlice t n ps,.bsl sz _ ps'=>lu P t (λ _ i=>i.size == sz&&i.zero.isSome)&&n == ps'.length&&bf (λ p q=>opd p.2 q) ps.toList ps'&&ps.toList.map (·.1) == List.range n&&n*sz<=16777216&&n<=16777216
 | .store t x y,.st n x' y'=>(match P.info? t with | some i=>i.size == n | none=>false)&&opd x x'&&opd y y'
 | .call c,.app sz _ bytes x' y'=>match c.callee with
   | .builtin .append=>match c.args.toList,c.argTypes.toList with
     | [x,y],[t,u]=>lu P t (λ _ i=>i.size == sz&&i.bytes == bytes&&(match i.zero with | some z=>z.cells.size == sz | none=>false)&&sz != 0)&&lu P u (λ _ _=>true)&&opd x x'&&opd y y'
     | _,_=>false
   | _=>false
 | .call c,.cpy sz x' y'=>match c.callee with
   | .builtin .copy=>match c.args.toList,c.argTypes.toList with
     | [x,y],[t,u]=>lu P t (λ _ i=>i.size == sz)&&lu P u (λ _ _=>true)&&opd x x'&&opd y y'
     | _,_=>false
   | _=>false
 | .convert a d x,.toBytes _ x'=>de P a (λ d=>match d with | .string=>true | _=>false)&&lu P d (λ e i=>i.size == 1&&de P e (λ d=>match d with | .int .u8=>true | _=>false))&&opd x x'
 | .makeMap _ r,.mkm=>r.isNone
 | .mapUpdate t x i y,.mset str x' i' y'=>ai9 P t str (λ _=>true)&&opd x x'&&opd i i'&&opd y y'
 | .call c,.mdel str x' i'=>match c.callee with
   | .builtin .delete=>match c.args.toList,c.argTypes.toList with
     | [x,i],[t,_]=>ai9 P t str (λ _=>true)&&opd x x'&&opd i i'
     | _,_=>false
   | _=>false
 | .range t x,.rng x'=>de P t (λ d=>match d with | .map _ _=>true | _=>false)&&opd x x'
 | .call c,.clr sz z x'=>match c.callee with
   | .builtin .clear=>match c.args.toList,c.argTypes.toList with
     | [x],[t]=>lu P t (λ _ i=>i.size == sz&&(match i.zero with | some v=>bf eqr v.cells.toList z.cells&&v.cells.size == sz | none=>false))&&opd x x'
     | _,_=>false
   | _=>false
 | .convert a d x,.mrk x'=>lu P a (λ e _=>de P e (λ d=>match d with | .int .u8=>true | _=>false))&&a == d&&opd x x'
 | _,_=>false

abbrev RA (X:Cx) (s:St) (ρ:Pl->Option Nat) (w:World):AV->Value->Prop:=RelA w (g9 X.B s.ob ρ w) s.ob ρ
def o8 (P:Program) (X:Cx) (a:Act) (w:World) (s:St) (ρ:Pl->Option Nat) (o:Oper) (v:AV):Prop:=
 ∃c,(execOp a.eval o).run P w=.ok (.value c) w/\RA X s ρ w v c
section
variable {P:Program} {X:Cx} {w:World} {s:St} {ρ:Pl->Option Nat} {a:Act} {o:Oper}
theorem i9 {g:Bool} (b:Gam X s ρ a w) (c:g=true) {x:Operand} {y:Opd} (h:opd x y=true) (d:(y.ev s.e).may g):RA X s ρ w (y.ev s.e).bare (a.eval x):=
 (ao7 b.env h).bare c d
theorem a2f {k:IntKind} {m:Int} (h:RA X s ρ w (int k m) c):c=.int k m:=by cases h; rename_i h; cases h; rfl
theorem n9 {x:Value} (h:RA X s ρ w (.r (.v x)) c):c=x:=by cases h; rename_i h; cases h; rfl
theorem iq (x:Value):RA X s ρ w (.r (.v x)) x:=.r (.v x)
theorem bf0 {g:Bool} (d:g=true) {op:BinOp} {t ty:TypeId} {x y:Operand} {u v:AV} (h:o.op=.binOp op t x y ty) (i:RA X s ρ w u (a.eval x)) (hv:RA X s ρ w v (a.eval y))
 (c:(aer g op u v).1):o8 P X a w s ρ o (aer g op u v).2:=by
 unfold aer at c |-;split at c
 ·rename_i k m p m';have e:=a2f i;have f:=a2f hv;simp only [o8,execOp,h,e,f];cases op<;>simp only [ain] at c |-
  all_goals first
   | (subst c; refine ⟨_,?_,iq _⟩; simp [eqGuard,binOp,Op.intArith,Op.intBits,Op.intCmp]; done)
   | (obtain ⟨rfl,c⟩:=c; refine ⟨_,?_,iq _⟩; simp [eqGuard,binOp,Op.intDiv,c d]; done)
   | (refine ⟨_,?_,iq _⟩; have n:=c d; simp [eqGuard,binOp,Op.shift,show ¬m'<0 by omega]; done)
 ·rename_i b j;have e:=n9 i;have f:=n9 hv;simp only [o8,execOp,h,e,f];cases op<;>simp only [aim,bad] at c |-
  ·refine ⟨_,?_,iq _⟩;have n:=c d
   have l:¬(((b.size+j.size:Nat):Int)>IntKind.i64.max):=by
    rw [show IntKind.i64.max=9223372036854775807 from rfl]; omega
   simp only [eqGuard,binOp,Op.stringOp,Sem.run_bind,Sem.run_ite,Sem.run_pure,if_neg l];simp
  all_goals first
   | first | exact (c d).elim | exact (c.2 d).elim
   | (refine ⟨_,?_,iq _⟩; simp [eqGuard,binOp,Op.stringOp]; done)
 first | exact (c d).elim | exact (c.2 d).elim
theorem baq {g:Bool} (k:g=true) {x y z:Operand} {u v t:AV} (l:o.op=.pick x y z) (m:RA X s ρ w u (a.eval x)) (hv:RA X s ρ w v (a.eval y)) (n:RA X s ρ w t (a.eval z))
 (b:(xw g u v t).1):o8 P X a w s ρ o (xw g u v t).2:=by
 unfold xw at b |-;split at b
 ·have f:=n9 m;have j:=n9 hv;have i:=n9 n;simp only [o8,execOp,l,f,j,i];rename_i c d e;refine ⟨_,?_,iq _⟩;cases c<;>simp [asBool]
 ·have f:=n9 m;have i:=n9 n;rename_i c h d e;simp only [o8,execOp,l,f,i];refine ⟨_,?_,iq _⟩;cases c
  ·simp [asBool]
  cases hv with
  | gd _ hv1 hv2=>
    have j:=n9 (hv1 (b k rfl));simp [asBool,j]
 ·have f:=n9 m;have j:=n9 hv;rename_i c d h e;simp only [o8,execOp,l,f,j];refine ⟨_,?_,iq _⟩;cases c
  ·cases n with
   | gd _ ht1 ht2=>
     have i:=n9 (ht1 (b k rfl));simp [asBool,i]
  simp [asBool]
 ·have f:=n9 m;have j:=n9 hv;simp only [o8,execOp,l,f,j];refine ⟨_,?_,iq _⟩;simp [asBool,b k]
 ·have f:=n9 m;have i:=n9 n;simp only [o8,execOp,l,f,i];refine ⟨_,?_,iq _⟩;simp [asBool,b k]
 ·have f:=n9 m;have i:=n9 n;simp only [o8,execOp,l,f,i];refine ⟨_,?_,iq _⟩;simp [asBool,b k]
 ·have f:=n9 m;have j:=n9 hv;simp only [o8,execOp,l,f,j];refine ⟨_,?_,iq _⟩;simp [asBool,b k]
 first | exact (b k).elim | exact (b.2 k).elim
theorem bf1 {g:Bool} (e:g=true) {b:Bool} {op:BinOp} {t ty:TypeId} {x y:Operand} {u v:AV} (i:o.op=.binOp op t x y ty) (d:op=if b then .neq else .eql) (h:P.underlying t=some .bool)
 (k:RA X s ρ w u (a.eval x)) (hv:RA X s ρ w v (a.eval y)) (c:(aes g b u v).1):o8 P X a w s ρ o (aes g b u v).2:=by
 unfold aes at c |-;split at c
 ·have j:=n9 k;have f:=n9 hv;simp only [o8,execOp,i,j,f];refine ⟨_,?_,iq _⟩;subst d;cases b<;>simp [eqGuard,binOp,run_equal_bool w t _ _ h]
 first | exact (c e).elim | exact (c.2 e).elim
theorem awd {x:AV} (h:RA X s ρ w x c) (d:x.isA=true):∃cs,c=.agg cs/\∀(i:Nat) (y:AV),x.cells[i]?=some y->∃v,cs[i]?=some v/\RA X s ρ w y v:=by
 cases h with
 | agg xs cs hl hr=>
   refine ⟨cs,rfl,λ i y hy=>?_⟩;simp only [AV.cells] at hy;have a:=(zam.1 hy).1;have hc:cs[i]?=some (cs[i]'(by omega)):=by simp [show i<cs.size by omega]
   exact ⟨_,hc,hr i y _ hy hc⟩
 | r h0=>
   cases h0 with
   | agg xs cs hl hr=>
     refine ⟨cs,rfl,λ i y hy=>?_⟩;simp only [AV.cells,List.getElem?_map,zar] at hy;obtain ⟨z,b,rfl⟩:=hy;have a:=(zam.1 b).1;have hc:cs[i]?=some (cs[i]'(by omega)):=by simp [show i<cs.size by omega]
     exact ⟨_,hc,.r (hr i z _ b hc)⟩
   | _=>cases d
 | _=>cases d
theorem bf7 {t:TypeId} {d:Nat} (a:de P t (anp k)=true) {u v:AV} {b:Bool} {c':Value} (h:eq2 k u v=some b) (g:RA X s ρ w u c) (hv:RA X s ρ w v c'):(Op.equalIn (d+1) t c c').run P w=.ok b w:=by
 unfold de at a;split at a
 ·rename_i e f;unfold eq2 at h;split at h
  ·split at h
   ·rename_i i;subst i;cases h;rw [n9 g,n9 hv];cases e<;>first | (simp [anp] at a; done) | exact run_equalIn_int w d t _ _ _ _ f
   cases h
  ·cases h;rw [n9 g,n9 hv];cases e<;>first | (simp [anp] at a; done) | exact run_equalIn_bool' w d t _ _ f
  ·cases h;rw [n9 g,n9 hv];cases e<;>first | (simp [anp] at a; done) | exact run_equalIn_string w d t _ _ f
  cases h
 cases a
theorem an5:∀{a:List Nat} {c vs:List AV} {b:Bool} (n:Nat),eql a c vs=some b->∃d e,eql (a.take n) (c.take n) (vs.take n)=some d/\eql (a.drop n) (c.drop n) (vs.drop n)=some e/\b=(d&&e)
 | a,c,vs,b,0,h=>⟨true,b,by simp [eql],by simpa using h,by simp⟩
 | [],[],[],b,n+1,h=>by simp [eql] at h; subst h; exact ⟨true,true,by simp [eql],by simp [eql],rfl⟩
 | k::a,u::c,v::vs,b,n+1,h=>by
   simp only [eql] at h;split at h
   ·rename_i p q g l;cases h;obtain ⟨d,e,j,f,i⟩:=an5 n l;refine ⟨p&&d,e,?_,by simpa using f,by rw [i,Bool.and_assoc]⟩;simp only [List.take_succ_cons,eql,g,j]
   cases h
 | [],_::_,_,_,n+1,h=>by cases h
 | [],[],_::_,_,n+1,h=>by cases h
 | _::_,[],_,_,n+1,h=>by cases h
 | _::_,_::_,[],_,n+1,h=>by cases h
theorem ako:∀{a:List Nat} {c vs:List AV} {b:Bool},eql a c vs=some b->c.length=a.length/\vs.length=a.length
 | [],[],[],b,h=>⟨rfl,rfl⟩
 | k::a,u::c,v::vs,b,h=>by
   simp only [eql] at h;split at h
   ·rename_i p q e d;have:=ako d;simp only [List.length_cons];omega
   cases h
 | [],_::_,_,_,h=>by cases h
 | [],[],_::_,_,h=>by cases h
 | _::_,[],_,_,h=>by cases h
 | _::_,_::_,[],_,h=>by cases h
def AtR (X:Cx) (s:St) (ρ:Pl->Option Nat) (w:World) (a:Array Value) (off:Nat) (b:List AV):Prop:=∀i u,b[i]?=some u->∃c,a[off+i]?=some c/\RA X s ρ w u c
theorem AtR.take {b:Array Value} {off n:Nat} {c:List AV} (h:AtR X s ρ w b off c):AtR X s ρ w b off (c.take n):=λ i u a=>by
 rw [zae] at a;split at a
 ·exact h i u a
 cases a
theorem AtR.drop {a:Array Value} {off n:Nat} {b:List AV} (h:AtR X s ρ w a off b):AtR X s ρ w a (off+n) (b.drop n):=λ i u c=>by
 rw [zac] at c;have:=h _ u c
 rwa [<- zai] at this
theorem AtR.cut {d:Array Value} {off n:Nat} {a:List AV} (h:AtR X s ρ w d off a) (g:a.length<=n):AtR X s ρ w (d.extract off (off+n)) 0 a:=λ i u e=>by
 obtain ⟨c,hc,f⟩:=h i u e;have hi:i<a.length:=(zam.1 e).1;refine ⟨c,?_,f⟩;have b:=(zah.1 hc).1;rw [Nat.zero_add,Array.getElem?_extract_of_lt (by omega)];rw [<- hc,Array.getElem?_eq_getElem b]
def ahs (X:Cx) (s:St) (ρ:Pl->Option Nat) (w:World) (P:Program) (t:TypeId) (a:List AV) (c:Value):Prop:=
 if as9 P t=true then ∃cs,c=.agg cs/\AtR X s ρ w cs 0 a else ∃u,a=[u]/\RA X s ρ w u c
theorem ahe {d:Nat} {t:TypeId} {g:List Nat} (a:aez P d t g=true) {j:Array Value} {off:Nat} {h:List AV} (hx:AtR X s ρ w j off h) (f:h.length=g.length) (hc:g.length<=P.cellsOf t) :
 ∃c,(part t j off).run P w=.ok c w/\ahs X s ρ w P t h c:=by
 cases d with
 | zero=>cases a
 | succ d=>
   unfold aez at a;unfold ahs as9;cases hu:P.underlying t with
   | none=>rw [hu] at a; cases a
   | some kd=>
     obtain ⟨i,hi⟩:=info_of_underlying hu
     have b:((∃n e',kd=.array n e')\/(∃l,kd=.struct l))->(part t j off).run P w=.ok (.agg (j.extract off (off+P.cellsOf t))) w:=by
      rintro (⟨n,e',rfl⟩ | ⟨l,rfl⟩)<;>simp [part,isAgg,run_underlying hu,run_sizeOf w hi]
     rw [hu] at a;cases kd
     case struct l=>exact ⟨_,b (.inr ⟨_,rfl⟩),by simp only [↓reduceIte]; exact ⟨_,rfl,hx.cut (by omega)⟩⟩
     case array n e=>exact ⟨_,b (.inl ⟨_,_,rfl⟩),by simp only [↓reduceIte]; exact ⟨_,rfl,hx.cut (by omega)⟩⟩
     all_goals
      simp only at a
      match g,a with
      | [k],a=>
        match h,f with
        | [u],_=>
          obtain ⟨c,m,o⟩:=hx 0 u rfl;rw [Nat.add_zero] at m;refine ⟨c,by simp [part,isAgg,run_underlying hu,m],?_⟩;simp only [zaj,↓reduceIte];exact ⟨u,rfl,o⟩
theorem ax7 (D:Nat):∀(d:Nat) {t:TypeId} {g:List Nat},aez P d t g=true->∀{l vs:List AV} {b:Bool} {c c':Value},eql g l vs=some b->ahs X s ρ w P t l c->ahs X s ρ w P t vs c' ->
 (Op.equalIn (D+d) t c c').run P w=.ok b w
 | 0,_,_,a,_,_,_,_,_,_,_,_=>by cases a
 | d+1,t,g,a,l,vs,b,c,c',m,B,hv=>by
   have T:∀{t:TypeId} {g:List Nat},aez P d t g=true->∀{l vs:List AV} {b:Bool} {c c':Value},eql g l vs=some b->ahs X s ρ w P t l c->ahs X s ρ w P t vs c'->(Op.equalIn (D+d) t c c').run P w=.ok b w:=λ h=>ax7 D d h;unfold aez at a;unfold ahs as9 at B hv;cases hd:P.underlying t with
   | none=>rw [hd] at a; cases a
   | some kd=>
     rw [hd] at a B hv;have W:de P t (λ _=>true)=true:=by simp [de,hd]
     cases kd
     case struct fs=>
      simp only [↓reduceIte] at B hv;simp only [zaf,Bool.not_eq_true'] at a;obtain ⟨cs,rfl,G⟩:=B;obtain ⟨o,rfl,r⟩:=hv;have J:P.fieldsOf t=fs:=by simp [Program.fieldsOf,hd]
      have:=run_equalIn_struct w (D+d) t cs o (by rw [J]; exact hd) a.2;rw [show D+(d+1)=D+d+1 from rfl,this,J];clear this J hd;obtain ⟨a,_⟩:=a
      have K:∀(fl:List Go.Field) (i:Nat) {g:List Nat} {l vs:List AV} {b:Bool},an1 (aez P d) P fl g i=true->eql g l vs=some b->AtR X s ρ w cs i l->AtR X s ρ w o i vs->(Op.eqFields (D+d) cs o fl).run P w=.ok b w:=by
       intro fl
       induction fl with
       | nil=>
         intro i g l vs b z m E H;simp only [an1,List.isEmpty_iff] at z;subst z;obtain ⟨C,I⟩:=ako m;obtain rfl:l=[]:=zaq.1 C;obtain rfl:vs=[]:=zaq.1 I;cases m;simp [Op.eqFields]
       | cons f fl ihl=>
         intro i g l vs b z m E H;simp only [an1,zaf,bne_iff_ne,ne_eq,beq_iff_eq,decide_eq_true_eq] at z;obtain ⟨⟨⟨⟨f1,f2⟩,Y⟩,F⟩,R⟩:=z;obtain ⟨Q,b2,C,I,rfl⟩:=an5 (P.cellsOf f.type) m;obtain ⟨O,M⟩:=ako C;have A:(g.take (P.cellsOf f.type)).length<=P.cellsOf f.type:=by simp; omega
         obtain ⟨x,N,fx⟩:=ahe F E.take O A;obtain ⟨y,L,S⟩:=ahe F H.take M A;simp only [Op.eqFields,if_pos f1,Sem.run_bind];rw [f2,N,Result.andThen_ok,L,Result.andThen_ok,T F C fx S,Result.andThen_ok];cases Q
         ·simp
         simpa using ihl (i+P.cellsOf f.type) R I E.drop H.drop
      exact K _ 0 a m G r
     case array n e=>
      simp only [↓reduceIte] at B hv;simp only [zaf] at a;obtain ⟨cs,rfl,G⟩:=B;obtain ⟨o,rfl,r⟩:=hv;obtain ⟨i,hi⟩:=Option.isSome_iff_exists.1 a.1;rw [show D+(d+1)=D+d+1 from rfl,run_equalIn_array w (D+d) cs o hd hi];obtain ⟨_,a⟩:=a
      have K:∀(n j:Nat) {g:List Nat} {l vs:List AV} {b:Bool},an2 (aez P d) P e n g=true->eql g l vs=some b->AtR X s ρ w cs (j*P.cellsOf e) l->AtR X s ρ w o (j*P.cellsOf e) vs->(Op.eqItems (D+d) e (P.cellsOf e) cs o (List.range' j n)).run P w=.ok b w:=by
       intro n
       induction n with
       | zero=>
         intro j g l vs b z m E H;simp only [an2,List.isEmpty_iff] at z;subst z;obtain ⟨C,I⟩:=ako m;obtain rfl:l=[]:=zaq.1 C;obtain rfl:vs=[]:=zaq.1 I;cases m;simp [Op.eqItems]
       | succ n ihn=>
         intro j g l vs b z m E H;simp only [an2,zaf,decide_eq_true_eq] at z;obtain ⟨⟨Y,F⟩,R⟩:=z;obtain ⟨Q,b2,C,I,rfl⟩:=an5 (P.cellsOf e) m;obtain ⟨O,M⟩:=ako C;have A:(g.take (P.cellsOf e)).length<=P.cellsOf e:=by simp; omega
         obtain ⟨x,N,fx⟩:=ahe F E.take O A;obtain ⟨y,L,S⟩:=ahe F H.take M A;simp only [List.range'_succ,Op.eqItems,Sem.run_bind];rw [N,Result.andThen_ok,L,Result.andThen_ok,T F C fx S,Result.andThen_ok];cases Q
         ·simp
         have V:=E.drop (n:=P.cellsOf e);have U:=H.drop (n:=P.cellsOf e);rw [<- Nat.succ_mul] at V U;simpa using ihn (j+1) R I V U
      rw [List.range_eq_range'];exact K n 0 a m (by simpa using G) (by simpa using r)
     all_goals
      simp only [zaj,↓reduceIte] at B hv a;obtain ⟨u,rfl,B⟩:=B;obtain ⟨v,rfl,hv⟩:=hv
      match g,a,m with
      | [k],a,m=>
        simp only [eql] at m;split at m
        ·rename_i p q hp Z;cases Z;cases m;rw [Bool.and_true];exact bf7 (by simpa [de,hd] using a) hp B hv
        cases m
theorem bfx {g:Bool} (r:g=true) {e:Bool} {k:List Nat} {op:BinOp} {t ty:TypeId} {x y:Operand} {u v:AV} (C:o.op=.binOp op t x y ty) (l:op=if e then .neq else .eql) (q:bcj P t k=true)
 (h:RA X s ρ w u (a.eval x)) (hv:RA X s ρ w v (a.eval y)) (D:u.isA=true) (E:v.isA=true) (f:(agj g e (eql k u.cells v.cells)).1):o8 P X a w s ρ o (agj g e (eql k u.cells v.cells)).2:=by
 rcases he:eql k u.cells v.cells with _ | b
 ·rw [he] at f; first | exact (f r).elim | exact (f.2 r).elim
 simp only [bcj,zaf,Bool.not_eq_true'] at q;obtain ⟨⟨B,z⟩,A⟩:=q;obtain ⟨cs,hc,m⟩:=awd h D;obtain ⟨d,p,j⟩:=awd hv E
 have n:(Op.equal t (.agg cs) (.agg d)).run P w=.ok b w:=by
  have:=ax7 (X:=X) (s:=s) (ρ:=ρ) (w:=w) 9996 4 B he (c:=.agg cs) (c':=.agg d) (by unfold ahs; rw [if_pos z]; exact ⟨cs,rfl,λ i u h=>by simpa using m i u h⟩) (by unfold ahs; rw [if_pos z]; exact ⟨d,rfl,λ i u h=>by simpa using j i u h⟩);exact this
 simp only [o8,execOp,C,hc,p];refine ⟨_,?_,iq _⟩;subst l;cases e<;>simp [binOp,n,run_eqGuard_agg w _ t x y cs d A]
theorem bjf {g:Bool} (c:g=true) {op:UnOp} {t:TypeId} {x:Operand} {u:AV} (e:o.op=.unOp op t x) (f:RA X s ρ w u (a.eval x)) (b:(un1 g op u).1):o8 P X a w s ρ o (un1 g op u).2:=by
 unfold un1 at b |-;split at b
 ·have d:=n9 f;simp only [o8,execOp,e,d];cases op<;>simp only [bad,c,forall_const] at b |-
  all_goals first
   | first | exact (b c).elim | exact (b.2 c).elim
   | (refine ⟨_,?_,iq _⟩; simp [Op.unary,Op.intArith,Op.intBits]; done)
 ·have d:=n9 f;simp only [o8,execOp,e,d];cases op<;>simp only [bad,c,forall_const] at b |-
  all_goals first
   | first | exact (b c).elim | exact (b.2 c).elim
   | (refine ⟨_,?_,iq _⟩; simp [Op.unary]; done)
 first | exact (b c).elim | exact (b.2 c).elim
theorem bas {g:Bool} (e:g=true) {k:IntKind} {t c:TypeId} {d:TypeDesc} {x:Operand} {u:AV} (j:o.op=.convert t c x) (i:P.underlying t=some d) (f:P.underlying c=some (.int k)) (l:RA X s ρ w u (a.eval x))
 (b:(yh g k u).1):o8 P X a w s ρ o (yh g k u).2:=by
 unfold yh at b |-;split at b
 ·have h:=n9 l;simp only [o8,execOp,j,h];refine ⟨_,?_,iq _⟩;simp [convert,run_underlying i,run_underlying f,Conv.intToInt]
 first | exact (b e).elim | exact (b.2 e).elim
theorem y8 {ob:Obs} {ver:Nat} {r:Nat×RV×Bool×Bool×List RV} (h:l9 ob id ver=some r):ob id=some (ver,.row r.1 r.2.1 r.2.2.1 r.2.2.2.1 r.2.2.2.2):=by
 unfold l9 at h;split at h
 ·split at h
  ·rename_i b a;cases h;rw [b,a]
  cases h
 cases h
theorem lh {ob:Obs} {ver:Nat} {r:List AV} (h:u3 ob id ver=some r):ob id=some (ver,.box r):=by
 unfold u3 at h;split at h
 ·split at h
  ·rename_i b a;cases h;rw [b,a]
  cases h
 cases h
theorem asf {ob:Obs} {ver:Nat} {r:Unit} (h:mr ob id ver=some r):∃o,ob id=some (ver,o):=by
 unfold mr at h;split at h
 ·split at h
  ·rename_i b a;exact ⟨_,by rw [b,a]⟩
  cases h
 ·split at h
  ·rename_i b a;exact ⟨_,by rw [b,a]⟩
  cases h
 cases h
theorem At.live {ob:Obs} {ver:Nat} {X:Ob->Prop} {o:Ob} (h:At ob id ver X) (a:ob id=some (ver,o)):X o:=by
 obtain ⟨v,o',c,d,b⟩:=h;rw [c] at a;cases a;exact b rfl
theorem yb {ver lo len:Nat} {r:Nat×RV×Bool×Bool×List RV} (h:RA X s ρ w (.own id ver lo len) c) (a:l9 s.ob id ver=some r) :
 akx w ρ id lo len c (.row r.1 r.2.1 r.2.2.1 r.2.2.2.1 r.2.2.2.2):=by
 cases h;rename_i h;exact h.live (y8 a)
theorem bfs {g:Bool} (z:g=true) {str:Bool} {x:Operand} {u:AV} {t:TypeId} {d:TypeDesc} {c:Call} (G:o.op=.call c) (hc:c.callee=.builtin .len) (hx:c.args=#[x]) (E:c.argTypes=#[t]) (y:P.underlying t=some d)
 (i:ai7 str d=true) (p:RA X s ρ w u (a.eval x))
 (f:(aah g str u s.ob).ok):o8 P X a w s ρ o (aah g str u s.ob).v:=by
 have l:∀(m:Nat) (v:Value),a.eval x=v->(∀e,d=.slice e->∃A k,v=.slice A m k)->(d=.string->∃b,v=.string b/\b.size=m)->o8 P X a w s ρ o (int .i64 m):=by
  intro m v hv B I;simp only [o8,execOp,G];refine ⟨_,?_,iq _⟩;unfold ai7 at i;split at i
  ·rename_i y;obtain ⟨b,rfl,rfl⟩:=I rfl;simp [resolve,hc,hx,E,hv,invoke,builtin,Builtin.len_,run_underlying y,goInt]
  ·rename_i y;obtain ⟨A,k,rfl⟩:=B _ rfl;simp [resolve,hc,hx,E,hv,invoke,builtin,Builtin.len_,run_underlying y,goInt]
  cases i
 unfold aah at f |-;split at f
 ·cases p;rename_i p;generalize hv:a.eval x=v at p;cases p;rename_i A cap L b o g hc M D N z;refine l _ _ hv (λ e j=>⟨A,cap,rfl⟩) (λ j=>?_);subst j;simp only [ai7] at i;have:=f.1;rw [i] at this;cases this
 ·have B:=n9 p;refine l _ _ B (λ e j=>?_) (λ j=>⟨_,rfl,rfl⟩);subst j;have:=f.1;simp only [ai7] at i;rw [this] at i;cases i
 ·generalize hv:a.eval x=v at p;cases p;refine l 0 _ hv (λ e j=>⟨_,_,rfl⟩) (λ j=>?_);subst j;simp only [ai7] at i;have:=f.1;rw [i] at this;cases this
 ·split at f
  ·rename_i r D;obtain ⟨A,cap,C,J,K,O,F⟩:=yb p D;simp only [];refine l _ _ C (λ e j=>⟨_,_,rfl⟩) (λ j=>?_);subst j;simp only [ai7] at i;have:str=false:=f;rw [i] at this;cases this
  rename_i id ver _ n _ H;rcases hb:u3 s.ob id ver with _ | q
  ·rw [hb] at f;exact (f z).elim
  rw [hb] at f
  obtain ⟨A,cap,C,J,K,F⟩:akx w ρ _ _ _ (a.eval x) (.box q):=by
   cases p;rename_i h;exact h.live (lh hb)
  refine l _ _ C (λ e j=>⟨_,_,rfl⟩) (λ j=>?_);subst j;simp only [ai7] at i;have:str=false:=f;rw [i] at this;cases this
 first | exact (f z).elim | exact (f.2 z).elim | exact f.2.elim
theorem ij (b o k:Nat):(⟨b,o,none⟩:Addr).add k=⟨b,o+k,none⟩:=by
 unfold Addr.add; split<;>simp_all
theorem bji {g:Bool} (D:g=true) {t e:TypeId} {i:TypeInfo} {sz:Nat} {z:RV} {x y:Operand} {u v:AV} (J:o.op=.indexAddr t x y) (L:P.underlying t=some (.slice e)) (hi:P.info? e=some i)
 (Z:i.size=sz) (C:RA X s ρ w u (a.eval x)) (hv:RA X s ρ w v (a.eval y))
 (d:(ia2 g sz z u v s.ob).ok):o8 P X a w s ρ o (ia2 g sz z u v s.ob).v:=by
 unfold ia2 at d |-;subst Z;split at d
 ·rename_i sz N k m;have F:=n9 hv;obtain ⟨rfl,n⟩:=d;obtain ⟨n,S⟩:=n D;cases C;rename_i C;generalize hc:a.eval x=c at C;cases C;rename_i A cap hm b o' U R Y G h0 E;obtain ⟨rfl,W⟩:=Y (by omega);obtain ⟨f,rfl⟩:∃f:Nat,m=(f:Int):=⟨m.toNat,by omega⟩
  have l:f<N.length:=by omega
  simp only [o8,execOp,J];refine ⟨.pointer (some ⟨b,o'+f*i.size,none⟩),?_,?_⟩
  ·simp [Instr.indexAt,asIntOf,F,hc,run_underlying L,sizeOf,typeInfo,hi,l,ij]
  simp only [Vs.q,zak];have hx:N[f]?=some (N.getD f z):=by simp [l]
  exact .rp _ b _ (λ j=>U f j) W λ j y K=>⟨(E f _ j y hx K).1,(E f _ j y hx K).2,G f _ j y hx K⟩
 ·rename_i id ver lo m k q;split at d
  ·rename_i H r G;have F:=n9 hv;obtain ⟨p,n⟩:=d;obtain ⟨n,S⟩:=n D;obtain ⟨A,cap,M,e2,e3,e4,I⟩:=yb C G;obtain ⟨b,cs,ee,fr,O,Q,T,V⟩:=I (by omega);obtain ⟨f,rfl⟩:∃f:Nat,q=(f:Int):=⟨q.toNat,by omega⟩
   simp only [];simp only [o8,execOp,J];refine ⟨.pointer (some ⟨b,(lo+f)*H+0,none⟩),?_,?_⟩
   ·have l:f<m:=by omega
    simp [Instr.indexAt,asIntOf,F,M,Q,run_underlying L,sizeOf,typeInfo,hi,l,ij,p,Nat.add_mul]
   refine .oel id ver _ 0 _ rfl ⟨ver,_,y8 G,zaa _,λ _=>?_⟩;exact ⟨by rw [zak]; simp only at e4 |-; omega,Nat.zero_le _,b,O,by rw [zak]⟩
  rcases hb:u3 s.ob id ver with _ | B
  ·rw [hb] at d;exact (d D).elim
  rw [hb] at d;have F:=n9 hv;obtain ⟨p,n⟩:=d;obtain ⟨n,S⟩:=n D
  obtain ⟨A,cap,M,e2,e3,I⟩:akx w ρ id lo m (a.eval x) (.box B):=by
   cases C;rename_i h;exact h.live (lh hb)
  obtain ⟨b,cs,ee,fr,O,Q,T,V⟩:=I (by omega);obtain ⟨f,rfl⟩:∃f:Nat,q=(f:Int):=⟨q.toNat,by omega⟩
  simp only [o8,execOp,J,iab];refine ⟨.pointer (some ⟨b,lo+f,none⟩),?_,?_⟩
  ·have l:f<m:=by omega
   simp [Instr.indexAt,asIntOf,F,M,Q,run_underlying L,sizeOf,typeInfo,hi,l,ij,p]
  exact .ptr id ver _ _ rfl ⟨ver,_,lh hb,zaa _,λ _=>⟨b,O,by rw [zak]⟩⟩
 first | exact (d D).elim | exact (d.2 D).elim | exact d.2.elim
theorem a6n {g:Bool} (j:g=true) {e:Bool}:∀{vs:List AV} {cs:List Value} {u:AV} {c:Value},(mmL g e u vs).1->RA X s ρ w u c->vs.length=cs.length->(∀(i:Nat) (x:AV) (y:Value),vs[i]?=some x->cs[i]?=some y->RA X s ρ w x y) ->
 ∃r,(cs.foldlM (bif e then Builtin.max2 else Builtin.min2) c).run P w=.ok r w/\RA X s ρ w (mmL g e u vs).2 r
 | [],[],u,c,hok,hu,hl,h=>by
   have m:mmL g e u []=(True,u):=by unfold mmL; rfl
   exact ⟨c,by simp,by rw [m]; exact hu⟩
 | v::vs,d::cs,u,c,hok,hu,hl,h=>by
   have hv:=h 0 v d rfl rfl;unfold mmL at hok;split at hok
   ·rename_i f;cases f
   ·rename_i k a n b ys f;cases f;have l:=n9 hu;have o:=n9 hv;subst l; subst o;obtain ⟨r,g1,g2⟩   := a6n j (cs:=cs) hok (iq (.int k (bif e then max a b else min a b))) (by simpa using hl) (λ i x y hx hy=>h (i+1) x y (by simpa using hx) (by simpa using hy));refine ⟨r,?_,?_⟩
    ·rw [List.foldlM_cons,Sem.run_bind]
     have:((bif e then Builtin.max2 else Builtin.min2) (.int k a) (.int n b)).run P w=.ok (.int k (bif e then max a b else min a b)) w:=by
      cases e
      ·simp only [cond_false,Builtin.min2,Sem.run_pure];congr 2;rw [Int.min_def];split<;>split<;>omega
      simp only [cond_true,Builtin.max2,Sem.run_pure];congr 2;rw [Int.max_def];split<;>split<;>omega
     rw [this,Result.andThen_ok];exact g1
    rw [mmL]; exact g2
   first | exact (hok j).elim | exact (hok.2 j).elim
 | [],_::_,_,_,_,_,hl,_=>by cases hl
 | _::_,[],_,_,_,_,hl,_=>by cases hl
theorem bjh {g:Bool} (l:g=true) {d:Bool} {c:Call} {x:Operand} {ys:List Operand} {u:AV} {vs:List AV} (f:o.op=.call c) (hc:c.callee=.builtin (if d then .max else .min)) (hx:c.args.toList=x::ys) (h:RA X s ρ w u (a.eval x))
 (j:vs.length=ys.length) (hv:∀(i:Nat) (v:AV) (y:Operand),vs[i]?=some v->ys[i]?=some y->RA X s ρ w v (a.eval y)) (e:(mmL g d u vs).1):o8 P X a w s ρ o (mmL g d u vs).2:=by
 obtain ⟨r,h1,h2⟩   := a6n l (P:=P) (cs:=ys.map a.eval) e h (by simp [j]) (λ i x y hx hy=>by
  rw [List.getElem?_map,zar] at hy;obtain ⟨z,k,rfl⟩:=hy
  exact hv i x z hx k)
 have b:c.args=(x::ys).toArray:=by rw [<- hx]
 refine ⟨r,?_,h2⟩;cases d
 ·simp only [if_false,cond_false,zaj] at h1 hc;simp [execOp,f,resolve,hc,b,invoke,builtin,Builtin.min_,h1]
 simp only [if_true,cond_true] at h1 hc;simp [execOp,f,resolve,hc,b,invoke,builtin,Builtin.max_,h1]
theorem bfu {g:Bool} (l:g=true) {t e:TypeId} {i:TypeInfo} {n sz:Nat} {x y:Operand} {u v:AV} (J:o.op=.indexAddr t x y) (M:P.underlying t=some (.array n e)) (hi:P.info? e=some i)
 (L:i.size=sz) (E:RA X s ρ w u (a.eval x)) (hv:RA X s ρ w v (a.eval y)) (d:(se g n sz u v s.ob).ok):o8 P X a w s ρ o (se g n sz u v s.ob).v:=by
 subst L
 have q:∀b o' k (m:Int),a.eval x=.pointer (some ⟨b,o',none⟩)->a.eval y=.int k m->0<=m->m<n->(execOp a.eval o).run P w=.ok (.value (.pointer (some ⟨b,o'+m.toNat*i.size,none⟩))) w:=by
  intro b o' k m hx hy N I;simp [execOp,J,hx,hy,Instr.indexAt,asIntOf,run_underlying M,Instr.sureAddr,sizeOf,typeInfo,hi,ij,N,I]
 unfold se at d |-;split at d
 ·rename_i id ver o' k m;split at d
  ·rename_i r C;have B:=lh C;have A:=n9 hv;cases E;rename_i h;obtain ⟨b,p,hc⟩:=h.live B;simp only [];exact ⟨_,q b _ k m hc A (d l).1 (d l).2,.ptr _ _ _ _ rfl ⟨_,_,B,zaa _,λ _=>⟨b,p,rfl⟩⟩⟩
  first | exact (d l).elim | exact (d.2 l).elim | exact d.2.elim
 ·rename_i id ver idx o' k m;split at d
  ·rename_i H r C;have B:=y8 C;have A:=n9 hv;cases E;rename_i h;obtain ⟨z,G,b,p,hc⟩:=h.live B;simp only [];obtain ⟨D,Q,R⟩:=d l;refine ⟨_,q b _ k m hc A D Q,.oel _ _ _ _ _ rfl ⟨_,_,B,zaa _,λ _=>⟨z,?_,b,p,?_⟩⟩⟩
   ·have:m.toNat*i.size<=n*i.size:=Nat.mul_le_mul_right _ (by omega);simp only;omega
   rw [zai]
  first | exact (d l).elim | exact (d.2 l).elim | exact d.2.elim
 ·rename_i ys k m;have A:=n9 hv;generalize hc:a.eval x=c at E;cases E;rename_i b o' f K O;obtain ⟨_,D⟩:=d;refine ⟨_,q b o' k m hc A (D l).1 (D l).2,.rp _ b _ (λ j=>f (m.toNat*i.size+j)) K λ j y F=>?_⟩;rw [zac] at F;have:=O (m.toNat*i.size+j) y F;rw [<- zai] at this;exact this
 first | exact (d l).elim | exact (d.2 l).elim | exact d.2.elim
def ag9:Array Value->Sem Value:=λ args=>do
 let (x, y, b) ← Extern.MathBitsCarry.three "Sub64" args
 pure (Extern.MathBitsCarry.pair ((x+Extern.MathBitsCarry.m64-y-b)%Extern.MathBitsCarry.m64) (if x<y+b then 1 else 0))
theorem a6m (x y b:Nat) (a:b<=1) (w:World) :
 (ag9 #[.int .u64 x,.int .u64 y,.int .u64 b]).run P w =
  .ok (.tuple #[.int .u64 (((x+18446744073709551616-y-b)%18446744073709551616:Nat):Int),.int .u64 ((if x<y+b then 1 else 0:Nat):Int)]) w:=by
 have:b=0\/b=1:=by omega
 rcases this with rfl | rfl<;>rfl
theorem a41 {a : Bool} {fn : Func} (h : fn.name = if a then "math/bits.Sub64" else "math/bits.Add64") (i : fn.origin = "" ∨ fn.origin = fn.name) :
 Extern.findNext fn = none ∧ Extern.find fn = some (if a then ag9 else add64Entry) ∧ (fn.name == "runtime.NumGoroutine") = false := by
 have b : fn.origin = "" ∨ fn.origin = if a then "math/bits.Sub64" else "math/bits.Add64" := by rw [← h]; exact i
 unfold Extern.findNext Extern.find;rw [h];cases a<;>simp only [if_true,if_false,zaj] at b |-
 ·have e : Extern.allGenericRows.lookup "math/bits.Add64" = none := by kernel_rfl
  have c : Extern.allTypedRows.lookup "math/bits.Add64" = none := by kernel_rfl
  have d : Extern.allRows.lookup "math/bits.Add64" = some add64Entry := by kernel_rfl
  have f : Extern.allNextRows.lookup "math/bits.Add64" = none := by kernel_rfl
  have g : Extern.allNextRows.lookup "" = none := by kernel_rfl
  refine ⟨?_,?_,by decide⟩
  ·rcases b with b | b<;>simp [b,f,g]
  simp [e,c,d]
 have e : Extern.allGenericRows.lookup "math/bits.Sub64" = none := by kernel_rfl
 have c : Extern.allTypedRows.lookup "math/bits.Sub64" = none := by kernel_rfl
 have d : Extern.allRows.lookup "math/bits.Sub64" = some ag9 := by kernel_rfl
 have f : Extern.allNextRows.lookup "math/bits.Sub64" = none := by kernel_rfl
 have g : Extern.allNextRows.lookup "" = none := by kernel_rfl
 refine ⟨?_,?_,by decide⟩
 ·rcases b with b | b<;>simp [b,f,g]
 simp [e,c,d]
theorem a6e {g:Bool} (A:g=true) {d:Bool} {c:Call} {f:FuncId} {x y z:Operand} {u v t:AV} (I:o.op=.call c) (hc:c.callee=.value (.func f)) (m:auu P d f=true) (hx:c.args.toList=[x,y,z])
 (K:RA X s ρ w u (a.eval x)) (hv:RA X s ρ w v (a.eval y)) (L:RA X s ρ w t (a.eval z)) (h:(qr g d u v t).1):o8 P X a w s ρ o (qr g d u v t).2:=by
 unfold qr at h |-;split at h
 ·rename_i p q r;have H:=n9 K;have N:=n9 hv;have G:=n9 L;obtain ⟨D,B,C,J,T,U⟩:=h A;have k:c.args=#[x,y,z]:=by rw [show c.args=c.args.toList.toArray by simp,hx]
  unfold auu at m;split at m
  ·rename_i fn n;simp only [zaf,Bool.or_eq_true,beq_iff_eq] at m;obtain ⟨⟨R,S⟩,F⟩:=m;obtain ⟨M,O,Q⟩:=a41 S F;have j:=λ args w=>run_callFunc_extern (P:=P) n Q R M O args w
   have b:(execOp a.eval o).run P w=(((if d then ag9 else add64Entry) #[.int .u64 p,.int .u64 q,.int .u64 r]).run P w).andThen (λ v E=>Result.ok (Next.value v) E):=by
    have l:c.args.map a.eval=#[.int .u64 p,.int .u64 q,.int .u64 r]:=by rw [k,<- H,<- N,<- G]; simp
    rw [<- j,<- l];simp [execOp,I,resolve,hc,Act.eval,Deferred.ofValue,invoke]
    try rfl
   cases d
   ·simp only [if_false,zaj] at b;rw [run_add64 p q r D B C J,Result.andThen_ok] at b;refine ⟨_,b,.tup _ _ rfl λ i x c hx hc=>?_⟩;rcases i with _ | _ | i
    ·simp at hx hc; subst hx; subst hc; exact iq _
    ·simp at hx hc; subst hx; subst hc; exact iq _
    simp at hx
   simp only [if_true] at b;obtain ⟨p,rfl⟩:=zas D;obtain ⟨q,rfl⟩:=zas B;obtain ⟨r,rfl⟩:=zas C;have e:=b;rw [a6m p q r (by omega),Result.andThen_ok] at e;refine ⟨_,e,.tup _ _ rfl λ i x c hx hc=>?_⟩;rcases i with _ | _ | i
   ·simp only [zat,List.getElem?_cons_zero,Option.some.injEq] at hx hc;subst hx; subst hc;have:(((p+18446744073709551616-q-r)%18446744073709551616:Nat):Int)=((p:Int)+18446744073709551616-q-r)%18446744073709551616:=by omega
    rw [this];exact iq _
   ·simp only [zat,List.getElem?_cons_zero,List.getElem?_cons_succ,Option.some.injEq] at hx hc;subst hx; subst hc;have:((if p<q+r then 1 else 0:Nat):Int)=if (p:Int)<q+r then 1 else 0:=by split<;>split<;>omega
    rw [<- this];exact iq _
   simp at hx
  cases m
 first | exact (h A).elim | exact (h.2 A).elim
theorem bft {g:Bool} (f:g=true) {t:TypeId} {x y:Operand} {u v:AV} (i:o.op=.index t x y) (n:P.underlying t=some .string)
 (l:RA X s ρ w u (a.eval x)) (hv:RA X s ρ w v (a.eval y)) (c:(aeh g u v).1):o8 P X a w s ρ o (aeh g u v).2:=by
 unfold aeh at c |-;split at c
 ·rename_i b k m;have h:=n9 l;have q:=n9 hv;obtain ⟨z,A⟩:=c f;obtain ⟨d,rfl⟩:∃d:Nat,m=(d:Int):=⟨m.toNat,by omega⟩
  have e:d<b.size:=by omega
  simp only [o8,execOp,i];refine ⟨_,?_,iq _⟩
  have r:b[d]?=some (b.data.toList.getD d 0):=by
   have p:d<b.data.size:=e;have j:b[d]?=some (b[d]'e):=getElem?_pos b d e;rw [j];simp only [List.getD_eq_getElem?_getD,Array.getElem?_toList];rw [Array.getElem?_eq_getElem p]
   rfl
  simp [Instr.index,asIntOf,h,q,run_underlying n,r]
 first | exact (c f).elim | exact (c.2 f).elim
theorem bfq {g:Bool} (i:g=true) {x:Operand} {u:AV} (k:o.op=.nilCheck x) (f:RA X s ρ w u (a.eval x)) (d:(ab4 g u s.ob).ok):o8 P X a w s ρ o (ab4 g u s.ob).v:=by
 unfold ab4 at d |-;split at d
 ·split at d
  ·rename_i r j;have e:=f;cases f;rename_i h;obtain ⟨o',l⟩:=asf j;obtain ⟨b,_,hc⟩:=h.live l;simp only [o8,execOp,k,hc];exact ⟨_,rfl,by rw [<- hc]; exact e⟩
  first | exact (d i).elim | exact (d.2 i).elim | exact d.2.elim
 ·split at d
  ·rename_i r j;have e:=f;cases f;rename_i h;obtain ⟨_,_,b,_,hc⟩:=h.live (y8 j);simp only [o8,execOp,k,hc];exact ⟨_,rfl,by rw [<- hc]; exact e⟩
  first | exact (d i).elim | exact (d.2 i).elim | exact d.2.elim
 ·have e:=f;generalize hc:a.eval x=c at f e;cases f;simp only [o8,execOp,k,hc];exact ⟨_,rfl,e⟩
 ·have e:=f;generalize hc:a.eval x=c at f e;cases f;simp only [o8,execOp,k,hc];exact ⟨_,rfl,e⟩
 first | exact (d i).elim | exact (d.2 i).elim | exact d.2.elim
theorem avq (b o:Nat) (cs:List Value) (h:∀j v,cs[j]?=some v->w.cell? ⟨b,o+j,none⟩=some v):(loadCells ⟨b,o,none⟩ cs.length).run P w=.ok cs.toArray w:=
 run_loadCells_list w ⟨b,o,none⟩ cs λ j v hv=>by rw [ij]; exact h j v hv
theorem ax6 {t:TypeId} {m:Option Nat} (a:aoq P t m=true) (b o:Nat) (cs:List Value) (f:cs.length=m.getD 1) (h:∀j v,cs[j]?=some v->w.cell? ⟨b,o+j,none⟩=some v) :
 (Instr.loadAt t (.pointer (some ⟨b,o,none⟩))).run P w=.ok (match m with | none=>cs.getD 0 undef | some _=>.agg cs.toArray) w:=by
 unfold aoq at a;split at a
 ·rename_i q i g hi;have:m=some i.size:=by simpa using a
  subst this;have l:=avq (P:=P) b o cs h;simp only [zal] at f;rw [f] at l;simp [Instr.loadAt,Instr.sureAddr,loadVar,isAgg,run_underlying g,sizeOf,typeInfo,hi,l]
 ·rename_i k e i g hi;have:m=some i.size:=by simpa using a
  subst this;have l:=avq (P:=P) b o cs h;simp only [zal] at f;rw [f] at l;simp [Instr.loadAt,Instr.sureAddr,loadVar,isAgg,run_underlying g,sizeOf,typeInfo,hi,l]
 ·rename_i d i p r g hi;have:m=none:=by simpa using a
  subst this;simp only [zao] at f;obtain ⟨c,rfl⟩:=List.length_eq_one_iff.1 f;have hc:=h 0 c rfl;simp only [Nat.add_zero] at hc
  have n:(isAgg t).run P w=.ok false w:=by
   simp only [isAgg,Sem.run_bind,run_underlying g,Result.andThen_ok]
   rfl
  simp [Instr.loadAt,Instr.sureAddr,loadVar,n,hc]
 cases a
theorem bfv {g:Bool} (e:g=true) {x:Operand} {u:AV} (l:o.op=.extract x i) (f:RA X s ρ w u (a.eval x)) (b:(aen g i u).1):o8 P X a w s ρ o (aen g i u).2:=by
 unfold aen at b |-;split at b
 ·rename_i j;generalize hc:a.eval x=c at f;cases f;rename_i cs m h;have d:i<cs.size:=by omega
  simp only [o8,execOp,l,hc];refine ⟨cs[i],?_,h i _ _ ?_ (by simp [d])⟩
  ·simp [Instr.extract,d]
  have k:i<j.length:=b;simp [k]
 first | exact (b e).elim | exact (b.2 e).elim
theorem bcw {ys:List RV} {o:Nat} {g:Nat->Value} (e:∀(j:Nat) (y:RV),ys[j]?=some y->w.cell? ⟨b,o+j,none⟩=some (g j)) :
 ((List.range ys.length).map g).length=ys.length/\∀j v,((List.range ys.length).map g)[j]?=some v->w.cell? ⟨b,o+j,none⟩=some v:=by
 refine ⟨by simp,λ j v d=>?_⟩;rw [List.getElem?_map,zar] at d;obtain ⟨k,f,rfl⟩:=d;obtain ⟨a,c⟩:=zam.1 f;rw [List.getElem_range] at c;subst c;rw [List.length_range] at a;exact e j ys[j] (by simp [a])
theorem a6c {m:Option Nat} {t:TypeId} {x:Operand} {ys:List RV} {o':Nat} {f:Nat->Value} {R:Nat->Prop} (r:o.op=.load t x) (s:aoq P t m=true) (hx:a.eval x=.pointer (some ⟨b,o',none⟩))
 (h:∀(j:Nat) (y:RV),ys[j]?=some y->w.cell? ⟨b,o'+j,none⟩=some (f j)/\(f j).oneCell'=true/\RelV w R y (f j)) (e:m.getD 1<=ys.length) :
 ∃c,(execOp a.eval o).run P w=.ok (.value c) w/\RelV w R (match m with | none=>ys.getD 0 (.v (.bool false)) | some k=>.agg (ys.take k)) c:=by
 obtain ⟨p,q⟩:=bcw (ys:=ys.take (m.getD 1)) (w:=w) (b:=b) (o:=o') (g:=f) λ j y d=>by
  rw [zae] at d;split at d
  ·exact (h j y d).1
  cases d
 rw [List.length_take,Nat.min_eq_left e] at p q;have u:=ax6 s b o' _ p q;simp only [execOp,r,hx];refine ⟨_,by simp only [Sem.run_bind,u,Result.andThen_ok]; rfl,?_⟩;cases m with
 | none=>
   simp only [zao] at e |-;have:ys[0]?=some (ys.getD 0 (.v (.bool false))):=by simp [show 0<ys.length by omega]
   have:=(h 0 _ this).2.2;simpa using this
 | some k=>
   simp only [zal] at e |-;refine .agg _ _ (by simp; omega) λ i x c hx hc=>?_;rw [zae] at hx;split at hx
   ·rename_i l
    have n:c=f i:=by
     simp [l] at hc;exact hc.symm
    subst n;exact (h i x hx).2.2
   cases hx
theorem bd2 (b:Gam X s ρ a w) {ver:Nat} {ob:Ob} (h:s.ob id=some (ver,ob)):il w (g9 X.B s.ob ρ w) s.ob ρ id ob:=b.obj id ver ob h
theorem a6d {g:Bool} (C:g=true) {m:Option Nat} {t:TypeId} {x:Operand} {u:AV} (hG:Gam X s ρ a w) (S:o.op=.load t x) (U:aoq P t m=true) (T:RA X s ρ w u (a.eval x))
 (d:(ld1 g m u s.ob).ok):o8 P X a w s ρ o (ld1 g m u s.ob).v:=by
 unfold ld1 at d |-;split at d
 ·rename_i id ver off;unfold ldb at d |-;split at d
  ·rename_i D hr;have R:=lh hr;cases T;rename_i h;obtain ⟨b,F,hc⟩:=h.live R;obtain ⟨b',cs,e,n,V,Z,E⟩:=bd2 hG R;rw [F] at n;cases n;have l:∀j,w.cell? ⟨b,j,none⟩=cs[j]?:=λ j=>by simp [World.cell?,V]
   cases m with
   | none=>
     have L:off<D.length:=d C;have hx:cs[off]?=some cs[off]:=by simp [show off<cs.size by omega]
     have G:=ax6 (P:=P) (w:=w) U b off [cs[off]] rfl λ j v A=>by
      cases j with
      | zero=>simp at A; subst A; rw [l]; simpa using hx
      | succ j=>simp at A
     simp only [o8,execOp,S,hc];refine ⟨_,by simp only [Sem.run_bind,G,Result.andThen_ok]; rfl,?_⟩;simp only [List.getD_cons_zero];exact E off _ _ (by simp [L]) hx
   | some k=>
     have L:off+k<=D.length:=d C
     have G:=ax6 (P:=P) (w:=w) U b off ((cs.toList.drop off).take k) (by simp; omega) λ j v A=>by
      rw [zae] at A;split at A
      ·rw [zac] at A;rw [l];simpa using A
      cases A
     simp only [o8,execOp,S,hc];refine ⟨_,by simp only [Sem.run_bind,G,Result.andThen_ok]; rfl,?_⟩;refine .agg _ _ (by simp; omega) λ i x c hx O=>?_;rw [zae] at hx;split at hx
     ·rename_i h0;rw [zac] at hx;refine E (off+i) x c hx ?_;simp only [zat,zae,h0,if_true,zac] at O;simpa using O
     cases hx
  first | exact (d C).elim | exact (d.2 C).elim | exact d.2.elim
 ·rename_i id ver idx off;unfold ldr at d |-;split at d
  ·rename_i sz z h5 wr xs hr;have R:=y8 hr;cases T;rename_i h;obtain ⟨p,N,b,F,hc⟩:=h.live R;simp only at p N;have Q:=bd2 hG R;simp only [il] at Q;rcases Q with ⟨J,_⟩ | ⟨b',cs,e,fr,n,V,h6,h4,Z,Y⟩
   ·rw [J] at p; simp at p
   rw [F] at n;cases n;have hx:xs[idx]?=some (xs.getD idx z):=by simp [p]
   obtain ⟨hl,K⟩:=Y idx _ hx;generalize xs.getD idx z=y at hl K |-;have l:∀j,w.cell? ⟨b,j,none⟩=cs[j]?:=λ j=>by simp [World.cell?,V]
   have M:∃f:Nat->Value,∀(j:Nat) (q:RV),(y.cells.drop off)[j]?=some q->w.cell? ⟨b,idx*sz+off+j,none⟩=some (f j)/\(f j).oneCell'=true/\RelV w (g9 X.B s.ob ρ w) q (f j):=by
    refine ⟨λ j=>(cs[idx*sz+(off+j)]?).getD undef,λ j q A=>?_⟩;rw [zac] at A;obtain ⟨c,I,H,h3⟩:=K _ q A;simp only [I,zal];refine ⟨?_,H,h3⟩;rw [l,zai,I]
   obtain ⟨f,hf⟩:=M
   have W:m.getD 1<=(y.cells.drop off).length:=by
    rw [List.length_drop,hl];cases m with
    | none=>have:off<sz:=d C; simp only [zao]; omega
    | some k=>have:off+k<=sz:=d C; simp only [zal]; omega
   obtain ⟨c,I,H⟩:=a6c (P:=P) (a:=a) S U hc hf W;refine ⟨c,I,?_⟩;cases m with
   | none=>
     refine .r ?_;simpa using H
   | some k=>exact .r H
  first | exact (d C).elim | exact (d.2 C).elim | exact d.2.elim
 ·rename_i ys;generalize hc:a.eval x=c at T;cases T;rename_i b o' f hR hf
  have W:m.getD 1<=ys.length:=by
   cases m with
   | none=>have:0<ys.length:=d.2 C; simp only [zao]; omega
   | some k=>have:k<=ys.length:=d.2 C; simpa using this
  obtain ⟨c,I,H⟩:=a6c (P:=P) (a:=a) S U hc hf W;refine ⟨c,I,?_⟩;cases m with
  | none=>exact .r H
  | some k=>exact .r H
 cases m<;>first | exact (d C).elim | exact (d.2 C).elim | exact d.2.elim
theorem bjj {g:Bool} (l:g=true) {t:TypeId} {off:Nat} {x:Operand} {u:AV} {C:Array Go.Field} {A:Go.Field} {i:TypeInfo} (G:o.op=.fieldAddr t x k) (F:P.underlying t=some (.struct C)) (K:C[k]?=some A)
 (E:P.info? A.type=some i) (L:A.offset=off) (I:i.size≠0) (z:RA X s ρ w u (a.eval x)) (d:(fa1 g off u s.ob).ok):o8 P X a w s ρ o (fa1 g off u s.ob).v:=by
 have m:∀b o',a.eval x=.pointer (some ⟨b,o',none⟩)->(execOp a.eval o).run P w=.ok (.value (.pointer (some ⟨b,o'+off,none⟩))) w:=by
  intro b o' hx;simp [execOp,G,hx,Instr.fieldAt,run_underlying F,K,Instr.sureAddr,fieldPlace,sizeOf,typeInfo,E,I,ij,L]
 unfold fa1 at d |-;split at d
 ·split at d
  ·rename_i r q;have p:=lh q;cases z;rename_i h;obtain ⟨b,e,hc⟩:=h.live p;simp only [];exact ⟨_,m b _ hc,.ptr _ _ _ _ rfl ⟨_,_,p,zaa _,λ _=>⟨b,e,rfl⟩⟩⟩
  first | exact (d l).elim | exact (d.2 l).elim | exact d.2.elim
 ·split at d
  ·rename_i sz r q;have p:=y8 q;cases z;rename_i h;obtain ⟨n,D,b,e,hc⟩:=h.live p;simp only [];refine ⟨_,m b _ hc,.oel _ _ _ _ _ rfl ⟨_,_,p,zaa _,λ _=>⟨n,d l,b,e,?_⟩⟩⟩;rw [zai]
  first | exact (d l).elim | exact (d.2 l).elim | exact d.2.elim
 ·generalize hc:a.eval x=c at z;cases z;rename_i b o' f H J;refine ⟨_,m b o' hc,.rp _ b _ (λ j=>f (off+j)) H λ j y B=>?_⟩;rw [zac] at B;have:=J (off+j) y B;rw [<- zai] at this;exact this
 first | exact (d l).elim | exact (d.2 l).elim | exact d.2.elim
def ldv (cs:Array Value) (off:Nat):Option Nat->Value
 | none=>cs.getD off undef
 | some k=>.agg (cs.extract off (off+k))
theorem bn2 {t:TypeId} {m:Option Nat} (a:aoq P t m=true) (cs:Array Value) (off:Nat) (b:off+m.getD 1<=cs.size) :
 (part t cs off).run P w=.ok (ldv cs off m) w:=by
 unfold aoq at a;split at a
 ·rename_i h i c hi;have:m=some i.size:=by simpa using a
  subst this;simp [part,isAgg,run_underlying c,sizeOf,typeInfo,hi,ldv]
 ·rename_i k e i c hi;have:m=some i.size:=by simpa using a
  subst this;simp [part,isAgg,run_underlying c,sizeOf,typeInfo,hi,ldv]
 ·rename_i d i j g c hi;have:m=none:=by simpa using a
  subst this;simp only [zao] at b
  have f:(isAgg t).run P w=.ok false w:=by
   simp only [isAgg,Sem.run_bind,run_underlying c,Result.andThen_ok]
   rfl
  simp [part,f,show off<cs.size by omega,ldv]
 cases a
def RAO (X:Cx) (s:St) (ρ:Pl->Option Nat) (w:World) (a:Act):Option Operand->Option AV->Prop
 | none,none=>True
 | some x,some v=>RA X s ρ w v (a.eval x)
 | _,_=>False
theorem akj {d i:Int} {x:Option Operand} {v:Option AV} (h:bnd d v=some i) (hx:RAO X s ρ w a x v) :
 (x=none/\v=none/\i=d)\/∃x' k,x=some x'/\a.eval x'=.int k i:=by
 unfold bnd at h;split at h
 ·cases x with
  | none=>exact .inl ⟨rfl,rfl,by cases h; rfl⟩
  | some x=>exact hx.elim
 ·cases x with
  | none=>exact hx.elim
  | some x=>cases h; exact .inr ⟨x,_,rfl,n9 hx⟩
 cases h
theorem bfn {g:Bool} (n:g=true) {t:TypeId} {x:Operand} {lo hi:Option Operand} {u:AV} {l h:Option AV} (B:o.op=.slice t x lo hi none) (r:P.underlying t=some .string) (C:RA X s ρ w u (a.eval x))
 (D:RAO X s ρ w a lo l) (E:RAO X s ρ w a hi h)
 (c:(ad4 g u l h).1):o8 P X a w s ρ o (ad4 g u l h).2:=by
 unfold ad4 at c |-;split at c
 ·rename_i b;have q:=n9 C;split at c
  ·rename_i i j v z;obtain ⟨I,K,L⟩:=c n;simp only [o8,execOp,B];refine ⟨_,?_,iq _⟩;have y:=akj v D;have A:=akj z E;obtain ⟨d,rfl⟩:∃d:Nat,i=(d:Int):=⟨i.toNat,by omega⟩
   obtain ⟨e,rfl⟩:∃e:Nat,j=(e:Int):=⟨j.toNat,by omega⟩
   have p:d<=e:=by omega
   have f:e<=b.size:=by omega
   rcases y with ⟨rfl,rfl,G⟩ | ⟨x1,J,rfl,m⟩<;>rcases A with ⟨rfl,rfl,F⟩ | ⟨x2,H,rfl,k⟩
   ·have:d=0:=by omega
    have:e=b.size:=by omega
    subst this; subst d;simp [Instr.sliceAt,run_underlying r,Instr.slice,q,Instr.sliceBounds]
   ·have:d=0:=by omega
    subst d;simp [Instr.sliceAt,run_underlying r,Instr.slice,q,Instr.sliceBounds,Instr.sliceBound,k,asIntOf,f]
   ·have:e=b.size:=by omega
    subst this;simp [Instr.sliceAt,run_underlying r,Instr.slice,q,Instr.sliceBounds,Instr.sliceBound,m,asIntOf,p]
   simp [Instr.sliceAt,run_underlying r,Instr.slice,q,Instr.sliceBounds,Instr.sliceBound,m,k,asIntOf,p,f]
  first | exact (c n).elim | exact (c.2 n).elim
 first | exact (c n).elim | exact (c.2 n).elim
theorem a1g {t e:TypeId} {inf:TypeInfo} {x:Operand} {lo hi p:Option Operand} {l h m:Option AV} {i j q:Int} {A:Option Addr} {len cap:Nat} (G:o.op=.slice t x lo hi p) (L:P.underlying t=some (.slice e)) (C:P.info? e=some inf)
 (hx:a.eval x=.slice A len cap) (O:len<=cap) (z:bnd 0 l=some i) (B:bnd len h=some j) (D:bnd len m=some q)
 (I:RAO X s ρ w a lo l) (J:RAO X s ρ w a hi h)
 (H:RAO X s ρ w a p m) (y:p≠none->hi≠none) (T:0<=i/\i<=j/\j<=q/\q<=len) :
 ∃A' c,(execOp a.eval o).run P w=.ok (.value (.slice A' (j-i).toNat c)) w/\c<=cap-i.toNat/\(j-i).toNat<=c/\(0<c->A'=A.map (·.add (i.toNat*inf.size))):=by
 obtain ⟨V,e2,e3,Y⟩:=T;obtain ⟨b,rfl⟩:∃b:Nat,i=(b:Int):=⟨i.toNat,by omega⟩
 obtain ⟨d,rfl⟩:∃d:Nat,j=(d:Int):=⟨j.toNat,by omega⟩
 obtain ⟨g,rfl⟩:∃g:Nat,q=(g:Int):=⟨q.toNat,by omega⟩
 have n:b<=d:=by omega
 have r:d<=g:=by omega
 have R:g<=len:=by omega
 have u:(Instr.sliceBounds true len cap (lo.map a.eval) (hi.map a.eval) (p.map a.eval)).run P w=.ok (b,d,if p.isNone then cap else g) w:=by
  rcases akj z I with ⟨rfl,rfl,Q⟩ | ⟨x1,Z,rfl,k⟩<;>rcases akj B J with ⟨rfl,rfl,K⟩ | ⟨x2,U,rfl,f⟩<;>rcases akj D H with ⟨rfl,rfl,S⟩ | ⟨x3,W,rfl,v⟩
  ·have:b=0:=by omega
   have:d=len:=by omega
   subst this; subst b;simp [Instr.sliceBounds]
  ·exact absurd rfl (y (by simp))
  ·have:b=0:=by omega
   subst b;simp [Instr.sliceBounds,Instr.sliceBound,f,asIntOf,show d<=cap by omega]
  ·have:b=0:=by omega
   subst b;simp [Instr.sliceBounds,Instr.sliceBound,f,v,asIntOf,show g<=cap by omega,r]
  ·have:d=len:=by omega
   subst this;simp [Instr.sliceBounds,Instr.sliceBound,k,asIntOf,n]
  ·exact absurd rfl (y (by simp))
  ·simp [Instr.sliceBounds,Instr.sliceBound,k,f,asIntOf,show d<=cap by omega,n]
  simp [Instr.sliceBounds,Instr.sliceBound,k,f,v,asIntOf,show g<=cap by omega,n,r]
 generalize E:(if p.isNone then cap else g)=M at u;have N:M<=cap:=by rw [<- E]; split<;>omega
 have F:d<=M:=by rw [<- E]; split<;>omega
 refine ⟨if M=b then A else A.map (·.add (b*inf.size)),M-b,?_,by simp only [zak]; omega,by omega,λ h0=>?_⟩
 ·simp only [execOp,G,Instr.sliceAt,Sem.run_bind,run_underlying L,Result.andThen_ok,Instr.slice,hx,u,sizeOf,typeInfo,run_program,C,Sem.run_pure];simp [show ((d:Int)-b).toNat=d-b by omega]
 rw [if_neg (by omega),zak]
theorem bfo {g:Bool} (D:g=true) {t e:TypeId} {inf:TypeInfo} {sz:Nat} {x:Operand} {lo hi T:Option Operand} {u:AV} {l h m:Option AV} (ho:o.op=.slice t x lo hi T) (ht:P.underlying t=some (.slice e)) (O:P.info? e=some inf)
 (N:inf.size=sz) (J:RA X s ρ w u (a.eval x)) (hl:RAO X s ρ w a lo l)
 (hh:RAO X s ρ w a hi h) (hm:RAO X s ρ w a T m) (K:T≠none->hi≠none)
 (d:(yu g sz u l h m s.ob).ok):o8 P X a w s ρ o (yu g sz u l h m s.ob).v:=by
 unfold yu at d |-;split at d
 ·rename_i S xs;split at d
  ·rename_i i j q Z h2 V;obtain ⟨rfl,G⟩:=d;have G:=G D;cases J;rename_i J;generalize hc:a.eval x=c at J;cases J;rename_i A cap h7 b o' gg M hA Q h5 h4;obtain ⟨A',B,n,C,f,F⟩:=a1g (P:=P) (w:=w) (s:=s) (ρ:=ρ) ho ht O hc M Z h2 V hl hh hm K G;have L:(j-i).toNat=((xs.take j.toNat).drop i.toNat).length:=by simp; omega
   rw [L] at n f;refine ⟨_,n,.r ?_⟩;subst N;refine .sl _ _ _ _ f (by omega) b (o'+i.toNat*inf.size) (λ p=>gg (i.toNat+p)) (λ W=>?_) (λ p y H=>?_) (λ p y k z H Y=>?_) (λ p y k z H Y=>?_)
   ·obtain ⟨h6,hR⟩:=hA (by rw [List.length_drop,List.length_take] at W; omega);refine ⟨?_,hR⟩;rw [F (by omega),h6];simp [ij]
   all_goals
    have E:xs[i.toNat+p]?=some y:=by
     rw [zac,zae] at H;split at H
     ·exact H
     cases H
   ·exact h5 _ y E
   ·have:=h4 _ y k z E Y;rw [show o'+i.toNat*inf.size+p*inf.size+k=o'+(i.toNat+p)*inf.size+k by rw [Nat.add_mul]; omega];exact this
   exact Q _ y k z E Y
  first | exact (d D).elim | exact (d.2 D).elim | exact d.2.elim
 ·rename_i id ver I n0;split at d
  ·rename_i i j q Z h2 V;split at d
   ·rename_i S r Q;obtain ⟨rfl,G⟩:=d;have G:=G D;have e6:i.toNat+(j-i).toNat<=n0:=by omega
    obtain ⟨A,cap,e1,e2,e3,U,R⟩:=yb J Q;obtain ⟨A',B,n,C,f,F⟩:=a1g (P:=P) (w:=w) (s:=s) (ρ:=ρ) ho ht O e1 e2 Z h2 V hl hh hm K G;subst N;refine ⟨_,n,.own _ _ _ _ _ rfl ⟨_,_,y8 Q,zaa _,λ _=>?_⟩⟩;refine ⟨A',B,rfl,f,zan (zan C (Nat.sub_le _ _)) e3,?_,λ W=>?_⟩
    ·clear R;simp only at U |-;omega
    have e7:I+i.toNat+B<=I+cap:=by clear R U; omega
    obtain ⟨b,cs,ee,fr,f1,f2,f3,f4⟩:=R (by clear U R; omega);refine ⟨b,cs,ee,fr,f1,?_,f3,zan (Nat.mul_le_mul_right _ e7) f4⟩;rw [F W,f2];simp [ij,Nat.add_mul]
   first | exact (d D).elim | exact (d.2 D).elim | exact d.2.elim
  first | exact (d D).elim | exact (d.2 D).elim | exact d.2.elim
 first | exact (d D).elim | exact (d.2 D).elim | exact d.2.elim
end

section
variable {P:Program} {X:Cx} {w w':World} {s:St} {ρ ρ':Pl->Option Nat} {a:Act} {o:Oper} {ob ob':Obs} {R R':Nat->Prop}
theorem il.stays (h:Stays w w' R R' ob ob' ρ ρ') {x:Ob} (hx:il w R ob ρ id x) (d:ρ' id=ρ id) (l:∀j,ρ' (.s id j)=ρ (.s id j)) (k:∀b,foot ρ id x b->w'.heap[b]?=w.heap[b]?):il w' R' ob' ρ' id x:=by
 cases x with
 | abs T=>
   obtain ⟨b,a,f⟩:=hx;refine ⟨b,by rw [d,a],?_⟩;simp only [l];exact T.loc f (k b (.inl a)) λ j c hc=>k c (.inr ⟨rfl,j,hc⟩)
 | map es clock=>
   obtain ⟨b,a,f⟩:=hx;exact ⟨b,by rw [d,a],by rw [k b (.inl a)]; exact f⟩
 | iter m since seen stepped=>
   obtain ⟨b,m',a,f,g⟩:=hx;exact ⟨b,m',by rw [d,a],by rw [k b (.inl a)]; exact f,g.stays h⟩
 | box cells=>
   obtain ⟨b,cs,e,a,f,g,n⟩:=hx;exact ⟨b,cs,e,by rw [d,a],by rw [k b (.inl a),f],g,λ i x c hi hc=>(n i x c hi hc).stays h⟩
 | row sz z app wr xs=>
   rcases hx with ⟨a,f,g⟩ | ⟨b,cs,e,fr,a,f,g,n,u,o⟩
   ·exact .inl ⟨a,by rw [d,f],g⟩
   refine .inr ⟨b,cs,e,fr,by rw [d,a],by rw [k b (.inl a),f],g,n,u,λ i x hi=>⟨(o i x hi).1,λ j y r=>?_⟩⟩;obtain ⟨c,q,t,p⟩:=(o i x hi).2 j y r;exact ⟨c,q,t,p.mono h.free⟩
theorem il.lt {x:Ob} (hx:il w R ob ρ id x) (d:ρ id=some b):b<w.heap.size:=by
 cases x with
 | abs T=>
   obtain ⟨f,a,c⟩:=hx;rw [d] at a; cases a;obtain ⟨cs,e,g,_⟩:=T.root c;exact (zah.1 g).1
 | map es clock=>
   obtain ⟨f,a,c⟩:=hx;rw [d] at a; cases a;exact (zah.1 c).1
 | iter m since seen stepped=>
   obtain ⟨f,m',a,c,_⟩:=hx;rw [d] at a; cases a;exact (zah.1 c).1
 | box cells=>
   obtain ⟨f,cs,e,a,c,g,h⟩:=hx;rw [d] at a; cases a;exact (zah.1 c).1
 | row sz z app wr xs=>
   rcases hx with ⟨a,c,_⟩ | ⟨f,cs,e,fr,a,c,_⟩
   ·rw [d] at c; cases c
   rw [d] at a; cases a;exact (zah.1 c).1
theorem Gam.lt (c:Gam X s ρ a w) {x:Nat×Ob} (hx:s.ob id=some x) (d:ρ id=some b):b<w.heap.size:=
 (c.obj id x.1 x.2 hx).lt d
theorem il.foot_lt {x:Ob} (hx:il w R ob ρ id x) (a:foot ρ id x b):b<w.heap.size:=by
 rcases a with a | ⟨h,j,a⟩
 ·exact hx.lt a
 cases x with
 | abs T=>
   obtain ⟨e,d,c⟩:=hx;exact T.lt c j b a
 | box _=>cases h
 | map _ _=>cases h
 | iter _ _ _ _=>cases h
 | row _ _ _ _ _=>cases h
theorem Gam.foot_lt (c:Gam X s ρ a w) {x:Nat×Ob} (hx:s.ob id=some x) (d:foot ρ id x.2 b):b<w.heap.size:=(c.obj id x.1 x.2 hx).foot_lt d
theorem bcb (b:a.tmps.size=X.n) {d:Nat} (e:d<X.n) (c:Value) (t:Nat):(a.put (some d) c).tmps.getD t undef=if t=d then c else a.tmps.getD t undef:=by
 simp only [Act.put];by_cases h:t=d
 ·subst h;simp [b,e]
 simp [h,Array.getElem?_setIfInBounds_ne (Ne.symm h)]
theorem Gam.step (c:Gam X s ρ a w) (q:Stays w w' (g9 X.B s.ob ρ w) (g9 X.B ob' ρ' w') s.ob ob' ρ ρ')
 (i:∀id v o,ob' id=some (v,o)->(s.ob id=some (v,o)/\ρ' id=ρ id/\(∀j,ρ' (.s id j)=ρ (.s id j))/\∀b,foot ρ id o b->w'.heap[b]?=w.heap[b]?)\/il w' (g9 X.B ob' ρ' w') ob' ρ' id o)
 (l:∀id d x x' b,ob' id=some x->ob' d=some x'->foot ρ' id x.2 b->foot ρ' d x'.2 b->id=d)
 (H:Keeps X.I X.w0 w') (g:∀id v o b,ob' id=some (v,o)->foot ρ' id o b->X.I b\/X.w0.heap.size<=b)
 (k:∀id b o,X.pn id=some b->s.ob id=some (0,o)->o.pinned=true->ρ id=some b->ρ' id=some b/\∃o',ob' id=some (0,o')/\o'.pinned=true):Gam X ⟨s.e,ob'⟩ ρ' a w':=by
 refine ⟨⟨λ id v o h=>?_,l,H,g,λ id b h=>?_⟩,c.sz,c.df,λ t=>(c.env t).stays q,c.pnn,c.small,c.base⟩
 ·rcases i id v o h with ⟨f,m,r,n⟩ | f
  ·exact (c.obj id v o f).stays q m r n
  exact f
 obtain ⟨f,o,m,n,r⟩:=c.pin id b h;obtain ⟨C,o',u,z⟩:=k id b o h m n f;refine ⟨C,o',u,z,λ G=>?_⟩;obtain ⟨K,E,y,J,F⟩:=q.obj id 0 o m;rw [u] at y;cases y;obtain ⟨_,D,A⟩:=F rfl;have p:o.isRow=true:=by cases o<;>cases o'<;>first | rfl | exact D.elim | cases G
 exact (r p).trans λ cs e fr hc=>A b cs e fr f hc
theorem Gam.see (b:Gam X s ρ a w) {d:Nat} (f:d<X.n) {x:AV} (hx:RA X s ρ w x c):Gam X ⟨put d x s.e,s.ob⟩ ρ (a.put (some d) c) w:=by
 refine ⟨b.toMem,by simp [Act.put,b.sz],b.df,λ t=>?_,b.pnn,b.small,b.base⟩;rw [bcb b.sz f];simp only [put];split
 ·exact hx
 exact b.env t
theorem Gam.drew (c:Gam X s ρ a w) (k:Nat):Gam X s ρ a { w with drawn:=k }:=by
 have d:Stays w { w with drawn:=k } (g9 X.B s.ob ρ w) (g9 X.B s.ob ρ { w with drawn:=k }) s.ob s.ob ρ ρ:=
  ⟨λ b h=>⟨h,rfl⟩,λ id v o h=>⟨v,o,h,zaa _,λ _=>⟨rfl,bt.refl o,λ b cs e fr _ h=>⟨cs,e,fr,h,rfl⟩⟩⟩⟩
 exact ⟨⟨λ id v o h=>(c.obj id v o h).stays d rfl (λ _=>rfl) λ _ _=>rfl,c.inj,⟨c.keeps.os,c.keeps.tape,c.keeps.output,c.keeps.size,c.keeps.block⟩,c.own,c.pin⟩,c.sz,c.df,λ t=>(c.env t).stays d,c.pnn,c.small,c.base⟩
structure OneMore (w w':World) (x:Obj):Prop where
 os:w'.os=w.os
 tape:w'.tape=w.tape
 output:w'.output=w.output
 heap:w'.heap=w.heap.push x
theorem OneMore.new {x:Obj} (h:OneMore w w' x):w'.heap[w.heap.size]?=some x:=by rw [h.heap]; simp
theorem OneMore.old {x:Obj} (h:OneMore w w' x) (a:b<w.heap.size):w'.heap[b]?=w.heap[b]?:=by
 rw [h.heap,Array.getElem?_push,if_neg (by omega)]
theorem OneMore.size {x:Obj} (h:OneMore w w' x):w'.heap.size=w.heap.size+1:=by rw [h.heap]; simp
theorem ab2 {v:Nat} {x:Ob} (h:ob id=some (v,x)):v<nv ob id:=by simp [nv,h]
theorem Stays.alloc (p:Gam X s ρ a w) {x:Obj} (i:OneMore w w' x) (id ver:Nat) (hv:∀v o,s.ob id=some (v,o)->v<ver) (o':Ob) (f:o'.isAbs=false:=by rfl) :
 Stays w w' (g9 X.B s.ob ρ w) (g9 X.B (upd id (ver,o') s.ob) (u5 ρ id (some w.heap.size)) w') s.ob (upd id (ver,o') s.ob) ρ (u5 ρ id (some w.heap.size)):=by
 refine ⟨λ b ⟨k,n,m⟩=>⟨⟨by rw [i.size]; omega,?_,m⟩,i.old k⟩,λ j v o h=>?_⟩
 ·rintro ⟨j,v,o,d,r,g⟩;by_cases c:j=id
  ·subst c;simp [upd] at d;obtain ⟨rfl,rfl⟩:=d;rw [jz f] at g;simp [u5] at g;omega
  simp only [upd,c,if_false] at d;exact n ⟨j,v,o,d,r,(aba c).1 g⟩
 by_cases c:j=id
 ·subst c;exact ⟨ver,o',by simp [upd],Nat.le_of_lt (hv v o h),λ e=>by have:=hv v o h; omega⟩
 refine ⟨v,o,by simp [upd,c,h],zaa _,λ _=>⟨by simp [u5,c],bt.refl o,λ b cs e fr q l=>⟨cs,e,fr,?_,rfl⟩⟩⟩;rw [i.old (p.lt h q),l]
theorem Gam.alloc (g:Gam X s ρ a w) {x:Obj} (m:OneMore w w' x) (id ver:Nat) (u:X.pn id=none) (hv:∀v o,s.ob id=some (v,o)->v<ver) (o':Ob)
 (G:il w' (g9 X.B (upd id (ver,o') s.ob) (u5 ρ id (some w.heap.size)) w') (upd id (ver,o') s.ob) (u5 ρ id (some w.heap.size)) id o') (l:o'.isAbs=false:=by rfl) :
 Gam X ⟨s.e,upd id (ver,o') s.ob⟩ (u5 ρ id (some w.heap.size)) a w':=by
 refine g.step (Stays.alloc g m id ver hv o' l) (λ j v o h=>?_) (λ i j x x' b hi c t z=>?_) ?_ (λ j v o b h f=>?_) (λ j b o h hc H q=>?_)
 ·by_cases c:j=id
  ·subst c;simp [upd] at h;obtain ⟨rfl,rfl⟩:=h;exact .inr G
  simp only [upd,c,if_false] at h;refine .inl ⟨h,by simp [u5,c],by simp [u5],λ b q=>m.old (g.foot_lt h q)⟩
 ·have p:∀k (y:Nat×Ob),upd id (ver,o') s.ob k=some y->foot (u5 ρ id (some w.heap.size)) k y.2 b->(k=id/\b=w.heap.size)\/(k≠id/\s.ob k=some y/\foot ρ k y.2 b/\b<w.heap.size):=λ k y r n=>by
   by_cases d:k=id
   ·subst d;simp [upd] at r;subst r;rw [jz l] at n;simp [u5] at n;exact .inl ⟨rfl,n.symm⟩
   simp only [upd,d,if_false] at r;rw [aba d] at n;exact .inr ⟨d,r,n,g.foot_lt r n⟩
  rcases p i x hi t with ⟨C,f⟩ | ⟨C,f,F,J⟩<;>rcases p j x' c z with ⟨A,D⟩ | ⟨A,D,E,I⟩
  ·rw [C,A]
  ·omega
  ·omega
  exact g.inj i j x x' b f D F E
 ·refine g.keeps.trans ⟨m.os,m.tape,m.output,by rw [m.size]; omega,λ b q _=>m.old q⟩
 ·by_cases c:j=id
  ·subst c;simp [upd] at h;obtain ⟨rfl,rfl⟩:=h;rw [jz l] at f;simp [u5] at f;subst f;exact .inr g.keeps.size
  simp only [upd,c,if_false] at h;rw [aba c] at f;exact g.own j v o b h f
 have c:j≠id:=λ e=>by rw [e,u] at h; cases h
 exact ⟨by simp [u5,c,q],o,by simp [upd,c,hc],H⟩
structure Mods (w w':World) (b:Nat) (x:Obj):Prop where
 os:w'.os=w.os
 tape:w'.tape=w.tape
 output:w'.output=w.output
 size:w'.heap.size=w.heap.size
 new:w'.heap[b]?=some x
 old:∀k,k≠b->w'.heap[k]?=w.heap[k]?
theorem ph {v ver:Nat} {x x':Ob} (b:ob id=some (v,x)) (h:x'.isAbs=x.isAbs) {p:Nat×Ob} (a:upd id (ver,x') ob j=some p) (c:foot ρ j p.2 k):∃q,ob j=some q/\foot ρ j q.2 k:=by
 by_cases d:j=id
 ·subst d;simp [upd] at a;subst a;exact ⟨_,b,(ace rfl (λ _=>rfl) h).1 c⟩
 simp only [upd,d,if_false] at a;exact ⟨p,a,c⟩
theorem Stays.modifyG (O:Gam X s ρ a w) {v:Nat} {x x':Ob} {y:Obj} (m:s.ob id=some (v,x)) (hx:x.own=true) (I:ρ id=some b)
 (t:Mods w w' b y) (D:∀cs e fr,w.heap[b]?=some (.cells cs e fr)->∃d e' g,y=.cells d e' g/\d.size=cs.size) (ver:Nat) (hv:(ver=v/\bt x x')\/v<ver) (K:x.isAbs=false:=by rfl) (n:x'.isAbs=false:=by rfl) :
 Stays w w' (g9 X.B s.ob ρ w) (g9 X.B (upd id (ver,x') s.ob) ρ w') s.ob (upd id (ver,x') s.ob) ρ ρ:=by
 refine ⟨λ k ⟨J,H,M⟩=>?_,λ j u o h=>?_⟩
 ·have c:k≠b:=λ h=>H ⟨id,v,x,m,hx,.inl (by rw [I,h])⟩;refine ⟨⟨by rw [t.size]; exact J,?_,M⟩,t.old k c⟩;rintro ⟨j,u,o,p,N,E⟩;unfold upd at p;split at p
  ·rename_i r;subst r;cases p;rw [jz n,I] at E;cases E;exact c rfl
  exact H ⟨j,u,o,p,N,E⟩
 have f:∀(k:Nat) (q:Array Value) (i:TypeId) (l:Nat×Nat),w.heap[k]?=some (.cells q i l)->∃G A F,w'.heap[k]?=some (.cells G A F)/\G.size=q.size:=by
  intro k q i l z;by_cases c:k=b
  ·subst c;obtain ⟨d,e',g,hy,L⟩:=D _ _ _ z;exact ⟨d,e',g,by rw [t.new,hy],L⟩
  exact ⟨q,i,l,by rw [t.old k c,z],rfl⟩
 by_cases r:j=id
 ·subst r;rw [m] at h;cases h;rcases hv with ⟨rfl,z⟩ | hv
  ·exact ⟨_,x',by simp [upd],zaa _,λ _=>⟨rfl,z,λ k q i l _ C=>f k q i l C⟩⟩
  exact ⟨ver,x',by simp [upd],Nat.le_of_lt hv,λ h=>by omega⟩
 exact ⟨u,o,by simp [upd,r,h],zaa _,λ _=>⟨rfl,bt.refl o,λ k q i l _ C=>f k q i l C⟩⟩
theorem Stays.modify (m:Gam X s ρ a w) {v:Nat} {x x':Ob} {cs c:Array Value} {e e':TypeId} {fr f:Nat×Nat} (i:s.ob id=some (v,x)) (hx:x.own=true) (n:ρ id=some b)
 (k:w.heap[b]?=some (.cells cs e fr)) (l:Mods w w' b (.cells c e' f)) (j:c.size=cs.size) (ver:Nat) (hv:(ver=v/\bt x x')\/v<ver) (g:x.isAbs=false:=by rfl) (d:x'.isAbs=false:=by rfl) :
 Stays w w' (g9 X.B s.ob ρ w) (g9 X.B (upd id (ver,x') s.ob) ρ w') s.ob (upd id (ver,x') s.ob) ρ ρ:=
 Stays.modifyG m i hx n l (λ q o p h=>by rw [k] at h; cases h; exact ⟨_,_,_,rfl,j⟩) ver hv g d
theorem Gam.modifyG (r:Gam X s ρ a w) {v:Nat} {x x':Ob} {y:Obj} (c:s.ob id=some (v,x)) (hx:x.own=true) (K:ρ id=some b)
 (n:Mods w w' b y) (F:∀cs e fr,w.heap[b]?=some (.cells cs e fr)->∃t e' z,y=.cells t e' z/\t.size=cs.size) (ver:Nat) (hv:(ver=v/\bt x x')\/v<ver) (q:X.pn id=none\/(ver=v/\bt x x'/\(x.pinned=true->x'.pinned=true)))
 (P:il w' (g9 X.B (upd id (ver,x') s.ob) ρ w') (upd id (ver,x') s.ob) ρ id x') (l:x.isAbs=false:=by rfl) (d:x'.isAbs=false:=by rfl):Gam X ⟨s.e,upd id (ver,x') s.ob⟩ ρ a w':=by
 have E:∀j u,j≠id->s.ob j=some u->∀k,foot ρ j u.2 k->k≠b:=λ j u g h k f m=>by
  subst m;exact g (r.inj j id u _ k h c f (.inl K))
 refine r.step (Stays.modifyG r c hx K n F ver hv l d) (λ j u o h=>?_) (λ i j p S k hi g A J=>?_) ?_ (λ j u o k h I=>?_) (λ j k o h hc M f=>?_)
 ·by_cases g:j=id
  ·subst g;simp [upd] at h;obtain ⟨rfl,rfl⟩:=h;exact .inr P
  simp only [upd,g,if_false] at h;exact .inl ⟨h,rfl,λ _=>rfl,λ k f=>n.old k (E j _ g h k f)⟩
 ·obtain ⟨_,D,C⟩:=ph c (d.trans l.symm) hi A;obtain ⟨_,I,R⟩:=ph c (d.trans l.symm) g J;exact r.inj i j _ _ k D I C R
 ·have f:=r.keeps;refine ⟨n.os.trans f.os,n.tape.trans f.tape,n.output.trans f.output,by rw [n.size]; exact f.size,λ k H L=>?_⟩;by_cases m:k=b
  ·subst m;rcases r.own id v x k c (.inl K) with h | h
   ·exact absurd h L
   omega
  rw [n.old k m];exact f.block k H L
 ·obtain ⟨⟨N,Q⟩,D,C⟩:=ph c (d.trans l.symm) h I;exact r.own j N Q k D C
 refine ⟨f,?_⟩;by_cases g:j=id
 ·subst g;rw [c] at hc;cases hc;rcases q with q | ⟨rfl,O,G⟩
  ·rw [q] at h; cases h
  exact ⟨x',by simp [upd],G M⟩
 exact ⟨o,by simp [upd,g,hc],M⟩
theorem Gam.modify (o:Gam X s ρ a w) {v:Nat} {x x':Ob} {cs c:Array Value} {e e':TypeId} {fr f:Nat×Nat} (j:s.ob id=some (v,x)) (hx:x.own=true) (p:ρ id=some b)
 (l:w.heap[b]?=some (.cells cs e fr)) (n:Mods w w' b (.cells c e' f)) (k:c.size=cs.size) (ver:Nat) (hv:(ver=v/\bt x x')\/v<ver) (i:X.pn id=none\/(ver=v/\bt x x'/\(x.pinned=true->x'.pinned=true)))
 (m:il w' (g9 X.B (upd id (ver,x') s.ob) ρ w') (upd id (ver,x') s.ob) ρ id x') (g:x.isAbs=false:=by rfl) (d:x'.isAbs=false:=by rfl):Gam X ⟨s.e,upd id (ver,x') s.ob⟩ ρ a w':=
 o.modifyG j hx p n (λ q r t h=>by rw [l] at h; cases h; exact ⟨_,_,_,rfl,k⟩) ver hv i m g d
theorem Stays.freeze1 {v sz:Nat} {z:RV} {a p:Bool} {d:List RV} (f:s.ob id=some (v,.row sz z a p d)) :
 Stays w w (g9 X.B s.ob ρ w) (g9 X.B (upd id (v,.row sz z a false d) s.ob) ρ w) s.ob (upd id (v,.row sz z a false d) s.ob) ρ ρ:=by
 refine ⟨λ b ⟨k,n,l⟩=>⟨⟨k,?_,l⟩,rfl⟩,λ j u o h=>?_⟩
 ·rintro ⟨j,u,o,c,i,m⟩;unfold upd at c;split at c
  ·cases c; cases i
  exact n ⟨j,u,o,c,i,m⟩
 by_cases g:j=id
 ·subst g;rw [f] at h;cases h;exact ⟨v,.row sz z a false d,by simp [upd],zaa _,λ _=>⟨rfl,⟨rfl,zaa _⟩,λ b cs e fr _ h=>⟨cs,e,fr,h,rfl⟩⟩⟩
 exact ⟨u,o,by simp [upd,g,h],zaa _,λ _=>⟨rfl,bt.refl o,λ b cs e fr _ h=>⟨cs,e,fr,h,rfl⟩⟩⟩
theorem Gam.freeze1 (g:Gam X s ρ a w) {v sz:Nat} {z:RV} {b D:Bool} {f:List RV} (c:s.ob id=some (v,.row sz z b D f)):Gam X ⟨s.e,upd id (v,.row sz z b false f) s.ob⟩ ρ a w:=by
 have t:=Stays.freeze1 (X:=X) (w:=w) (ρ:=ρ) c;refine g.step t (λ j u o h=>?_) (λ i j p E k hi d l r=>?_) g.keeps (λ j u o k h q=>?_) (λ j k o h hc x C=>⟨C,?_⟩)
 ·by_cases d:j=id
  ·subst d;simp [upd] at h;obtain ⟨rfl,rfl⟩:=h;refine .inr ?_;have:=(g.obj _ _ _ c).stays t rfl (λ _=>rfl) (λ _ _=>rfl);exact this
  simp only [upd,d,if_false] at h;exact .inl ⟨h,rfl,λ _=>rfl,λ _ _=>rfl⟩
 ·obtain ⟨_,n,m⟩:=ph (x':=.row sz z b false f) c rfl hi l;obtain ⟨_,q,B⟩:=ph (x':=.row sz z b false f) c rfl d r;exact g.inj i j _ _ k n q m B
 ·obtain ⟨⟨y,A⟩,n,m⟩:=ph (x':=.row sz z b false f) (p:=(u,o)) c rfl h q;exact g.own j y A k n m
 by_cases d:j=id
 ·subst d;rw [c] at hc;cases hc;exact ⟨.row sz z b false f,by simp [upd],x⟩
 exact ⟨o,by simp [upd,d,hc],x⟩
theorem Stays.shut1 {v sz:Nat} {z:RV} {d:List RV} (a:s.ob id=some (v,.row sz z true true d)) :
 Stays w w (g9 X.B s.ob ρ w) (g9 X.B (upd id (v,.row sz z false true d) s.ob) ρ w) s.ob (upd id (v,.row sz z false true d) s.ob) ρ ρ:=by
 refine ⟨λ b ⟨m,k,n⟩=>⟨⟨m,?_,n⟩,rfl⟩,λ j u o h=>?_⟩
 ·rintro ⟨j,u,o,f,q,i⟩;obtain ⟨⟨r,t⟩,g,l⟩:=ph (x':=.row sz z false true d) (p:=(u,o)) a rfl f i;by_cases c:j=id
  ·subst c;rw [a] at g;cases g;exact k ⟨j,_,_,a,rfl,l⟩
  simp only [upd,c,if_false] at f;exact k ⟨j,u,o,f,q,i⟩
 by_cases c:j=id
 ·subst c;rw [a] at h;cases h;exact ⟨v,.row sz z false true d,by simp [upd],zaa _,λ _=>⟨rfl,⟨rfl,zaa _⟩,λ b cs e fr _ h=>⟨cs,e,fr,h,rfl⟩⟩⟩
 exact ⟨u,o,by simp [upd,c,h],zaa _,λ _=>⟨rfl,bt.refl o,λ b cs e fr _ h=>⟨cs,e,fr,h,rfl⟩⟩⟩
theorem Gam.shut1 (n:Gam X s ρ a w) {v sz:Nat} {z:RV} {g:List RV} (c:s.ob id=some (v,.row sz z true true g)) (r:g≠[]):Gam X ⟨s.e,upd id (v,.row sz z false true g) s.ob⟩ ρ a w:=by
 have x:=Stays.shut1 (X:=X) (w:=w) (ρ:=ρ) c;refine n.step x (λ j u o h=>?_) (λ i j p G k hi f q t=>?_) n.keeps (λ j u o k h m=>?_) (λ j k o h hc y F=>⟨F,?_⟩)
 ·by_cases f:j=id
  ·subst f;simp [upd] at h;obtain ⟨rfl,rfl⟩:=h;refine .inr ?_;rcases (n.obj _ _ _ c).stays x rfl (λ _=>rfl) (λ _ _=>rfl) with ⟨d,_⟩ | ⟨b,cs,e,fr,d,m,l,A,E,C⟩
   ·exact absurd d r
   exact .inr ⟨b,cs,e,fr,d,m,l,(λ h=>by cases h),E,C⟩
  simp only [upd,f,if_false] at h;exact .inl ⟨h,rfl,λ _=>rfl,λ _ _=>rfl⟩
 ·obtain ⟨_,d,l⟩:=ph (x':=.row sz z false true g) c rfl hi q;obtain ⟨_,m,A⟩:=ph (x':=.row sz z false true g) c rfl f t;exact n.inj i j _ _ k d m l A
 ·obtain ⟨⟨B,D⟩,d,l⟩:=ph (x':=.row sz z false true g) (p:=(u,o)) c rfl h m;exact n.own j B D k d l
 by_cases f:j=id
 ·subst f;rw [c] at hc;cases hc;cases y
 exact ⟨o,by simp [upd,f,hc],y⟩
theorem Gam.frz {ob:Obs} (h:Gam X ⟨s.e,ob⟩ ρ a w) (i:Nat):Gam X ⟨s.e,Ev.frz ob i (ob i)⟩ ρ a w:=by
 rcases hi:ob i with _ | ⟨v,b | ⟨sz,z,c,f,d⟩ | T | _ | _⟩
 ·exact h
 ·exact h
 ·exact h.freeze1 (s:=⟨s.e,ob⟩) hi
 ·exact h
 ·exact h
 exact h
theorem Gam.freeze:∀(l:List Nat) {ob:Obs},Gam X ⟨s.e,ob⟩ ρ a w->Gam X ⟨s.e,Ev.freeze ob l⟩ ρ a w
 | [],_,h=>h
 | i::is,_,h=>Gam.freeze is (h.frz i)
theorem bg7 {v sz:Nat} {z:RV} {c e:Bool} {f:List RV} {ob:Obs} (h:ob i=some (v,.row sz z c e f)):∃a,Ev.frz ob j (ob j) i=some (v,.row sz z c a f)/\(e=false\/i=j->a=false):=by
 by_cases b:i=j
 ·subst b;rw [h];exact ⟨false,by simp [Ev.frz,upd],λ _=>rfl⟩
 refine ⟨e,?_,λ l=>l.resolve_right b⟩;rcases hj:ob j with _ | ⟨o,d | ⟨k,n,g,a,m⟩ | T | _ | _⟩<;>simp [Ev.frz,upd,b,h]
theorem alw {i v sz:Nat} {z:RV} {b:Bool} {e:List RV}:∀(l:List Nat) (ob:Obs) (d:Bool),ob i=some (v,.row sz z b d e)->∃c,Ev.freeze ob l i=some (v,.row sz z b c e)/\(d=false\/i∈l->c=false)
 | [],ob,d,h=>⟨d,h,λ h=>h.resolve_right (by simp)⟩
 | j::l,ob,d,h=>by
   obtain ⟨n,m,f⟩:=bg7 (j:=j) h;obtain ⟨g,k,o⟩:=alw l _ n m;refine ⟨g,k,λ a=>o ?_⟩;rcases a with a | a
   ·exact .inl (f (.inl a))
   rcases zad.1 a with a | a
   ·exact .inl (f (.inr a))
   exact .inr a
theorem a7n (r:Gam X s ρ a w) {ver lo len sz:Nat} {z:RV} {C:Bool} {k:List RV} (f:s.ob id=some (ver,.row sz z C false k)) (h:RA X s ρ w (.own id ver lo len) c) :
 RelV w (g9 X.B s.ob ρ w) (.sl sz ((k.drop lo).take len)) c:=by
 cases h;rename_i h;obtain ⟨A,cap,rfl,S,F,J,H⟩:=h.live f;have m:((k.drop lo).take len).length=len:=by simp; omega
 rcases r.obj id ver _ f with ⟨l,D⟩ | ⟨b,cs,e,fr,l,D,M,T,Q,t⟩
 ·subst l;have:len=0:=by have:lo+len<=0:=J; omega
  subst this;refine (?_:RelV w (g9 X.B s.ob ρ w) (.sl sz []) _);exact .sl sz [] A cap (by simp) F 0 0 (λ _ _=>undef) (by simp) (by simp) (by simp) (by simp)
 have n:=RelV.sl (w:=w) (R:=g9 X.B s.ob ρ w) sz ((k.drop lo).take len) A cap (by omega) F b (lo*sz) (λ i j=>(cs[(lo+i)*sz+j]?).getD undef);rw [m] at n
 have d:∀(i:Nat) (x:RV),((k.drop lo).take len)[i]?=some x->k[lo+i]?=some x:=λ i x hi=>by
  rw [zae] at hi;split at hi
  ·rwa [zac] at hi
  cases hi
 refine n (λ P=>?_) (λ i x hi=>(t _ x (d i x hi)).1) (λ i x j y hi u=>?_) (λ i x j y hi u=>?_)
 ·obtain ⟨N,I,e',G,E,K,L,O⟩:=H (by omega);rw [l] at E;cases E;refine ⟨K,(zah.1 D).1,?_,r.base b (r.own _ _ _ b f (.inl l))⟩;rintro ⟨j,v,o,g,q,p⟩;have:=r.inj id j _ _ b f g (.inl l) p;subst this;rw [f] at g;cases g;cases q
 ·obtain ⟨c,g,q,p⟩:=(t _ x (d i x hi)).2 j y u;rw [g];refine ⟨?_,q⟩;simp only [World.cell?,D,Option.isSome_none,zaj,if_false,zal];rw [<- g,Nat.add_mul]
 obtain ⟨c,g,q,p⟩:=(t _ x (d i x hi)).2 j y u;rw [g];exact p
theorem asa (j:Gam X s ρ a w) {ob:Obs} {x:AV} {y:RV} {f l:List Nat} (h:x.rv ob=some (y,f)) (b:∀i∈f,i∈l) (d:s.ob=Ev.freeze ob l) (hx:RA X s ρ w x c):RelV w (g9 X.B s.ob ρ w) y c:=by
 unfold AV.rv at h;split at h
 ·cases h; cases hx; assumption
 ·cases h; cases hx;exact .sl _ [] none 0 (by simp) (by simp) 0 0 (λ _ _=>undef) (by simp) (by simp) (by simp) (by simp)
 ·split at h
  ·rename_i m;cases h;obtain ⟨k,e,g⟩:=alw l ob _ (y8 m);rw [g (.inr (b _ (by simp)))] at e;rw [<- d] at e;exact a7n j e hx
  cases h
 cases h
theorem Stays.nil (id ver:Nat) (hv:∀v o,s.ob id=some (v,o)->v<ver) (x:Ob) (d:x.isAbs=false:=by rfl) :
 Stays w w (g9 X.B s.ob ρ w) (g9 X.B (upd id (ver,x) s.ob) (u5 ρ id none) w) s.ob (upd id (ver,x) s.ob) ρ (u5 ρ id none):=by
 refine ⟨λ b ⟨g,l,k⟩=>⟨⟨g,?_,k⟩,rfl⟩,λ j v o h=>?_⟩
 ·rintro ⟨j,v,o,c,m,f⟩;by_cases a:j=id
  ·subst a;simp [upd] at c;obtain ⟨rfl,rfl⟩:=c;rw [jz d] at f;simp [u5] at f
  simp only [upd,a,if_false] at c;exact l ⟨j,v,o,c,m,(aba a).1 f⟩
 by_cases a:j=id
 ·subst a;exact ⟨ver,x,by simp [upd],Nat.le_of_lt (hv v o h),λ e=>by have:=hv v o h; omega⟩
 exact ⟨v,o,by simp [upd,a,h],zaa _,λ _=>⟨by simp [u5,a],bt.refl o,λ b cs e fr n i=>⟨cs,e,fr,i,rfl⟩⟩⟩
theorem Gam.nil (n:Gam X s ρ a w) (id ver:Nat) (t:X.pn id=none) (hv:∀v o,s.ob id=some (v,o)->v<ver) (sz:Nat) (z:RV) (A:Bool) :
 Gam X ⟨s.e,upd id (ver,.row sz z true A []) s.ob⟩ (u5 ρ id none) a w:=by
 refine n.step (Stays.nil id ver hv _ rfl) (λ j v o h=>?_) (λ i j p x k hi c r u=>?_) n.keeps (λ j v o b h g=>?_) (λ j b o h hc D E=>?_)
 ·by_cases c:j=id
  ·subst c;simp [upd] at h;obtain ⟨rfl,rfl⟩:=h;exact .inr (.inl ⟨rfl,by simp [u5],rfl⟩)
  simp only [upd,c,if_false] at h;exact .inl ⟨h,by simp [u5,c],by simp [u5],λ _ _=>rfl⟩
 ·have l:∀f (y:Nat×Ob),upd id (ver,.row sz z true A []) s.ob f=some y->foot (u5 ρ id none) f y.2 k->s.ob f=some y/\foot ρ f y.2 k:=λ f y q m=>by
   by_cases d:f=id
   ·subst d;simp [upd] at q;subst q;rw [jz rfl] at m;simp [u5] at m
   simp only [upd,d,if_false] at q;rw [aba d] at m;exact ⟨q,m⟩
  obtain ⟨C,g⟩:=l i p hi r;obtain ⟨B,F⟩:=l j x c u;exact n.inj i j p x k C B g F
 ·by_cases c:j=id
  ·subst c;simp [upd] at h;obtain ⟨rfl,rfl⟩:=h;rw [jz rfl] at g;simp [u5] at g
  simp only [upd,c,if_false] at h;rw [aba c] at g;exact n.own j v o b h g
 have c:j≠id:=λ e=>by rw [e,t] at h; cases h
 exact ⟨by simp [u5,c,E],o,by simp [upd,c,hc],D⟩
theorem Gam.unpinned (f:Gam X s ρ a w) {v sz:Nat} {z:RV} {c j:Bool} {g:List RV} (e:s.ob id=some (v,.row sz z c j g)) (d:(c || !par id)=true):X.pn id=none:=by
 cases hp:par id with
 | false=>exact f.pnn id hp
 | true=>
   rw [hp] at d;have d:c=true:=by simpa using d
   subst d;rcases h:X.pn id with _ | b
   ·rfl
   obtain ⟨_,o,hc,i,_⟩:=f.pin id b h;rw [e] at hc;cases hc;cases i
end

end Go.Ev

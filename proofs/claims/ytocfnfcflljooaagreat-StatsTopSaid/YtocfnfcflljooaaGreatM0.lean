import Derived.WalkKit
open Nat renaming le_refl → zaa, add_assoc → zaj, le_trans → zan
open List renaming getElem?_drop → zab, getElem?_take → zad, mem_cons → zag, getElem?_eq_some_iff → zam, not_mem_nil → zao, length_eq_zero_iff → zap, getElem?_toArray → zas
open BitVec renaming ofInt → zac
open Option renaming getD_some → zae, getD_none → zaf, map_eq_some_iff → zaq
open Bool renaming and_eq_true → zah, false_eq_true → zak
open Array renaming getElem?_eq_some_iff → zai
open Int renaming toNat_natCast → zal, eq_ofNat_of_zero_le → zar
namespace Go.Ev
set_option maxHeartbeats 8000000
set_option maxRecDepth 100000
open Go
set_option linter.unusedSectionVars false
set_option linter.unnecessarySimpa false
set_option linter.unusedSimpArgs false
set_option linter.unusedVariables false
inductive RV where
 | v (x:Value)
 | agg (xs:List RV)
 | sl (sz:Nat) (xs:List RV)
inductive AV where
 | r (x:RV)
 | agg (xs:List AV)
 | tup (xs:List AV)
 | nils (sz:Nat) (z:RV)
 | own (id ver lo len:Nat)
 | ptr (id ver off:Nat)
 | oel (id ver idx off:Nat)
 | rp (ys:List RV)
 | fn (f:Fn) (cap:List AV) (k:Nat:=0)
 | mp (id ver:Nat)
 | ifc (t:TypeId) (x:AV)
 | gd (b:Bool) (x:AV)
 | undef
instance:Inhabited RV:=⟨.v (.bool false)⟩
instance:Inhabited AV:=⟨.undef⟩
inductive Pl where
 | o (id:Nat)
 | s (id j:Nat)
deriving DecidableEq
instance:Coe Nat Pl:=⟨Pl.o⟩
def RV.cells:RV->List RV
 | .agg xs=>xs
 | x=>[x]
def AV.cells:AV->List AV
 | .agg xs=>xs
 | .r (.agg xs)=>xs.map .r
 | x=>[x]
def RV.one:RV->Bool
 | .v x=>x.oneCell'
 | .agg _=>false
 | .sl _ _=>true
section
variable (w:World) (R:Nat->Prop)
inductive RelV:RV->Value->Prop where
 | v (x:Value):RelV (.v x) x
 | agg (xs:List RV) (cs:Array Value) (hl:cs.size=xs.length) (h:∀(i:Nat) (x:RV) (c:Value),xs[i]?=some x->cs[i]?=some c->RelV x c):RelV (.agg xs) (.agg cs)
 | sl (sz:Nat) (xs:List RV) (A:Option Addr) (cap:Nat) (hc:xs.length<=cap) (hm:cap<=maxLen) (b o:Nat) (g:Nat->Nat->Value)
  (hA:0<xs.length->A=some ⟨b,o,none⟩/\R b)
  (hz:∀(i:Nat) (x:RV),xs[i]?=some x->x.cells.length=sz)
  (hg:∀(i:Nat) (x:RV) (j:Nat) (y:RV),xs[i]?=some x->x.cells[j]?=some y->w.cell? ⟨b,o+i*sz+j,none⟩=some (g i j)/\(g i j).oneCell'=true)
  (hr:∀(i:Nat) (x:RV) (j:Nat) (y:RV),xs[i]?=some x->x.cells[j]?=some y->RelV y (g i j)):RelV (.sl sz xs) (.slice A xs.length cap)
end
variable {c:Value}
theorem RelV.mono {w w':World} {R R':Nat->Prop} {x:RV} (h:RelV w R x c) (e:∀b,R b->R' b/\w'.heap[b]?=w.heap[b]?):RelV w' R' x c:=by
 induction h with
 | v x=>exact .v x
 | agg xs cs hl _ ih=>exact .agg xs cs hl ih
 | sl sz xs A cap hc hm b o g hA hz hg hr ih=>
   refine .sl sz xs A cap hc hm b o g (λ a=>⟨(hA a).1,(e b (hA a).2).1⟩) hz (λ i x j y d l=>?_) ih
   have a:0<xs.length:=by
    have:=(zam.1 d).1;omega
   obtain ⟨f,k⟩:=hg i x j y d l;refine ⟨?_,k⟩;rw [<- f];simp only [World.cell?];rw [(e b (hA a).2).2]
structure AbsT where
 size:Nat
 Q:World->Nat->(Nat->Option Nat)->Prop
 loc:∀{w w':World} {b:Nat} {φ:Nat->Option Nat},Q w b φ->w'.heap[b]?=w.heap[b]?->(∀j c,φ j=some c->w'.heap[c]?=w.heap[c]?)->Q w' b φ
 root:∀{w:World} {b:Nat} {φ:Nat->Option Nat},Q w b φ->∃cs e,w.heap[b]?=some (.cells cs e (0,0))/\cs.size=size
 lt:∀{w:World} {b:Nat} {φ:Nat->Option Nat},Q w b φ->∀j c,φ j=some c->c<w.heap.size
 view:List RV
 rp:∀{w:World} {b:Nat} {φ:Nat->Option Nat} (R:Nat->Prop),Q w b φ->R b->(∀j c,φ j=some c->R c) ->
  ∃g:Nat->Value,∀(j:Nat) (y:RV),view[j]?=some y->w.cell? ⟨b,0+j,none⟩=some (g j)/\(g j).oneCell'=true/\RelV w R y (g j)
inductive Ob where
 | box (cells:List AV)
 | row (sz:Nat) (z:RV) (app wr:Bool) (xs:List RV)
 | abs (T:AbsT)
 | map (es:List MapEntry) (clock:Nat)
 | iter (m:AV) (since:Nat) (seen:List Nat) (stepped:Nat)
def Ob.own:Ob->Bool
 | .box _=>true
 | .row _ _ _ wr _=>wr
 | .abs _=>true
 | .map _ _=>true
 | .iter _ _ _ _=>true
def Ob.pinned:Ob->Bool
 | .row _ _ app _ _=>!app
 | _=>true
def Ob.isRow:Ob->Bool
 | .row _ _ _ _ _=>true
 | _=>false
def par (id:Nat):Bool:=bif decide (1000000<=id) then decide (id<2000000) else false
variable {id:Nat}
theorem af7 (h:id<1000000):par id=false:=by unfold par; rw [decide_eq_false (by omega)]; rfl
def pw (w w':World) (b:Nat):Prop:=∀cs e fr,w.heap[b]?=some (.cells cs e fr)->∃a e' c,w'.heap[b]?=some (.cells a e' c)/\a.size=cs.size
theorem pw.refl (w:World) (b:Nat):pw w w b:=λ cs e fr h=>⟨cs,e,fr,h,rfl⟩
variable {k:Nat}
theorem pw.trans {a b c:World} (h:pw a b k) (g:pw b c k):pw a c k:=λ cs e fr q=>by
 obtain ⟨i,r,d,n,l⟩:=h cs e fr q;obtain ⟨j,p,f,m,o⟩:=g i r d n;exact ⟨j,p,f,m,o.trans l⟩
def Ob.isAbs:Ob->Bool
 | .abs _=>true
 | _=>false
def foot (ρ:Pl->Option Nat) (id:Nat) (o:Ob) (b:Nat):Prop:=ρ id=some b\/(o.isAbs=true/\∃j,ρ (.s id j)=some b)
variable {b:Nat}
theorem cg {ρ:Pl->Option Nat} {o:Ob} (h:o.isAbs=false):foot ρ id o b↔ρ id=some b:=by simp [foot,h]
variable {o':Ob}
theorem si {ρ ρ':Pl->Option Nat} {a:Nat} {o:Ob} (c:ρ' a=ρ id) (d:∀j,ρ' (.s a j)=ρ (.s id j)) (e:o'.isAbs=o.isAbs):foot ρ' a o' b↔foot ρ id o b:=by simp only [foot,c,d,e]
def va (ρ ρ':Pl->Option Nat) (i a:Nat):Prop:=ρ' (.o a)=ρ (.o i)/\∀j,ρ' (.s a j)=ρ (.s i j)
variable {i:Nat}
theorem va.foot {ρ ρ':Pl->Option Nat} {a:Nat} (h:va ρ ρ' i a) {o:Ob} (c:o'.isAbs=o.isAbs):foot ρ' a o' b↔foot ρ i o b:=si h.1 h.2 c
def m9 (ρ:Pl->Option Nat) (id:Nat) (b:Option Nat):Pl->Option Nat:=λ i=>if i=id then b else ρ i
variable {j:Nat}
theorem qz {ρ:Pl->Option Nat} {o:Ob} {x:Option Nat} (h:j≠id):foot (m9 ρ id x) j o b↔foot ρ j o b:=si (by simp [m9,h]) (by simp [m9]) rfl
abbrev Obs:=Nat->Option (Nat×Ob)
def aa9 (w:World) (ρ:Pl->Option Nat) (id:Nat) (a len:Nat) (c:Value):Ob->Prop
 | .box _=>∃A cap,c=.slice A len cap/\len<=cap/\cap<=maxLen /\
  (0<cap->∃b cs e fr,ρ id=some b/\A=some ⟨b,a,none⟩/\w.heap[b]?=some (.cells cs e fr)/\a+cap<=cs.size)
 | .abs _=>False
 | .map _ _=>False
 | .iter _ _ _ _=>False
 | .row sz _ _ _ xs=>∃A cap,c=.slice A len cap/\len<=cap/\cap<=maxLen/\a+len<=xs.length /\
  (0<cap->∃b cs e fr,ρ id=some b/\A=some ⟨b,a*sz,none⟩/\w.heap[b]?=some (.cells cs e fr)/\(a+cap)*sz<=cs.size)
def ay8 (ρ:Pl->Option Nat) (id idx off:Nat) (c:Value):Ob->Prop
 | .box _=>∃b,ρ id=some b/\c=.pointer (some ⟨b,idx+off,none⟩)
 | .abs _=>False
 | .map _ _=>False
 | .iter _ _ _ _=>False
 | .row sz _ _ _ xs=>idx<xs.length/\off<=sz/\∃b,ρ id=some b/\c=.pointer (some ⟨b,idx*sz+off,none⟩)
def At (ob:Obs) (id ver:Nat) (X:Ob->Prop):Prop:=∃v o,ob id=some (v,o)/\ver<=v/\(ver=v->X o)
section
variable (w:World) (R:Nat->Prop) (ob:Obs) (ρ:Pl->Option Nat)
inductive RelA:AV->Value->Prop where
 | r {x:RV} {c:Value} (h:RelV w R x c):RelA (.r x) c
 | agg (xs:List AV) (cs:Array Value) (hl:cs.size=xs.length) (h:∀(i:Nat) (x:AV) (c:Value),xs[i]?=some x->cs[i]?=some c->RelA x c):RelA (.agg xs) (.agg cs)
 | tup (xs:List AV) (cs:Array Value) (hl:cs.size=xs.length) (h:∀(i:Nat) (x:AV) (c:Value),xs[i]?=some x->cs[i]?=some c->RelA x c):RelA (.tup xs) (.tuple cs)
 | nils (sz:Nat) (z:RV):RelA (.nils sz z) (.slice none 0 0)
 | own (id ver lo len:Nat) (c:Value) (hc:c.oneCell'=true) (h:At ob id ver (aa9 w ρ id lo len c)):RelA (.own id ver lo len) c
 | ptr (id ver off:Nat) (c:Value) (hc:c.oneCell'=true) (h:At ob id ver λ _=>∃b,ρ id=some b/\c=.pointer (some ⟨b,off,none⟩)):RelA (.ptr id ver off) c
 | oel (id ver idx off:Nat) (c:Value) (hc:c.oneCell'=true) (h:At ob id ver (ay8 ρ id idx off c)):RelA (.oel id ver idx off) c
 | rp (ys:List RV) (b o:Nat) (g:Nat->Value) (hR:R b) (hg:∀(j:Nat) (y:RV),ys[j]?=some y->w.cell? ⟨b,o+j,none⟩=some (g j)/\(g j).oneCell'=true/\RelV w R y (g j)) :
  RelA (.rp ys) (.pointer (some ⟨b,o,none⟩))
 | fn (f:Fn) (xs:List AV) (k:Nat) (fs cs:Array Value) (hk:fs.size=k) (hl:fs.size+cs.size=xs.length) (h:∀(i:Nat) (x:AV) (c:Value),xs[i]?=some x->(fs++cs)[i]?=some c->RelA x c):RelA (.fn f xs k) (.func f fs cs)
 | mp (id ver:Nat) (c:Value) (hc:c.oneCell'=true) (h:At ob id ver λ _=>∃b,ρ id=some b/\c=.map (some b)):RelA (.mp id ver) c
 | ifc (t:TypeId) {x:AV} {c:Value} (h:RelA x c):RelA (.ifc t x) (.iface t c)
 | gd (b:Bool) {x:AV} {c:Value} (h:b=true->RelA x c) (hf:b=false->c=undef):RelA (.gd b x) c
 | undef (c:Value):RelA .undef c
end
def u5:Ob->Ob->Prop
 | .box _,.box _=>True
 | .abs T,.abs T'=>T'.size=T.size
 | .map _ _,.map _ _=>True
 | .iter _ _ _ _,.iter _ _ _ _=>True
 | .row sz _ _ _ xs,.row sz' _ _ _ xs'=>sz'=sz/\xs.length<=xs'.length
 | .row sz _ _ _ _,.box _=>sz=1
 | _,_=>False
theorem u5.refl (o:Ob):u5 o o:=by cases o<;>simp [u5]
structure Stays (w w':World) (R R':Nat->Prop) (ob ob':Obs) (ρ ρ':Pl->Option Nat):Prop where
 free:∀b,R b->R' b/\w'.heap[b]?=w.heap[b]?
 obj:∀id v o,ob id=some (v,o)->∃v' o',ob' id=some (v',o')/\v<=v'/\(v=v'->ρ' id=ρ id/\u5 o o' /\
  (∀b cs e fr,ρ id=some b->w.heap[b]?=some (.cells cs e fr)->∃cs' e' fr',w'.heap[b]?=some (.cells cs' e' fr')/\cs'.size=cs.size))
section
variable {w w':World} {R R':Nat->Prop} {ob ob':Obs} {ρ ρ':Pl->Option Nat}
theorem Stays.at_ (h:Stays w w' R R' ob ob' ρ ρ') {ver:Nat} {X d:Ob->Prop} (q:At ob id ver X)
 (hx:∀o o',X o->ρ' id=ρ id->u5 o o'->(∀b cs e fr,ρ id=some b->w.heap[b]?=some (.cells cs e fr)->∃a e' c,w'.heap[b]?=some (.cells a e' c)/\a.size=cs.size)->d o') :
 At ob' id ver d:=by
 obtain ⟨v,o,r,m,p⟩:=q;obtain ⟨l,o',f,i,g⟩:=h.obj id v o r;refine ⟨l,o',f,zan m i,λ e=>?_⟩;obtain ⟨n,j,k⟩:=g (by omega);exact hx o o' (p (by omega)) n j k
theorem RelA.stays (h:Stays w w' R R' ob ob' ρ ρ') {x:AV} (hx:RelA w R ob ρ x c):RelA w' R' ob' ρ' x c:=by
 induction hx with
 | r u=>exact .r (u.mono h.free)
 | agg xs cs hl _ ih=>exact .agg xs cs hl ih
 | tup xs cs hl _ ih=>exact .tup xs cs hl ih
 | nils sz z=>exact .nils sz z
 | own id ver lo len c hc ha=>
   refine .own id ver lo len c hc (h.at_ ha λ o o' i a d v=>?_);cases o with
   | box _=>
     cases o' with
     | box _=>
       obtain ⟨A,cap,q,n,p,E⟩:=i;refine ⟨A,cap,q,n,p,λ u=>?_⟩;obtain ⟨b,cs,e,fr,s,G,C,F⟩:=E u;obtain ⟨m,e',l,B,D⟩:=v b cs e fr s C;exact ⟨b,m,e',l,by rw [a,s],G,B,by rw [D]; exact F⟩
     | _=>exact d.elim
   | abs _=>exact i.elim
   | map _ _=>exact i.elim
   | iter _ _ _ _=>exact i.elim
   | row sz z1 a1 w1 xs=>
     cases o' with
     | box _=>
       obtain rfl:sz=1:=d;obtain ⟨A,cap,q,n,p,H,E⟩:=i;refine ⟨A,cap,q,n,p,λ u=>?_⟩;obtain ⟨b,cs,e,fr,s,G,C,F⟩:=E u;obtain ⟨m,e',l,B,D⟩:=v b cs e fr s C;exact ⟨b,m,e',l,by rw [a,s],by rw [G,Nat.mul_one],B,by rw [D]; simpa using F⟩
     | abs _=>exact d.elim
     | map _ _=>exact d.elim
     | iter _ _ _ _=>exact d.elim
     | row sz' z2 a2 w2 xs'=>
       obtain ⟨rfl,d⟩:=d;obtain ⟨A,cap,q,n,p,H,E⟩:=i;refine ⟨A,cap,q,n,p,by omega,λ u=>?_⟩;obtain ⟨b,cs,e,fr,s,G,C,F⟩:=E u;obtain ⟨m,e',l,B,D⟩:=v b cs e fr s C;exact ⟨b,m,e',l,by rw [a,s],G,B,by rw [D]; exact F⟩
 | ptr id ver off c hc ha=>exact .ptr id ver off c hc (h.at_ ha λ o o' i a d v=>by rw [a]; exact i)
 | oel id ver idx off c hc ha=>
   refine .oel id ver idx off c hc (h.at_ ha λ o o' i a d v=>?_);cases o with
   | box _=>
     cases o' with
     | box _=>
       obtain ⟨b,q,n⟩:=i;exact ⟨b,by rw [a]; exact q,n⟩
     | _=>exact d.elim
   | abs _=>exact i.elim
   | map _ _=>exact i.elim
   | iter _ _ _ _=>exact i.elim
   | row sz z1 a1 w1 xs=>
     cases o' with
     | box _=>
       obtain rfl:sz=1:=d;obtain ⟨q,n,b,p,H⟩:=i;exact ⟨b,by rw [a]; exact p,by rw [H,Nat.mul_one]⟩
     | abs _=>exact d.elim
     | map _ _=>exact d.elim
     | iter _ _ _ _=>exact d.elim
     | row sz' z2 a2 w2 xs'=>
       obtain ⟨rfl,d⟩:=d;obtain ⟨q,n,p⟩:=i;exact ⟨by omega,n,by rw [a]; exact p⟩
 | rp ys b o g hR hg=>
   refine .rp ys b o g (h.free b hR).1 λ j y I=>?_;obtain ⟨L,J,K⟩:=hg j y I;refine ⟨?_,J,K.mono h.free⟩;rw [<- L];simp only [World.cell?];rw [(h.free b hR).2]
 | fn f xs k fs cs d hl _ ih=>exact .fn f xs k fs cs d hl ih
 | mp id ver c hc ha=>exact .mp id ver c hc (h.at_ ha λ o o' i a d v=>by rw [a]; exact i)
 | ifc t _ ih=>exact .ifc t ih
 | gd b _ hf ih=>exact .gd b ih hf
 | undef c=>exact .undef c
end
structure St where
 e:Nat->AV
 ob:Obs
def Own (ob:Obs) (ρ:Pl->Option Nat) (b:Nat):Prop:=∃id v o,ob id=some (v,o)/\o.own=true/\foot ρ id o b
def d7 (B:Nat->Prop) (ob:Obs) (ρ:Pl->Option Nat) (w:World) (b:Nat):Prop:=b<w.heap.size/\¬Own ob ρ b/\B b
def bd (w:World) (R:Nat->Prop) (ob:Obs) (ρ:Pl->Option Nat) (id:Nat):Ob->Prop
 | .box cells=>∃b cs e,ρ id=some b/\w.heap[b]?=some (.cells cs e (0,0))/\cs.size=cells.length /\
  ∀(i:Nat) (x:AV) (c:Value),cells[i]?=some x->cs[i]?=some c->RelA w R ob ρ x c
 | .abs T=>∃b,ρ id=some b/\T.Q w b (λ j=>ρ (.s id j))
 | .map es clock=>∃b,ρ id=some b/\w.heap[b]?=some (.map es.toArray clock)
 | .iter m since seen stepped=>∃b m',ρ id=some b/\w.heap[b]?=some (.mapIter (some m') since seen.toArray stepped)/\RelA w R ob ρ m (.map (some m'))
 | .row sz _ app _ xs=>(xs=[]/\ρ id=none/\app=true)\/∃b cs e fr,ρ id=some b/\w.heap[b]?=some (.cells cs e fr) /\
  (∀k,k<cs.size->¬(fr.1<=k/\k<fr.2))/\(app=true->fr=(0,0))/\xs.length*sz<=cs.size /\
  ∀(i:Nat) (x:RV),xs[i]?=some x->x.cells.length=sz/\∀(j:Nat) (y:RV),x.cells[j]?=some y->∃c,cs[i*sz+j]?=some c/\c.oneCell'=true/\RelV w R y c
structure Keeps (I:Nat->Prop) (w w':World):Prop where
 os:w'.os=w.os
 tape:w'.tape=w.tape
 output:w'.output=w.output
 size:w.heap.size<=w'.heap.size
 block:∀b,b<w.heap.size->¬I b->w'.heap[b]?=w.heap[b]?
theorem Keeps.refl (I:Nat->Prop) (w:World):Keeps I w w:=⟨rfl,rfl,rfl,zaa _,λ _ _ _=>rfl⟩
theorem Keeps.trans {I:Nat->Prop} {a b c:World} (h:Keeps I a b) (k:Keeps I b c):Keeps I a c:=
 ⟨k.os.trans h.os,k.tape.trans h.tape,k.output.trans h.output,zan h.size k.size,λ i e d=>(k.block i (Nat.lt_of_lt_of_le e h.size) d).trans (h.block i e d)⟩
structure Cx where
 n:Nat
 I:Nat->Prop
 pn:Nat->Option Nat
 B:Nat->Prop
 w0:World
structure Mem (X:Cx) (ob:Obs) (ρ:Pl->Option Nat) (w:World):Prop where
 obj:∀id v o,ob id=some (v,o)->bd w (d7 X.B ob ρ w) ob ρ id o
 inj:∀id id' x x' b,ob id=some x->ob id'=some x'->foot ρ id x.2 b->foot ρ id' x'.2 b->id=id'
 keeps:Keeps X.I X.w0 w
 own:∀id v o b,ob id=some (v,o)->foot ρ id o b->X.I b\/X.w0.heap.size<=b
 pin:∀id b,X.pn id=some b->ρ id=some b/\∃o,ob id=some (0,o)/\o.pinned=true/\(o.isRow=true->pw X.w0 w b)
structure Gam (X:Cx) (s:St) (ρ:Pl->Option Nat) (a:Act) (w:World):Prop extends Mem X s.ob ρ w where
 sz:a.tmps.size=X.n
 df:a.defers=[]
 env:∀t,RelA w (d7 X.B s.ob ρ w) s.ob ρ (s.e t) (a.tmps.getD t undef)
 pnn:∀id,par id=false->X.pn id=none
 small:X.n<=100000
 base:∀b,X.I b\/X.w0.heap.size<=b->X.B b

inductive Opd where
 | t (n:Nat)
 | c (x:AV)
inductive PO where
 | mov (x:Opd)
 | pick (c a b:Opd)
 | bin (op:BinOp) (x y:Opd)
 | beq (neg:Bool) (x y:Opd)
 | eqn (neg:Bool) (x:Opd)
 | un (op:UnOp) (x:Opd)
 | conv (k:IntKind) (x:Opd)
 | toStr (x:Opd)
 | toBytes (z:RV) (x:Opd)
 | new (zs:List AV)
 | box (x:Opd)
 | build (zs:List AV) (ps:List (Nat×Nat×Opd))
 | mkf (f:Fn) (xs:List Opd) (k:Nat:=0)
 | eqa (neg:Bool) (ks:List Nat) (x y:Opd)
 | bsl (sz:Nat) (z:RV) (ps:List Opd)
 | ld (n:Option Nat) (x:Opd)
 | st (n:Nat) (x y:Opd)
 | nck (x:Opd)
 | fa (off:Nat) (x:Opd)
 | fld (off:Nat) (n:Option Nat) (x:Opd)
 | ia (sz:Nat) (z:RV) (x i:Opd)
 | ixs (x i:Opd)
 | sls (x:Opd) (lo hi:Option Opd)
 | sll (sz:Nat) (x:Opd) (lo hi mx:Option Opd)
 | mks (sz:Nat) (z:RV) (bytes:Nat) (l c:Opd)
 | len (str:Bool) (x:Opd)
 | app (sz:Nat) (z:RV) (bytes:Nat) (x y:Opd)
 | cpy (sz:Nat) (x y:Opd)
 | ext (x:Opd) (i:Nat)
 | mm (mx:Bool) (x:Opd) (ys:List Opd)
 | iaa (n sz:Nat) (x i:Opd)
 | carry (sub:Bool) (x y c:Opd)
 | lkp (str:Bool) (z:RV) (comma:Bool) (x i:Opd)
 | lenm (x:Opd)
 | mki (t:TypeId) (x:Opd)
 | tas (t:TypeId) (z:RV) (comma:Bool) (x:Opd)
 | ent (x:Opd)
 | mkm
 | mset (str:Bool) (x i y:Opd)
 | ment (str:Bool) (z:RV) (x i:Opd)
 | mest (x i y:Opd)
 | no
 | mdel (str:Bool) (x i:Opd)
 | rng (x:Opd)
 | mrk (x:Opd)
 | cps (x y:Opd)
 | sla (n:Nat) (x:Opd)
 | clr (sz:Nat) (z:RV) (x:Opd)
structure Rs where
 ok:Prop
 v:AV
 ob:Obs
 rd:List Nat
 wr:List Nat
abbrev Env:=Nat->AV
def put (d:Nat) (x:AV) (e:Env):Env:=λ n=>if n=d then x else e n
def upd (id:Nat) (x:Nat×Ob) (ob:Obs):Obs:=λ n=>if n=id then some x else ob n
def Opd.ev (e:Env):Opd->AV
 | .t n=>e n
 | .c x=>x
abbrev bl (b:Bool):AV:=.r (.v (.bool b))
abbrev int (k:IntKind) (n:Int):AV:=.r (.v (.int k n))
abbrev Vs:=Prop×AV
def Rs.and (p:Prop) (r:Rs):Rs:=⟨p/\r.ok,r.v,r.ob,r.rd,r.wr⟩
def bad (g:Bool):Vs:=(g=true->False,.undef)
def p9 (g:Bool) (id:Nat) (ob:Obs):Rs:=⟨g=true->False,.undef,ob,[id],[]⟩
def AV.bare:AV->AV
 | .gd _ x=>x
 | x=>x
def AV.may (g:Bool):AV->Prop
 | .gd b _=>g=true->b=true
 | _=>True
def Vs.q (ob:Obs) (p:Prop) (v:Vs):Rs:=⟨p/\v.1,v.2,ob,[],[]⟩
def nv (ob:Obs) (id:Nat):Nat:=match ob id with | some (v,_)=>v+1 | none=>0
def yy (g:Bool) (op:BinOp) (k c:IntKind) (a b:Int):Vs:=
 match op with
 | .add=>(k=c,int k (k.wrap (a+b)))
 | .sub=>(k=c,int k (k.wrap (a-b)))
 | .mul=>(k=c,int k (k.wrap (a*b)))
 | .quo=>(k=c/\(g=true->¬b=0),int k (k.wrap (a.tdiv b)))
 | .rem=>(k=c/\(g=true->¬b=0),int k (a.tmod b))
 | .and=>(k=c,int k (k.wrap ((zac k.bits a &&& zac k.bits b).toNat)))
 | .or=>(k=c,int k (k.wrap ((zac k.bits a ||| zac k.bits b).toNat)))
 | .xor=>(k=c,int k (k.wrap ((zac k.bits a ^^^ zac k.bits b).toNat)))
 | .andNot=>(k=c,int k (k.wrap ((zac k.bits a &&& ~~~ zac k.bits b).toNat)))
 | .eql=>(k=c,bl (a == b))
 | .neq=>(k=c,bl (a != b))
 | .lss=>(k=c,bl (decide (a<b)))
 | .gtr=>(k=c,bl (decide (a>b)))
 | .leq=>(k=c,bl (decide (a<=b)))
 | .geq=>(k=c,bl (decide (a>=b)))
 | .shl=>((g=true->0<=b),int k (k.wrap (a*2^(min b.toNat k.bits))))
 | .shr=>((g=true->0<=b),int k (a.fdiv (2^(min b.toNat k.bits))))
abbrev amz (a:ByteArray):AV:=.r (.v (.string a))
def yx (g:Bool) (op:BinOp) (a b:ByteArray):Vs:=
 match op with
 | .add=>((g=true->a.size+b.size<=9223372036854775807),amz (a++b))
 | .eql=>(True,bl (a.toList == b.toList))
 | .neq=>(True,bl (!(a.toList == b.toList)))
 | .lss=>(True,bl (Op.bytesLess a.toList b.toList))
 | .geq=>(True,bl (!Op.bytesLess a.toList b.toList))
 | _=>bad g
def ur (g:Bool) (op:BinOp):AV->AV->Vs
 | .r (.v (.int k a)),.r (.v (.int k' b))=>yy g op k k' a b
 | .r (.v (.string a)),.r (.v (.string b))=>yx g op a b
 | _,_=>bad g
def nq (g:Bool):AV->AV->AV->Vs
 | .r (.v (.bool c)),.r (.v (.bool a)),.r (.v (.bool b))=>(True,bl (bif c then a else b))
 | .r (.v (.bool c)),.gd h (.r (.v (.bool a))),.r (.v (.bool b))=>((g=true->c=true->h=true),bl (bif c then a else b))
 | .r (.v (.bool c)),.r (.v (.bool a)),.gd h (.r (.v (.bool b)))=>((g=true->c=false->h=true),bl (bif c then a else b))
 | .r (.v (.bool c)),.r (.v (.bool a)),.undef=>((g=true->c=true),bl a)
 | .r (.v (.bool c)),.undef,.r (.v (.bool b))=>((g=true->c=false),bl b)
 | .r (.v (.bool c)),.gd h .undef,.r (.v (.bool b))=>((g=true->c=false),bl b)
 | .r (.v (.bool c)),.r (.v (.bool a)),.gd h .undef=>((g=true->c=true),bl a)
 | _,_,_=>bad g
def ut (g c:Bool):AV->AV->Vs
 | .r (.v (.bool a)),.r (.v (.bool b))=>(True,bl (bif c then !(a == b) else (a == b)))
 | _,_=>bad g
def un1 (g:Bool) (op:UnOp):AV->Vs
 | .r (.v (.int k n))=>match op with
   | .neg=>(True,int k (k.wrap (0-n)))
   | .xor=>(True,int k (k.wrap ((zac k.bits (if k.signed then -1 else k.max) ^^^ zac k.bits n).toNat)))
   | _=>bad g
 | .r (.v (.bool b))=>match op with
   | .not=>(True,bl !b)
   | _=>bad g
 | _=>bad g
def oe (g:Bool) (k:IntKind):AV->Vs
 | .r (.v (.int _ n))=>(True,int k (k.wrap n))
 | _=>bad g
def i8 (ob:Obs) (id ver:Nat):Option (Nat×RV×Bool×Bool×List RV):=
 match ob id with
 | some (v,.row sz z app wr xs)=>if ver=v then some (sz,z,app,wr,xs) else none
 | _=>none
def n7 (ob:Obs) (id ver:Nat):Option (List AV):=
 match ob id with
 | some (v,.box cells)=>if ver=v then some cells else none
 | _=>none
def ea (ob:Obs) (id ver:Nat):Option Unit:=
 match ob id with
 | some (v,.box _)=>if ver=v then some () else none
 | some (v,.abs _)=>if ver=v then some () else none
 | _=>none
def leb (g str:Bool) (id n:Nat) (ob:Obs):Option (List AV)->Rs
 | some _=>⟨str=false,int .i64 n,ob,[id],[]⟩
 | none=>p9 g id ob
def qi (g str:Bool):AV->Obs->Rs
 | .r (.sl _ xs),ob=>Vs.q ob (str=false) (True,int .i64 xs.length)
 | .r (.v (.string s)),ob=>Vs.q ob (str=true) (True,int .i64 s.size)
 | .nils _ _,ob=>Vs.q ob (str=false) (True,int .i64 0)
 | .own id ver _ n,ob=>match i8 ob id ver with
   | some _=>⟨str=false,int .i64 n,ob,[id],[]⟩
   | none=>leb g str id n ob (n7 ob id ver)
 | _,ob=>Vs.q ob True (bad g)
def iab (g:Bool) (sz id ver a n:Nat) (i:Int) (ob:Obs):Option (List AV)->Rs
 | some _=>⟨sz=1/\(g=true->0<=i/\i<n),.ptr id ver (a+i.toNat),ob,[id],[]⟩
 | none=>p9 g id ob
def ia2 (g:Bool) (sz:Nat) (z:RV):AV->AV->Obs->Rs
 | .r (.sl sz' xs),.r (.v (.int _ i)),ob=>Vs.q ob (sz'=sz) ((g=true->0<=i/\i<xs.length),.rp (xs.getD i.toNat z).cells)
 | .own id ver lo n,.r (.v (.int _ i)),ob=>match i8 ob id ver with
   | some (sz',_)=>⟨sz'=sz/\(g=true->0<=i/\i<n),.oel id ver (lo+i.toNat) 0,ob,[id],[]⟩
   | none=>iab g sz id ver lo n i ob (n7 ob id ver)
 | _,_,ob=>Vs.q ob True (bad g)
def uj (g:Bool):AV->AV->Vs
 | .r (.v (.string s)),.r (.v (.int _ i))=>((g=true->0<=i/\i<s.size),int .u8 (s.data.toList.getD i.toNat 0).toNat)
 | _,_=>bad g
def ldb (id:Nat) (ob:Obs) (g:Bool) (n:Option Nat) (off:Nat):Option (List AV)->Rs
 | some cells=>match n with
   | none=>⟨g=true->off<cells.length,cells.getD off .undef,ob,[id],[]⟩
   | some n=>⟨g=true->off+n<=cells.length,.agg ((cells.drop off).take n),ob,[id],[]⟩
 | none=>p9 g id ob
def ldr (id:Nat) (ob:Obs) (g:Bool) (n:Option Nat) (idx off:Nat):Option (Nat×RV×Bool×Bool×List RV)->Rs
 | some (sz,z,_,_,xs)=>match n with
   | none=>⟨g=true->off<sz,.r ((xs.getD idx z).cells.getD off (.v (.bool false))),ob,[id],[]⟩
   | some n=>⟨g=true->off+n<=sz,.r (.agg (((xs.getD idx z).cells.drop off).take n)),ob,[id],[]⟩
 | none=>p9 g id ob
def ld1 (g:Bool) (n:Option Nat):AV->Obs->Rs
 | .ptr id ver off,ob=>ldb id ob g n off (n7 ob id ver)
 | .oel id ver idx off,ob=>ldr id ob g n idx off (i8 ob id ver)
 | .rp ys,ob=>match n with
   | none=>Vs.q ob True ((g=true->0<ys.length),.r (ys.getD 0 (.v (.bool false))))
   | some n=>Vs.q ob True ((g=true->n<=ys.length),.r (.agg (ys.take n)))
 | _,ob=>Vs.q ob True (bad g)
def sb (g:Bool):AV->Obs->Rs
 | .ptr id ver off,ob=>match ea ob id ver with
   | some _=>⟨True,.ptr id ver off,ob,[id],[]⟩
   | none=>p9 g id ob
 | .oel id ver idx off,ob=>match i8 ob id ver with
   | some _=>⟨True,.oel id ver idx off,ob,[id],[]⟩
   | none=>p9 g id ob
 | .rp ys,ob=>Vs.q ob True (True,.rp ys)
 | .fn (.func f) xs k,ob=>Vs.q ob True (True,.fn (.func f) xs k)
 | _,ob=>Vs.q ob True (bad g)
def sj (g a:Bool):AV->Obs->Rs
 | .ptr id ver _,ob=>match ea ob id ver with
   | some _=>⟨True,bl a,ob,[id],[]⟩
   | none=>p9 g id ob
 | .r (.v (.pointer none)),ob=>Vs.q ob True (True,bl !a)
 | _,ob=>Vs.q ob True (bad g)
def fa1 (g:Bool) (off:Nat):AV->Obs->Rs
 | .ptr id ver o,ob=>match n7 ob id ver with
   | some _=>⟨True,.ptr id ver (o+off),ob,[id],[]⟩
   | none=>p9 g id ob
 | .oel id ver idx o,ob=>match i8 ob id ver with
   | some (sz,_)=>⟨g=true->o+off<=sz,.oel id ver idx (o+off),ob,[id],[]⟩
   | none=>p9 g id ob
 | .rp ys,ob=>Vs.q ob True (True,.rp (ys.drop off))
 | _,ob=>Vs.q ob True (bad g)
def ul (g:Bool) (off:Nat) (n:Option Nat) (x:AV):Vs:=
 match x with
 | .agg cs=>match n with
   | none=>((g=true->off<cs.length),cs.getD off .undef)
   | some n=>((g=true->off+n<=cs.length),.agg ((cs.drop off).take n))
 | .r (.agg cs)=>match n with
   | none=>((g=true->off<cs.length),.r (cs.getD off (.v (.bool false))))
   | some n=>((g=true->off+n<=cs.length),.r (.agg ((cs.drop off).take n)))
 | _=>bad g
def bnd (d:Int):Option AV->Option Int
 | none=>some d
 | some (.r (.v (.int _ i)))=>some i
 | _=>none
def uc (g:Bool):AV->Option AV->Option AV->Vs
 | .r (.v (.string s)),lo,hi=>match bnd 0 lo,bnd s.size hi with
   | some l,some h=>((g=true->0<=l/\l<=h/\h<=s.size),amz (s.extract l.toNat h.toNat))
   | _,_=>bad g
 | _,_,_=>bad g
def ox (g:Bool) (sz:Nat):AV->Option AV->Option AV->Option AV->Obs->Rs
 | .r (.sl sz' xs),lo,hi,mx,ob=>match bnd 0 lo,bnd xs.length hi,bnd xs.length mx with
   | some l,some h,some m=>Vs.q ob (sz'=sz) ((g=true->0<=l/\l<=h/\h<=m/\m<=xs.length),.r (.sl sz ((xs.take h.toNat).drop l.toNat)))
   | _,_,_=>Vs.q ob True (bad g)
 | .own id ver lo0 n,lo,hi,mx,ob=>match bnd 0 lo,bnd n hi,bnd n mx with
   | some l,some h,some m=>match i8 ob id ver with
     | some (sz',_)=>⟨sz'=sz/\(g=true->0<=l/\l<=h/\h<=m/\m<=n),.own id ver (lo0+l.toNat) (h-l).toNat,ob,[id],[]⟩
     | none=>p9 g id ob
   | _,_,_=>Vs.q ob True (bad g)
 | _,_,_,_,ob=>Vs.q ob True (bad g)
def vw (g:Bool) (id ver off n:Nat) (ob:Obs):Option (List AV)->Rs
 | some cells=>⟨g=true->off+n<=cells.length/\n<=maxLen,.own id ver off n,ob,[id],[]⟩
 | none=>p9 g id ob
def qc (g:Bool) (n:Nat):AV->Obs->Rs
 | .ptr id ver off,ob=>vw g id ver off n ob (n7 ob id ver)
 | _,ob=>Vs.q ob True (bad g)
def um (g:Bool) (i:Nat):AV->Vs
 | .tup xs=>(i<xs.length,xs.getD i .undef)
 | _=>bad g
def b7 {a:Type} (l:List a) (i:Nat) (m:List a):List a:=l.take i++m++l.drop (i+m.length)
def src (ob:Obs):AV->Option (Nat×List RV×List Nat)
 | .r (.sl sz xs)=>some (sz,xs,[])
 | .nils sz _=>some (sz,[],[])
 | .own id ver lo len=>match i8 ob id ver with
   | some (sz,_,_,_,xs)=>some (sz,(xs.drop lo).take len,[id])
   | none=>none
 | _=>none
def adt:RV->UInt8
 | .v (.int _ n)=>UInt8.ofNat n.toNat
 | _=>0
def aj2:RV->Bool
 | .v (.int .u8 n)=>decide (0<=n/\n<256)
 | _=>false
def AV.one:AV->Bool
 | .r x=>x.one
 | .agg _=>false
 | .tup _=>false
 | .gd _ _=>false
 | .undef=>false
 | _=>true
def AV.boxable:AV->Bool
 | .agg _=>true
 | .r (.agg _)=>true
 | x=>x.one
def em (ob:Obs):Option (Nat×List RV×List Nat)->Rs
 | some (sz,ys,rd)=>⟨sz=1/\ys.all aj2=true,amz ⟨(ys.map adt).toArray⟩,ob,rd,[]⟩
 | none=>Vs.q ob False (False,.undef)
def br (g:Bool) (e:Env):List AV->List (Nat×Nat×Opd)->Vs
 | zs,[]=>(True,.agg zs)
 | zs,(off,n,x)::r=>((x.ev e).may g/\(g=true->(x.ev e).bare.boxable=true/\(x.ev e).bare.cells.length=n/\off+n<=zs.length)/\(br g e (b7 zs off (x.ev e).bare.cells) r).1,(br g e (b7 zs off (x.ev e).bare.cells) r).2)
def l5 (e:Env):List Opd->List AV
 | []=>[]
 | x::xs=>(x.ev e).bare::l5 e xs
def ah (g:Bool) (e:Env):List Opd->Prop
 | []=>True
 | x::xs=>(x.ev e).may g/\ah g e xs
def eq2:Nat->AV->AV->Option Bool
 | 0,.r (.v (.int k a)),.r (.v (.int k' b))=>if k=k' then some (a == b) else none
 | 1,.r (.v (.bool a)),.r (.v (.bool b))=>some (a == b)
 | 2,.r (.v (.string a)),.r (.v (.string b))=>some (a.toList == b.toList)
 | _,_,_=>none
def eql:List Nat->List AV->List AV->Option Bool
 | [],[],[]=>some true
 | k::ks,x::xs,y::ys=>match eq2 k x y,eql ks xs ys with
   | some a,some b=>some (a&&b)
   | _,_=>none
 | _,_,_=>none
def AV.isA:AV->Bool
 | .agg _=>true
 | .r (.agg _)=>true
 | _=>false
def wg (g a:Bool):Option Bool->Vs
 | some b=>(True,bl (bif a then !b else b))
 | none=>bad g
def mmL (g c:Bool):AV->List AV->Vs
 | x,[]=>(True,x)
 | .r (.v (.int k a)),.r (.v (.int k' b))::ys=>mmL g c (int k (bif c then max a b else min a b)) ys
 | _,_=>bad g
def jd (g:Bool) (n sz:Nat):AV->AV->Obs->Rs
 | .ptr id ver o,.r (.v (.int _ i)),ob=>match n7 ob id ver with
   | some _=>⟨g=true->0<=i/\i<n,.ptr id ver (o+i.toNat*sz),ob,[id],[]⟩
   | none=>p9 g id ob
 | .oel id ver idx o,.r (.v (.int _ i)),ob=>match i8 ob id ver with
   | some (sz',_)=>⟨g=true->0<=i/\i<n/\o+n*sz<=sz',.oel id ver idx (o+i.toNat*sz),ob,[id],[]⟩
   | none=>p9 g id ob
 | .rp ys,.r (.v (.int _ i)),ob=>Vs.q ob True ((g=true->0<=i/\i<n),.rp (ys.drop (i.toNat*sz)))
 | _,_,ob=>Vs.q ob True (bad g)
def io (g a:Bool):AV->AV->AV->Vs
 | .r (.v (.int .u64 x)),.r (.v (.int .u64 y)),.r (.v (.int .u64 c))=>((g=true->0<=x/\0<=y/\0<=c/\c<=1/\x<18446744073709551616/\y<18446744073709551616),
  bif a then .tup [int .u64 ((x+18446744073709551616-y-c)%18446744073709551616),int .u64 (if x<y+c then 1 else 0)]
  else .tup [int .u64 ((x+y+c)%18446744073709551616),int .u64 ((x+y+c)/18446744073709551616)])
 | _,_,_=>bad g
def bj (str:Bool):Value->Bool
 | .int _ _=>!str
 | .string _=>str
 | _=>false
def la:Value->Value->Option Bool
 | .int k a,.int k' b=>if k=k' then some (a == b) else none
 | .string a,.string b=>some (a == b)
 | _,_=>none
def ab (k:Value):List MapEntry->Nat->Option (Option (Nat×Value))
 | [],_=>some none
 | e::es,i=>match la k e.key with
   | some true=>some (some (i,e.val))
   | some false=>ab k es (i+1)
   | none=>none
def okK (es:List MapEntry) (k:Value):Bool:=(ab k es 0).isSome
def gp:Value->RV
 | .agg cs=>.agg (cs.toList.map .v)
 | x=>.v x
def lkR (es:List MapEntry) (k:Value) (z:RV):RV:=match ab k es 0 with
 | some (some (_,v))=>gp v
 | _=>z
def lkB (es:List MapEntry) (k:Value):Bool:=match ab k es 0 with
 | some (some _)=>true
 | _=>false
def z0 (es:List MapEntry) (a:Nat) (k v:Value):List MapEntry:=match ab k es 0 with
 | some (some (i,_))=>es.modify i λ e=>{ e with key:=k,val:=v }
 | _=>es++[⟨k,v,a⟩]
def v9 (es:List MapEntry) (a:Nat) (k:Value):Nat:=match ab k es 0 with
 | some (some _)=>a
 | _=>a+1
def xk (es:List MapEntry) (a:Nat) (k:Value):Int:=match ab k es 0 with
 | some (some (i,_))=>((((es[i]?).map (·.born)).getD 0:Nat):Int)
 | _=>a
def xl (es:List MapEntry) (a:Nat) (k z:Value):List MapEntry:=match ab k es 0 with
 | some (some (i,_))=>es.modify i λ e=>{ e with key:=k }
 | _=>es++[⟨k,z,a⟩]
def agf (es:List MapEntry) (n:Int) (v:Value):List MapEntry:=match es.findIdx? (λ e=>(e.born:Int) == n) with
 | some i=>es.modify i λ e=>{ e with val:=v }
 | none=>es
def anm (es:List MapEntry) (n:Int):Bool:=(es.findIdx? λ e=>(e.born:Int) == n).isSome
def z5 (es:List MapEntry) (k:Value):List MapEntry:=match ab k es 0 with
 | some (some (i,_))=>es.eraseIdx i
 | _=>es
def tw:List RV->Option (List Value)
 | []=>some []
 | .v x::xs=>match tw xs with
   | some l=>some (x::l)
   | none=>none
 | _=>none
def tx:List AV->Option (List Value)
 | []=>some []
 | .r (.v x)::xs=>match tx xs with
   | some l=>some (x::l)
   | none=>none
 | _=>none
def ic:Option (List Value)->Option Value
 | some l=>some (.agg l.toArray)
 | none=>none
def toV:AV->Option Value
 | .r (.v x)=>some x
 | .r (.agg xs)=>ic (tw xs)
 | .agg xs=>ic (tx xs)
 | _=>none
def o3 (ob:Obs) (id ver:Nat):Option (List MapEntry×Nat):=
 match ob id with
 | some (v,.map es c)=>if ver=v then some (es,c) else none
 | _=>none
def aw (ob:Obs) (id ver:Nat):Option (AV×Nat×List Nat×Nat):=
 match ob id with
 | some (v,.iter m since seen st)=>if ver=v then some (m,since,seen,st) else none
 | _=>none
def oy (g:Bool) (id:Nat) (ob:Obs) (f:List MapEntry->Vs):Option (List MapEntry×Nat)->Rs
 | some (es,_)=>⟨(f es).1,(f es).2,ob,[id],[]⟩
 | none=>p9 g id ob
def se (g str:Bool) (z:RV) (a:Bool):AV->AV->Obs->Rs
 | .mp id ver,.r (.v k),ob=>oy g id ob (λ es=>((g=true->bj str k=true/\okK es k=true),bif a then .tup [.r (lkR es k z),bl (lkB es k)] else .r (lkR es k z))) (o3 ob id ver)
 | _,_,ob=>Vs.q ob True (bad g)
def li (g:Bool):AV->Obs->Rs
 | .mp id ver,ob=>oy g id ob (λ es=>(True,int .i64 es.length)) (o3 ob id ver)
 | _,ob=>Vs.q ob True (bad g)
def tz (g:Bool) (t:TypeId) (z:RV) (a:Bool):AV->Vs
 | .ifc t' x=>((g=true->t'=t\/a=true),if t'=t then (bif a then .tup [x,bl true] else x) else .tup [.r z,bl false])
 | _=>bad g
def akf (es:List MapEntry) (a:List Nat):Option MapEntry:=match a.getLast? with
 | some b=>es.find? λ e=>e.born == b
 | none=>none
def wh:Option MapEntry->AV
 | some e=>.tup [.r (gp e.key),.r (gp e.val)]
 | none=>.undef
def qj (g:Bool) (id b:Nat) (ob:Obs) (a:List Nat) (d:Nat):Option (List MapEntry×Nat)->Rs
 | some (es,c)=>⟨g=true->c=d/\(akf es a).isSome=true,wh (akf es a),ob,[id,b],[]⟩
 | none=>⟨g=true->False,.undef,ob,[id,b],[]⟩
def pe (g:Bool) (id:Nat) (ob:Obs):Option (AV×Nat×List Nat×Nat)->Rs
 | some (.mp mid mver,_,seen,st)=>qj g id mid ob seen st (o3 ob mid mver)
 | _=>p9 g id ob
def qk (g:Bool):AV->Obs->Rs
 | .ptr id ver 0,ob=>pe g id ob (aw ob id ver)
 | _,ob=>Vs.q ob True (bad g)
def PO.see (g:Bool) (e:Env) (ob:Obs):PO->Rs
 | .mov x=>Vs.q ob ((x.ev e).may g) (True,(x.ev e).bare)
 | .pick c a b=>Vs.q ob ((c.ev e).may g) (nq g (c.ev e).bare (a.ev e) (b.ev e))
 | .bin op x y=>Vs.q ob ((x.ev e).may g/\(y.ev e).may g) (ur g op (x.ev e).bare (y.ev e).bare)
 | .beq neg x y=>Vs.q ob ((x.ev e).may g/\(y.ev e).may g) (ut g neg (x.ev e).bare (y.ev e).bare)
 | .eqn neg x=>Rs.and ((x.ev e).may g) (sj g neg (x.ev e).bare ob)
 | .un op x=>Vs.q ob ((x.ev e).may g) (un1 g op (x.ev e).bare)
 | .conv k x=>Vs.q ob ((x.ev e).may g) (oe g k (x.ev e).bare)
 | .len str x=>Rs.and ((x.ev e).may g) (qi g str (x.ev e).bare ob)
 | .ia sz z x i=>Rs.and ((x.ev e).may g/\(i.ev e).may g) (ia2 g sz z (x.ev e).bare (i.ev e).bare ob)
 | .ixs x i=>Vs.q ob ((x.ev e).may g/\(i.ev e).may g) (uj g (x.ev e).bare (i.ev e).bare)
 | .ld n x=>Rs.and ((x.ev e).may g) (ld1 g n (x.ev e).bare ob)
 | .nck x=>Rs.and ((x.ev e).may g) (sb g (x.ev e).bare ob)
 | .fa off x=>Rs.and ((x.ev e).may g) (fa1 g off (x.ev e).bare ob)
 | .fld off n x=>Vs.q ob ((x.ev e).may g) (ul g off n (x.ev e).bare)
 | .sls x lo hi=>Vs.q ob ((x.ev e).may g/\mayO g e lo/\mayO g e hi) (uc g (x.ev e).bare (bareO e lo) (bareO e hi))
 | .sll sz x lo hi mx=>Rs.and ((x.ev e).may g/\mayO g e lo/\mayO g e hi/\mayO g e mx) (ox g sz (x.ev e).bare (bareO e lo) (bareO e hi) (bareO e mx) ob)
 | .sla n x=>Rs.and ((x.ev e).may g) (qc g n (x.ev e).bare ob)
 | .ext x i=>Vs.q ob ((x.ev e).may g) (um g i (x.ev e).bare)
 | .toStr x=>Rs.and ((x.ev e).may g) (em ob (src ob (x.ev e).bare))
 | .build zs ps=>Vs.q ob True (br g e zs ps)
 | .mkf f xs k=>Vs.q ob (ah g e xs) (True,.fn f (l5 e xs) k)
 | .eqa neg ks x y=>Vs.q ob ((x.ev e).may g/\(y.ev e).may g/\(g=true->(x.ev e).bare.isA=true/\(y.ev e).bare.isA=true)) (wg g neg (eql ks (x.ev e).bare.cells (y.ev e).bare.cells))
 | .mm mx x ys=>Vs.q ob ((x.ev e).may g/\ah g e ys) (mmL g mx (x.ev e).bare (l5 e ys))
 | .iaa n sz x i=>Rs.and ((x.ev e).may g/\(i.ev e).may g) (jd g n sz (x.ev e).bare (i.ev e).bare ob)
 | .carry sub x y c=>Vs.q ob ((x.ev e).may g/\(y.ev e).may g/\(c.ev e).may g) (io g sub (x.ev e).bare (y.ev e).bare (c.ev e).bare)
 | .lkp str z comma x i=>Rs.and ((x.ev e).may g/\(i.ev e).may g) (se g str z comma (x.ev e).bare (i.ev e).bare ob)
 | .lenm x=>Rs.and ((x.ev e).may g) (li g (x.ev e).bare ob)
 | .mki t x=>Vs.q ob ((x.ev e).may g) (True,.ifc t (x.ev e).bare)
 | .tas t z comma x=>Vs.q ob ((x.ev e).may g) (tz g t z comma (x.ev e).bare)
 | .ent x=>Rs.and ((x.ev e).may g) (qk g (x.ev e).bare ob)
 | .no=>Vs.q ob True (bad g)
 | _=>Vs.q ob False (False,.undef)
where
 mayO (g:Bool) (e:Env):Option Opd->Prop
  | none=>True
  | some x=>(x.ev e).may g
 bareO (e:Env):Option Opd->Option AV
  | none=>none
  | some x=>some (x.ev e).bare
def AV.rv (ob:Obs):AV->Option (RV×List Nat)
 | .r x=>some (x,[])
 | .nils sz _=>some (.sl sz [],[])
 | .own id ver lo len=>match i8 ob id ver with
   | some (sz,_,_,_,xs)=>some (.sl sz ((xs.drop lo).take len),[id])
   | none=>none
 | _=>none
def rvs (ob:Obs):List AV->Option (List RV×List Nat)
 | []=>some ([],[])
 | x::xs=>match x.rv ob,rvs ob xs with
   | some (y,i),some (ys,j)=>some (y::ys,i++j)
   | _,_=>none
def AV.elt (ob:Obs):AV->Option (RV×List Nat)
 | .agg xs=>match rvs ob xs with
   | some (ys,i)=>some (.agg ys,i)
   | none=>none
 | x=>x.rv ob
def frz (ob:Obs) (i:Nat):Option (Nat×Ob)->Obs
 | some (v,.row sz z app _ xs)=>upd i (v,.row sz z app false xs) ob
 | _=>ob
def freeze (ob:Obs):List Nat->Obs
 | []=>ob
 | i::is=>freeze (frz ob i (ob i)) is
def u4 (ob:Obs):Rs:=⟨False,.undef,ob,[],[]⟩
def m7 (ob:Obs) (d:Nat) (x:Ob) (y:Nat->AV) (ok:Prop) (rd a:List Nat):Rs:=⟨ok,y (nv ob d),upd d (nv ob d,x) ob,d::rd,d::a⟩
def RV.good (sz:Nat) (x:RV):Bool:=x.cells.length == sz&&x.cells.all (·.one)
def stb (id:Nat) (ver:Nat) (ob:Obs) (n off:Nat) (y:List AV):Option (List AV)->Rs
 | some cells=>⟨y.length=n/\off+n<=cells.length/\y.all (·.one)=true,.undef,upd id (ver,.box (b7 cells off y)) ob,[id],[id]⟩
 | none=>u4 ob
def str (id:Nat) (ver:Nat) (ob:Obs) (n idx off:Nat) (y:List RV):Option (Nat×RV×Bool×Bool×List RV)->Rs
 | some (sz,z,app,wr,xs)=>
   ⟨y.length=n/\off+n<=sz/\wr=true/\y.all (·.one)=true,.undef,
    upd id (ver,.row sz z app wr (xs.set idx (match xs.getD idx z with | .agg cs=>.agg (b7 cs off y) | x=>y.getD 0 x))) ob,[id],[id]⟩
 | none=>u4 ob
def st2 (n:Nat) (x y:AV) (ob:Obs):Rs:=match x with
 | .ptr id ver off=>Rs.and (y.boxable=true) (stb id ver ob n off y.cells (n7 ob id ver))
 | .oel id ver idx off=>match rvs ob y.cells with
   | some (ys,[])=>Rs.and (y.boxable=true) (str id ver ob n idx off ys (i8 ob id ver))
   | _=>u4 ob
 | _=>u4 ob
def pf (d:Nat) (ob:Obs) (sz:Nat) (z:RV) (a:Nat):AV->Option (Nat×List RV×List Nat)->Rs
 | .nils sz' _,some (sy,ys,rd)=>m7 ob d (.row sz z true true ys) (λ v=>.own d v 0 ys.length) (sz'=sz/\sy=sz/\ys.length*a<=140737488355328/\ys.length<=maxLen) rd []
 | .own id ver 0 len,some (sy,ys,rd)=>match i8 ob id ver with
   | some (sz',z',app,wr,xs)=>⟨sz'=sz/\sy=sz/\(app || !par id)=true/\wr=true/\(len+ys.length)*a<=140737488355328/\len+ys.length<=maxLen,
    .own id (ver+1) 0 (len+ys.length),upd id (ver+1,.row sz z' app wr (xs.take len++ys)) ob,id::rd,[id]⟩
   | none=>u4 ob
 | _,_=>u4 ob
def spl {a:Type} (l:List a) (i:Nat) (m:List a):List a:=b7 l i m
def qm (ob:Obs) (sz:Nat):AV->Option (Nat×List RV×List Nat)->Rs
 | .own id ver lo n,some (sy,ys,rd)=>match i8 ob id ver with
   | some (sz',z',app,wr,xs)=>⟨sz'=sz/\sy=sz/\wr=true,int .i64 ((Nat.min ys.length n:Nat):Int),upd id (ver,.row sz z' app wr (spl xs lo (ys.take n))) ob,id::rd,[id]⟩
   | none=>u4 ob
 | _,_=>u4 ob
def y8 (e:Env) (ob:Obs) (g:Bool):List Opd->Option (Prop×List RV×List Nat)
 | []=>some (True,[],[])
 | x::xs=>match (x.ev e).bare.elt ob,y8 e ob g xs with
   | some (y,i),some (p,ys,j)=>some ((x.ev e).may g/\p,y::ys,i++j)
   | _,_=>none
def aah (l:Int) (z:RV):List RV:=List.replicate l.toNat z
def dt (d:Nat) (z:RV) (ob:Obs):AV->Rs
 | .r (.v (.string s))=>m7 ob d (.row 1 z false true (s.data.toList.map λ b=>.v (.int .u8 b.toNat))) (λ v=>.own d v 0 s.size) (s.size<=maxLen) [] []
 | _=>u4 ob
def yn (d:Nat) (sz:Nat) (z:RV) (a:Nat) (ob:Obs):AV->AV->Rs
 | .r (.v (.int _ l)),.r (.v (.int _ c))=>m7 ob d (.row sz z true true (aah l z)) (λ v=>.own d v 0 l.toNat) (0<=l/\l<=c/\c<=maxLen/\c*a<=281474976710656) [] []
 | _,_=>u4 ob
def ku (id ver:Nat) (ob:Obs) (ok:List MapEntry->Prop) (b:List MapEntry->Nat->List MapEntry) (a:List MapEntry->Nat->Nat):Option (List MapEntry×Nat)->Rs
 | some (es,c)=>⟨ok es,.undef,upd id (ver,.map (b es c) (a es c)) ob,[id],[id]⟩
 | none=>u4 ob
def pz (str:Bool) (k:Value) (id ver:Nat) (ob:Obs):Option Value->Rs
 | some v=>ku id ver ob (λ es=>bj str k=true/\okK es k=true) (λ es c=>z0 es c k v) (λ es c=>v9 es c k) (o3 ob id ver)
 | none=>u4 ob
def agh (str:Bool) (k z:Value) (id ver:Nat) (ob:Obs):Option (List MapEntry×Nat)->Rs
 | some (es,c)=>⟨bj str k=true/\okK es k=true,.tup [.r (lkR es k (.v z)),int .i64 (xk es c k)],upd id (ver,.map (xl es c k z) (v9 es c k)) ob,[id],[id]⟩
 | none=>u4 ob
def abp (str:Bool) (z:RV):AV->AV->Obs->Rs
 | .mp id ver,.r (.v k),ob=>match z with
   | .v zv=>agh str k zv id ver ob (o3 ob id ver)
   | _=>u4 ob
 | _,_,ob=>u4 ob
def aiq (n:Int) (id ver:Nat) (ob:Obs):Option Value->Rs
 | some v=>ku id ver ob (λ es=>anm es n=true) (λ es _=>agf es n v) (λ _ c=>c) (o3 ob id ver)
 | none=>u4 ob
def ad5:AV->AV->AV->Obs->Rs
 | .mp id ver,.r (.v (.int _ n)),y,ob=>aiq n id ver ob (toV y)
 | _,_,_,ob=>u4 ob
def lf (str:Bool):AV->AV->AV->Obs->Rs
 | .mp id ver,.r (.v k),y,ob=>pz str k id ver ob (toV y)
 | _,_,_,ob=>u4 ob
def lh (str:Bool):AV->AV->Obs->Rs
 | .mp id ver,.r (.v k),ob=>ku id ver ob (λ es=>bj str k=true/\okK es k=true) (λ es _=>z5 es k) (λ _ c=>c) (o3 ob id ver)
 | _,_,ob=>u4 ob
def vx (d a b:Nat) (ob:Obs):Option (List MapEntry×Nat)->Rs
 | some (_,c)=>m7 ob d (.iter (.mp a b) c [] c) (λ v=>.ptr d v 0) True [a] []
 | none=>u4 ob
def qd (d:Nat):AV->Obs->Rs
 | .mp mid mver,ob=>vx d mid mver ob (o3 ob mid mver)
 | _,ob=>u4 ob
def uo (ob:Obs):AV->AV->Rs
 | .own id ver lo n,.r (.v (.string s))=>match i8 ob id ver with
   | some (sz,z',app,wr,xs)=>⟨sz=1/\wr=true,int .i64 ((Nat.min (s.data.toList.map λ b=>RV.v (.int .u8 b.toNat)).length n:Nat):Int),upd id (ver,.row 1 z' app wr (spl xs lo ((s.data.toList.map λ b=>RV.v (.int .u8 b.toNat)).take n))) ob,[id],[id]⟩
   | none=>u4 ob
 | _,_=>u4 ob
def uq (ob:Obs) (sz:Nat) (z:RV):AV->Rs
 | .own id ver lo n=>match i8 ob id ver with
   | some (sz',z',app,wr,xs)=>⟨sz'=sz/\wr=true,.undef,upd id (ver,.row sz z' app wr (spl xs lo (List.replicate n z))) ob,[id],[id]⟩
   | none=>u4 ob
 | _=>u4 ob
def ui (ob:Obs):AV->Rs
 | .own id ver lo len=>match i8 ob id ver with
   | some (sz,z',app,wr,xs)=>⟨app=true/\wr=true/\0<len,.own id ver lo len,upd id (ver,.row sz z' false wr xs) ob,[id],[id]⟩
   | none=>u4 ob
 | _=>u4 ob
def PO.act (d:Nat) (e:Env) (ob:Obs):PO->Rs
 | .new zs=>m7 ob d (.box zs) (λ v=>.ptr d v 0) True [] []
 | .box x=>m7 ob d (.box (x.ev e).bare.cells) (λ v=>.ptr d v 0) ((x.ev e).may true/\(x.ev e).bare.boxable=true) [] []
 | .bsl sz z ps=>match y8 e ob true ps with
   | some (p,ys,fz)=>m7 (freeze ob fz) d (.row sz z true true ys) (λ v=>.own d v 0 ys.length) (p/\ys.all (·.good sz)=true/\d∉fz) fz fz
   | none=>u4 ob
 | .st n x y=>Rs.and ((x.ev e).may true/\(y.ev e).may true) (st2 n (x.ev e).bare (y.ev e).bare ob)
 | .cpy sz x y=>Rs.and ((x.ev e).may true/\(y.ev e).may true) (qm ob sz (x.ev e).bare (src ob (y.ev e).bare))
 | .app sz z bytes x y=>Rs.and ((x.ev e).may true/\(y.ev e).may true) (pf d ob sz z bytes (x.ev e).bare (src ob (y.ev e).bare))
 | .toBytes z x=>Rs.and ((x.ev e).may true) (dt d z ob (x.ev e).bare)
 | .mks sz z bytes l c=>Rs.and ((l.ev e).may true/\(c.ev e).may true) (yn d sz z bytes ob (l.ev e).bare (c.ev e).bare)
 | .mkm=>m7 ob d (.map [] 0) (λ v=>.mp d v) True [] []
 | .ment str z x i=>Rs.and ((x.ev e).may true/\(i.ev e).may true) (abp str z (x.ev e).bare (i.ev e).bare ob)
 | .mest x i y=>Rs.and ((x.ev e).may true/\(i.ev e).may true/\(y.ev e).may true) (ad5 (x.ev e).bare (i.ev e).bare (y.ev e).bare ob)
 | .mset str x i y=>Rs.and ((x.ev e).may true/\(i.ev e).may true/\(y.ev e).may true) (lf str (x.ev e).bare (i.ev e).bare (y.ev e).bare ob)
 | .mdel str x i=>Rs.and ((x.ev e).may true/\(i.ev e).may true) (lh str (x.ev e).bare (i.ev e).bare ob)
 | .rng x=>Rs.and ((x.ev e).may true) (qd d (x.ev e).bare ob)
 | .mrk x=>Rs.and ((x.ev e).may true) (ui ob (x.ev e).bare)
 | .clr sz z x=>Rs.and ((x.ev e).may true) (uq ob sz z (x.ev e).bare)
 | .cps x y=>Rs.and ((x.ev e).may true/\(y.ev e).may true) (uo ob (x.ev e).bare (y.ev e).bare)
 | _=>u4 ob

def Opd.us:Opd->List Nat
 | .t n=>[n]
 | .c _=>[]
def usO:Option Opd->List Nat
 | none=>[]
 | some x=>x.us
def usL:List Opd->List Nat
 | []=>[]
 | x::xs=>x.us++usL xs
def usP:List (Nat×Nat×Opd)->List Nat
 | []=>[]
 | (_,_,x)::r=>x.us++usP r
def PO.us:PO->List Nat
 | .mov x=>x.us
 | .pick c a b=>c.us++(a.us++b.us)
 | .bin _ x y=>x.us++y.us
 | .beq _ x y=>x.us++y.us
 | .eqn _ x=>x.us
 | .un _ x=>x.us
 | .conv _ x=>x.us
 | .toStr x=>x.us
 | .sla _ x=>x.us
 | .clr _ _ x=>x.us
 | .toBytes _ x=>x.us
 | .new _=>[]
 | .box x=>x.us
 | .build _ ps=>usP ps
 | .mkf _ xs _=>usL xs
 | .eqa _ _ x y=>x.us++y.us
 | .bsl _ _ ps=>usL ps
 | .ld _ x=>x.us
 | .st _ x y=>x.us++y.us
 | .nck x=>x.us
 | .fa _ x=>x.us
 | .fld _ _ x=>x.us
 | .ia _ _ x i=>x.us++i.us
 | .ixs x i=>x.us++i.us
 | .sls x lo hi=>x.us++(usO lo++usO hi)
 | .sll _ x lo hi mx=>x.us++(usO lo++(usO hi++usO mx))
 | .mks _ _ _ l c=>l.us++c.us
 | .len _ x=>x.us
 | .app _ _ _ x y=>x.us++y.us
 | .cpy _ x y=>x.us++y.us
 | .ext x _=>x.us
 | .mm _ x ys=>x.us++usL ys
 | .iaa _ _ x i=>x.us++i.us
 | .carry _ x y c=>x.us++(y.us++c.us)
 | .lkp _ _ _ x i=>x.us++i.us
 | .lenm x=>x.us
 | .mki _ x=>x.us
 | .tas _ _ _ x=>x.us
 | .ent x=>x.us
 | .mkm=>[]
 | .no=>[]
 | .mset _ x i y=>x.us++(i.us++y.us)
 | .mest x i y=>x.us++(i.us++y.us)
 | .ment _ _ x i=>x.us++i.us
 | .mdel _ x i=>x.us++i.us
 | .rng x=>x.us
 | .mrk x=>x.us
 | .cps x y=>x.us++y.us
theorem ak {p:Nat->Prop} {a b:List Nat} (h:∀t,t∈a++b->p t):(∀t,t∈a->p t)/\∀t,t∈b->p t:=⟨λ t c=>h t (by simp [c]),λ t c=>h t (by simp [c])⟩
section
variable {e e':Env} {ob ob':Obs}
theorem p6 {x:Opd} (h:∀t,t∈x.us->e' t=e t):x.ev e'=x.ev e:=by
 cases x with
 | t n=>exact h n (by simp [Opd.us])
 | c x=>rfl
theorem sd {g:Bool} {x:Option Opd} (h:∀t,t∈usO x->e' t=e t):PO.see.mayO g e' x=PO.see.mayO g e x:=by
 cases x with
 | none=>rfl
 | some x=>simp only [PO.see.mayO,p6 h]
theorem pu {x:Option Opd} (h:∀t,t∈usO x->e' t=e t):PO.see.bareO e' x=PO.see.bareO e x:=by
 cases x with
 | none=>rfl
 | some x=>simp only [PO.see.bareO,p6 h]
theorem aet {g:Bool}:∀{c:List (Nat×Nat×Opd)} {b:List AV},(∀t,t∈usP c->e' t=e t)->br g e' b c=br g e b c
 | [],b,h=>rfl
 | (off,n,x)::r,b,h=>by
   obtain ⟨d,f⟩:=ak (a:=x.us) h;simp only [br,p6 d];rw [aet f]
theorem kj:∀{xs:List Opd},(∀t,t∈usL xs->e' t=e t)->l5 e' xs=l5 e xs
 | [],h=>rfl
 | x::r,h=>by
   obtain ⟨b,c⟩:=ak (a:=x.us) h;simp only [l5,p6 b,kj c]
theorem nw {g:Bool}:∀{xs:List Opd},(∀t,t∈usL xs->e' t=e t)->ah g e' xs=ah g e xs
 | [],h=>rfl
 | x::r,h=>by
   obtain ⟨b,c⟩:=ak (a:=x.us) h;simp only [ah,p6 b,nw c]
theorem agx {g:Bool}:∀{xs:List Opd},(∀t,t∈usL xs->e' t=e t)->y8 e' ob g xs=y8 e ob g xs
 | [],h=>rfl
 | x::r,h=>by
   obtain ⟨b,c⟩:=ak (a:=x.us) h;simp only [y8,p6 b,agx c]
theorem auj {o:PO} {g:Bool} (h:∀t,t∈o.us->e' t=e t):o.see g e' ob=o.see g e ob:=by
 cases o with
 | pick c a b | carry _ c a b=>
   obtain ⟨i,d⟩:=ak (a:=c.us) h;obtain ⟨d,j⟩:=ak d;simp only [PO.see,p6 i,p6 d,p6 j]
 | bin _ x y | beq _ x y | eqa _ _ x y | ia _ _ x y | ixs x y | iaa _ _ x y | lkp _ _ _ x y=>
   obtain ⟨i,d⟩:=ak h;simp only [PO.see,p6 i,p6 d]
 | sls x lo hi=>
   obtain ⟨i,d⟩:=ak (a:=x.us) h;obtain ⟨d,j⟩:=ak d;simp only [PO.see,p6 i,sd d,sd j,pu d,pu j]
 | sll _ x lo hi mx=>
   obtain ⟨i,d⟩:=ak (a:=x.us) h;obtain ⟨d,j⟩:=ak (a:=usO lo) d;obtain ⟨j,l⟩:=ak j;simp only [PO.see,p6 i,sd d,sd j,sd l,pu d,pu j,pu l]
 | mm _ x ys=>
   obtain ⟨i,d⟩:=ak (a:=x.us) h;simp only [PO.see,p6 i,nw d,kj d]
 | build zs ps=>simp only [PO.see,aet (show ∀t,t∈usP ps->e' t=e t from h)]
 | mkf f xs k=>
   simp only [PO.see,nw (show ∀t,t∈usL xs->e' t=e t from h),kj (show ∀t,t∈usL xs->e' t=e t from h)]
 | sla _ x | lenm x | mki _ x | tas _ _ _ x | ent x | mov x | eqn _ x | un _ x | conv _ x | toStr x | ld _ x | nck x | fa _ x | fld _ _ x | len _ x | ext x _=>
   simp only [PO.see,p6 (show ∀t,t∈x.us->e' t=e t from h)]
 | toBytes _ _ | new _ | box _ | bsl _ _ _ | st _ _ _ | mks _ _ _ _ _ | app _ _ _ _ _ | cpy _ _ _ | mkm | mset _ _ _ _ | ment _ _ _ _ | mest _ _ _ | mdel _ _ _ | rng _ | mrk _ | cps _ _ | clr _ _ _ | no=>rfl
theorem awg {o:PO} {d:Nat} (h:∀t,t∈o.us->e' t=e t):o.act d e' ob=o.act d e ob:=by
 cases o with
 | mset _ x i y | mest x i y=>
   obtain ⟨c,b⟩:=ak (a:=x.us) h;obtain ⟨b,f⟩:=ak b;simp only [PO.act,p6 c,p6 b,p6 f]
 | st _ x y | mks _ _ _ x y | app _ _ _ x y | cpy _ x y | mdel _ x y | ment _ _ x y | cps x y=>
   obtain ⟨c,b⟩:=ak h;simp only [PO.act,p6 c,p6 b]
 | bsl _ _ ps=>simp only [PO.act,agx (show ∀t,t∈usL ps->e' t=e t from h)]
 | box x | toBytes _ x | rng x | mrk x | clr _ _ x=>simp only [PO.act,p6 (show ∀t,t∈x.us->e' t=e t from h)]
 | _=>rfl
theorem m6 {ver:Nat} (h:ob' id=ob id):i8 ob' id ver=i8 ob id ver:=by unfold i8; rw [h]
theorem al {ver:Nat} (h:ob' id=ob id):n7 ob' id ver=n7 ob id ver:=by unfold n7; rw [h]
theorem aia {ver:Nat} (h:ob' id=ob id):ea ob' id ver=ea ob id ver:=by unfold ea; rw [h]
theorem ma {ver:Nat} (h:ob' id=ob id):o3 ob' id ver=o3 ob id ver:=by unfold o3; rw [h]
theorem xm {ver:Nat} (h:ob' id=ob id):aw ob' id ver=aw ob id ver:=by unfold aw; rw [h]
theorem yl (h:ob' id=ob id):nv ob' id=nv ob id:=by unfold nv; rw [h]
def bf (ob ob':Obs) (l:List Nat):Prop:=∀i,i∈l->ob' i=ob i
def o7 (ob ob':Obs) (f:Obs->Rs):Prop:=(f ob).ok->bf ob ob' (f ob).rd->(f ob').ok/\(f ob').v=(f ob).v
theorem o7.and {p:Prop} {f:Obs->Rs} (h:o7 ob ob' f):o7 ob ob' λ ob=>Rs.and p (f ob):=λ ⟨c,a⟩ b=>⟨⟨c,(h a b).1⟩,(h a b).2⟩
theorem o6 {p:Prop} {v:Vs}:o7 ob ob' λ ob=>Vs.q ob p v:=λ h _=>⟨h,rfl⟩
theorem ao5 {g:Bool} {ver:Nat} {k:Nat×RV×Bool×Bool×List RV->Obs->Rs} (d:∀x,id∈(k x ob).rd) (c:∀x,o7 ob ob' (k x)) :
 o7 ob ob' λ ob=>match i8 ob id ver with | some x=>k x ob | none=>p9 g id ob:=by
 intro a b;rcases hr:i8 ob id ver with _ | x
 ·simp only [hr] at a b |-;rw [m6 (b id (by simp [p9])),hr];exact ⟨a,rfl⟩
 simp only [hr] at a b |-;rw [m6 (b id (d x)),hr];exact c x a b
theorem ape {g:Bool} {ver:Nat} {k:List AV->Obs->Rs} (d:∀x,id∈(k x ob).rd) (c:∀x,o7 ob ob' (k x)) :
 o7 ob ob' λ ob=>match n7 ob id ver with | some x=>k x ob | none=>p9 g id ob:=by
 intro a b;rcases hr:n7 ob id ver with _ | x
 ·simp only [hr] at a b |-;rw [al (b id (by simp [p9])),hr];exact ⟨a,rfl⟩
 simp only [hr] at a b |-;rw [al (b id (d x)),hr];exact c x a b
theorem ah8 {g:Bool} {ver:Nat} {k:Unit->Obs->Rs} (d:∀x,id∈(k x ob).rd) (c:∀x,o7 ob ob' (k x)) :
 o7 ob ob' λ ob=>match ea ob id ver with | some x=>k x ob | none=>p9 g id ob:=by
 intro a b;rcases hr:ea ob id ver with _ | x
 ·simp only [hr] at a b |-;rw [aia (b id (by simp [p9])),hr];exact ⟨a,rfl⟩
 simp only [hr] at a b |-;rw [aia (b id (d x)),hr];exact c x a b
theorem ah9 {g:Bool} {ver:Nat} {f:List MapEntry->Vs}:o7 ob ob' λ ob=>oy g id ob f (o3 ob id ver):=by
 intro a b;rcases hr:o3 ob id ver with _ | ⟨es,c⟩
 ·simp only [hr] at a b |-;rw [ma (b id (by simp [oy,p9])),hr];exact ⟨a,rfl⟩
 simp only [hr] at a b |-;rw [ma (b id (by simp [oy])),hr];exact ⟨a,rfl⟩
theorem ao7 {g str:Bool} {z:RV} {a:Bool} {x y:AV}:o7 ob ob' (se g str z a x y):=by
 cases x with
 | mp id ver=>cases y with
   | r y=>cases y with
     | v k=>exact ah9
     | _=>exact o6
   | _=>exact o6
 | _=>exact o6
theorem am3 {g:Bool} {x:AV}:o7 ob ob' (li g x):=by
 cases x with
 | mp id ver=>exact ah9
 | _=>exact o6
theorem apd {g:Bool} {x:AV}:o7 ob ob' (qk g x):=by
 cases x with
 | ptr id ver off=>cases off with
   | succ off=>exact o6
   | zero=>
     intro a b;simp only [qk] at a b |-;rcases hr:aw ob id ver with _ | ⟨m,d,e,f⟩
     ·rw [hr] at a b;rw [xm (b id (by simp [pe,p9])),hr];exact ⟨a,rfl⟩
     rw [hr] at a b;cases m with
     | mp mid mver=>
       simp only [pe] at a b |-;rcases hm:o3 ob mid mver with _ | ⟨es,c⟩
       ·rw [hm] at a b;rw [xm (b id (by simp [qj])),hr];simp only [pe];rw [ma (b mid (by simp [qj])),hm];exact ⟨a,rfl⟩
       rw [hm] at a b;rw [xm (b id (by simp [qj])),hr];simp only [pe];rw [ma (b mid (by simp [qj])),hm];exact ⟨a,rfl⟩
     | _=>
       rw [xm (b id (by simp [pe,p9])),hr];exact ⟨a,rfl⟩
 | _=>exact o6
theorem ao8 {g str:Bool} {x:AV}:o7 ob ob' (qi g str x):=by
 cases x with
 | own id ver lo n=>
   intro a b;simp only [qi] at a b |-;rcases hr:i8 ob id ver with _ | c
   ·rw [hr] at a b;simp only at a b |-;rcases hb:n7 ob id ver with _ | q
    ·rw [hb] at a b;have d:=b id (by simp [p9,leb]);rw [m6 d,hr];simp only;rw [al d,hb];exact ⟨a,rfl⟩
    rw [hb] at a b;have d:=b id (by simp [leb]);rw [m6 d,hr];simp only;rw [al d,hb];exact ⟨a,rfl⟩
   rw [hr] at a b;rw [m6 (b id (by simp)),hr];exact ⟨a,rfl⟩
 | r x=>cases x with
   | v x=>cases x<;>exact o6
   | _=>exact o6
 | _=>exact o6
theorem ari {g:Bool} {sz:Nat} {z:RV} {x y:AV}:o7 ob ob' (ia2 g sz z x y):=by
 rcases y with ⟨v | _ | _⟩ | _ | _ | _ | _ | _ | _ | _ | _ | _ | _ | _ | _
 ·cases v with
  | int k i=>
    cases x with
    | own id ver lo n=>
      intro a b;simp only [ia2] at a b |-;rcases hr:i8 ob id ver with _ | c
      ·rw [hr] at a b;simp only at a b |-;rcases hb:n7 ob id ver with _ | q
       ·rw [hb] at a b;have d:=b id (by simp [p9,iab]);rw [m6 d,hr];simp only;rw [al d,hb];exact ⟨a,rfl⟩
       rw [hb] at a b;have d:=b id (by simp [iab]);rw [m6 d,hr];simp only;rw [al d,hb];exact ⟨a,rfl⟩
      rw [hr] at a b;rw [m6 (b id (by simp)),hr];exact ⟨a,rfl⟩
    | r x=>cases x<;>exact o6
    | _=>exact o6
  | _=>rcases x with ⟨_ | _ | _⟩ | _ | _ | _ | _ | _ | _ | _ | _ | _ | _ | _ | _<;>exact o6
 all_goals rcases x with ⟨_ | _ | _⟩ | _ | _ | _ | _ | _ | _ | _ | _ | _ | _ | _ | _<;>exact o6
theorem apb {g:Bool} {n sz:Nat} {x y:AV}:o7 ob ob' (jd g n sz x y):=by
 rcases y with ⟨v | _ | _⟩ | _ | _ | _ | _ | _ | _ | _ | _ | _ | _ | _ | _
 ·cases v with
  | int k i=>
    cases x with
    | ptr id ver o=>
      intro a b;simp only [jd] at a b |-;rcases hr:n7 ob id ver with _ | c
      ·rw [hr] at a b;rw [al (b id (by simp [p9,ldb,ldr])),hr];exact ⟨a,rfl⟩
      rw [hr] at a b;rw [al (b id (by simp)),hr];exact ⟨a,rfl⟩
    | oel id ver j o=>
      intro a b;simp only [jd] at a b |-;rcases hr:i8 ob id ver with _ | c
      ·rw [hr] at a b;rw [m6 (b id (by simp [p9,ldb,ldr])),hr];exact ⟨a,rfl⟩
      rw [hr] at a b;rw [m6 (b id (by simp)),hr];exact ⟨a,rfl⟩
    | _=>exact o6
  | _=>rcases x with ⟨_ | _ | _⟩ | _ | _ | _ | _ | _ | _ | _ | _ | _ | _ | _ | _<;>exact o6
 all_goals rcases x with ⟨_ | _ | _⟩ | _ | _ | _ | _ | _ | _ | _ | _ | _ | _ | _ | _<;>exact o6
theorem ao6 {g:Bool} {x:AV}:o7 ob ob' (sb g x):=by
 cases x with
 | ptr id ver off=>exact ah8 (k:=λ _ ob=>⟨True,.ptr id ver off,ob,[id],[]⟩) (λ _=>by simp) λ _ h _=>⟨h,rfl⟩
 | oel id ver i off=>exact ao5 (k:=λ _ ob=>⟨True,.oel id ver i off,ob,[id],[]⟩) (λ _=>by simp) λ _ h _=>⟨h,rfl⟩
 | fn f xs=>cases f<;>exact o6
 | _=>exact o6
theorem apc {g b:Bool} {x:AV}:o7 ob ob' (sj g b x):=by
 cases x with
 | ptr id ver off=>exact ah8 (k:=λ _ ob=>⟨True,bl b,ob,[id],[]⟩) (λ _=>by simp) λ _ h _=>⟨h,rfl⟩
 | r x=>cases x with
   | v x=>cases x with
     | pointer a=>cases a<;>exact o6
     | _=>exact o6
   | _=>exact o6
 | _=>exact o6
theorem arj {g:Bool} {off:Nat} {x:AV}:o7 ob ob' (fa1 g off x):=by
 cases x with
 | ptr id ver o=>exact ape (k:=λ _ ob=>⟨True,.ptr id ver (o+off),ob,[id],[]⟩) (λ _=>by simp) λ _ h _=>⟨h,rfl⟩
 | oel id ver i o=>
   intro a b;simp only [fa1] at a b |-;rcases hr:i8 ob id ver with _ | c
   ·rw [hr] at a b;rw [m6 (b id (by simp [p9,ldb,ldr])),hr];exact ⟨a,rfl⟩
   rw [hr] at a b;rw [m6 (b id (by simp)),hr];exact ⟨a,rfl⟩
 | _=>exact o6
theorem apa {g:Bool} {n:Option Nat} {off:Nat} {c:Option (List AV)}:o7 ob ob' λ ob=>ldb id ob g n off c:=by
 unfold ldb;intro h a;split at h<;>(try split at h)<;>exact ⟨h,rfl⟩
theorem ao9 {g:Bool} {n:Option Nat} {idx off:Nat} {c:Option (Nat×RV×Bool×Bool×List RV)}:o7 ob ob' λ ob=>ldr id ob g n idx off c:=by
 unfold ldr;intro h a;split at h<;>(try split at h)<;>exact ⟨h,rfl⟩
theorem ax7 {g:Bool} {n:Option Nat} {off:Nat} {c:List AV}:id∈(ldb id ob g n off (some c)).rd:=by unfold ldb; cases n<;>simp
theorem ax6 {g:Bool} {n:Option Nat} {idx off:Nat} {c:Nat×RV×Bool×Bool×List RV}:id∈(ldr id ob g n idx off (some c)).rd:=by unfold ldr; cases n<;>simp
theorem arh {g:Bool} {n:Option Nat} {x:AV}:o7 ob ob' (ld1 g n x):=by
 cases x with
 | ptr id ver off=>
   intro a b;simp only [ld1] at a b |-;rcases hr:n7 ob id ver with _ | c
   ·rw [hr] at a b;rw [al (b id (by simp [p9,ldb,ldr])),hr];exact ⟨a,rfl⟩
   rw [hr] at a b;rw [al (b id ax7),hr];exact apa a b
 | oel id ver i off=>
   intro a b;simp only [ld1] at a b |-;rcases hr:i8 ob id ver with _ | c
   ·rw [hr] at a b;rw [m6 (b id (by simp [p9,ldb,ldr])),hr];exact ⟨a,rfl⟩
   rw [hr] at a b;rw [m6 (b id ax6),hr];exact ao9 a b
 | rp ys=>cases n<;>exact o6
 | _=>exact o6
theorem ao4 {g:Bool} {n:Nat} {x:AV}:o7 ob ob' (qc g n x):=by
 cases x with
 | ptr id ver o=>
   intro a b;simp only [qc] at a b |-;rcases hr:n7 ob id ver with _ | c
   ·rw [hr] at a b;rw [al (b id (by simp [p9,vw])),hr];exact ⟨a,rfl⟩
   rw [hr] at a b;rw [al (b id (by simp [vw])),hr];exact ⟨a,rfl⟩
 | _=>exact o6
theorem ao3 {g:Bool} {sz:Nat} {x:AV} {e d f:Option AV}:o7 ob ob' (ox g sz x e d f):=by
 cases x with
 | own id ver l0 n=>
   intro a b;rcases h1:bnd 0 e with _ | l<;>rcases h2:bnd n d with _ | h<;>rcases h3:bnd n f with _ | m<;>simp only [ox,h1,h2,h3] at a b |-
   all_goals first
    | exact ⟨a,rfl⟩
    | (rcases hr:i8 ob id ver with _ | c
       ·rw [hr] at a b;rw [m6 (b id (by simp [p9])),hr];exact ⟨a,rfl⟩
       rw [hr] at a b;rw [m6 (b id (by simp)),hr]
       exact ⟨a,rfl⟩)
 | r x=>cases x with
   | sl sz' xs=>
     intro a b;simp only [ox] at a b |-;split at a<;>exact ⟨a,rfl⟩
   | _=>exact o6
 | _=>exact o6
theorem zg {x:AV} {sz:Nat} {ys:List RV} {l:List Nat} (h:src ob x=some (sz,ys,l)) (a:bf ob ob' l):src ob' x=some (sz,ys,l):=by
 unfold src at h |-;split at h
 ·exact h
 ·exact h
 ·rename_i id ver b len;rcases hr:i8 ob id ver with _ | c
  ·simp only [hr] at h; cases h
  simp only [hr] at h;cases h;rw [m6 (a id (by simp)),hr]
 cases h
theorem ao2 {x:AV}:o7 ob ob' λ ob=>em ob (src ob x):=by
 intro a b;rcases hr:src ob x with _ | ⟨sz,ys,l⟩
 ·simp only [hr,em] at a; exact a.1.elim
 simp only [hr,em] at a b |-;rw [zg hr b];exact ⟨a,rfl⟩
theorem aw1 {o:PO} {g:Bool} {e:Env}:o7 ob ob' λ ob=>o.see g e ob:=by
 cases o with
 | eqn _ x=>exact o7.and apc
 | len _ x=>exact o7.and ao8
 | ia _ _ x i=>exact o7.and ari
 | iaa _ _ x i=>exact o7.and apb
 | ld _ x=>exact o7.and arh
 | nck x=>exact o7.and ao6
 | fa _ x=>exact o7.and arj
 | sll _ x lo hi mx=>exact o7.and ao3
 | sla n x=>exact o7.and ao4
 | toStr x=>exact o7.and ao2
 | lkp _ _ _ x i=>exact o7.and ao7
 | lenm x=>exact o7.and am3
 | ent x=>exact o7.and apd
 | _=>exact o6
def pin:Option (Nat×Ob)->Option (Nat×Option Nat)
 | some (v,.box _)=>some (v,none)
 | some (v,.row sz _ _ _ _)=>some (v,some sz)
 | _=>none
def aq1 (ob ob':Obs) (l:List Nat):Prop:=∀i,i∈l->pin (ob' i)=pin (ob i)
def PO.adr:PO->Bool
 | .fa _ _=>true
 | .iaa _ _ _ _=>true
 | .ia _ _ _ _=>true
 | _=>false
def mn (ob ob':Obs) (f:Obs->Rs):Prop:=(f ob).ok->aq1 ob ob' (f ob).rd->(f ob').ok/\(f ob').v=(f ob).v
theorem mn.and {p:Prop} {f:Obs->Rs} (h:mn ob ob' f):mn ob ob' λ ob=>Rs.and p (f ob):=λ ⟨c,a⟩ b=>⟨⟨c,(h a b).1⟩,(h a b).2⟩
theorem ly {p:Prop} {v:Vs}:mn ob ob' λ ob=>Vs.q ob p v:=λ h _=>⟨h,rfl⟩
theorem ah0 {ver:Nat} (h:pin (ob' id)=pin (ob id)):(n7 ob id ver=none/\n7 ob' id ver=none)\/∃c c',n7 ob id ver=some c/\n7 ob' id ver=some c':=by
 unfold n7
 revert h
 generalize ob id=q;generalize ob' id=j;intro h;rcases q with _ | ⟨v,c | ⟨sz,z,i,k,xs⟩ | T | _ | _⟩<;>rcases j with _ | ⟨g,c' | ⟨f,l,a,e,d⟩ | m | _ | _⟩<;>simp [pin] at h |-;subst h;by_cases b:ver=g<;>simp [b]
theorem ahh {ver:Nat} (h:pin (ob' id)=pin (ob id)):(i8 ob id ver=none/\i8 ob' id ver=none)\/∃sz c c',i8 ob id ver=some (sz,c)/\i8 ob' id ver=some (sz,c'):=by
 unfold i8
 revert h
 generalize ob id=q;generalize ob' id=j;intro h;rcases q with _ | ⟨v,c | ⟨sz,z,i,k,xs⟩ | T | _ | _⟩<;>rcases j with _ | ⟨g,c' | ⟨f,l,a,e,d⟩ | m | _ | _⟩<;>simp [pin] at h |-;obtain ⟨rfl,rfl⟩:=h;by_cases b:ver=g<;>simp [b]
theorem apg {g:Bool} {off:Nat} {x:AV}:mn ob ob' (fa1 g off x):=by
 cases x with
 | ptr id ver o=>
   intro a e;simp only [fa1] at a e |-;have f:pin (ob' id)=pin (ob id):=e id (by split<;>simp [p9]);rcases ah0 (ver:=ver) f with ⟨b,d⟩ | ⟨c,c',b,d⟩
   ·rw [b] at a |-; rw [d]; exact ⟨a,rfl⟩
   rw [b]; rw [d]; exact ⟨trivial,rfl⟩
 | oel id ver i o=>
   intro a e;simp only [fa1] at a e |-;have f:pin (ob' id)=pin (ob id):=e id (by split<;>simp [p9]);rcases ahh (ver:=ver) f with ⟨b,d⟩ | ⟨sz,c,c',b,d⟩
   ·rw [b] at a |-; rw [d]; exact ⟨a,rfl⟩
   rw [b] at a |-; rw [d]; exact ⟨a,rfl⟩
 | _=>exact ly
theorem am4 {g:Bool} {n sz:Nat} {x y:AV}:mn ob ob' (jd g n sz x y):=by
 rcases y with ⟨v | _ | _⟩ | _ | _ | _ | _ | _ | _ | _ | _ | _ | _ | _ | _
 ·cases v with
  | int k i=>
    cases x with
    | ptr id ver o=>
      intro a e;simp only [jd] at a e |-;have f:pin (ob' id)=pin (ob id):=e id (by split<;>simp [p9]);rcases ah0 (ver:=ver) f with ⟨b,d⟩ | ⟨c,c',b,d⟩
      ·rw [b] at a |-; rw [d]; exact ⟨a,rfl⟩
      rw [b] at a |-; rw [d]; exact ⟨a,rfl⟩
    | oel id ver j o=>
      intro a e;simp only [jd] at a e |-;have f:pin (ob' id)=pin (ob id):=e id (by split<;>simp [p9]);rcases ahh (ver:=ver) f with ⟨b,d⟩ | ⟨h,c,c',b,d⟩
      ·rw [b] at a |-; rw [d]; exact ⟨a,rfl⟩
      rw [b] at a |-; rw [d]; exact ⟨a,rfl⟩
    | _=>exact ly
  | _=>rcases x with ⟨_ | _ | _⟩ | _ | _ | _ | _ | _ | _ | _ | _ | _ | _ | _ | _<;>exact ly
 all_goals rcases x with ⟨_ | _ | _⟩ | _ | _ | _ | _ | _ | _ | _ | _ | _ | _ | _ | _<;>exact ly
theorem apf {g:Bool} {sz:Nat} {z:RV} {x y:AV}:mn ob ob' (ia2 g sz z x y):=by
 rcases y with ⟨v | _ | _⟩ | _ | _ | _ | _ | _ | _ | _ | _ | _ | _ | _ | _
 ·cases v with
  | int k i=>
    cases x with
    | own id ver lo n=>
      intro a h;simp only [ia2] at a h |-;have j:pin (ob' id)=pin (ob id):=h id (by split<;>first | simp | (cases n7 ob id ver<;>simp [p9,iab]));rcases ahh (ver:=ver) j with ⟨b,d⟩ | ⟨l,c,c',b,d⟩
      ·rw [b] at a |-; rw [d];simp only at a |-;rcases ah0 (ver:=ver) j with ⟨e,f⟩ | ⟨q,m,e,f⟩
       ·rw [e] at a |-; rw [f]; exact ⟨a,rfl⟩
       rw [e] at a |-; rw [f]; exact ⟨a,rfl⟩
      rw [b] at a |-; rw [d]; exact ⟨a,rfl⟩
    | r x=>cases x<;>exact ly
    | _=>exact ly
  | _=>rcases x with ⟨_ | _ | _⟩ | _ | _ | _ | _ | _ | _ | _ | _ | _ | _ | _ | _<;>exact ly
 all_goals rcases x with ⟨_ | _ | _⟩ | _ | _ | _ | _ | _ | _ | _ | _ | _ | _ | _ | _<;>exact ly
theorem ay4 {o:PO} {g:Bool} {e:Env} (h:o.adr=true):mn ob ob' λ ob=>o.see g e ob:=by
 cases o with
 | fa _ x=>exact mn.and apg
 | iaa _ _ x i=>exact mn.and am4
 | ia _ _ x i=>exact mn.and apf
 | _=>cases h
theorem aww {n:Nat} {x y:AV}:pin ((st2 n x y ob).ob i)=pin (ob i):=by
 cases x with
 | ptr id ver off=>
   simp only [st2,Rs.and];rcases hr:n7 ob id ver with _ | c
   ·rfl
   simp only [stb,upd];by_cases a:i=id
   ·subst a;rw [if_pos rfl];unfold n7 at hr;split at hr
    ·rename_i v d e;split at hr
     ·rename_i b; rw [e,b]; rfl
     cases hr
    cases hr
   rw [if_neg a]
 | oel id ver idx off=>
   simp only [st2];split
   ·rename_i ys hy;simp only [Rs.and];rcases hr:i8 ob id ver with _ | ⟨sz,z,k,l,xs⟩
    ·rfl
    simp only [str,upd];by_cases a:i=id
    ·subst a;rw [if_pos rfl];unfold i8 at hr;split at hr
     ·rename_i v j m f h g e;split at hr
      ·rename_i b; cases hr; rw [e,b]; rfl
      cases hr
     cases hr
    rw [if_neg a]
   rfl
 | _=>rfl
end

section
variable {ob ob':Obs} {e:Env}
def v5 (ob ob':Obs) (f:Obs->Rs):Prop:=(f ob).ok->bf ob ob' (f ob).rd ->
 (f ob').ok/\(f ob').v=(f ob).v/\(∀i,i∈(f ob).wr->i∈(f ob).rd/\(f ob').ob i=(f ob).ob i)/\(∀i,i∉(f ob).wr->(f ob').ob i=ob' i)
theorem v5.and {p:Prop} {f:Obs->Rs} (h:v5 ob ob' f):v5 ob ob' λ ob=>Rs.and p (f ob):=λ ⟨c,a⟩ b=>⟨⟨c,(h a b).1⟩,(h a b).2⟩
theorem qh:v5 ob ob' λ ob=>u4 ob:=λ h _=>h.elim
theorem qg {d:Nat} {x:Ob} {y:Nat->AV} {ok:Prop} {rd:List Nat}:v5 ob ob' λ ob=>m7 ob d x y ok rd []:=by
 intro b e;have c:ob' d=ob d:=e d (by simp [m7]);refine ⟨b,?_,λ i a=>?_,λ i a=>?_⟩
 ·simp only [m7,yl c]
 ·simp only [m7,zag,zao,or_false] at a;subst a;simp [m7,upd,yl c]
 simp only [m7,zag,zao,or_false] at a;simp [m7,upd,a]
theorem aj8 (ob:Obs) (i j:Nat):frz ob i (ob i) j=if j=i then frz ob i (ob i) i else ob j:=by
 by_cases h:j=i
 ·subst h; simp
 rw [if_neg h];generalize ob i=q;rcases q with _ | ⟨v,_ | _ | _ | _ | _⟩
 ·rfl
 ·rfl
 ·simp [frz,upd,h]
 ·rfl
 ·rfl
 rfl
theorem avl (h:ob' i=ob i):frz ob' i (ob' i) i=frz ob i (ob i) i:=by
 rcases hq:ob i with _ | ⟨v,_ | _ | _ | _ | _⟩<;>rw [h,hq]
 ·exact h.trans hq |>.trans hq.symm
 ·exact h.trans hq |>.trans hq.symm
 ·simp [frz,upd]
 ·exact h.trans hq |>.trans hq.symm
 ·exact h.trans hq |>.trans hq.symm
 exact h.trans hq |>.trans hq.symm
theorem zq:∀(l:List Nat) {ob ob':Obs} {i:Nat},ob' i=ob i->freeze ob' l i=freeze ob l i
 | [],_,_,_,h=>h
 | j::l,ob,ob',i,h=>by
   refine zq l ?_;rw [aj8 ob,aj8 ob'];by_cases a:i=j
   ·subst a; simp only [if_true]; exact avl h
   simp only [if_neg a]; exact h
theorem adf:∀(l:List Nat) {ob:Obs} {i:Nat},i∉l->freeze ob l i=ob i
 | [],_,_,_=>rfl
 | j::l,ob,i,h=>by
   simp only [zag,not_or] at h;rw [freeze,adf l h.2,aj8,if_neg h.1]
theorem ae5 {x:AV} {y:RV} {l:List Nat} (h:x.rv ob=some (y,l)) (a:bf ob ob' l):x.rv ob'=some (y,l):=by
 unfold AV.rv at h |-;split at h
 ·exact h
 ·exact h
 ·rename_i id ver b len;rcases hr:i8 ob id ver with _ | c
  ·simp only [hr] at h; cases h
  simp only [hr] at h;cases h;rw [m6 (a id (by simp)),hr]
 cases h
theorem yg {a b:List Nat} (h:bf ob ob' (a++b)):bf ob ob' a/\bf ob ob' b:=⟨λ i c=>h i (by simp [c]),λ i c=>h i (by simp [c])⟩
theorem zh:∀{xs:List AV} {ys:List RV} {l:List Nat},rvs ob xs=some (ys,l)->bf ob ob' l->rvs ob' xs=some (ys,l)
 | [],ys,l,h,hs=>h
 | x::xs,ys,l,h,hs=>by
   simp only [rvs] at h |-;split at h
   ·rename_i y k e j b c;cases h;obtain ⟨a,d⟩:=yg hs;rw [ae5 b a,zh c d]
   cases h
theorem aqd {x:AV} {y:RV} {l:List Nat} (h:x.elt ob=some (y,l)) (a:bf ob ob' l):x.elt ob'=some (y,l):=by
 unfold AV.elt at h |-;split at h
 ·split at h
  ·rename_i ys j b;cases h;simp only [zh b a]
  cases h
 exact ae5 h a
theorem adl {g:Bool}:∀{xs:List Opd} {p:Prop} {ys:List RV} {l:List Nat},y8 e ob g xs=some (p,ys,l)->bf ob ob' l->y8 e ob' g xs=some (p,ys,l)
 | [],p,ys,l,h,hs=>h
 | x::xs,p,ys,l,h,hs=>by
   simp only [y8] at h |-;split at h
   ·rename_i y k f i j b c;cases h;obtain ⟨a,d⟩:=yg hs;rw [aqd b a,adl c d]
   cases h
theorem ar4 {d sz:Nat} {z:RV} {k:List Opd}:v5 ob ob' λ ob=>PO.act d e ob (.bsl sz z k):=by
 intro a f;simp only [PO.act] at a f |-;rcases hr:y8 e ob true k with _ | ⟨p,ys,c⟩
 ·rw [hr] at a; exact a.elim
 rw [hr] at a f;have h:bf ob ob' c:=λ i b=>f i (by simp [m7,b]);have j:ob' d=ob d:=f d (by simp [m7]);rw [adl hr h];refine ⟨a,?_,λ i b=>?_,λ i b=>?_⟩
 ·simp only [m7,yl (zq c j)]
 ·refine ⟨b,?_⟩;simp only [m7,zag] at b;simp only [m7,upd,yl (zq c j)];split
  ·rfl
  rename_i g;exact zq c (h i (b.resolve_left g))
 simp only [m7,zag,not_or] at b;simp only [m7,upd,if_neg b.1];exact adf c b.2
theorem jc {x:Nat×Ob} {ok:Prop} {v:AV} {rd:List Nat}:v5 ob ob' λ ob=>⟨ok,v,upd id x ob,id::rd,[id]⟩:=by
 intro b c;refine ⟨b,rfl,λ i a=>?_,λ i a=>?_⟩
 ·simp only [zag,zao,or_false] at a;subst a;simp [upd]
 simp only [zag,zao,or_false] at a;simp [upd,a]
theorem avd {n:Nat} {x y:AV}:v5 ob ob' (st2 n x y):=by
 cases x with
 | ptr id ver off=>
   intro a b;simp only [st2] at a b |-;rcases hr:n7 ob id ver with _ | c
   ·rw [hr] at a; exact a.2.elim
   rw [hr] at a b;rw [al (b id (by simp [Rs.and,stb])),hr];exact v5.and (f:=λ ob=>stb id ver ob n off y.cells (some c)) jc a b
 | oel id ver idx off=>
   intro a b;simp only [st2] at a b |-;split at a
   ·rename_i ys hy;rw [zh hy (λ i g=>by simp at g)];rw [hy] at b;simp only at b |-;rcases hr:i8 ob id ver with _ | ⟨sz,z,d,e,xs⟩
    ·rw [hr] at a; exact a.2.elim
    rw [hr] at a b;rw [m6 (b id (by simp [Rs.and,str])),hr];exact v5.and (f:=λ ob=>str id ver ob n idx off ys (some (sz,z,d,e,xs))) jc a b
   exact a.elim
 | _=>exact λ h _=>h.elim
theorem ar5 {d sz:Nat} {z:RV} {c:Nat} {x y:AV}:v5 ob ob' λ ob=>pf d ob sz z c x (src ob y):=by
 intro a b;rcases hy:src ob y with _ | ⟨m,ys,rd⟩
 ·simp only [hy] at a;unfold pf at a;split at a
  ·rename_i h; cases h
  ·rename_i h; cases h
  exact a.elim
 simp only [hy] at a b |-;cases x with
 | nils f k=>
   have g:bf ob ob' rd:=λ i e=>b i (by simp [pf,m7,e]);rw [zg hy g];exact qg (ok:=_) a b
 | own id ver lo len=>
   cases lo with
   | succ lo=>exact a.elim
   | zero=>
     simp only [pf] at a b;rcases hr:i8 ob id ver with _ | ⟨f,k,j,l,xs⟩
     ·rw [hr] at a; exact a.elim
     rw [hr] at a b;have g:bf ob ob' rd:=λ i e=>b i (by simp [e]);rw [zg hy g];simp only [pf];rw [hr,m6 (b id (by simp)),hr];exact jc a b
 | _=>exact a.elim
theorem ar1 {sz:Nat} {x y:AV}:v5 ob ob' λ ob=>qm ob sz x (src ob y):=by
 intro a b;rcases hy:src ob y with _ | ⟨j,ys,rd⟩
 ·simp only [hy] at a;unfold qm at a;split at a
  ·rename_i h; cases h
  exact a.elim
 simp only [hy] at a b |-;cases x with
 | own id ver lo len=>
   simp only [qm] at a b;rcases hr:i8 ob id ver with _ | ⟨e,k,c,g,xs⟩
   ·rw [hr] at a; exact a.elim
   rw [hr] at a b;have f:bf ob ob' rd:=λ i d=>b i (by simp [d]);rw [zg hy f];simp only [qm];rw [hr,m6 (b id (by simp)),hr];exact jc a b
 | _=>exact a.elim
theorem ar3 {sz:Nat} {z:RV} {x:AV}:v5 ob ob' λ ob=>uq ob sz z x:=by
 intro a b;cases x with
 | own id ver lo len=>
   simp only [uq] at a b |-;rcases hr:i8 ob id ver with _ | ⟨d,f,c,e,xs⟩
   ·rw [hr] at a; exact a.elim
   rw [hr] at a b;rw [m6 (b id (by simp)),hr];exact jc (rd:=[]) a b
 | _=>exact a.elim
theorem aff {ver:Nat} {ok:List MapEntry->Prop} {e:List MapEntry->Nat->List MapEntry} {d:List MapEntry->Nat->Nat}:v5 ob ob' λ ob=>ku id ver ob ok e d (o3 ob id ver):=by
 intro a b;rcases hr:o3 ob id ver with _ | ⟨es,c⟩
 ·simp only [hr,ku] at a; exact a.elim
 simp only [hr,ku] at a b |-;rw [ma (b id (by simp)),hr];exact jc (rd:=[]) a b
theorem ap3 {str:Bool} {x i y:AV}:v5 ob ob' (lf str x i y):=by
 cases x with
 | mp id ver=>cases i with
   | r i=>cases i with
     | v k=>
       show v5 ob ob' λ ob=>pz str k id ver ob (toV y);generalize toV y=q;cases q with
       | none=>exact λ h _=>h.elim
       | some v=>exact aff
     | _=>exact λ h _=>h.elim
   | _=>exact λ h _=>h.elim
 | _=>exact λ h _=>h.elim
theorem ap4 {x i y:AV}:v5 ob ob' (ad5 x i y):=by
 cases x with
 | mp id ver=>cases i with
   | r i=>cases i with
     | v k=>cases k with
       | int q n=>
         show v5 ob ob' λ ob=>aiq n id ver ob (toV y);generalize toV y=q;cases q with
         | none=>exact λ h _=>h.elim
         | some v=>exact aff
       | _=>exact λ h _=>h.elim
     | _=>exact λ h _=>h.elim
   | _=>exact λ h _=>h.elim
 | _=>exact λ h _=>h.elim
theorem ap5 {str:Bool} {z:RV} {x i:AV}:v5 ob ob' (abp str z x i):=by
 cases x with
 | mp id ver=>cases i with
   | r i=>cases i with
     | v k=>cases z with
       | v zv=>
         intro a b;simp only [abp] at a b |-;rcases hr:o3 ob id ver with _ | ⟨es,c⟩
         ·simp only [hr,agh] at a; exact a.elim
         simp only [hr,agh] at a b |-;rw [ma (b id (by simp)),hr];exact jc (rd:=[]) a b
       | _=>exact λ h _=>h.elim
     | _=>exact λ h _=>h.elim
   | _=>exact λ h _=>h.elim
 | _=>exact λ h _=>h.elim
theorem ap6 {str:Bool} {x i:AV}:v5 ob ob' (lh str x i):=by
 cases x with
 | mp id ver=>cases i with
   | r i=>cases i with
     | v k=>exact aff
     | _=>exact λ h _=>h.elim
   | _=>exact λ h _=>h.elim
 | _=>exact λ h _=>h.elim
theorem arz {d:Nat} {x:AV}:v5 ob ob' (qd d x):=by
 cases x with
 | mp id ver=>
   intro a b;simp only [qd] at a b |-;rcases hr:o3 ob id ver with _ | ⟨es,c⟩
   ·rw [hr] at a; exact a.elim
   rw [hr] at a b;rw [ma (b id (by simp [vx,m7])),hr];exact qg (ok:=_) a b
 | _=>exact λ h _=>h.elim
theorem ar0 {x:AV}:v5 ob ob' λ ob=>ui ob x:=by
 cases x with
 | own id ver lo len=>
   intro a b;simp only [ui] at a b |-;rcases hr:i8 ob id ver with _ | ⟨d,f,c,e,xs⟩
   ·rw [hr] at a; exact a.elim
   rw [hr] at a b;rw [m6 (b id (by simp)),hr];exact jc (rd:=[]) a b
 | _=>exact λ h _=>h.elim
theorem ar2 {x y:AV}:v5 ob ob' λ ob=>uo ob x y:=by
 cases x with
 | own id ver lo len=>
   cases y with
   | r q=>cases q with
     | v u=>cases u with
       | string sv=>
         intro a b;simp only [uo] at a b |-;rcases hr:i8 ob id ver with _ | ⟨d,f,c,e,xs⟩
         ·rw [hr] at a; exact a.elim
         rw [hr] at a b;rw [m6 (b id (by simp)),hr];exact jc (rd:=[]) a b
       | _=>exact λ h _=>h.elim
     | _=>exact λ h _=>h.elim
   | _=>exact λ h _=>h.elim
 | _=>exact λ h _=>h.elim
theorem ay5 {o:PO} {d:Nat}:v5 ob ob' λ ob=>o.act d e ob:=by
 cases o with
 | new zs=>exact qg
 | box x=>exact qg
 | bsl sz z ps=>exact ar4
 | st n x y=>exact v5.and avd
 | app sz z bytes x y=>exact v5.and ar5
 | clr sz z x=>exact v5.and ar3
 | cpy sz x y=>exact v5.and ar1
 | mkm=>exact qg
 | mset str x i y=>exact v5.and ap3
 | ment str z x i=>exact v5.and ap5
 | mest x i y=>exact v5.and ap4
 | mdel str x i=>exact v5.and ap6
 | rng x=>exact v5.and arz
 | mrk x=>exact v5.and ar0
 | cps x y=>exact v5.and ar2
 | toBytes z x=>
   refine v5.and ?_;generalize (x.ev e).bare=y;rcases y with ⟨v | _ | _⟩ | _ | _ | _ | _ | _ | _ | _ | _ | _ | _ | _ | _
   ·cases v<;>first | exact qg | exact qh
   all_goals exact qh
 | mks sz z bytes l c=>
   refine v5.and ?_;generalize (l.ev e).bare=y;generalize (c.ev e).bare=a;rcases y with ⟨v | _ | _⟩ | _ | _ | _ | _ | _ | _ | _ | _ | _ | _ | _ | _
   ·cases v with
    | int k i=>
      rcases a with ⟨v | _ | _⟩ | _ | _ | _ | _ | _ | _ | _ | _ | _ | _ | _ | _
      ·cases v<;>first | exact qg | exact qh
      all_goals exact qh
    | _=>exact qh
   all_goals exact qh
 | _=>exact qh
end

def eqv:Value->Value->Bool
 | .int k a,.int k' b=>k == k'&&a == b
 | .bool a,.bool b=>a == b
 | .string a,.string b=>a.data.toList == b.data.toList
 | .pointer none,.pointer none=>true
 | .nilFunc,.nilFunc=>true
 | .nilIface,.nilIface=>true
 | .map none,.map none=>true
 | _,_=>false
theorem agv {a b:Value} (h:eqv a b=true):a=b:=by
 unfold eqv at h;split at h
 ·rw [zah,beq_iff_eq,beq_iff_eq] at h;rw [h.1,h.2]
 ·rw [beq_iff_eq] at h;rw [h]
 ·rename_i a b;rw [beq_iff_eq] at h;obtain ⟨⟨a⟩⟩:=a;obtain ⟨⟨b⟩⟩:=b;simp only at h;rw [h]
 ·rfl
 ·rfl
 ·rfl
 ·rfl
 cases h
def eqz:Value->AV->Bool
 | .slice none 0 0,.nils _ _=>true
 | v,.r (.v x)=>eqv v x
 | _,_=>false
def opd:Operand->Opd->Bool
 | .tmp t,.t n=>t == n
 | .const v,.c x=>eqz v x
 | .func f,.c (.fn (.func f') [] 0)=>f == f'
 | _,_=>false
section
variable {w:World} {R:Nat->Prop} {ob:Obs} {ρ:Pl->Option Nat}
theorem ahv {v:Value} {x:AV} (h:eqz v x=true):RelA w R ob ρ x v:=by
 unfold eqz at h;split at h
 ·exact .nils _ _
 ·rw [agv h]; exact .r (.v _)
 cases h
theorem ad2 {a:Act} {e:Env} (b:∀t,RelA w R ob ρ (e t) (a.tmps.getD t undef)) {x:Operand} {y:Opd} (h:opd x y=true):RelA w R ob ρ (y.ev e) (a.eval x):=by
 unfold opd at h;split at h
 ·simp at h; subst h; exact b _
 ·exact ahv h
 ·simp at h; subst h; exact .fn _ [] 0 #[] #[] rfl rfl (by simp)
 cases h
theorem RelA.bare {g:Bool} (a:g=true) {x:AV} (h:RelA w R ob ρ x c) (b:x.may g):RelA w R ob ρ x.bare c:=by
 cases h<;>first | (simp only [AV.bare]; constructor<;>assumption) | skip
 simp only [AV.bare,AV.may] at *;rename_i h d;exact h (b a)
end
def ae8:Option Operand->Option Opd->Bool
 | none,none=>true
 | some x,some y=>opd x y
 | _,_=>false
def bo (P:Program) (t:TypeId) (f:TypeId->TypeInfo->Bool):Bool:=
 match P.underlying t with
 | some (.slice e)=>match P.info? e with
   | some i=>f e i
   | none=>false
 | _=>false
def x7 (P:Program) (t:TypeId) (f:TypeDesc->Bool):Bool:=
 match P.underlying t with
 | some d=>f d
 | none=>false
def aag (P:Program) (t:TypeId) (n:Option Nat):Bool:=
 match P.underlying t,P.info? t with
 | some (.struct _),some i=>n == some i.size
 | some (.array _ _),some i=>n == some i.size
 | some _,some _=>n == none
 | _,_=>false
def ad9 (P:Program) (t:TypeId) (f:Nat) (k:Go.Field->TypeInfo->Bool):Bool:=
 match P.underlying t with
 | some (.struct fs)=>match fs[f]? with
   | some fd=>match P.info? fd.type with
     | some i=>k fd i
     | none=>false
   | none=>false
 | _=>false
def eqr:Value->RV->Bool
 | .slice none 0 0,.sl _ []=>true
 | v,.v x=>eqv v x
 | _,_=>false
def s8 {b a:Type} (f:b->a->Bool):List b->List a->Bool
 | [],[]=>true
 | x::xs,y::ys=>f x y&&s8 f xs ys
 | _,_=>false
def qu (P:Program) (t:TypeId) (p:Nat×Operand) (q:Nat×Nat×Opd):Bool:=
 opd p.2 q.2.2&&(match P.underlying t with
 | some (.struct fs)=>match fs[p.1]? with
   | some f=>match P.info? f.type with
     | some i=>f.offset == q.1&&i.size == q.2.1
     | none=>false
   | none=>false
 | some (.array _ e)=>match P.info? e with
   | some i=>p.1*i.size == q.1&&i.size == q.2.1
   | none=>false
 | _=>false)
def zm (str:Bool):TypeDesc->Bool
 | .string=>str
 | .slice _=>!str
 | _=>false
def ahz (P:Program):TypeDesc->Bool
 | .struct fs=>fs.all λ f=>(P.info? f.type).isSome
 | .array _ e=>(P.info? e).isSome
 | _=>false
def ac8:Nat->TypeDesc->Bool
 | 0,.int _=>true
 | 1,.bool=>true
 | 2,.string=>true
 | _,_=>false
def adh (g:TypeId->List Nat->Bool) (P:Program):List Go.Field->List Nat->Nat->Bool
 | [],ks,_=>ks.isEmpty
 | f :: fs, ks, i => f.name != "_" && f.offset == i && decide (P.cellsOf f.type ≤ ks.length) && g f.type (ks.take (P.cellsOf f.type)) && adh g P fs (ks.drop (P.cellsOf f.type)) (i + P.cellsOf f.type)
def adi (g:TypeId->List Nat->Bool) (P:Program) (e:TypeId):Nat->List Nat->Bool
 | 0,ks=>ks.isEmpty
 | n+1,ks=>decide (P.cellsOf e<=ks.length)&&g e (ks.take (P.cellsOf e))&&adi g P e n (ks.drop (P.cellsOf e))
def uy (P:Program):Nat->TypeId->List Nat->Bool
 | 0,_,_=>false
 | d+1,t,ks=>match P.underlying t with
   | some (.struct fs)=>adh (uy P d) P fs.toList ks 0 && !P.stoodInHeld t
   | some (.array n e)=>(P.info? e).isSome&&adi (uy P d) P e n ks
   | some u=>(match ks with
     | [k]=>ac8 k u
     | _=>false)
   | none=>false
def agn (P:Program) (t:TypeId):Bool:=match P.underlying t with
 | some (.struct _)=>true
 | some (.array _ _)=>true
 | _=>false
def ase (P:Program) (t:TypeId) (a:List Nat):Bool:=
 uy P 4 t a&&agn P t && !P.eqGuardType P.depth t
def ahr (P:Program) (a:Bool) (f:FuncId):Bool:=match P.funcs[f]? with
 | some fn => fn.body.isNone && (fn.name == if a then "math/bits.Sub64" else "math/bits.Add64") && (fn.origin == "" || fn.origin == fn.name)
 | none=>false
def uv (P:Program) (t:TypeId) (str:Bool) (f:TypeId->Bool):Bool:=
 match P.underlying t with
 | some (.map k e)=>(match P.underlying k with
   | some (.int _)=>!str
   | some .string=>str
   | _=>false)&&f e
 | _=>false
def vc (P:Program) (z:RV) (e:TypeId):Bool:=match P.info? e with
 | some i=>match i.zero with
   | some v=>match v,z with
     | .agg cs,.agg xs=>s8 eqr cs.toList xs&&xs.all (λ x=>match x with | .v _=>true | _=>false)
     | v,.v x=>eqv v x
     | _,_=>false
   | none=>false
 | none=>false
def aav (P:Program) (t:TypeId):Bool:=match P.underlying t with
 | some (.interface _)=>false
 | some _=>true
 | none=>false
def akk (P:Program) (o:Oper) (po:PO):Bool:=
 match o.op,po with
 | .move x,.mov y=>opd x y
 | .assign x,.mov y=>opd x y
 | .pick c a b,.pick c' a' b'=>opd c c'&&opd a a'&&opd b b'
 | .binOp op t x y _,.bin op' x' y'=>op == op'&&opd x x'&&opd y y'
 | .binOp op t x y _,.beq neg x' y'=>(if neg then op == .neq else op == .eql)&&x7 P t (λ d=>match d with | .bool=>true | _=>false)&&opd x x'&&opd y y'
 | .unOp op _ x,.un op' x'=>op == op'&&opd x x'
 | .convert a d x,.conv k x'=>x7 P a (λ _=>true)&&x7 P d (λ u=>match u with | .int k'=>k == k' | _=>false)&&opd x x'
 | .call c,.len str x'=>match c.callee with
   | .builtin .len=>match c.args.toList,c.argTypes.toList with
     | [x],[t]=>opd x x'&&x7 P t (zm str)
     | _,_=>false
   | _=>false
 | .indexAddr t x i,.ia sz _ x' i'=>bo P t (λ _ inf=>inf.size == sz)&&opd x x'&&opd i i'
 | .index t x i,.ixs x' i'=>x7 P t (λ d=>match d with | .string=>true | _=>false)&&opd x x'&&opd i i'
 | .load t x,.ld n x'=>aag P t n&&opd x x'
 | .nilCheck x,.nck x'=>opd x x'
 | .fieldAddr t x f,.fa off x'=>ad9 P t f (λ g i=>g.offset == off&&i.size != 0)&&opd x x'
 | .field t x f,.fld off n x'=>ad9 P t f (λ g i=>g.offset == off&&aag P g.type n)&&opd x x'
 | .slice t x lo hi mx,.sla n x'=>(match P.underlying t with
   | some (.array n' e)=>n' == n&&(match P.info? e with | some inf=>inf.size == 1 | none=>false)
   | _=>false)&&opd x x'&&lo.isNone&&hi.isNone&&mx.isNone
 | .slice t x lo hi mx,.sls x' lo' hi'=>x7 P t (λ d=>match d with | .string=>true | _=>false)&&mx.isNone&&opd x x'&&ae8 lo lo'&&ae8 hi hi'
 | .slice t x lo hi mx,.sll sz x' lo' hi' mx'=>bo P t (λ _ inf=>inf.size == sz)&&opd x x'&&ae8 lo lo'&&ae8 hi hi'&&ae8 mx mx'&&(mx.isNone||hi.isSome)
 | .extract x i,.ext x' i'=>i == i'&&opd x x'
 | .convert a d x,.toStr x'=>bo P a (λ e _=>x7 P e (λ d=>match d with | .int .u8=>true | _=>false))&&x7 P d (λ d=>match d with | .string=>true | _=>false)&&opd x x'
 | .build t ps,.build zs qs=>(match P.info? t with | some i=>(match i.zero with | some z=>s8 eqz z.cells.toList zs | none=>false) | none=>false)&&x7 P t (ahz P)&&s8 (qu P t) ps.toList qs
 | .makeFunc f first cap,.mkf f' xs k=>f == f'&&first.size == k&&s8 opd (first++cap).toList xs
 | .call c,.mm mx x' ys'=>(match c.callee with
   | .builtin .min=>!mx
   | .builtin .max=>mx
   | _=>false)&&(match c.args.toList with
   | x::ys=>opd x x'&&s8 opd ys ys'
   | _=>false)
 | .indexAddr t x i,.iaa n sz x' i'=>(match P.underlying t with
   | some (.array n' e)=>n == n'&&(match P.info? e with
     | some inf=>inf.size == sz
     | none=>false)
   | _=>false)&&opd x x'&&opd i i'
 | .call c,.carry sub x' y' z'=>(match c.callee with
   | .value (.func f)=>ahr P sub f
   | _=>false)&&(match c.args.toList with
   | [x,y,z]=>opd x x'&&opd y y'&&opd z z'
   | _=>false)
 | .binOp op t x y _,.eqa neg ks x' y'=>(if neg then op == .neq else op == .eql)&&ase P t ks&&opd x x'&&opd y y'
 | .lookup t x i c,.lkp str z c' x' i'=>uv P t str (vc P z)&&c == c'&&opd x x'&&opd i i'
 | .call c,.lenm x'=>match c.callee with
   | .builtin .len=>match c.args.toList,c.argTypes.toList with
     | [x],[t]=>opd x x'&&x7 P t (λ d=>match d with | .map _ _=>true | _=>false)
     | _,_=>false
   | _=>false
 | .makeInterface t x,.mki t' x'=>t == t'&&aav P t&&opd x x'
 | .typeAssert x _ t c,.tas t' z c' x'=>t == t'&&aav P t&&vc P z t&&c == c'&&opd x x'
 | .entry x,.ent x'=>opd x x'
 | .binOp op t x y _,.eqn neg x'=>(match y with | .const (.pointer none)=>true | _=>false)&&(if neg then op == .neq else op == .eql)&&x7 P t (λ d=>match d with | .pointer _=>true | _=>false)&&opd x x'
 | _,.no=>true
 | _,_=>false
def PO.nod:PO->Bool
 | .st _ _ _=>true
 | .mset _ _ _ _=>true
 | .mest _ _ _=>true
 | .mdel _ _ _=>true
 | .clr _ _ _=>true
 | _=>false
def adp (P:Program) (o:Oper) (po:PO):Bool:=
 match o.op,po with
 | .alloc e,.new zs=>match P.info? e with
   | some i=>match i.zero with
     | some z=>s8 eqz z.cells.toList zs
     | none=>false
   | none=>false
 | .box _ x,.box x'=>opd x x'
 | .buildSlice t n ps,.bsl sz _ ps'=>bo P t (λ _ i=>i.size == sz&&i.zero.isSome)&&n == ps'.length&&s8 (λ p q=>opd p.2 q) ps.toList ps'&&ps.toList.map (·.1) == List.range n&&n*sz<=16777216&&n<=16777216
 | .store t x y,.st n x' y'=>(match P.info? t with | some i=>i.size == n | none=>false)&&opd x x'&&opd y y'
 | .call c,.app sz _ bytes x' y'=>match c.callee with
   | .builtin .append=>match c.args.toList,c.argTypes.toList with
     | [x,y],[t,u]=>bo P t (λ _ i=>i.size == sz&&i.bytes == bytes&&(match i.zero with | some z=>z.cells.size == sz | none=>false)&&sz != 0)&&bo P u (λ _ _=>true)&&opd x x'&&opd y y'
     | _,_=>false
   | _=>false
 | .call c,.cpy sz x' y'=>match c.callee with
   | .builtin .copy=>match c.args.toList,c.argTypes.toList with
     | [x,y],[t,u]=>bo P t (λ _ i=>i.size == sz)&&bo P u (λ _ _=>true)&&opd x x'&&opd y y'
     | _,_=>false
   | _=>false
 | .convert a d x,.toBytes _ x'=>x7 P a (λ d=>match d with | .string=>true | _=>false)&&bo P d (λ e i=>i.size == 1&&x7 P e (λ d=>match d with | .int .u8=>true | _=>false))&&opd x x'
 | .makeSlice t l c,.mks sz z bytes l' c'=>bo P t (λ _ i=>i.size == sz&&i.bytes == bytes&&sz != 0&&(match i.zero with | some v=>s8 eqr v.cells.toList z.cells&&v.cells.size == sz | none=>false))&&opd l l'&&opd c c'
 | .makeMap _ r,.mkm=>r.isNone
 | .mapEntry t x i,.ment str z x' i'=>uv P t str (vc P z)&&opd x x'&&opd i i'
 | .entryStore _ x i y,.mest x' i' y'=>opd x x'&&opd i i'&&opd y y'
 | .mapUpdate t x i y,.mset str x' i' y'=>uv P t str (λ _=>true)&&opd x x'&&opd i i'&&opd y y'
 | .call c,.mdel str x' i'=>match c.callee with
   | .builtin .delete=>match c.args.toList,c.argTypes.toList with
     | [x,i],[t,_]=>uv P t str (λ _=>true)&&opd x x'&&opd i i'
     | _,_=>false
   | _=>false
 | .range t x,.rng x'=>x7 P t (λ d=>match d with | .map _ _=>true | _=>false)&&opd x x'
 | .call c,.clr sz z x'=>match c.callee with
   | .builtin .clear=>match c.args.toList,c.argTypes.toList with
     | [x],[t]=>bo P t (λ _ i=>i.size == sz&&(match i.zero with | some v=>s8 eqr v.cells.toList z.cells&&v.cells.size == sz | none=>false))&&opd x x'
     | _,_=>false
   | _=>false
 | .call c,.cps x' y'=>match c.callee with
   | .builtin .copy=>match c.args.toList,c.argTypes.toList with
     | [x,y],[t,_]=>bo P t (λ _ i=>i.size == 1)&&opd x x'&&opd y y'
     | _,_=>false
   | _=>false
 | .convert a d x,.mrk x'=>bo P a (λ e _=>x7 P e (λ d=>match d with | .int .u8=>true | _=>false))&&a == d&&opd x x'
 | _,_=>false

abbrev RA (X:Cx) (s:St) (ρ:Pl->Option Nat) (w:World):AV->Value->Prop:=RelA w (d7 X.B s.ob ρ w) s.ob ρ
def l6 (P:Program) (X:Cx) (a:Act) (w:World) (s:St) (ρ:Pl->Option Nat) (o:Oper) (v:AV):Prop:=
 ∃c,(execOp a.eval o).run P w=.ok (.value c) w/\RA X s ρ w v c
section
variable {P:Program} {X:Cx} {w:World} {s:St} {ρ:Pl->Option Nat} {a:Act} {o:Oper}
theorem d6 {g:Bool} (c:Gam X s ρ a w) (b:g=true) {x:Operand} {y:Opd} (h:opd x y=true) (d:(y.ev s.e).may g):RA X s ρ w (y.ev s.e).bare (a.eval x):=
 (ad2 c.env h).bare b d
theorem amb {k:IntKind} {m:Int} (h:RA X s ρ w (int k m) c):c=.int k m:=by cases h; rename_i h; cases h; rfl
theorem j8 {x:Value} (h:RA X s ρ w (.r (.v x)) c):c=x:=by cases h; rename_i h; cases h; rfl
theorem be (x:Value):RA X s ρ w (.r (.v x)) x:=.r (.v x)
theorem aul {g:Bool} (d:g=true) {op:BinOp} {t ty:TypeId} {x y:Operand} {u v:AV} (j:o.op=.binOp op t x y ty) (i:RA X s ρ w u (a.eval x)) (h:RA X s ρ w v (a.eval y))
 (c:(ur g op u v).1):l6 P X a w s ρ o (ur g op u v).2:=by
 unfold ur at c |-;split at c
 ·rename_i k m q m';have f:=amb i;have e:=amb h;simp only [l6,execOp,j,f,e];cases op<;>simp only [yy] at c |-
  all_goals first
   | (subst c; refine ⟨_,?_,be _⟩; simp [eqGuard,binOp,Op.intArith,Op.intBits,Op.intCmp]; done)
   | (obtain ⟨rfl,c⟩:=c; refine ⟨_,?_,be _⟩; simp [eqGuard,binOp,Op.intDiv,c d]; done)
   | (refine ⟨_,?_,be _⟩; have p:=c d; simp [eqGuard,binOp,Op.shift,show ¬m'<0 by omega]; done)
 ·rename_i b n;have f:=j8 i;have e:=j8 h;simp only [l6,execOp,j,f,e];cases op<;>simp only [yx,bad] at c |-
  ·refine ⟨_,?_,be _⟩;have p:=c d
   have l:¬(((b.size+n.size:Nat):Int)>IntKind.i64.max):=by
    rw [show IntKind.i64.max=9223372036854775807 from rfl]; omega
   simp only [eqGuard,binOp,Op.stringOp,Sem.run_bind,Sem.run_ite,Sem.run_pure,if_neg l];simp
  all_goals first
   | first | exact (c d).elim | exact (c.2 d).elim
   | (refine ⟨_,?_,be _⟩; simp [eqGuard,binOp,Op.stringOp]; done)
 first | exact (c d).elim | exact (c.2 d).elim
theorem aq9 {g:Bool} (k:g=true) {x y z:Operand} {u v t:AV} (m:o.op=.pick x y z) (l:RA X s ρ w u (a.eval x)) (n:RA X s ρ w v (a.eval y)) (p:RA X s ρ w t (a.eval z))
 (b:(nq g u v t).1):l6 P X a w s ρ o (nq g u v t).2:=by
 unfold nq at b |-;split at b
 ·have f:=j8 l;have i:=j8 n;have j:=j8 p;simp only [l6,execOp,m,f,i,j];rename_i c d e;refine ⟨_,?_,be _⟩;cases c<;>simp [asBool]
 ·have f:=j8 l;have j:=j8 p;rename_i c h d e;simp only [l6,execOp,m,f,j];refine ⟨_,?_,be _⟩;cases c
  ·simp [asBool]
  cases n with
  | gd _ hv1 hv2=>
    have i:=j8 (hv1 (b k rfl));simp [asBool,i]
 ·have f:=j8 l;have i:=j8 n;rename_i c d h e;simp only [l6,execOp,m,f,i];refine ⟨_,?_,be _⟩;cases c
  ·cases p with
   | gd _ ht1 ht2=>
     have j:=j8 (ht1 (b k rfl));simp [asBool,j]
  simp [asBool]
 ·have f:=j8 l;have i:=j8 n;simp only [l6,execOp,m,f,i];refine ⟨_,?_,be _⟩;simp [asBool,b k]
 ·have f:=j8 l;have j:=j8 p;simp only [l6,execOp,m,f,j];refine ⟨_,?_,be _⟩;simp [asBool,b k]
 ·have f:=j8 l;have j:=j8 p;simp only [l6,execOp,m,f,j];refine ⟨_,?_,be _⟩;simp [asBool,b k]
 ·have f:=j8 l;have i:=j8 n;simp only [l6,execOp,m,f,i];refine ⟨_,?_,be _⟩;simp [asBool,b k]
 first | exact (b k).elim | exact (b.2 k).elim
theorem aum {g:Bool} (e:g=true) {b:Bool} {op:BinOp} {t ty:TypeId} {x y:Operand} {u v:AV} (h:o.op=.binOp op t x y ty) (d:op=if b then .neq else .eql) (k:P.underlying t=some .bool)
 (l:RA X s ρ w u (a.eval x)) (f:RA X s ρ w v (a.eval y)) (c:(ut g b u v).1):l6 P X a w s ρ o (ut g b u v).2:=by
 unfold ut at c |-;split at c
 ·have i:=j8 l;have j:=j8 f;simp only [l6,execOp,h,i,j];refine ⟨_,?_,be _⟩;subst d;cases b<;>simp [eqGuard,binOp,run_equal_bool w t _ _ k]
 first | exact (c e).elim | exact (c.2 e).elim
theorem aii {x:AV} (h:RA X s ρ w x c) (b:x.isA=true):∃cs,c=.agg cs/\∀(i:Nat) (y:AV),x.cells[i]?=some y->∃v,cs[i]?=some v/\RA X s ρ w y v:=by
 cases h with
 | agg xs cs hl hr=>
   refine ⟨cs,rfl,λ i y hy=>?_⟩;simp only [AV.cells] at hy;have a:=(zam.1 hy).1;have hc:cs[i]?=some (cs[i]'(by omega)):=by simp [show i<cs.size by omega]
   exact ⟨_,hc,hr i y _ hy hc⟩
 | r h0=>
   cases h0 with
   | agg xs cs hl hr=>
     refine ⟨cs,rfl,λ i y hy=>?_⟩;simp only [AV.cells,List.getElem?_map,zaq] at hy;obtain ⟨z,d,rfl⟩:=hy;have a:=(zam.1 d).1;have hc:cs[i]?=some (cs[i]'(by omega)):=by simp [show i<cs.size by omega]
     exact ⟨_,hc,.r (hr i z _ d hc)⟩
   | _=>cases b
 | _=>cases b
theorem auq {t:TypeId} {d:Nat} (a:x7 P t (ac8 k)=true) {u v:AV} {b:Bool} {c':Value} (h:eq2 k u v=some b) (f:RA X s ρ w u c) (e:RA X s ρ w v c'):(Op.equalIn (d+1) t c c').run P w=.ok b w:=by
 unfold x7 at a;split at a
 ·rename_i i g;unfold eq2 at h;split at h
  ·split at h
   ·rename_i j;subst j;cases h;rw [j8 f,j8 e];cases i<;>first | (simp [ac8] at a; done) | exact run_equalIn_int w d t _ _ _ _ g
   cases h
  ·cases h;rw [j8 f,j8 e];cases i<;>first | (simp [ac8] at a; done) | exact run_equalIn_bool' w d t _ _ g
  ·cases h;rw [j8 f,j8 e];cases i<;>first | (simp [ac8] at a; done) | exact run_equalIn_string w d t _ _ g
  cases h
 cases a
theorem adj:∀{a:List Nat} {c vs:List AV} {b:Bool} (n:Nat),eql a c vs=some b->∃e d,eql (a.take n) (c.take n) (vs.take n)=some e/\eql (a.drop n) (c.drop n) (vs.drop n)=some d/\b=(e&&d)
 | a,c,vs,b,0,h=>⟨true,b,by simp [eql],by simpa using h,by simp⟩
 | [],[],[],b,n+1,h=>by simp [eql] at h; subst h; exact ⟨true,true,by simp [eql],by simp [eql],rfl⟩
 | k::a,u::c,v::vs,b,n+1,h=>by
   simp only [eql] at h;split at h
   ·rename_i p q j i;cases h;obtain ⟨e,d,f,g,l⟩:=adj n i;refine ⟨p&&e,d,?_,by simpa using g,by rw [l,Bool.and_assoc]⟩;simp only [List.take_succ_cons,eql,j,f]
   cases h
 | [],_::_,_,_,n+1,h=>by cases h
 | [],[],_::_,_,n+1,h=>by cases h
 | _::_,[],_,_,n+1,h=>by cases h
 | _::_,_::_,[],_,n+1,h=>by cases h
theorem aa2:∀{a:List Nat} {c vs:List AV} {b:Bool},eql a c vs=some b->c.length=a.length/\vs.length=a.length
 | [],[],[],b,h=>⟨rfl,rfl⟩
 | k::a,u::c,v::vs,b,h=>by
   simp only [eql] at h;split at h
   ·rename_i p q e d;have:=aa2 d;simp only [List.length_cons];omega
   cases h
 | [],_::_,_,_,h=>by cases h
 | [],[],_::_,_,h=>by cases h
 | _::_,[],_,_,h=>by cases h
 | _::_,_::_,[],_,h=>by cases h
def AtR (X:Cx) (s:St) (ρ:Pl->Option Nat) (w:World) (xs:Array Value) (off:Nat) (a:List AV):Prop:=∀i u,a[i]?=some u->∃c,xs[off+i]?=some c/\RA X s ρ w u c
theorem AtR.take {xs:Array Value} {off n:Nat} {b:List AV} (h:AtR X s ρ w xs off b):AtR X s ρ w xs off (b.take n):=λ i u a=>by
 rw [zad] at a;split at a
 ·exact h i u a
 cases a
theorem AtR.drop {xs:Array Value} {off n:Nat} {a:List AV} (h:AtR X s ρ w xs off a):AtR X s ρ w xs (off+n) (a.drop n):=λ i u b=>by
 rw [zab] at b;have:=h _ u b
 rwa [<- zaj] at this
theorem AtR.cut {xs:Array Value} {off n:Nat} {a:List AV} (h:AtR X s ρ w xs off a) (f:a.length<=n):AtR X s ρ w (xs.extract off (off+n)) 0 a:=λ i u d=>by
 obtain ⟨c,hc,e⟩:=h i u d;have g:i<a.length:=(zam.1 d).1;refine ⟨c,?_,e⟩;have b:=(zai.1 hc).1;rw [Nat.zero_add,Array.getElem?_extract_of_lt (by omega)];rw [<- hc,Array.getElem?_eq_getElem b]
def xx (X:Cx) (s:St) (ρ:Pl->Option Nat) (w:World) (P:Program) (t:TypeId) (a:List AV) (c:Value):Prop:=
 if agn P t=true then ∃cs,c=.agg cs/\AtR X s ρ w cs 0 a else ∃u,a=[u]/\RA X s ρ w u c
theorem xi {d:Nat} {t:TypeId} {g:List Nat} (a:uy P d t g=true) {xs:Array Value} {off:Nat} {h:List AV} (hx:AtR X s ρ w xs off h) (b:h.length=g.length) (hc:g.length<=P.cellsOf t) :
 ∃c,(part t xs off).run P w=.ok c w/\xx X s ρ w P t h c:=by
 cases d with
 | zero=>cases a
 | succ d=>
   unfold uy at a;unfold xx agn;cases hu:P.underlying t with
   | none=>rw [hu] at a; cases a
   | some kd=>
     obtain ⟨i,m⟩:=info_of_underlying hu
     have f:((∃n e',kd=.array n e')\/(∃j,kd=.struct j))->(part t xs off).run P w=.ok (.agg (xs.extract off (off+P.cellsOf t))) w:=by
      rintro (⟨n,e',rfl⟩ | ⟨j,rfl⟩)<;>simp [part,isAgg,run_underlying hu,run_sizeOf w m]
     rw [hu] at a;cases kd
     case struct j=>exact ⟨_,f (.inr ⟨_,rfl⟩),by simp only [↓reduceIte]; exact ⟨_,rfl,hx.cut (by omega)⟩⟩
     case array n e=>exact ⟨_,f (.inl ⟨_,_,rfl⟩),by simp only [↓reduceIte]; exact ⟨_,rfl,hx.cut (by omega)⟩⟩
     all_goals
      simp only at a
      match g,a with
      | [k],a=>
        match h,b with
        | [u],_=>
          obtain ⟨c,l,o⟩:=hx 0 u rfl;rw [Nat.add_zero] at l;refine ⟨c,by simp [part,isAgg,run_underlying hu,l],?_⟩;simp only [zak,↓reduceIte];exact ⟨u,rfl,o⟩
theorem ajb (D:Nat):∀(d:Nat) {t:TypeId} {g:List Nat},uy P d t g=true->∀{m vs:List AV} {b:Bool} {c c':Value},eql g m vs=some b->xx X s ρ w P t m c->xx X s ρ w P t vs c' ->
 (Op.equalIn (D+d) t c c').run P w=.ok b w
 | 0,_,_,a,_,_,_,_,_,_,_,_=>by cases a
 | d+1,t,g,a,m,vs,b,c,c',l,C,B=>by
   have Y:∀{t:TypeId} {g:List Nat},uy P d t g=true->∀{m vs:List AV} {b:Bool} {c c':Value},eql g m vs=some b->xx X s ρ w P t m c->xx X s ρ w P t vs c'->(Op.equalIn (D+d) t c c').run P w=.ok b w:=λ h=>ajb D d h;unfold uy at a;unfold xx agn at C B;cases hd:P.underlying t with
   | none=>rw [hd] at a; cases a
   | some kd=>
     rw [hd] at a C B;have h0:x7 P t (λ _=>true)=true:=by simp [x7,hd]
     cases kd
     case struct fs=>
      simp only [↓reduceIte] at C B;simp only [zah,Bool.not_eq_true'] at a;obtain ⟨cs,rfl,L⟩:=C;obtain ⟨o,rfl,r⟩:=B;have K:P.fieldsOf t=fs:=by simp [Program.fieldsOf,hd]
      have:=run_equalIn_struct w (D+d) t cs o (by rw [K]; exact hd) a.2;rw [show D+(d+1)=D+d+1 from rfl,this,K];clear this K hd;obtain ⟨a,_⟩:=a
      have G:∀(fl:List Go.Field) (i:Nat) {g:List Nat} {m vs:List AV} {b:Bool},adh (uy P d) P fl g i=true->eql g m vs=some b->AtR X s ρ w cs i m->AtR X s ρ w o i vs->(Op.eqFields (D+d) cs o fl).run P w=.ok b w:=by
       intro fl
       induction fl with
       | nil=>
         intro i g m vs b z l I H;simp only [adh,List.isEmpty_iff] at z;subst z;obtain ⟨E,J⟩:=aa2 l;obtain rfl:m=[]:=zap.1 E;obtain rfl:vs=[]:=zap.1 J;cases l;simp [Op.eqFields]
       | cons f fl ihl=>
         intro i g m vs b z l I H;simp only [adh,zah,bne_iff_ne,ne_eq,beq_iff_eq,decide_eq_true_eq] at z;obtain ⟨⟨⟨⟨f1,f2⟩,f3⟩,F⟩,O⟩:=z;obtain ⟨S,Z,E,J,rfl⟩:=adj (P.cellsOf f.type) l;obtain ⟨Q,U⟩:=aa2 E;have A:(g.take (P.cellsOf f.type)).length<=P.cellsOf f.type:=by simp; omega
         obtain ⟨x,M,T⟩:=xi F I.take Q A;obtain ⟨y,N,R⟩:=xi F H.take U A;simp only [Op.eqFields,if_pos f1,Sem.run_bind];rw [f2,M,Result.andThen_ok,N,Result.andThen_ok,Y F E T R,Result.andThen_ok];cases S
         ·simp
         simpa using ihl (i+P.cellsOf f.type) O J I.drop H.drop
      exact G _ 0 a l L r
     case array n e=>
      simp only [↓reduceIte] at C B;simp only [zah] at a;obtain ⟨cs,rfl,L⟩:=C;obtain ⟨o,rfl,r⟩:=B;obtain ⟨i,hi⟩:=Option.isSome_iff_exists.1 a.1;rw [show D+(d+1)=D+d+1 from rfl,run_equalIn_array w (D+d) cs o hd hi];obtain ⟨_,a⟩:=a
      have G:∀(n j:Nat) {g:List Nat} {m vs:List AV} {b:Bool},adi (uy P d) P e n g=true->eql g m vs=some b->AtR X s ρ w cs (j*P.cellsOf e) m->AtR X s ρ w o (j*P.cellsOf e) vs->(Op.eqItems (D+d) e (P.cellsOf e) cs o (List.range' j n)).run P w=.ok b w:=by
       intro n
       induction n with
       | zero=>
         intro j g m vs b z l I H;simp only [adi,List.isEmpty_iff] at z;subst z;obtain ⟨E,J⟩:=aa2 l;obtain rfl:m=[]:=zap.1 E;obtain rfl:vs=[]:=zap.1 J;cases l;simp [Op.eqItems]
       | succ n ihn=>
         intro j g m vs b z l I H;simp only [adi,zah,decide_eq_true_eq] at z;obtain ⟨⟨f3,F⟩,O⟩:=z;obtain ⟨S,Z,E,J,rfl⟩:=adj (P.cellsOf e) l;obtain ⟨Q,U⟩:=aa2 E;have A:(g.take (P.cellsOf e)).length<=P.cellsOf e:=by simp; omega
         obtain ⟨x,M,T⟩:=xi F I.take Q A;obtain ⟨y,N,R⟩:=xi F H.take U A;simp only [List.range'_succ,Op.eqItems,Sem.run_bind];rw [M,Result.andThen_ok,N,Result.andThen_ok,Y F E T R,Result.andThen_ok];cases S
         ·simp
         have V:=I.drop (n:=P.cellsOf e);have W:=H.drop (n:=P.cellsOf e);rw [<- Nat.succ_mul] at V W;simpa using ihn (j+1) O J V W
      rw [List.range_eq_range'];exact G n 0 a l (by simpa using L) (by simpa using r)
     all_goals
      simp only [zak,↓reduceIte] at C B a;obtain ⟨u,rfl,C⟩:=C;obtain ⟨v,rfl,B⟩:=B
      match g,a,l with
      | [k],a,l=>
        simp only [eql] at l;split at l
        ·rename_i p q hp hq;cases hq;cases l;rw [Bool.and_true];exact auq (by simpa [x7,hd] using a) hp C B
        cases l
theorem aui {g:Bool} (q:g=true) {d:Bool} {k:List Nat} {op:BinOp} {t ty:TypeId} {x y:Operand} {u v:AV} (E:o.op=.binOp op t x y ty) (m:op=if d then .neq else .eql) (z:ase P t k=true)
 (j:RA X s ρ w u (a.eval x)) (A:RA X s ρ w v (a.eval y)) (C:u.isA=true) (F:v.isA=true) (f:(wg g d (eql k u.cells v.cells)).1):l6 P X a w s ρ o (wg g d (eql k u.cells v.cells)).2:=by
 rcases he:eql k u.cells v.cells with _ | b
 ·rw [he] at f; first | exact (f q).elim | exact (f.2 q).elim
 simp only [ase,zah,Bool.not_eq_true'] at z;obtain ⟨⟨D,r⟩,B⟩:=z;obtain ⟨cs,hc,p⟩:=aii j C;obtain ⟨e,n,h⟩:=aii A F
 have l:(Op.equal t (.agg cs) (.agg e)).run P w=.ok b w:=by
  have:=ajb (X:=X) (s:=s) (ρ:=ρ) (w:=w) 9996 4 D he (c:=.agg cs) (c':=.agg e) (by unfold xx; rw [if_pos r]; exact ⟨cs,rfl,λ i u j=>by simpa using p i u j⟩) (by unfold xx; rw [if_pos r]; exact ⟨e,rfl,λ i u j=>by simpa using h i u j⟩);exact this
 simp only [l6,execOp,E,hc,n];refine ⟨_,?_,be _⟩;subst m;cases d<;>simp [binOp,l,run_eqGuard_agg w _ t x y cs e B]
theorem aw0 {g:Bool} (c:g=true) {op:UnOp} {t:TypeId} {x:Operand} {u:AV} (e:o.op=.unOp op t x) (f:RA X s ρ w u (a.eval x)) (b:(un1 g op u).1):l6 P X a w s ρ o (un1 g op u).2:=by
 unfold un1 at b |-;split at b
 ·have d:=j8 f;simp only [l6,execOp,e,d];cases op<;>simp only [bad,c,true_implies,forall_const] at b |-
  all_goals first
   | first | exact (b c).elim | exact (b.2 c).elim
   | (refine ⟨_,?_,be _⟩; simp [Op.unary,Op.intArith,Op.intBits]; done)
 ·have d:=j8 f;simp only [l6,execOp,e,d];cases op<;>simp only [bad,c,true_implies,forall_const] at b |-
  all_goals first
   | first | exact (b c).elim | exact (b.2 c).elim
   | (refine ⟨_,?_,be _⟩; simp [Op.unary]; done)
 first | exact (b c).elim | exact (b.2 c).elim
theorem arb {g:Bool} (e:g=true) {k:IntKind} {t c:TypeId} {d:TypeDesc} {x:Operand} {u:AV} (f:o.op=.convert t c x) (h:P.underlying t=some d) (i:P.underlying c=some (.int k)) (j:RA X s ρ w u (a.eval x))
 (b:(oe g k u).1):l6 P X a w s ρ o (oe g k u).2:=by
 unfold oe at b |-;split at b
 ·have l:=j8 j;simp only [l6,execOp,f,l];refine ⟨_,?_,be _⟩;simp [convert,run_underlying h,run_underlying i,Conv.intToInt]
 first | exact (b e).elim | exact (b.2 e).elim
theorem o4 {ob:Obs} {ver:Nat} {r:Nat×RV×Bool×Bool×List RV} (h:i8 ob id ver=some r):ob id=some (ver,.row r.1 r.2.1 r.2.2.1 r.2.2.2.1 r.2.2.2.2):=by
 unfold i8 at h;split at h
 ·split at h
  ·rename_i a b;cases h;rw [a,b]
  cases h
 cases h
theorem dn {ob:Obs} {ver:Nat} {r:List AV} (h:n7 ob id ver=some r):ob id=some (ver,.box r):=by
 unfold n7 at h;split at h
 ·split at h
  ·rename_i a b;cases h;rw [a,b]
  cases h
 cases h
theorem af3 {ob:Obs} {ver:Nat} {r:Unit} (h:ea ob id ver=some r):∃o,ob id=some (ver,o):=by
 unfold ea at h;split at h
 ·split at h
  ·rename_i a b;exact ⟨_,by rw [a,b]⟩
  cases h
 ·split at h
  ·rename_i a b;exact ⟨_,by rw [a,b]⟩
  cases h
 cases h
theorem At.live {ob:Obs} {ver:Nat} {X:Ob->Prop} {o:Ob} (h:At ob id ver X) (a:ob id=some (ver,o)):X o:=by
 obtain ⟨v,o',b,d,c⟩:=h;rw [b] at a;cases a;exact c rfl
theorem ki {ver a len:Nat} {r:Nat×RV×Bool×Bool×List RV} (h:RA X s ρ w (.own id ver a len) c) (b:i8 s.ob id ver=some r) :
 aa9 w ρ id a len c (.row r.1 r.2.1 r.2.2.1 r.2.2.2.1 r.2.2.2.2):=by
 cases h;rename_i h;exact h.live (o4 b)
theorem auc {g:Bool} (z:g=true) {str:Bool} {x:Operand} {u:AV} {t:TypeId} {d:TypeDesc} {c:Call} (K:o.op=.call c) (hc:c.callee=.builtin .len) (hx:c.args=#[x]) (F:c.argTypes=#[t]) (B:P.underlying t=some d)
 (i:zm str d=true) (p:RA X s ρ w u (a.eval x))
 (f:(qi g str u s.ob).ok):l6 P X a w s ρ o (qi g str u s.ob).v:=by
 have l:∀(m:Nat) (v:Value),a.eval x=v->(∀e,d=.slice e->∃A k,v=.slice A m k)->(d=.string->∃b,v=.string b/\b.size=m)->l6 P X a w s ρ o (int .i64 m):=by
  intro m v y D I;simp only [l6,execOp,K];refine ⟨_,?_,be _⟩;unfold zm at i;split at i
  ·rename_i B;obtain ⟨b,rfl,rfl⟩:=I rfl;simp [resolve,hc,hx,F,y,invoke,builtin,Builtin.len_,run_underlying B,goInt]
  ·rename_i B;obtain ⟨A,k,rfl⟩:=D _ rfl;simp [resolve,hc,hx,F,y,invoke,builtin,Builtin.len_,run_underlying B,goInt]
  cases i
 unfold qi at f |-;split at f
 ·cases p;rename_i p;generalize y:a.eval x=v at p;cases p;rename_i A cap O b o g hc N C Q z;refine l _ _ y (λ e j=>⟨A,cap,rfl⟩) (λ j=>?_);subst j;simp only [zm] at i;have:=f.1;rw [i] at this;cases this
 ·have D:=j8 p;refine l _ _ D (λ e j=>?_) (λ j=>⟨_,rfl,rfl⟩);subst j;have:=f.1;simp only [zm] at i;rw [this] at i;cases i
 ·generalize y:a.eval x=v at p;cases p;refine l 0 _ y (λ e j=>⟨_,_,rfl⟩) (λ j=>?_);subst j;simp only [zm] at i;have:=f.1;rw [i] at this;cases this
 ·split at f
  ·rename_i r C;obtain ⟨A,cap,E,J,G,M,H⟩:=ki p C;simp only [C];refine l _ _ E (λ e j=>⟨_,_,rfl⟩) (λ j=>?_);subst j;simp only [zm] at i;have:str=false:=f;rw [i] at this;cases this
  rename_i id ver _ n _ L;rcases hb:n7 s.ob id ver with _ | q
  ·rw [hb] at f;exact (f z).elim
  rw [hb] at f
  obtain ⟨A,cap,E,J,G,H⟩:aa9 w ρ _ _ _ (a.eval x) (.box q):=by
   cases p;rename_i h;exact h.live (dn hb)
  refine l _ _ E (λ e j=>⟨_,_,rfl⟩) (λ j=>?_);subst j;simp only [zm] at i;have:str=false:=f;rw [i] at this;cases this
 first | exact (f z).elim | exact (f.2 z).elim | exact f.2.elim
theorem ba (b o k:Nat):(⟨b,o,none⟩:Addr).add k=⟨b,o+k,none⟩:=by
 unfold Addr.add; split<;>simp_all
theorem aw3 {g:Bool} (C:g=true) {t e:TypeId} {i:TypeInfo} {sz:Nat} {z:RV} {x y:Operand} {u v:AV} (O:o.op=.indexAddr t x y) (S:P.underlying t=some (.slice e)) (K:P.info? e=some i)
 (hz:i.size=sz) (D:RA X s ρ w u (a.eval x)) (H:RA X s ρ w v (a.eval y))
 (d:(ia2 g sz z u v s.ob).ok):l6 P X a w s ρ o (ia2 g sz z u v s.ob).v:=by
 unfold ia2 at d |-;subst hz;split at d
 ·rename_i sz xs k m;have F:=j8 H;obtain ⟨rfl,n⟩:=d;obtain ⟨n,T⟩:=n C;cases D;rename_i D;generalize hc:a.eval x=c at D;cases D;rename_i A cap hm b o' gg U hA E Z G;obtain ⟨rfl,hR⟩:=hA (by omega);obtain ⟨f,rfl⟩:∃f:Nat,m=(f:Int):=⟨m.toNat,by omega⟩
  have l:f<xs.length:=by omega
  simp only [l6,execOp,O];refine ⟨.pointer (some ⟨b,o'+f*i.size,none⟩),?_,?_⟩
  ·simp [Instr.indexAt,asIntOf,F,hc,run_underlying S,sizeOf,typeInfo,K,l,ba]
  simp only [Vs.q,zal];have hx:xs[f]?=some (xs.getD f z):=by simp [l]
  exact .rp _ b _ (λ j=>gg f j) hR λ j y I=>⟨(G f _ j y hx I).1,(G f _ j y hx I).2,E f _ j y hx I⟩
 ·rename_i id ver L m k q;split at d
  ·rename_i M r E;have F:=j8 H;obtain ⟨p,n⟩:=d;obtain ⟨n,T⟩:=n C;obtain ⟨A,cap,R,e2,V,e4,J⟩:=ki D E;obtain ⟨b,cs,Y,fr,N,Q,W,f4⟩:=J (by omega);obtain ⟨f,rfl⟩:∃f:Nat,q=(f:Int):=⟨q.toNat,by omega⟩
   simp only [E];simp only [l6,execOp,O];refine ⟨.pointer (some ⟨b,(L+f)*M+0,none⟩),?_,?_⟩
   ·have l:f<m:=by omega
    simp [Instr.indexAt,asIntOf,F,R,Q,run_underlying S,sizeOf,typeInfo,K,l,ba,p,Nat.add_mul]
   refine .oel id ver _ 0 _ rfl ⟨ver,_,o4 E,zaa _,λ _=>?_⟩;exact ⟨by rw [zal]; simp only at e4 |-; omega,Nat.zero_le _,b,N,by rw [zal]⟩
  rcases hb:n7 s.ob id ver with _ | B
  ·rw [hb] at d;exact (d C).elim
  rw [hb] at d;have F:=j8 H;obtain ⟨p,n⟩:=d;obtain ⟨n,T⟩:=n C
  obtain ⟨A,cap,R,e2,V,J⟩:aa9 w ρ id L m (a.eval x) (.box B):=by
   cases D;rename_i h;exact h.live (dn hb)
  obtain ⟨b,cs,Y,fr,N,Q,W,f4⟩:=J (by omega);obtain ⟨f,rfl⟩:∃f:Nat,q=(f:Int):=⟨q.toNat,by omega⟩
  simp only [l6,execOp,O,iab];refine ⟨.pointer (some ⟨b,L+f,none⟩),?_,?_⟩
  ·have l:f<m:=by omega
   simp [Instr.indexAt,asIntOf,F,R,Q,run_underlying S,sizeOf,typeInfo,K,l,ba,p]
  exact .ptr id ver _ _ rfl ⟨ver,_,dn hb,zaa _,λ _=>⟨b,N,by rw [zal]⟩⟩
 first | exact (d C).elim | exact (d.2 C).elim | exact d.2.elim
theorem ao1 {g:Bool} (j:g=true) {e:Bool}:∀{vs:List AV} {cs:List Value} {u:AV} {c:Value},(mmL g e u vs).1->RA X s ρ w u c->vs.length=cs.length->(∀(i:Nat) (x:AV) (y:Value),vs[i]?=some x->cs[i]?=some y->RA X s ρ w x y) ->
 ∃r,(cs.foldlM (bif e then Builtin.max2 else Builtin.min2) c).run P w=.ok r w/\RA X s ρ w (mmL g e u vs).2 r
 | [],[],u,c,hok,hu,hl,h=>by
   have n:mmL g e u []=(True,u):=by unfold mmL; rfl
   exact ⟨c,by simp,by rw [n]; exact hu⟩
 | v::vs,d::cs,u,c,hok,hu,hl,h=>by
   have l:=h 0 v d rfl rfl;unfold mmL at hok;split at hok
   ·rename_i f;cases f
   ·rename_i k a p b ys f;cases f;have o:=j8 hu;have m:=j8 l;subst o; subst m;obtain ⟨r,g1,g2⟩   := ao1 j (cs:=cs) hok (be (.int k (bif e then max a b else min a b))) (by simpa using hl) (λ i x y hx hy=>h (i+1) x y (by simpa using hx) (by simpa using hy));refine ⟨r,?_,?_⟩
    ·rw [List.foldlM_cons,Sem.run_bind]
     have:((bif e then Builtin.max2 else Builtin.min2) (.int k a) (.int p b)).run P w=.ok (.int k (bif e then max a b else min a b)) w:=by
      cases e
      ·simp only [cond_false,Builtin.min2,Sem.run_pure];congr 2;rw [Int.min_def];split<;>split<;>omega
      simp only [cond_true,Builtin.max2,Sem.run_pure];congr 2;rw [Int.max_def];split<;>split<;>omega
     rw [this,Result.andThen_ok];exact g1
    rw [mmL]; exact g2
   first | exact (hok j).elim | exact (hok.2 j).elim
 | [],_::_,_,_,_,_,hl,_=>by cases hl
 | _::_,[],_,_,_,_,hl,_=>by cases hl
theorem aw2 {g:Bool} (j:g=true) {d:Bool} {c:Call} {x:Operand} {ys:List Operand} {u:AV} {vs:List AV} (f:o.op=.call c) (hc:c.callee=.builtin (if d then .max else .min)) (hx:c.args.toList=x::ys) (k:RA X s ρ w u (a.eval x))
 (l:vs.length=ys.length) (h:∀(i:Nat) (v:AV) (y:Operand),vs[i]?=some v->ys[i]?=some y->RA X s ρ w v (a.eval y)) (e:(mmL g d u vs).1):l6 P X a w s ρ o (mmL g d u vs).2:=by
 obtain ⟨r,h1,h2⟩   := ao1 j (P:=P) (cs:=ys.map a.eval) e k (by simp [l]) (λ i x y hx hy=>by
  rw [List.getElem?_map,zaq] at hy;obtain ⟨z,m,rfl⟩:=hy
  exact h i x z hx m)
 have b:c.args=(x::ys).toArray:=by rw [<- hx]
 refine ⟨r,?_,h2⟩;cases d
 ·simp only [if_false,cond_false,zak] at h1 hc;simp [execOp,f,resolve,hc,b,invoke,builtin,Builtin.min_,h1]
 simp only [if_true,cond_true] at h1 hc;simp [execOp,f,resolve,hc,b,invoke,builtin,Builtin.max_,h1]
theorem aue {g:Bool} (l:g=true) {t e:TypeId} {i:TypeInfo} {n sz:Nat} {x y:Operand} {u v:AV} (Q:o.op=.indexAddr t x y) (S:P.underlying t=some (.array n e)) (J:P.info? e=some i)
 (R:i.size=sz) (D:RA X s ρ w u (a.eval x)) (F:RA X s ρ w v (a.eval y)) (d:(jd g n sz u v s.ob).ok):l6 P X a w s ρ o (jd g n sz u v s.ob).v:=by
 subst R
 have p:∀b o' k (m:Int),a.eval x=.pointer (some ⟨b,o',none⟩)->a.eval y=.int k m->0<=m->m<n->(execOp a.eval o).run P w=.ok (.value (.pointer (some ⟨b,o'+m.toNat*i.size,none⟩))) w:=by
  intro b o' k m hx hy I N;simp [execOp,Q,hx,hy,Instr.indexAt,asIntOf,run_underlying S,Instr.sureAddr,sizeOf,typeInfo,J,ba,I,N]
 unfold jd at d |-;split at d
 ·rename_i id ver o' k m;split at d
  ·rename_i r z;have C:=dn z;have B:=j8 F;cases D;rename_i h;obtain ⟨b,q,hc⟩:=h.live C;simp only [z];exact ⟨_,p b _ k m hc B (d l).1 (d l).2,.ptr _ _ _ _ rfl ⟨_,_,C,zaa _,λ _=>⟨b,q,rfl⟩⟩⟩
  first | exact (d l).elim | exact (d.2 l).elim | exact d.2.elim
 ·rename_i id ver idx o' k m;split at d
  ·rename_i K r z;have C:=o4 z;have B:=j8 F;cases D;rename_i h;obtain ⟨A,H,b,q,hc⟩:=h.live C;simp only [z];obtain ⟨E,O,T⟩:=d l;refine ⟨_,p b _ k m hc B E O,.oel _ _ _ _ _ rfl ⟨_,_,C,zaa _,λ _=>⟨A,?_,b,q,?_⟩⟩⟩
   ·have:m.toNat*i.size<=n*i.size:=Nat.mul_le_mul_right _ (by omega);simp only;omega
   rw [zaj]
  first | exact (d l).elim | exact (d.2 l).elim | exact d.2.elim
 ·rename_i ys k m;have B:=j8 F;generalize hc:a.eval x=c at D;cases D;rename_i b o' f L M;obtain ⟨_,E⟩:=d;refine ⟨_,p b o' k m hc B (E l).1 (E l).2,.rp _ b _ (λ j=>f (m.toNat*i.size+j)) L λ j y G=>?_⟩;rw [zab] at G;have:=M (m.toNat*i.size+j) y G;rw [<- zaj] at this;exact this
 first | exact (d l).elim | exact (d.2 l).elim | exact d.2.elim
def xf:Array Value->Sem Value:=λ args=>do
 let (x, y, b) ← Extern.MathBitsCarry.three "Sub64" args
 pure (Extern.MathBitsCarry.pair ((x+Extern.MathBitsCarry.m64-y-b)%Extern.MathBitsCarry.m64) (if x<y+b then 1 else 0))
theorem ao0 (x y b:Nat) (a:b<=1) (w:World) :
 (xf #[.int .u64 x,.int .u64 y,.int .u64 b]).run P w =
  .ok (.tuple #[.int .u64 (((x+18446744073709551616-y-b)%18446744073709551616:Nat):Int),.int .u64 ((if x<y+b then 1 else 0:Nat):Int)]) w:=by
 have:b=0\/b=1:=by omega
 rcases this with rfl | rfl<;>rfl
theorem anw {a : Bool} {fn : Func} (h : fn.name = if a then "math/bits.Sub64" else "math/bits.Add64") (i : fn.origin = "" ∨ fn.origin = fn.name) :
 Extern.findNext fn = none ∧ Extern.find fn = some (if a then xf else add64Entry) ∧ (fn.name == "runtime.NumGoroutine") = false := by
 have b : fn.origin = "" ∨ fn.origin = if a then "math/bits.Sub64" else "math/bits.Add64" := by rw [← h]; exact i
 unfold Extern.findNext Extern.find;rw [h];cases a<;>simp only [if_true,if_false,zak] at b |-
 ·have c : Extern.allGenericRows.lookup "math/bits.Add64" = none := by kernel_rfl
  have e : Extern.allTypedRows.lookup "math/bits.Add64" = none := by kernel_rfl
  have g : Extern.allRows.lookup "math/bits.Add64" = some add64Entry := by kernel_rfl
  have d : Extern.allNextRows.lookup "math/bits.Add64" = none := by kernel_rfl
  have f : Extern.allNextRows.lookup "" = none := by kernel_rfl
  refine ⟨?_,?_,by decide⟩
  ·rcases b with b | b<;>simp [b,d,f]
  simp [c,e,g]
 have c : Extern.allGenericRows.lookup "math/bits.Sub64" = none := by kernel_rfl
 have e : Extern.allTypedRows.lookup "math/bits.Sub64" = none := by kernel_rfl
 have g : Extern.allRows.lookup "math/bits.Sub64" = some xf := by kernel_rfl
 have d : Extern.allNextRows.lookup "math/bits.Sub64" = none := by kernel_rfl
 have f : Extern.allNextRows.lookup "" = none := by kernel_rfl
 refine ⟨?_,?_,by decide⟩
 ·rcases b with b | b<;>simp [b,d,f]
 simp [c,e,g]
theorem aot {g:Bool} (n:g=true) {e:Bool} {c:Call} {f:FuncId} {x y z:Operand} {u v t:AV} (O:o.op=.call c) (hc:c.callee=.value (.func f)) (l:ahr P e f=true) (hx:c.args.toList=[x,y,z])
 (J:RA X s ρ w u (a.eval x)) (E:RA X s ρ w v (a.eval y)) (S:RA X s ρ w t (a.eval z)) (h:(io g e u v t).1):l6 P X a w s ρ o (io g e u v t).2:=by
 unfold io at h |-;split at h
 ·rename_i p q r;have L:=j8 J;have H:=j8 E;have K:=j8 S;obtain ⟨D,C,B,I,T,U⟩:=h n;have k:c.args=#[x,y,z]:=by rw [show c.args=c.args.toList.toArray by simp,hx]
  unfold ahr at l;split at l
  ·rename_i fn A;simp only [zah,Bool.or_eq_true,beq_iff_eq] at l;obtain ⟨⟨N,Q⟩,G⟩:=l;obtain ⟨R,M,F⟩:=anw Q G;have j:=λ args w=>run_callFunc_extern (P:=P) A F N R M args w
   have b:(execOp a.eval o).run P w=(((if e then xf else add64Entry) #[.int .u64 p,.int .u64 q,.int .u64 r]).run P w).andThen (λ v w'=>Result.ok (Next.value v) w'):=by
    have m:c.args.map a.eval=#[.int .u64 p,.int .u64 q,.int .u64 r]:=by rw [k,<- L,<- H,<- K]; simp
    rw [<- j,<- m];simp [execOp,O,resolve,hc,Act.eval,Deferred.ofValue,invoke]
    try rfl
   cases e
   ·simp only [if_false,zak] at b;rw [run_add64 p q r D C B I,Result.andThen_ok] at b;refine ⟨_,b,.tup _ _ rfl λ i x c hx hc=>?_⟩;rcases i with _ | _ | i
    ·simp at hx hc; subst hx; subst hc; exact be _
    ·simp at hx hc; subst hx; subst hc; exact be _
    simp at hx
   simp only [if_true] at b;obtain ⟨p,rfl⟩:=zar D;obtain ⟨q,rfl⟩:=zar C;obtain ⟨r,rfl⟩:=zar B;have d:=b;rw [ao0 p q r (by omega),Result.andThen_ok] at d;refine ⟨_,d,.tup _ _ rfl λ i x c hx hc=>?_⟩;rcases i with _ | _ | i
   ·simp only [zas,List.getElem?_cons_zero,Option.some.injEq] at hx hc;subst hx; subst hc;have:(((p+18446744073709551616-q-r)%18446744073709551616:Nat):Int)=((p:Int)+18446744073709551616-q-r)%18446744073709551616:=by omega
    rw [this];exact be _
   ·simp only [zas,List.getElem?_cons_zero,List.getElem?_cons_succ,Option.some.injEq] at hx hc;subst hx; subst hc;have:((if p<q+r then 1 else 0:Nat):Int)=if (p:Int)<q+r then 1 else 0:=by split<;>split<;>omega
    rw [<- this];exact be _
   simp at hx
  cases l
 first | exact (h n).elim | exact (h.2 n).elim
theorem aud {g:Bool} (f:g=true) {t:TypeId} {x y:Operand} {u v:AV} (q:o.op=.index t x y) (z:P.underlying t=some .string)
 (j:RA X s ρ w u (a.eval x)) (h:RA X s ρ w v (a.eval y)) (c:(uj g u v).1):l6 P X a w s ρ o (uj g u v).2:=by
 unfold uj at c |-;split at c
 ·rename_i b k m;have l:=j8 j;have i:=j8 h;obtain ⟨A,B⟩:=c f;obtain ⟨d,rfl⟩:∃d:Nat,m=(d:Int):=⟨m.toNat,by omega⟩
  have e:d<b.size:=by omega
  simp only [l6,execOp,q];refine ⟨_,?_,be _⟩
  have r:b[d]?=some (b.data.toList.getD d 0):=by
   have n:d<b.data.size:=e;have p:b[d]?=some (b[d]'e):=getElem?_pos b d e;rw [p];simp only [List.getD_eq_getElem?_getD,Array.getElem?_toList];rw [Array.getElem?_eq_getElem n]
   rfl
  simp [Instr.index,asIntOf,l,i,run_underlying z,r]
 first | exact (c f).elim | exact (c.2 f).elim
theorem at9 {g:Bool} (i:g=true) {x:Operand} {u:AV} (k:o.op=.nilCheck x) (f:RA X s ρ w u (a.eval x)) (d:(sb g u s.ob).ok):l6 P X a w s ρ o (sb g u s.ob).v:=by
 unfold sb at d |-;split at d
 ·split at d
  ·rename_i r j;have e:=f;cases f;rename_i h;obtain ⟨o',l⟩:=af3 j;obtain ⟨b,_,hc⟩:=h.live l;simp only [l6,execOp,k,hc,j];exact ⟨_,rfl,by rw [<- hc]; exact e⟩
  first | exact (d i).elim | exact (d.2 i).elim | exact d.2.elim
 ·split at d
  ·rename_i r j;have e:=f;cases f;rename_i h;obtain ⟨_,_,b,_,hc⟩:=h.live (o4 j);simp only [l6,execOp,k,hc,j];exact ⟨_,rfl,by rw [<- hc]; exact e⟩
  first | exact (d i).elim | exact (d.2 i).elim | exact d.2.elim
 ·have e:=f;generalize hc:a.eval x=c at f e;cases f;simp only [l6,execOp,k,hc];exact ⟨_,rfl,e⟩
 ·have e:=f;generalize hc:a.eval x=c at f e;cases f;simp only [l6,execOp,k,hc];exact ⟨_,rfl,e⟩
 first | exact (d i).elim | exact (d.2 i).elim | exact d.2.elim
theorem ah5 (b o:Nat) (cs:List Value) (h:∀j v,cs[j]?=some v->w.cell? ⟨b,o+j,none⟩=some v):(loadCells ⟨b,o,none⟩ cs.length).run P w=.ok cs.toArray w:=
 run_loadCells_list w ⟨b,o,none⟩ cs λ j v a=>by rw [ba]; exact h j v a
theorem aja {t:TypeId} {m:Option Nat} (f:aag P t m=true) (b o:Nat) (cs:List Value) (a:cs.length=m.getD 1) (h:∀j v,cs[j]?=some v->w.cell? ⟨b,o+j,none⟩=some v) :
 (Instr.loadAt t (.pointer (some ⟨b,o,none⟩))).run P w=.ok (match m with | none=>cs.getD 0 undef | some _=>.agg cs.toArray) w:=by
 unfold aag at f;split at f
 ·rename_i q i g n;have:m=some i.size:=by simpa using f
  subst this;have l:=ah5 (P:=P) b o cs h;simp only [zae] at a;rw [a] at l;simp [Instr.loadAt,Instr.sureAddr,loadVar,isAgg,run_underlying g,sizeOf,typeInfo,n,l]
 ·rename_i k e i g n;have:m=some i.size:=by simpa using f
  subst this;have l:=ah5 (P:=P) b o cs h;simp only [zae] at a;rw [a] at l;simp [Instr.loadAt,Instr.sureAddr,loadVar,isAgg,run_underlying g,sizeOf,typeInfo,n,l]
 ·rename_i d i s r g n;have:m=none:=by simpa using f
  subst this;simp only [zaf] at a;obtain ⟨c,rfl⟩:=List.length_eq_one_iff.1 a;have hc:=h 0 c rfl;simp only [Nat.add_zero] at hc
  have p:(isAgg t).run P w=.ok false w:=by
   simp only [isAgg,Sem.run_bind,run_underlying g,Result.andThen_ok]
   rfl
  simp [Instr.loadAt,Instr.sureAddr,loadVar,p,hc]
 cases f
theorem aug {g:Bool} (e:g=true) {x:Operand} {u:AV} (k:o.op=.extract x i) (f:RA X s ρ w u (a.eval x)) (b:(um g i u).1):l6 P X a w s ρ o (um g i u).2:=by
 unfold um at b |-;split at b
 ·rename_i xs;generalize hc:a.eval x=c at f;cases f;rename_i cs l h;have d:i<cs.size:=by omega
  simp only [l6,execOp,k,hc];refine ⟨cs[i],?_,h i _ _ ?_ (by simp [d])⟩
  ·simp [Instr.extract,d]
  have j:i<xs.length:=b;simp [j]
 first | exact (b e).elim | exact (b.2 e).elim
theorem asl {ys:List RV} {o:Nat} {g:Nat->Value} (e:∀(j:Nat) (y:RV),ys[j]?=some y->w.cell? ⟨b,o+j,none⟩=some (g j)) :
 ((List.range ys.length).map g).length=ys.length/\∀j v,((List.range ys.length).map g)[j]?=some v->w.cell? ⟨b,o+j,none⟩=some v:=by
 refine ⟨by simp,λ j v d=>?_⟩;rw [List.getElem?_map,zaq] at d;obtain ⟨k,f,rfl⟩:=d;obtain ⟨c,a⟩:=zam.1 f;rw [List.getElem_range] at a;subst a;rw [List.length_range] at c;exact e j ys[j] (by simp [c])
theorem aor {m:Option Nat} {t:TypeId} {x:Operand} {ys:List RV} {o':Nat} {f:Nat->Value} {R:Nat->Prop} (s:o.op=.load t x) (u:aag P t m=true) (hx:a.eval x=.pointer (some ⟨b,o',none⟩))
 (e:∀(j:Nat) (y:RV),ys[j]?=some y->w.cell? ⟨b,o'+j,none⟩=some (f j)/\(f j).oneCell'=true/\RelV w R y (f j)) (h:m.getD 1<=ys.length) :
 ∃c,(execOp a.eval o).run P w=.ok (.value c) w/\RelV w R (match m with | none=>ys.getD 0 (.v (.bool false)) | some k=>.agg (ys.take k)) c:=by
 obtain ⟨q,p⟩:=asl (ys:=ys.take (m.getD 1)) (w:=w) (b:=b) (o:=o') (g:=f) λ j y d=>by
  rw [zad] at d;split at d
  ·exact (e j y d).1
  cases d
 rw [List.length_take,Nat.min_eq_left h] at q p;have r:=aja u b o' _ q p;simp only [execOp,s,hx];refine ⟨_,by simp only [Sem.run_bind,r,Result.andThen_ok]; rfl,?_⟩;cases m with
 | none=>
   simp only [zaf] at h |-;have:ys[0]?=some (ys.getD 0 (.v (.bool false))):=by simp [show 0<ys.length by omega]
   have:=(e 0 _ this).2.2;simpa using this
 | some k=>
   simp only [zae] at h |-;refine .agg _ _ (by simp; omega) λ i x c hx hc=>?_;rw [zad] at hx;split at hx
   ·rename_i l
    have n:c=f i:=by
     simp [l] at hc;exact hc.symm
    subst n;exact (e i x hx).2.2
   cases hx
theorem atc (b:Gam X s ρ a w) {ver:Nat} {ob:Ob} (h:s.ob id=some (ver,ob)):bd w (d7 X.B s.ob ρ w) s.ob ρ id ob:=b.obj id ver ob h
theorem aos {g:Bool} (C:g=true) {m:Option Nat} {t:TypeId} {x:Operand} {u:AV} (hG:Gam X s ρ a w) (U:o.op=.load t x) (S:aag P t m=true) (T:RA X s ρ w u (a.eval x))
 (d:(ld1 g m u s.ob).ok):l6 P X a w s ρ o (ld1 g m u s.ob).v:=by
 unfold ld1 at d |-;split at d
 ·rename_i id ver off;unfold ldb at d |-;split at d
  ·rename_i D W;have N:=dn W;cases T;rename_i h;obtain ⟨b,G,hc⟩:=h.live N;obtain ⟨b',cs,e,n,hh,V,E⟩:=atc hG N;rw [G] at n;cases n;have l:∀j,w.cell? ⟨b,j,none⟩=cs[j]?:=λ j=>by simp [World.cell?,hh]
   cases m with
   | none=>
     have J:off<D.length:=d C;have hx:cs[off]?=some cs[off]:=by simp [show off<cs.size by omega]
     have H:=aja (P:=P) (w:=w) S b off [cs[off]] rfl λ j v A=>by
      cases j with
      | zero=>simp at A; subst A; rw [l]; simpa using hx
      | succ j=>simp at A
     simp only [l6,execOp,U,hc];refine ⟨_,by simp only [Sem.run_bind,H,Result.andThen_ok]; rfl,?_⟩;simp only [List.getD_cons_zero];exact E off _ _ (by simp [J]) hx
   | some k=>
     have J:off+k<=D.length:=d C
     have H:=aja (P:=P) (w:=w) S b off ((cs.toList.drop off).take k) (by simp; omega) λ j v A=>by
      rw [zad] at A;split at A
      ·rw [zab] at A;rw [l];simpa using A
      cases A
     simp only [l6,execOp,U,hc];refine ⟨_,by simp only [Sem.run_bind,H,Result.andThen_ok]; rfl,?_⟩;refine .agg _ _ (by simp; omega) λ i x c hx K=>?_;rw [zad] at hx;split at hx
     ·rename_i h0;rw [zab] at hx;refine E (off+i) x c hx ?_;simp only [zas,zad,h0,if_true,zab] at K;simpa using K
     cases hx
  first | exact (d C).elim | exact (d.2 C).elim | exact d.2.elim
 ·rename_i id ver idx off;unfold ldr at d |-;split at d
  ·rename_i sz z h6 wr xs W;have N:=o4 W;cases T;rename_i h;obtain ⟨p,Q,b,G,hc⟩:=h.live N;simp only at p Q;have M:=atc hG N;simp only [bd] at M;rcases M with ⟨R,_⟩ | ⟨b',cs,e,fr,n,hh,h5,h4,V,Y⟩
   ·rw [R] at p; simp at p
   rw [G] at n;cases n;have hx:xs[idx]?=some (xs.getD idx z):=by simp [p]
   obtain ⟨hl,O⟩:=Y idx _ hx;generalize xs.getD idx z=y at hl O |-;have l:∀j,w.cell? ⟨b,j,none⟩=cs[j]?:=λ j=>by simp [World.cell?,hh]
   have L:∃f:Nat->Value,∀(j:Nat) (q:RV),(y.cells.drop off)[j]?=some q->w.cell? ⟨b,idx*sz+off+j,none⟩=some (f j)/\(f j).oneCell'=true/\RelV w (d7 X.B s.ob ρ w) q (f j):=by
    refine ⟨λ j=>(cs[idx*sz+(off+j)]?).getD undef,λ j q A=>?_⟩;rw [zab] at A;obtain ⟨c,I,F,h3⟩:=O _ q A;simp only [I,zae];refine ⟨?_,F,h3⟩;rw [l,zaj,I]
   obtain ⟨f,Z⟩:=L
   have hm:m.getD 1<=(y.cells.drop off).length:=by
    rw [List.length_drop,hl];cases m with
    | none=>have:off<sz:=d C; simp only [zaf]; omega
    | some k=>have:off+k<=sz:=d C; simp only [zae]; omega
   obtain ⟨c,I,F⟩:=aor (P:=P) (a:=a) U S hc Z hm;refine ⟨c,I,?_⟩;cases m with
   | none=>
     refine .r ?_;simpa using F
   | some k=>exact .r F
  first | exact (d C).elim | exact (d.2 C).elim | exact d.2.elim
 ·rename_i ys;generalize hc:a.eval x=c at T;cases T;rename_i b o' f hR Z
  have hm:m.getD 1<=ys.length:=by
   cases m with
   | none=>have:0<ys.length:=d.2 C; simp only [zaf]; omega
   | some k=>have:k<=ys.length:=d.2 C; simpa using this
  obtain ⟨c,I,F⟩:=aor (P:=P) (a:=a) U S hc Z hm;refine ⟨c,I,?_⟩;cases m with
  | none=>exact .r F
  | some k=>exact .r F
 cases m<;>first | exact (d C).elim | exact (d.2 C).elim | exact d.2.elim
theorem aw4 {g:Bool} (e:g=true) {t:TypeId} {off:Nat} {x:Operand} {u:AV} {B:Array Go.Field} {A:Go.Field} {i:TypeInfo} (L:o.op=.fieldAddr t x k) (I:P.underlying t=some (.struct B)) (G:B[k]?=some A)
 (H:P.info? A.type=some i) (J:A.offset=off) (K:i.size≠0) (z:RA X s ρ w u (a.eval x)) (d:(fa1 g off u s.ob).ok):l6 P X a w s ρ o (fa1 g off u s.ob).v:=by
 have l:∀b o',a.eval x=.pointer (some ⟨b,o',none⟩)->(execOp a.eval o).run P w=.ok (.value (.pointer (some ⟨b,o'+off,none⟩))) w:=by
  intro b o' hx;simp [execOp,L,hx,Instr.fieldAt,run_underlying I,G,Instr.sureAddr,fieldPlace,sizeOf,typeInfo,H,K,ba,J]
 unfold fa1 at d |-;split at d
 ·split at d
  ·rename_i r n;have q:=dn n;cases z;rename_i h;obtain ⟨b,m,hc⟩:=h.live q;simp only [n];exact ⟨_,l b _ hc,.ptr _ _ _ _ rfl ⟨_,_,q,zaa _,λ _=>⟨b,m,rfl⟩⟩⟩
  first | exact (d e).elim | exact (d.2 e).elim | exact d.2.elim
 ·split at d
  ·rename_i sz r n;have q:=o4 n;cases z;rename_i h;obtain ⟨p,D,b,m,hc⟩:=h.live q;simp only [n];refine ⟨_,l b _ hc,.oel _ _ _ _ _ rfl ⟨_,_,q,zaa _,λ _=>⟨p,d e,b,m,?_⟩⟩⟩;rw [zaj]
  first | exact (d e).elim | exact (d.2 e).elim | exact d.2.elim
 ·generalize hc:a.eval x=c at z;cases z;rename_i b o' f E F;refine ⟨_,l b o' hc,.rp _ b _ (λ j=>f (off+j)) E λ j y C=>?_⟩;rw [zab] at C;have:=F (off+j) y C;rw [<- zaj] at this;exact this
 first | exact (d e).elim | exact (d.2 e).elim | exact d.2.elim
def ldv (cs:Array Value) (off:Nat):Option Nat->Value
 | none=>cs.getD off undef
 | some k=>.agg (cs.extract off (off+k))
theorem ai9 {t:TypeId} {m:Option Nat} (a:aag P t m=true) (cs:Array Value) (off:Nat) (b:off+m.getD 1<=cs.size) :
 (part t cs off).run P w=.ok (ldv cs off m) w:=by
 unfold aag at a;split at a
 ·rename_i h i c f;have:m=some i.size:=by simpa using a
  subst this;simp [part,isAgg,run_underlying c,sizeOf,typeInfo,f,ldv]
 ·rename_i k e i c f;have:m=some i.size:=by simpa using a
  subst this;simp [part,isAgg,run_underlying c,sizeOf,typeInfo,f,ldv]
 ·rename_i d i j l c f;have:m=none:=by simpa using a
  subst this;simp only [zaf] at b
  have g:(isAgg t).run P w=.ok false w:=by
   simp only [isAgg,Sem.run_bind,run_underlying c,Result.andThen_ok]
   rfl
  simp [part,g,show off<cs.size by omega,ldv]
 cases a
theorem auf {g:Bool} (l:g=true) {t:TypeId} {off:Nat} {m:Option Nat} {x:Operand} {u:AV} {z:Array Go.Field} {d:Go.Field} (D:o.op=.field t x k) (B:P.underlying t=some (.struct z)) (A:z[k]?=some d)
 (F:d.offset=off) (C:aag P d.type m=true) (n:RA X s ρ w u (a.eval x)) (f:(ul g off m u).1):l6 P X a w s ρ o (ul g off m u).2:=by
 subst F;unfold ul at f |-;split at f
 ·rename_i xs;generalize hc:a.eval x=c at n;cases n;rename_i cs E h
  have b:d.offset+m.getD 1<=cs.size:=by
   cases m with
   | none=>have:d.offset<xs.length:=f l; simp only [zaf]; omega
   | some q=>have:d.offset+q<=xs.length:=f l; simp only [zae]; omega
  have p:=ai9 (P:=P) (w:=w) C cs d.offset b
  have j:(execOp a.eval o).run P w=.ok (.value (ldv cs d.offset m)) w:=by
   simp only [execOp,D,hc,Instr.field,Sem.run_bind,run_underlying B,Result.andThen_ok,A,asAgg,Sem.run_pure,p]
  refine ⟨_,j,?_⟩;cases m with
  | none=>
    simp only [zaf] at b;simp only;exact h d.offset _ _ (by simp [show d.offset<xs.length by omega]) (by simp [show d.offset<cs.size by omega,ldv])
  | some q=>
    simp only [zae] at b;simp only;refine .agg _ _ (by simp; omega) λ i y c hy e=>?_;rw [zad] at hy;split at hy
    ·rename_i v;rw [zab] at hy;refine h (d.offset+i) y c hy ?_;rw [Array.getElem?_extract] at e;split at e
     ·exact e
     cases e
    cases hy
 ·rename_i xs;generalize hc:a.eval x=c at n;cases n;rename_i n;cases n;rename_i cs E h
  have b:d.offset+m.getD 1<=cs.size:=by
   cases m with
   | none=>have:d.offset<xs.length:=f l; simp only [zaf]; omega
   | some q=>have:d.offset+q<=xs.length:=f l; simp only [zae]; omega
  have p:=ai9 (P:=P) (w:=w) C cs d.offset b
  have j:(execOp a.eval o).run P w=.ok (.value (ldv cs d.offset m)) w:=by
   simp only [execOp,D,hc,Instr.field,Sem.run_bind,run_underlying B,Result.andThen_ok,A,asAgg,Sem.run_pure,p]
  refine ⟨_,j,?_⟩;cases m with
  | none=>
    simp only [zaf] at b;simp only;exact .r (h d.offset _ _ (by simp [show d.offset<xs.length by omega]) (by simp [show d.offset<cs.size by omega,ldv]))
  | some q=>
    simp only [zae] at b;simp only;refine .r (.agg _ _ (by simp; omega) λ i y c hy e=>?_);rw [zad] at hy;split at hy
    ·rename_i v;rw [zab] at hy;refine h (d.offset+i) y c hy ?_;rw [Array.getElem?_extract] at e;split at e
     ·exact e
     cases e
    cases hy
 first | exact (f l).elim | exact (f.2 l).elim
def RAO (X:Cx) (s:St) (ρ:Pl->Option Nat) (w:World) (a:Act):Option Operand->Option AV->Prop
 | none,none=>True
 | some x,some v=>RA X s ρ w v (a.eval x)
 | _,_=>False
theorem aaw {d i:Int} {x:Option Operand} {v:Option AV} (h:bnd d v=some i) (hx:RAO X s ρ w a x v) :
 (x=none/\v=none/\i=d)\/∃x' k,x=some x'/\a.eval x'=.int k i:=by
 unfold bnd at h;split at h
 ·cases x with
  | none=>exact .inl ⟨rfl,rfl,by cases h; rfl⟩
  | some x=>exact hx.elim
 ·cases x with
  | none=>exact hx.elim
  | some x=>cases h; exact .inr ⟨x,_,rfl,j8 hx⟩
 cases h
theorem at6 {g:Bool} (n:g=true) {t:TypeId} {x:Operand} {C B:Option Operand} {u:AV} {l h:Option AV} (I:o.op=.slice t x C B none) (r:P.underlying t=some .string) (F:RA X s ρ w u (a.eval x))
 (G:RAO X s ρ w a C l) (H:RAO X s ρ w a B h)
 (c:(uc g u l h).1):l6 P X a w s ρ o (uc g u l h).2:=by
 unfold uc at c |-;split at c
 ·rename_i b;have q:=j8 F;split at c
  ·rename_i i j z A;obtain ⟨Q,O,J⟩:=c n;simp only [l6,execOp,I];refine ⟨_,?_,be _⟩;have y:=aaw z G;have v:=aaw A H;obtain ⟨d,rfl⟩:∃d:Nat,i=(d:Int):=⟨i.toNat,by omega⟩
   obtain ⟨e,rfl⟩:∃e:Nat,j=(e:Int):=⟨j.toNat,by omega⟩
   have p:d<=e:=by omega
   have m:e<=b.size:=by omega
   rcases y with ⟨rfl,rfl,D⟩ | ⟨N,L,rfl,k⟩<;>rcases v with ⟨rfl,rfl,E⟩ | ⟨M,K,rfl,f⟩
   ·have:d=0:=by omega
    have:e=b.size:=by omega
    subst this; subst d;simp [Instr.sliceAt,run_underlying r,Instr.slice,q,Instr.sliceBounds]
   ·have:d=0:=by omega
    subst d;simp [Instr.sliceAt,run_underlying r,Instr.slice,q,Instr.sliceBounds,Instr.sliceBound,f,asIntOf,m]
   ·have:e=b.size:=by omega
    subst this;simp [Instr.sliceAt,run_underlying r,Instr.slice,q,Instr.sliceBounds,Instr.sliceBound,k,asIntOf,p]
   simp [Instr.sliceAt,run_underlying r,Instr.slice,q,Instr.sliceBounds,Instr.sliceBound,k,f,asIntOf,p,m]
  first | exact (c n).elim | exact (c.2 n).elim
 first | exact (c n).elim | exact (c.2 n).elim
theorem aln {t e:TypeId} {inf:TypeInfo} {x:Operand} {C z p:Option Operand} {l h m:Option AV} {i j q:Int} {A:Option Addr} {len cap:Nat} (U:o.op=.slice t x C z p) (W:P.underlying t=some (.slice e)) (E:P.info? e=some inf)
 (hx:a.eval x=.slice A len cap) (T:len<=cap) (D:bnd 0 l=some i) (F:bnd len h=some j) (B:bnd len m=some q)
 (R:RAO X s ρ w a C l) (S:RAO X s ρ w a z h)
 (Q:RAO X s ρ w a p m) (y:p≠none->z≠none) (V:0<=i/\i<=j/\j<=q/\q<=len) :
 ∃H c,(execOp a.eval o).run P w=.ok (.value (.slice H (j-i).toNat c)) w/\c<=cap-i.toNat/\(j-i).toNat<=c/\(0<c->H=A.map (·.add (i.toNat*inf.size))):=by
 obtain ⟨e1,e2,Y,e4⟩:=V;obtain ⟨b,rfl⟩:∃b:Nat,i=(b:Int):=⟨i.toNat,by omega⟩
 obtain ⟨d,rfl⟩:∃d:Nat,j=(d:Int):=⟨j.toNat,by omega⟩
 obtain ⟨g,rfl⟩:∃g:Nat,q=(g:Int):=⟨q.toNat,by omega⟩
 have n:b<=d:=by omega
 have r:d<=g:=by omega
 have L:g<=len:=by omega
 have u:(Instr.sliceBounds true len cap (C.map a.eval) (z.map a.eval) (p.map a.eval)).run P w=.ok (b,d,if p.isNone then cap else g) w:=by
  rcases aaw D R with ⟨rfl,rfl,I⟩ | ⟨x1,k1,rfl,k⟩<;>rcases aaw F S with ⟨rfl,rfl,O⟩ | ⟨x2,k2,rfl,f⟩<;>rcases aaw B Q with ⟨rfl,rfl,J⟩ | ⟨x3,k3,rfl,v⟩
  ·have:b=0:=by omega
   have:d=len:=by omega
   subst this; subst b;simp [Instr.sliceBounds]
  ·exact absurd rfl (y (by simp))
  ·have:b=0:=by omega
   subst b;simp [Instr.sliceBounds,Instr.sliceBound,f,asIntOf,show d<=cap by omega]
  ·have:b=0:=by omega
   subst b;simp [Instr.sliceBounds,Instr.sliceBound,f,v,asIntOf,show g<=cap by omega,r]
  ·have:d=len:=by omega
   subst this;simp [Instr.sliceBounds,Instr.sliceBound,k,asIntOf,n]
  ·exact absurd rfl (y (by simp))
  ·simp [Instr.sliceBounds,Instr.sliceBound,k,f,asIntOf,show d<=cap by omega,n]
  simp [Instr.sliceBounds,Instr.sliceBound,k,f,v,asIntOf,show g<=cap by omega,n,r]
 generalize G:(if p.isNone then cap else g)=M at u;have N:M<=cap:=by rw [<- G]; split<;>omega
 have K:d<=M:=by rw [<- G]; split<;>omega
 refine ⟨if M=b then A else A.map (·.add (b*inf.size)),M-b,?_,by simp only [zal]; omega,by omega,λ Z=>?_⟩
 ·simp only [execOp,U,Instr.sliceAt,Sem.run_bind,run_underlying W,Result.andThen_ok,Instr.slice,hx,u,sizeOf,typeInfo,run_program,E,Sem.run_pure];simp [show ((d:Int)-b).toNat=d-b by omega]
 rw [if_neg (by omega),zal]
theorem at7 {g:Bool} (D:g=true) {t e:TypeId} {inf:TypeInfo} {sz:Nat} {x:Operand} {lo hi mx:Option Operand} {u:AV} {l h m:Option AV} (ho:o.op=.slice t x lo hi mx) (ht:P.underlying t=some (.slice e)) (J:P.info? e=some inf)
 (L:inf.size=sz) (N:RA X s ρ w u (a.eval x)) (hl:RAO X s ρ w a lo l)
 (hh:RAO X s ρ w a hi h) (hm:RAO X s ρ w a mx m) (K:mx≠none->hi≠none)
 (d:(ox g sz u l h m s.ob).ok):l6 P X a w s ρ o (ox g sz u l h m s.ob).v:=by
 unfold ox at d |-;split at d
 ·rename_i h4 xs;split at d
  ·rename_i i j q V T U;obtain ⟨rfl,E⟩:=d;have E:=E D;cases N;rename_i N;generalize hc:a.eval x=c at N;cases N;rename_i A cap h7 b o' gg O hA R Y h6;obtain ⟨A',B,n,C,f,F⟩:=aln (P:=P) (w:=w) (s:=s) (ρ:=ρ) ho ht J hc O V T U hl hh hm K E;have M:(j-i).toNat=((xs.take j.toNat).drop i.toNat).length:=by simp; omega
   rw [M] at n f;refine ⟨_,n,.r ?_⟩;subst L;refine .sl _ _ _ _ f (by omega) b (o'+i.toNat*inf.size) (λ p=>gg (i.toNat+p)) (λ S=>?_) (λ p y H=>?_) (λ p y k z H W=>?_) (λ p y k z H W=>?_)
   ·obtain ⟨h5,hR⟩:=hA (by rw [List.length_drop,List.length_take] at S; omega);refine ⟨?_,hR⟩;rw [F (by omega),h5];simp [ba]
   all_goals
    have G:xs[i.toNat+p]?=some y:=by
     rw [zab,zad] at H;split at H
     ·exact H
     cases H
   ·exact Y _ y G
   ·have:=h6 _ y k z G W;rw [show o'+i.toNat*inf.size+p*inf.size+k=o'+(i.toNat+p)*inf.size+k by rw [Nat.add_mul]; omega];exact this
   exact R _ y k z G W
  first | exact (d D).elim | exact (d.2 D).elim | exact d.2.elim
 ·rename_i id ver I n0;split at d
  ·rename_i i j q V T U;split at d
   ·rename_i h4 r R;obtain ⟨rfl,E⟩:=d;have E:=E D;have e6:i.toNat+(j-i).toNat<=n0:=by omega
    obtain ⟨A,cap,e1,e2,e3,Z,Q⟩:=ki N R;obtain ⟨A',B,n,C,f,F⟩:=aln (P:=P) (w:=w) (s:=s) (ρ:=ρ) ho ht J e1 e2 V T U hl hh hm K E;subst L;refine ⟨_,n,.own _ _ _ _ _ rfl ⟨_,_,o4 R,zaa _,λ _=>?_⟩⟩;refine ⟨A',B,rfl,f,zan (zan C (Nat.sub_le _ _)) e3,?_,λ S=>?_⟩
    ·clear Q;simp only at Z |-;omega
    have e7:I+i.toNat+B<=I+cap:=by clear Q Z; omega
    obtain ⟨b,cs,ee,fr,f1,f2,f3,f4⟩:=Q (by clear Z Q; omega);refine ⟨b,cs,ee,fr,f1,?_,f3,zan (Nat.mul_le_mul_right _ e7) f4⟩;rw [F S,f2];simp [ba,Nat.add_mul]
   first | exact (d D).elim | exact (d.2 D).elim | exact d.2.elim
  first | exact (d D).elim | exact (d.2 D).elim | exact d.2.elim
 first | exact (d D).elim | exact (d.2 D).elim | exact d.2.elim
end

section
variable {P:Program} {X:Cx} {w w':World} {s:St} {ρ ρ':Pl->Option Nat} {a:Act} {o:Oper} {ob ob':Obs} {R R':Nat->Prop}
theorem bd.stays (h:Stays w w' R R' ob ob' ρ ρ') {x:Ob} (hx:bd w R ob ρ id x) (d:ρ' id=ρ id) (l:∀j,ρ' (.s id j)=ρ (.s id j)) (k:∀b,foot ρ id x b->w'.heap[b]?=w.heap[b]?):bd w' R' ob' ρ' id x:=by
 cases x with
 | abs T=>
   obtain ⟨b,a,f⟩:=hx;refine ⟨b,by rw [d,a],?_⟩;simp only [l];exact T.loc f (k b (.inl a)) λ j c hc=>k c (.inr ⟨rfl,j,hc⟩)
 | map es clock=>
   obtain ⟨b,a,f⟩:=hx;exact ⟨b,by rw [d,a],by rw [k b (.inl a)]; exact f⟩
 | iter m since seen stepped=>
   obtain ⟨b,m',a,f,g⟩:=hx;exact ⟨b,m',by rw [d,a],by rw [k b (.inl a)]; exact f,g.stays h⟩
 | box cells=>
   obtain ⟨b,cs,e,a,f,g,o⟩:=hx;exact ⟨b,cs,e,by rw [d,a],by rw [k b (.inl a),f],g,λ i x c n hc=>(o i x c n hc).stays h⟩
 | row sz z app wr xs=>
   rcases hx with ⟨a,f,g⟩ | ⟨b,cs,e,fr,a,f,g,o,v,p⟩
   ·exact .inl ⟨a,by rw [d,f],g⟩
   refine .inr ⟨b,cs,e,fr,by rw [d,a],by rw [k b (.inl a),f],g,o,v,λ i x n=>⟨(p i x n).1,λ j y u=>?_⟩⟩;obtain ⟨c,q,t,r⟩:=(p i x n).2 j y u;exact ⟨c,q,t,r.mono h.free⟩
theorem bd.lt {x:Ob} (hx:bd w R ob ρ id x) (d:ρ id=some b):b<w.heap.size:=by
 cases x with
 | abs T=>
   obtain ⟨f,a,c⟩:=hx;rw [d] at a; cases a;obtain ⟨cs,e,g,_⟩:=T.root c;exact (zai.1 g).1
 | map es clock=>
   obtain ⟨f,a,c⟩:=hx;rw [d] at a; cases a;exact (zai.1 c).1
 | iter m since seen stepped=>
   obtain ⟨f,m',a,c,_⟩:=hx;rw [d] at a; cases a;exact (zai.1 c).1
 | box cells=>
   obtain ⟨f,cs,e,a,c,g,h⟩:=hx;rw [d] at a; cases a;exact (zai.1 c).1
 | row sz z app wr xs=>
   rcases hx with ⟨a,c,_⟩ | ⟨f,cs,e,fr,a,c,_⟩
   ·rw [d] at c; cases c
   rw [d] at a; cases a;exact (zai.1 c).1
theorem Gam.lt (d:Gam X s ρ a w) {x:Nat×Ob} (hx:s.ob id=some x) (c:ρ id=some b):b<w.heap.size:=
 (d.obj id x.1 x.2 hx).lt c
theorem bd.foot_lt {x:Ob} (hx:bd w R ob ρ id x) (a:foot ρ id x b):b<w.heap.size:=by
 rcases a with a | ⟨h,j,a⟩
 ·exact hx.lt a
 cases x with
 | abs T=>
   obtain ⟨e,d,c⟩:=hx;exact T.lt c j b a
 | box _=>cases h
 | map _ _=>cases h
 | iter _ _ _ _=>cases h
 | row _ _ _ _ _=>cases h
theorem Gam.foot_lt (d:Gam X s ρ a w) {x:Nat×Ob} (hx:s.ob id=some x) (c:foot ρ id x.2 b):b<w.heap.size:=(d.obj id x.1 x.2 hx).foot_lt c
theorem asb (b:a.tmps.size=X.n) {d:Nat} (e:d<X.n) (c:Value) (t:Nat):(a.put (some d) c).tmps.getD t undef=if t=d then c else a.tmps.getD t undef:=by
 simp only [Act.put];by_cases h:t=d
 ·subst h;simp [b,e]
 simp [h,Array.getElem?_setIfInBounds_ne (Ne.symm h)]
theorem Gam.step (c:Gam X s ρ a w) (p:Stays w w' (d7 X.B s.ob ρ w) (d7 X.B ob' ρ' w') s.ob ob' ρ ρ')
 (l:∀id v o,ob' id=some (v,o)->(s.ob id=some (v,o)/\ρ' id=ρ id/\(∀j,ρ' (.s id j)=ρ (.s id j))/\∀b,foot ρ id o b->w'.heap[b]?=w.heap[b]?)\/bd w' (d7 X.B ob' ρ' w') ob' ρ' id o)
 (g:∀id d x x' b,ob' id=some x->ob' d=some x'->foot ρ' id x.2 b->foot ρ' d x'.2 b->id=d)
 (G:Keeps X.I X.w0 w') (k:∀id v o b,ob' id=some (v,o)->foot ρ' id o b->X.I b\/X.w0.heap.size<=b)
 (i:∀id b o,X.pn id=some b->s.ob id=some (0,o)->o.pinned=true->ρ id=some b->ρ' id=some b/\∃o',ob' id=some (0,o')/\o'.pinned=true):Gam X ⟨s.e,ob'⟩ ρ' a w':=by
 refine ⟨⟨λ id v o h=>?_,g,G,k,λ id b h=>?_⟩,c.sz,c.df,λ t=>(c.env t).stays p,c.pnn,c.small,c.base⟩
 ·rcases l id v o h with ⟨f,m,r,q⟩ | f
  ·exact (c.obj id v o f).stays p m r q
  exact f
 obtain ⟨f,o,m,q,r⟩:=c.pin id b h;obtain ⟨z,o',u,D⟩:=i id b o h m q f;refine ⟨z,o',u,D,λ E=>?_⟩;obtain ⟨K,A,y,J,F⟩:=p.obj id 0 o m;rw [u] at y;cases y;obtain ⟨_,H,C⟩:=F rfl;have n:o.isRow=true:=by cases o<;>cases o'<;>first | rfl | exact H.elim | cases E
 exact (r n).trans λ cs e fr hc=>C b cs e fr f hc
theorem Gam.see (b:Gam X s ρ a w) {d:Nat} (f:d<X.n) {x:AV} (hx:RA X s ρ w x c):Gam X ⟨put d x s.e,s.ob⟩ ρ (a.put (some d) c) w:=by
 refine ⟨b.toMem,by simp [Act.put,b.sz],b.df,λ t=>?_,b.pnn,b.small,b.base⟩;rw [asb b.sz f];simp only [put];split
 ·exact hx
 exact b.env t
theorem Gam.drew (c:Gam X s ρ a w) (k:Nat):Gam X s ρ a { w with drawn:=k }:=by
 have d:Stays w { w with drawn:=k } (d7 X.B s.ob ρ w) (d7 X.B s.ob ρ { w with drawn:=k }) s.ob s.ob ρ ρ:=
  ⟨λ b h=>⟨h,rfl⟩,λ id v o h=>⟨v,o,h,zaa _,λ _=>⟨rfl,u5.refl o,λ b cs e fr _ h=>⟨cs,e,fr,h,rfl⟩⟩⟩⟩
 exact ⟨⟨λ id v o h=>(c.obj id v o h).stays d rfl (λ _=>rfl) λ _ _=>rfl,c.inj,⟨c.keeps.os,c.keeps.tape,c.keeps.output,c.keeps.size,c.keeps.block⟩,c.own,c.pin⟩,c.sz,c.df,λ t=>(c.env t).stays d,c.pnn,c.small,c.base⟩
structure OneMore (w w':World) (x:Obj):Prop where
 os:w'.os=w.os
 tape:w'.tape=w.tape
 output:w'.output=w.output
 heap:w'.heap=w.heap.push x
theorem OneMore.new {x:Obj} (h:OneMore w w' x):w'.heap[w.heap.size]?=some x:=by rw [h.heap]; simp
theorem OneMore.old {x:Obj} (h:OneMore w w' x) (a:b<w.heap.size):w'.heap[b]?=w.heap[b]?:=by
 rw [h.heap,Array.getElem?_push,if_neg (by omega)]
theorem OneMore.size {x:Obj} (h:OneMore w w' x):w'.heap.size=w.heap.size+1:=by rw [h.heap]; simp
theorem rz {v:Nat} {x:Ob} (h:ob id=some (v,x)):v<nv ob id:=by simp [nv,h]
theorem Stays.alloc (l:Gam X s ρ a w) {x:Obj} (f:OneMore w w' x) (id ver:Nat) (k:∀v o,s.ob id=some (v,o)->v<ver) (o':Ob) (i:o'.isAbs=false:=by rfl) :
 Stays w w' (d7 X.B s.ob ρ w) (d7 X.B (upd id (ver,o') s.ob) (m9 ρ id (some w.heap.size)) w') s.ob (upd id (ver,o') s.ob) ρ (m9 ρ id (some w.heap.size)):=by
 refine ⟨λ b ⟨p,m,r⟩=>⟨⟨by rw [f.size]; omega,?_,r⟩,f.old p⟩,λ j v o h=>?_⟩
 ·rintro ⟨j,v,o,d,q,g⟩;by_cases c:j=id
  ·subst c;simp [upd] at d;obtain ⟨rfl,rfl⟩:=d;rw [cg i] at g;simp [m9] at g;omega
  simp only [upd,c,if_false] at d;exact m ⟨j,v,o,d,q,(qz c).1 g⟩
 by_cases c:j=id
 ·subst c;exact ⟨ver,o',by simp [upd],Nat.le_of_lt (k v o h),λ e=>by have:=k v o h; omega⟩
 refine ⟨v,o,by simp [upd,c,h],zaa _,λ _=>⟨by simp [m9,c],u5.refl o,λ b cs e fr t n=>⟨cs,e,fr,?_,rfl⟩⟩⟩;rw [f.old (l.lt h t),n]
theorem Gam.alloc (f:Gam X s ρ a w) {x:Obj} (l:OneMore w w' x) (id ver:Nat) (u:X.pn id=none) (E:∀v o,s.ob id=some (v,o)->v<ver) (o':Ob)
 (J:bd w' (d7 X.B (upd id (ver,o') s.ob) (m9 ρ id (some w.heap.size)) w') (upd id (ver,o') s.ob) (m9 ρ id (some w.heap.size)) id o') (m:o'.isAbs=false:=by rfl) :
 Gam X ⟨s.e,upd id (ver,o') s.ob⟩ (m9 ρ id (some w.heap.size)) a w':=by
 refine f.step (Stays.alloc f l id ver E o' m) (λ j v o h=>?_) (λ i j x x' b H c z t=>?_) ?_ (λ j v o b h g=>?_) (λ j b o h hc G r=>?_)
 ·by_cases c:j=id
  ·subst c;simp [upd] at h;obtain ⟨rfl,rfl⟩:=h;exact .inr J
  simp only [upd,c,if_false] at h;refine .inl ⟨h,by simp [m9,c],by simp [m9],λ b r=>l.old (f.foot_lt h r)⟩
 ·have p:∀k (y:Nat×Ob),upd id (ver,o') s.ob k=some y->foot (m9 ρ id (some w.heap.size)) k y.2 b->(k=id/\b=w.heap.size)\/(k≠id/\s.ob k=some y/\foot ρ k y.2 b/\b<w.heap.size):=λ k y q n=>by
   by_cases d:k=id
   ·subst d;simp [upd] at q;subst q;rw [cg m] at n;simp [m9] at n;exact .inl ⟨rfl,n.symm⟩
   simp only [upd,d,if_false] at q;rw [qz d] at n;exact .inr ⟨d,q,n,f.foot_lt q n⟩
  rcases p i x H z with ⟨D,g⟩ | ⟨D,g,I,L⟩<;>rcases p j x' c t with ⟨A,C⟩ | ⟨A,C,F,K⟩
  ·rw [D,A]
  ·omega
  ·omega
  exact f.inj i j x x' b g C I F
 ·refine f.keeps.trans ⟨l.os,l.tape,l.output,by rw [l.size]; omega,λ b r _=>l.old r⟩
 ·by_cases c:j=id
  ·subst c;simp [upd] at h;obtain ⟨rfl,rfl⟩:=h;rw [cg m] at g;simp [m9] at g;subst g;exact .inr f.keeps.size
  simp only [upd,c,if_false] at h;rw [qz c] at g;exact f.own j v o b h g
 have c:j≠id:=λ e=>by rw [e,u] at h; cases h
 exact ⟨by simp [m9,c,r],o,by simp [upd,c,hc],G⟩
structure Mods (w w':World) (b:Nat) (x:Obj):Prop where
 os:w'.os=w.os
 tape:w'.tape=w.tape
 output:w'.output=w.output
 size:w'.heap.size=w.heap.size
 new:w'.heap[b]?=some x
 old:∀k,k≠b->w'.heap[k]?=w.heap[k]?
theorem gu {v ver:Nat} {x x':Ob} (b:ob id=some (v,x)) (h:x'.isAbs=x.isAbs) {p:Nat×Ob} (a:upd id (ver,x') ob j=some p) (c:foot ρ j p.2 k):∃q,ob j=some q/\foot ρ j q.2 k:=by
 by_cases d:j=id
 ·subst d;simp [upd] at a;subst a;exact ⟨_,b,(si rfl (λ _=>rfl) h).1 c⟩
 simp only [upd,d,if_false] at a;exact ⟨p,a,c⟩
theorem Stays.modifyG (P:Gam X s ρ a w) {v:Nat} {x x':Ob} {y:Obj} (n:s.ob id=some (v,x)) (hx:x.own=true) (J:ρ id=some b)
 (r:Mods w w' b y) (A:∀cs e fr,w.heap[b]?=some (.cells cs e fr)->∃d e' l,y=.cells d e' l/\d.size=cs.size) (ver:Nat) (C:(ver=v/\u5 x x')\/v<ver) (N:x.isAbs=false:=by rfl) (m:x'.isAbs=false:=by rfl) :
 Stays w w' (d7 X.B s.ob ρ w) (d7 X.B (upd id (ver,x') s.ob) ρ w') s.ob (upd id (ver,x') s.ob) ρ ρ:=by
 refine ⟨λ k ⟨K,H,M⟩=>?_,λ j u o h=>?_⟩
 ·have c:k≠b:=λ h=>H ⟨id,v,x,n,hx,.inl (by rw [J,h])⟩;refine ⟨⟨by rw [r.size]; exact K,?_,M⟩,r.old k c⟩;rintro ⟨j,u,o,z,L,G⟩;unfold upd at z;split at z
  ·rename_i p;subst p;cases z;rw [cg m,J] at G;cases G;exact c rfl
  exact H ⟨j,u,o,z,L,G⟩
 have f:∀(k:Nat) (q:Array Value) (i:TypeId) (g:Nat×Nat),w.heap[k]?=some (.cells q i g)->∃I D F,w'.heap[k]?=some (.cells I D F)/\I.size=q.size:=by
  intro k q i g t;by_cases c:k=b
  ·subst c;obtain ⟨d,e',l,hy,O⟩:=A _ _ _ t;exact ⟨d,e',l,by rw [r.new,hy],O⟩
  exact ⟨q,i,g,by rw [r.old k c,t],rfl⟩
 by_cases p:j=id
 ·subst p;rw [n] at h;cases h;rcases C with ⟨rfl,t⟩ | C
  ·exact ⟨_,x',by simp [upd],zaa _,λ _=>⟨rfl,t,λ k q i g _ E=>f k q i g E⟩⟩
  exact ⟨ver,x',by simp [upd],Nat.le_of_lt C,λ h=>by omega⟩
 exact ⟨u,o,by simp [upd,p,h],zaa _,λ _=>⟨rfl,u5.refl o,λ k q i g _ E=>f k q i g E⟩⟩
theorem Stays.modify (m:Gam X s ρ a w) {v:Nat} {x x':Ob} {cs d:Array Value} {e e':TypeId} {fr i:Nat×Nat} (g:s.ob id=some (v,x)) (hx:x.own=true) (o:ρ id=some b)
 (k:w.heap[b]?=some (.cells cs e fr)) (n:Mods w w' b (.cells d e' i)) (f:d.size=cs.size) (ver:Nat) (l:(ver=v/\u5 x x')\/v<ver) (j:x.isAbs=false:=by rfl) (c:x'.isAbs=false:=by rfl) :
 Stays w w' (d7 X.B s.ob ρ w) (d7 X.B (upd id (ver,x') s.ob) ρ w') s.ob (upd id (ver,x') s.ob) ρ ρ:=
 Stays.modifyG m g hx o n (λ q r p h=>by rw [k] at h; cases h; exact ⟨_,_,_,rfl,f⟩) ver l j c
theorem Gam.modifyG (n:Gam X s ρ a w) {v:Nat} {x x':Ob} {y:Obj} (c:s.ob id=some (v,x)) (hx:x.own=true) (J:ρ id=some b)
 (q:Mods w w' b y) (z:∀cs e fr,w.heap[b]?=some (.cells cs e fr)->∃t e' H,y=.cells t e' H/\t.size=cs.size) (ver:Nat) (N:(ver=v/\u5 x x')\/v<ver) (r:X.pn id=none\/(ver=v/\u5 x x'/\(x.pinned=true->x'.pinned=true)))
 (T:bd w' (d7 X.B (upd id (ver,x') s.ob) ρ w') (upd id (ver,x') s.ob) ρ id x') (m:x.isAbs=false:=by rfl) (d:x'.isAbs=false:=by rfl):Gam X ⟨s.e,upd id (ver,x') s.ob⟩ ρ a w':=by
 have C:∀j u,j≠id->s.ob j=some u->∀k,foot ρ j u.2 k->k≠b:=λ j u g h k f l=>by
  subst l;exact g (n.inj j id u _ k h c f (.inl J))
 refine n.step (Stays.modifyG n c hx J q z ver N m d) (λ j u o h=>?_) (λ i j p U k O g K A=>?_) ?_ (λ j u o k h D=>?_) (λ j k o h hc L f=>?_)
 ·by_cases g:j=id
  ·subst g;simp [upd] at h;obtain ⟨rfl,rfl⟩:=h;exact .inr T
  simp only [upd,g,if_false] at h;exact .inl ⟨h,rfl,λ _=>rfl,λ k f=>q.old k (C j _ g h k f)⟩
 ·obtain ⟨_,F,E⟩:=gu c (d.trans m.symm) O K;obtain ⟨_,D,S⟩:=gu c (d.trans m.symm) g A;exact n.inj i j _ _ k F D E S
 ·have f:=n.keeps;refine ⟨q.os.trans f.os,q.tape.trans f.tape,q.output.trans f.output,by rw [q.size]; exact f.size,λ k G M=>?_⟩;by_cases l:k=b
  ·subst l;rcases n.own id v x k c (.inl J) with h | h
   ·exact absurd h M
   omega
  rw [q.old k l];exact f.block k G M
 ·obtain ⟨⟨R,P⟩,F,E⟩:=gu c (d.trans m.symm) h D;exact n.own j R P k F E
 refine ⟨f,?_⟩;by_cases g:j=id
 ·subst g;rw [c] at hc;cases hc;rcases r with r | ⟨rfl,Q,I⟩
  ·rw [r] at h; cases h
  exact ⟨x',by simp [upd],I L⟩
 exact ⟨o,by simp [upd,g,hc],L⟩
theorem Gam.modify (n:Gam X s ρ a w) {v:Nat} {x x':Ob} {cs d:Array Value} {e e':TypeId} {fr j:Nat×Nat} (i:s.ob id=some (v,x)) (hx:x.own=true) (r:ρ id=some b)
 (l:w.heap[b]?=some (.cells cs e fr)) (o:Mods w w' b (.cells d e' j)) (f:d.size=cs.size) (ver:Nat) (m:(ver=v/\u5 x x')\/v<ver) (g:X.pn id=none\/(ver=v/\u5 x x'/\(x.pinned=true->x'.pinned=true)))
 (p:bd w' (d7 X.B (upd id (ver,x') s.ob) ρ w') (upd id (ver,x') s.ob) ρ id x') (k:x.isAbs=false:=by rfl) (c:x'.isAbs=false:=by rfl):Gam X ⟨s.e,upd id (ver,x') s.ob⟩ ρ a w':=
 n.modifyG i hx r o (λ q u t h=>by rw [l] at h; cases h; exact ⟨_,_,_,rfl,f⟩) ver m g p k c
theorem Stays.freeze1 {v sz:Nat} {z:RV} {a i:Bool} {xs:List RV} (d:s.ob id=some (v,.row sz z a i xs)) :
 Stays w w (d7 X.B s.ob ρ w) (d7 X.B (upd id (v,.row sz z a false xs) s.ob) ρ w) s.ob (upd id (v,.row sz z a false xs) s.ob) ρ ρ:=by
 refine ⟨λ b ⟨l,k,n⟩=>⟨⟨l,?_,n⟩,rfl⟩,λ j u o h=>?_⟩
 ·rintro ⟨j,u,o,c,g,m⟩;unfold upd at c;split at c
  ·cases c; cases g
  exact k ⟨j,u,o,c,g,m⟩
 by_cases f:j=id
 ·subst f;rw [d] at h;cases h;exact ⟨v,.row sz z a false xs,by simp [upd],zaa _,λ _=>⟨rfl,⟨rfl,zaa _⟩,λ b cs e fr _ h=>⟨cs,e,fr,h,rfl⟩⟩⟩
 exact ⟨u,o,by simp [upd,f,h],zaa _,λ _=>⟨rfl,u5.refl o,λ b cs e fr _ h=>⟨cs,e,fr,h,rfl⟩⟩⟩
theorem Gam.freeze1 (f:Gam X s ρ a w) {v sz:Nat} {z:RV} {b x:Bool} {xs:List RV} (c:s.ob id=some (v,.row sz z b x xs)):Gam X ⟨s.e,upd id (v,.row sz z b false xs) s.ob⟩ ρ a w:=by
 have t:=Stays.freeze1 (X:=X) (w:=w) (ρ:=ρ) c;refine f.step t (λ j u o h=>?_) (λ i j p E k y d q g=>?_) f.keeps (λ j u o k h l=>?_) (λ j k o h hc r B=>⟨B,?_⟩)
 ·by_cases d:j=id
  ·subst d;simp [upd] at h;obtain ⟨rfl,rfl⟩:=h;refine .inr ?_;have:=(f.obj _ _ _ c).stays t rfl (λ _=>rfl) (λ _ _=>rfl);exact this
  simp only [upd,d,if_false] at h;exact .inl ⟨h,rfl,λ _=>rfl,λ _ _=>rfl⟩
 ·obtain ⟨_,n,m⟩:=gu (x':=.row sz z b false xs) c rfl y q;obtain ⟨_,l,D⟩:=gu (x':=.row sz z b false xs) c rfl d g;exact f.inj i j _ _ k n l m D
 ·obtain ⟨⟨C,A⟩,n,m⟩:=gu (x':=.row sz z b false xs) (p:=(u,o)) c rfl h l;exact f.own j C A k n m
 by_cases d:j=id
 ·subst d;rw [c] at hc;cases hc;exact ⟨.row sz z b false xs,by simp [upd],r⟩
 exact ⟨o,by simp [upd,d,hc],r⟩
theorem Stays.shut1 {v sz:Nat} {z:RV} {xs:List RV} (a:s.ob id=some (v,.row sz z true true xs)) :
 Stays w w (d7 X.B s.ob ρ w) (d7 X.B (upd id (v,.row sz z false true xs) s.ob) ρ w) s.ob (upd id (v,.row sz z false true xs) s.ob) ρ ρ:=by
 refine ⟨λ b ⟨l,g,n⟩=>⟨⟨l,?_,n⟩,rfl⟩,λ j u o h=>?_⟩
 ·rintro ⟨j,u,o,d,m,i⟩;obtain ⟨⟨r,q⟩,f,k⟩:=gu (x':=.row sz z false true xs) (p:=(u,o)) a rfl d i;by_cases c:j=id
  ·subst c;rw [a] at f;cases f;exact g ⟨j,_,_,a,rfl,k⟩
  simp only [upd,c,if_false] at d;exact g ⟨j,u,o,d,m,i⟩
 by_cases c:j=id
 ·subst c;rw [a] at h;cases h;exact ⟨v,.row sz z false true xs,by simp [upd],zaa _,λ _=>⟨rfl,⟨rfl,zaa _⟩,λ b cs e fr _ h=>⟨cs,e,fr,h,rfl⟩⟩⟩
 exact ⟨u,o,by simp [upd,c,h],zaa _,λ _=>⟨rfl,u5.refl o,λ b cs e fr _ h=>⟨cs,e,fr,h,rfl⟩⟩⟩
theorem Gam.shut1 (g:Gam X s ρ a w) {v sz:Nat} {z:RV} {xs:List RV} (c:s.ob id=some (v,.row sz z true true xs)) (q:xs≠[]):Gam X ⟨s.e,upd id (v,.row sz z false true xs) s.ob⟩ ρ a w:=by
 have x:=Stays.shut1 (X:=X) (w:=w) (ρ:=ρ) c;refine g.step x (λ j u o h=>?_) (λ i j p G k A d r n=>?_) g.keeps (λ j u o k h l=>?_) (λ j k o h hc t C=>⟨C,?_⟩)
 ·by_cases d:j=id
  ·subst d;simp [upd] at h;obtain ⟨rfl,rfl⟩:=h;refine .inr ?_;rcases (g.obj _ _ _ c).stays x rfl (λ _=>rfl) (λ _ _=>rfl) with ⟨f,_⟩ | ⟨b,cs,e,fr,f,l,m,y,E,F⟩
   ·exact absurd f q
   exact .inr ⟨b,cs,e,fr,f,l,m,(λ h=>by cases h),E,F⟩
  simp only [upd,d,if_false] at h;exact .inl ⟨h,rfl,λ _=>rfl,λ _ _=>rfl⟩
 ·obtain ⟨_,f,m⟩:=gu (x':=.row sz z false true xs) c rfl A r;obtain ⟨_,l,y⟩:=gu (x':=.row sz z false true xs) c rfl d n;exact g.inj i j _ _ k f l m y
 ·obtain ⟨⟨D,B⟩,f,m⟩:=gu (x':=.row sz z false true xs) (p:=(u,o)) c rfl h l;exact g.own j D B k f m
 by_cases d:j=id
 ·subst d;rw [c] at hc;cases hc;cases t
 exact ⟨o,by simp [upd,d,hc],t⟩
theorem Gam.frz {ob:Obs} (h:Gam X ⟨s.e,ob⟩ ρ a w) (i:Nat):Gam X ⟨s.e,Ev.frz ob i (ob i)⟩ ρ a w:=by
 rcases hi:ob i with _ | ⟨v,b | ⟨sz,z,c,d,xs⟩ | T | _ | _⟩
 ·exact h
 ·exact h
 ·exact h.freeze1 (s:=⟨s.e,ob⟩) hi
 ·exact h
 ·exact h
 exact h
theorem Gam.freeze:∀(l:List Nat) {ob:Obs},Gam X ⟨s.e,ob⟩ ρ a w->Gam X ⟨s.e,Ev.freeze ob l⟩ ρ a w
 | [],_,h=>h
 | i::is,_,h=>Gam.freeze is (h.frz i)
theorem avj {v sz:Nat} {z:RV} {c d:Bool} {xs:List RV} {ob:Obs} (h:ob i=some (v,.row sz z c d xs)):∃b,Ev.frz ob j (ob j) i=some (v,.row sz z c b xs)/\(d=false\/i=j->b=false):=by
 by_cases a:i=j
 ·subst a;rw [h];exact ⟨false,by simp [Ev.frz,upd],λ _=>rfl⟩
 refine ⟨d,?_,λ g=>g.resolve_right a⟩;rcases hj:ob j with _ | ⟨m,e | ⟨l,n,f,b,k⟩ | T | _ | _⟩<;>simp [Ev.frz,upd,a,h]
theorem aby {i v sz:Nat} {z:RV} {b:Bool} {xs:List RV}:∀(l:List Nat) (ob:Obs) (c:Bool),ob i=some (v,.row sz z b c xs)->∃d,Ev.freeze ob l i=some (v,.row sz z b d xs)/\(c=false\/i∈l->d=false)
 | [],ob,c,h=>⟨c,h,λ h=>h.resolve_right (by simp)⟩
 | j::l,ob,c,h=>by
   obtain ⟨g,k,e⟩:=avj (j:=j) h;obtain ⟨f,n,m⟩:=aby l _ g k;refine ⟨f,n,λ a=>m ?_⟩;rcases a with a | a
   ·exact .inl (e (.inl a))
   rcases zag.1 a with a | a
   ·exact .inl (e (.inr a))
   exact .inr a
theorem apn (q:Gam X s ρ a w) {ver k len sz:Nat} {z:RV} {D:Bool} {xs:List RV} (f:s.ob id=some (ver,.row sz z D false xs)) (h:RA X s ρ w (.own id ver k len) c) :
 RelV w (d7 X.B s.ob ρ w) (.sl sz ((xs.drop k).take len)) c:=by
 cases h;rename_i h;obtain ⟨A,cap,rfl,T,F,H,I⟩:=h.live f;have m:((xs.drop k).take len).length=len:=by simp; omega
 rcases q.obj id ver _ f with ⟨p,C⟩ | ⟨b,cs,e,fr,p,C,Q,S,U,E⟩
 ·subst p;have:len=0:=by have:k+len<=0:=H; omega
  subst this;refine (?_:RelV w (d7 X.B s.ob ρ w) (.sl sz []) _);exact .sl sz [] A cap (by simp) F 0 0 (λ _ _=>undef) (by simp) (by simp) (by simp) (by simp)
 have n:=RelV.sl (w:=w) (R:=d7 X.B s.ob ρ w) sz ((xs.drop k).take len) A cap (by omega) F b (k*sz) (λ i j=>(cs[(k+i)*sz+j]?).getD undef);rw [m] at n
 have d:∀(i:Nat) (x:RV),((xs.drop k).take len)[i]?=some x->xs[k+i]?=some x:=λ i x g=>by
  rw [zad] at g;split at g
  ·rwa [zab] at g
  cases g
 refine n (λ N=>?_) (λ i x g=>(E _ x (d i x g)).1) (λ i x j y g u=>?_) (λ i x j y g u=>?_)
 ·obtain ⟨P,K,e',J,G,L,M,O⟩:=I (by omega);rw [p] at G;cases G;refine ⟨L,(zai.1 C).1,?_,q.base b (q.own _ _ _ b f (.inl p))⟩;rintro ⟨j,v,o,l,t,r⟩;have:=q.inj id j _ _ b f l (.inl p) r;subst this;rw [f] at l;cases l;cases t
 ·obtain ⟨c,l,t,r⟩:=(E _ x (d i x g)).2 j y u;rw [l];refine ⟨?_,t⟩;simp only [World.cell?,C,Option.isSome_none,zak,if_false,zae];rw [<- l,Nat.add_mul]
 obtain ⟨c,l,t,r⟩:=(E _ x (d i x g)).2 j y u;rw [l];exact r
theorem afz (g:Gam X s ρ a w) {ob:Obs} {x:AV} {y:RV} {f l:List Nat} (h:x.rv ob=some (y,f)) (b:∀i∈f,i∈l) (d:s.ob=Ev.freeze ob l) (hx:RA X s ρ w x c):RelV w (d7 X.B s.ob ρ w) y c:=by
 unfold AV.rv at h;split at h
 ·cases h; cases hx; assumption
 ·cases h; cases hx;exact .sl _ [] none 0 (by simp) (by simp) 0 0 (λ _ _=>undef) (by simp) (by simp) (by simp) (by simp)
 ·split at h
  ·rename_i j;cases h;obtain ⟨m,e,k⟩:=aby l ob _ (o4 j);rw [k (.inr (b _ (by simp)))] at e;rw [<- d] at e;exact apn g e hx
  cases h
 cases h
theorem Stays.nil (id ver:Nat) (g:∀v o,s.ob id=some (v,o)->v<ver) (x:Ob) (f:x.isAbs=false:=by rfl) :
 Stays w w (d7 X.B s.ob ρ w) (d7 X.B (upd id (ver,x) s.ob) (m9 ρ id none) w) s.ob (upd id (ver,x) s.ob) ρ (m9 ρ id none):=by
 refine ⟨λ b ⟨l,i,n⟩=>⟨⟨l,?_,n⟩,rfl⟩,λ j v o h=>?_⟩
 ·rintro ⟨j,v,o,c,m,d⟩;by_cases a:j=id
  ·subst a;simp [upd] at c;obtain ⟨rfl,rfl⟩:=c;rw [cg f] at d;simp [m9] at d
  simp only [upd,a,if_false] at c;exact i ⟨j,v,o,c,m,(qz a).1 d⟩
 by_cases a:j=id
 ·subst a;exact ⟨ver,x,by simp [upd],Nat.le_of_lt (g v o h),λ e=>by have:=g v o h; omega⟩
 exact ⟨v,o,by simp [upd,a,h],zaa _,λ _=>⟨by simp [m9,a],u5.refl o,λ b cs e fr p k=>⟨cs,e,fr,k,rfl⟩⟩⟩
theorem Gam.nil (m:Gam X s ρ a w) (id ver:Nat) (t:X.pn id=none) (B:∀v o,s.ob id=some (v,o)->v<ver) (sz:Nat) (z:RV) (x:Bool) :
 Gam X ⟨s.e,upd id (ver,.row sz z true x []) s.ob⟩ (m9 ρ id none) a w:=by
 refine m.step (Stays.nil id ver B _ rfl) (λ j v o h=>?_) (λ i j p A k D c u r=>?_) m.keeps (λ j v o b h f=>?_) (λ j b o h hc C H=>?_)
 ·by_cases c:j=id
  ·subst c;simp [upd] at h;obtain ⟨rfl,rfl⟩:=h;exact .inr (.inl ⟨rfl,by simp [m9],rfl⟩)
  simp only [upd,c,if_false] at h;exact .inl ⟨h,by simp [m9,c],by simp [m9],λ _ _=>rfl⟩
 ·have l:∀g (y:Nat×Ob),upd id (ver,.row sz z true x []) s.ob g=some y->foot (m9 ρ id none) g y.2 k->s.ob g=some y/\foot ρ g y.2 k:=λ g y q n=>by
   by_cases d:g=id
   ·subst d;simp [upd] at q;subst q;rw [cg rfl] at n;simp [m9] at n
   simp only [upd,d,if_false] at q;rw [qz d] at n;exact ⟨q,n⟩
  obtain ⟨F,f⟩:=l i p D u;obtain ⟨E,G⟩:=l j A c r;exact m.inj i j p A k F E f G
 ·by_cases c:j=id
  ·subst c;simp [upd] at h;obtain ⟨rfl,rfl⟩:=h;rw [cg rfl] at f;simp [m9] at f
  simp only [upd,c,if_false] at h;rw [qz c] at f;exact m.own j v o b h f
 have c:j≠id:=λ e=>by rw [e,t] at h; cases h
 exact ⟨by simp [m9,c,H],o,by simp [upd,c,hc],C⟩
theorem Gam.unpinned (f:Gam X s ρ a w) {v sz:Nat} {z:RV} {c g:Bool} {xs:List RV} (e:s.ob id=some (v,.row sz z c g xs)) (d:(c || !par id)=true):X.pn id=none:=by
 cases hp:par id with
 | false=>exact f.pnn id hp
 | true=>
   rw [hp] at d;have d:c=true:=by simpa using d
   subst d;rcases h:X.pn id with _ | b
   ·rfl
   obtain ⟨_,o,hc,i,_⟩:=f.pin id b h;rw [e] at hc;cases hc;cases i
end

end Go.Ev

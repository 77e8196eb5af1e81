import Derived.WalkKit
open Nat renaming le_refl → zaa, add_assoc → zaj, le_trans → zan
open List renaming getElem?_drop → zab, getElem?_take → zad, mem_cons → zag, getElem?_eq_some_iff → zam, not_mem_nil → zao, length_eq_zero_iff → zap, getElem?_toArray → zas
open BitVec renaming ofInt → zac
open Option renaming getD_some → zae, getD_none → zaf, map_eq_some_iff → zaq
open Bool renaming and_eq_true → zah, false_eq_true → zak
open Array renaming getElem?_eq_some_iff → zai
open Int renaming toNat_natCast → zal, eq_ofNat_of_zero_le → zar
namespace Go.Ev
set_option maxHeartbeats 8000000
set_option maxRecDepth 100000
open Go
set_option linter.unusedSectionVars false
set_option linter.unnecessarySimpa false
set_option linter.unusedSimpArgs false
set_option linter.unusedVariables false
inductive RV where
 | v (x:Value)
 | agg (xs:List RV)
 | sl (sz:Nat) (xs:List RV)
inductive AV where
 | r (x:RV)
 | agg (xs:List AV)
 | tup (xs:List AV)
 | nils (sz:Nat) (z:RV)
 | own (id ver lo len:Nat)
 | ptr (id ver off:Nat)
 | oel (id ver idx off:Nat)
 | rp (ys:List RV)
 | fn (f:Fn) (cap:List AV) (k:Nat:=0)
 | mp (id ver:Nat)
 | ifc (t:TypeId) (x:AV)
 | gd (b:Bool) (x:AV)
 | undef
instance:Inhabited RV:=⟨.v (.bool false)⟩
instance:Inhabited AV:=⟨.undef⟩
inductive Pl where
 | o (id:Nat)
 | s (id j:Nat)
deriving DecidableEq
instance:Coe Nat Pl:=⟨Pl.o⟩
def RV.cells:RV->List RV
 | .agg xs=>xs
 | x=>[x]
def AV.cells:AV->List AV
 | .agg xs=>xs
 | .r (.agg xs)=>xs.map .r
 | x=>[x]
def RV.one:RV->Bool
 | .v x=>x.oneCell'
 | .agg _=>false
 | .sl _ _=>true
section
variable (w:World) (R:Nat->Prop)
inductive RelV:RV->Value->Prop where
 | v (x:Value):RelV (.v x) x
 | agg (xs:List RV) (cs:Array Value) (hl:cs.size=xs.length) (h:∀(i:Nat) (x:RV) (c:Value),xs[i]?=some x->cs[i]?=some c->RelV x c):RelV (.agg xs) (.agg cs)
 | sl (sz:Nat) (xs:List RV) (A:Option Addr) (cap:Nat) (hc:xs.length<=cap) (hm:cap<=maxLen) (b o:Nat) (g:Nat->Nat->Value)
  (hA:0<xs.length->A=some ⟨b,o,none⟩/\R b)
  (hz:∀(i:Nat) (x:RV),xs[i]?=some x->x.cells.length=sz)
  (hg:∀(i:Nat) (x:RV) (j:Nat) (y:RV),xs[i]?=some x->x.cells[j]?=some y->w.cell? ⟨b,o+i*sz+j,none⟩=some (g i j)/\(g i j).oneCell'=true)
  (hr:∀(i:Nat) (x:RV) (j:Nat) (y:RV),xs[i]?=some x->x.cells[j]?=some y->RelV y (g i j)):RelV (.sl sz xs) (.slice A xs.length cap)
end
variable {c:Value}
theorem RelV.mono {w e:World} {R R':Nat->Prop} {x:RV} (h:RelV w R x c) (d:∀b,R b->R' b/\e.heap[b]?=w.heap[b]?):RelV e R' x c:=by
 induction h with
 | v x=>exact .v x
 | agg xs cs hl _ ih=>exact .agg xs cs hl ih
 | sl sz xs A cap hc hm b o g hA hz hg hr ih=>
   refine .sl sz xs A cap hc hm b o g (fun a=>⟨(hA a).1,(d b (hA a).2).1⟩) hz (fun i x j y hi l=>?_) ih
   have a:0<xs.length:=by
    have:=(zam.1 hi).1;omega
   obtain ⟨k,f⟩:=hg i x j y hi l;refine ⟨?_,f⟩;rw [<- k];simp only [World.cell?];rw [(d b (hA a).2).2]
structure AbsT where
 size:Nat
 Q:World->Nat->(Nat->Option Nat)->Prop
 loc:∀{w w':World} {b:Nat} {φ:Nat->Option Nat},Q w b φ->w'.heap[b]?=w.heap[b]?->(∀j c,φ j=some c->w'.heap[c]?=w.heap[c]?)->Q w' b φ
 root:∀{w:World} {b:Nat} {φ:Nat->Option Nat},Q w b φ->∃cs e,w.heap[b]?=some (.cells cs e (0,0))/\cs.size=size
 lt:∀{w:World} {b:Nat} {φ:Nat->Option Nat},Q w b φ->∀j c,φ j=some c->c<w.heap.size
 view:List RV
 rp:∀{w:World} {b:Nat} {φ:Nat->Option Nat} (R:Nat->Prop),Q w b φ->R b->(∀j c,φ j=some c->R c) ->
  ∃g:Nat->Value,∀(j:Nat) (y:RV),view[j]?=some y->w.cell? ⟨b,0+j,none⟩=some (g j)/\(g j).oneCell'=true/\RelV w R y (g j)
inductive Ob where
 | box (cells:List AV)
 | row (sz:Nat) (z:RV) (app wr:Bool) (xs:List RV)
 | abs (T:AbsT)
 | map (es:List MapEntry) (clock:Nat)
 | iter (m:AV) (since:Nat) (seen:List Nat) (stepped:Nat)
def Ob.own:Ob->Bool
 | .box _=>true
 | .row _ _ _ wr _=>wr
 | .abs _=>true
 | .map _ _=>true
 | .iter _ _ _ _=>true
def Ob.pinned:Ob->Bool
 | .row _ _ app _ _=>!app
 | _=>true
def Ob.isRow:Ob->Bool
 | .row _ _ _ _ _=>true
 | _=>false
def par (id:Nat):Bool:=bif decide (1000000<=id) then decide (id<2000000) else false
variable {id:Nat}
theorem adg (h:id<1000000):par id=false:=by unfold par; rw [decide_eq_false (by omega)]; rfl
def lj (w d:World) (b:Nat):Prop:=∀cs e fr,w.heap[b]?=some (.cells cs e fr)->∃a e' c,d.heap[b]?=some (.cells a e' c)/\a.size=cs.size
theorem lj.refl (w:World) (b:Nat):lj w w b:=fun cs e fr h=>⟨cs,e,fr,h,rfl⟩
variable {k:Nat}
theorem lj.trans {a b c:World} (h:lj a b k) (g:lj b c k):lj a c k:=fun cs e fr q=>by
 obtain ⟨j,o,d,p,m⟩:=h cs e fr q;obtain ⟨f,r,i,l,n⟩:=g j o d p;exact ⟨f,r,i,l,n.trans m⟩
def Ob.isAbs:Ob->Bool
 | .abs _=>true
 | _=>false
def foot (ρ:Pl->Option Nat) (id:Nat) (o:Ob) (b:Nat):Prop:=ρ id=some b\/(o.isAbs=true/\∃j,ρ (.s id j)=some b)
variable {b:Nat}
theorem dr {ρ:Pl->Option Nat} {o:Ob} (h:o.isAbs=false):foot ρ id o b↔ρ id=some b:=by simp [foot,h]
variable {o':Ob}
theorem yo {ρ a:Pl->Option Nat} {c:Nat} {o:Ob} (f:a c=ρ id) (d:∀j,a (.s c j)=ρ (.s id j)) (e:o'.isAbs=o.isAbs):foot a c o' b↔foot ρ id o b:=by simp only [foot,f,d,e]
def qz (ρ a:Pl->Option Nat) (i b:Nat):Prop:=a (.o b)=ρ (.o i)/\∀j,a (.s b j)=ρ (.s i j)
variable {i:Nat}
theorem qz.foot {ρ a:Pl->Option Nat} {c:Nat} (h:qz ρ a i c) {o:Ob} (d:o'.isAbs=o.isAbs):foot a c o' b↔foot ρ i o b:=yo h.1 h.2 d
def k9 (ρ:Pl->Option Nat) (id:Nat) (b:Option Nat):Pl->Option Nat:=fun i=>if i=id then b else ρ i
variable {j:Nat}
theorem mt {ρ:Pl->Option Nat} {o:Ob} {x:Option Nat} (h:j≠id):foot (k9 ρ id x) j o b↔foot ρ j o b:=yo (by simp [k9,h]) (by simp [k9]) rfl
abbrev Obs:=Nat->Option (Nat×Ob)
def xq (w:World) (ρ:Pl->Option Nat) (id:Nat) (lo len:Nat) (c:Value):Ob->Prop
 | .box _=>∃A cap,c=.slice A len cap/\len<=cap/\cap<=maxLen /\
  (0<cap->∃b cs e fr,ρ id=some b/\A=some ⟨b,lo,none⟩/\w.heap[b]?=some (.cells cs e fr)/\lo+cap<=cs.size)
 | .abs _=>False
 | .map _ _=>False
 | .iter _ _ _ _=>False
 | .row sz _ _ _ xs=>∃A cap,c=.slice A len cap/\len<=cap/\cap<=maxLen/\lo+len<=xs.length /\
  (0<cap->∃b cs e fr,ρ id=some b/\A=some ⟨b,lo*sz,none⟩/\w.heap[b]?=some (.cells cs e fr)/\(lo+cap)*sz<=cs.size)
def aw8 (ρ:Pl->Option Nat) (id idx a:Nat) (c:Value):Ob->Prop
 | .box _=>∃b,ρ id=some b/\c=.pointer (some ⟨b,idx+a,none⟩)
 | .abs _=>False
 | .map _ _=>False
 | .iter _ _ _ _=>False
 | .row sz _ _ _ xs=>idx<xs.length/\a<=sz/\∃b,ρ id=some b/\c=.pointer (some ⟨b,idx*sz+a,none⟩)
def At (ob:Obs) (id ver:Nat) (X:Ob->Prop):Prop:=∃v o,ob id=some (v,o)/\ver<=v/\(ver=v->X o)
section
variable (w:World) (R:Nat->Prop) (ob:Obs) (ρ:Pl->Option Nat)
inductive RelA:AV->Value->Prop where
 | r {x:RV} {c:Value} (h:RelV w R x c):RelA (.r x) c
 | agg (xs:List AV) (cs:Array Value) (hl:cs.size=xs.length) (h:∀(i:Nat) (x:AV) (c:Value),xs[i]?=some x->cs[i]?=some c->RelA x c):RelA (.agg xs) (.agg cs)
 | tup (xs:List AV) (cs:Array Value) (hl:cs.size=xs.length) (h:∀(i:Nat) (x:AV) (c:Value),xs[i]?=some x->cs[i]?=some c->RelA x c):RelA (.tup xs) (.tuple cs)
 | nils (sz:Nat) (z:RV):RelA (.nils sz z) (.slice none 0 0)
 | own (id ver lo len:Nat) (c:Value) (hc:c.oneCell'=true) (h:At ob id ver (xq w ρ id lo len c)):RelA (.own id ver lo len) c
 | ptr (id ver off:Nat) (c:Value) (hc:c.oneCell'=true) (h:At ob id ver fun _=>∃b,ρ id=some b/\c=.pointer (some ⟨b,off,none⟩)):RelA (.ptr id ver off) c
 | oel (id ver idx off:Nat) (c:Value) (hc:c.oneCell'=true) (h:At ob id ver (aw8 ρ id idx off c)):RelA (.oel id ver idx off) c
 | rp (ys:List RV) (b o:Nat) (g:Nat->Value) (hR:R b) (hg:∀(j:Nat) (y:RV),ys[j]?=some y->w.cell? ⟨b,o+j,none⟩=some (g j)/\(g j).oneCell'=true/\RelV w R y (g j)) :
  RelA (.rp ys) (.pointer (some ⟨b,o,none⟩))
 | fn (f:Fn) (xs:List AV) (k:Nat) (fs cs:Array Value) (hk:fs.size=k) (hl:fs.size+cs.size=xs.length) (h:∀(i:Nat) (x:AV) (c:Value),xs[i]?=some x->(fs++cs)[i]?=some c->RelA x c):RelA (.fn f xs k) (.func f fs cs)
 | mp (id ver:Nat) (c:Value) (hc:c.oneCell'=true) (h:At ob id ver fun _=>∃b,ρ id=some b/\c=.map (some b)):RelA (.mp id ver) c
 | ifc (t:TypeId) {x:AV} {c:Value} (h:RelA x c):RelA (.ifc t x) (.iface t c)
 | gd (b:Bool) {x:AV} {c:Value} (h:b=true->RelA x c) (hf:b=false->c=undef):RelA (.gd b x) c
 | undef (c:Value):RelA .undef c
end
def u3:Ob->Ob->Prop
 | .box _,.box _=>True
 | .abs T,.abs T'=>T'.size=T.size
 | .map _ _,.map _ _=>True
 | .iter _ _ _ _,.iter _ _ _ _=>True
 | .row sz _ _ _ xs,.row sz' _ _ _ xs'=>sz'=sz/\xs.length<=xs'.length
 | .row sz _ _ _ _,.box _=>sz=1
 | _,_=>False
theorem u3.refl (o:Ob):u3 o o:=by cases o<;>simp [u3]
structure Stays (w w':World) (R R':Nat->Prop) (ob ob':Obs) (ρ ρ':Pl->Option Nat):Prop where
 free:∀b,R b->R' b/\w'.heap[b]?=w.heap[b]?
 obj:∀id v o,ob id=some (v,o)->∃v' o',ob' id=some (v',o')/\v<=v'/\(v=v'->ρ' id=ρ id/\u3 o o' /\
  (∀b cs e fr,ρ id=some b->w.heap[b]?=some (.cells cs e fr)->∃cs' e' fr',w'.heap[b]?=some (.cells cs' e' fr')/\cs'.size=cs.size))
section
variable {w w':World} {R R':Nat->Prop} {ob ob':Obs} {ρ ρ':Pl->Option Nat}
theorem Stays.at_ (h:Stays w w' R R' ob ob' ρ ρ') {ver:Nat} {X d:Ob->Prop} (m:At ob id ver X)
 (hx:∀o o',X o->ρ' id=ρ id->u3 o o'->(∀b cs e fr,ρ id=some b->w.heap[b]?=some (.cells cs e fr)->∃a e' c,w'.heap[b]?=some (.cells a e' c)/\a.size=cs.size)->d o') :
 At ob' id ver d:=by
 obtain ⟨v,o,p,k,f⟩:=m;obtain ⟨r,o',i,j,g⟩:=h.obj id v o p;refine ⟨r,o',i,zan k j,fun e=>?_⟩;obtain ⟨n,q,l⟩:=g (by omega);exact hx o o' (f (by omega)) n q l
theorem RelA.stays (h:Stays w w' R R' ob ob' ρ ρ') {x:AV} (hx:RelA w R ob ρ x c):RelA w' R' ob' ρ' x c:=by
 induction hx with
 | r u=>exact .r (u.mono h.free)
 | agg xs cs hl _ ih=>exact .agg xs cs hl ih
 | tup xs cs hl _ ih=>exact .tup xs cs hl ih
 | nils sz z=>exact .nils sz z
 | own id ver lo len c hc ha=>
   refine .own id ver lo len c hc (h.at_ ha fun o o' i a d v=>?_);cases o with
   | box _=>
     cases o' with
     | box _=>
       obtain ⟨A,cap,q,n,p,G⟩:=i;refine ⟨A,cap,q,n,p,fun u=>?_⟩;obtain ⟨b,cs,e,fr,s,F,E,B⟩:=G u;obtain ⟨m,e',l,C,D⟩:=v b cs e fr s E;exact ⟨b,m,e',l,by rw [a,s],F,C,by rw [D]; exact B⟩
     | _=>exact d.elim
   | abs _=>exact i.elim
   | map _ _=>exact i.elim
   | iter _ _ _ _=>exact i.elim
   | row sz z1 a1 w1 xs=>
     cases o' with
     | box _=>
       obtain rfl:sz=1:=d;obtain ⟨A,cap,q,n,p,H,G⟩:=i;refine ⟨A,cap,q,n,p,fun u=>?_⟩;obtain ⟨b,cs,e,fr,s,F,E,B⟩:=G u;obtain ⟨m,e',l,C,D⟩:=v b cs e fr s E;exact ⟨b,m,e',l,by rw [a,s],by rw [F,Nat.mul_one],C,by rw [D]; simpa using B⟩
     | abs _=>exact d.elim
     | map _ _=>exact d.elim
     | iter _ _ _ _=>exact d.elim
     | row sz' z2 a2 w2 xs'=>
       obtain ⟨rfl,d⟩:=d;obtain ⟨A,cap,q,n,p,H,G⟩:=i;refine ⟨A,cap,q,n,p,by omega,fun u=>?_⟩;obtain ⟨b,cs,e,fr,s,F,E,B⟩:=G u;obtain ⟨m,e',l,C,D⟩:=v b cs e fr s E;exact ⟨b,m,e',l,by rw [a,s],F,C,by rw [D]; exact B⟩
 | ptr id ver off c hc ha=>exact .ptr id ver off c hc (h.at_ ha fun o o' i a d v=>by rw [a]; exact i)
 | oel id ver idx off c hc ha=>
   refine .oel id ver idx off c hc (h.at_ ha fun o o' i a d v=>?_);cases o with
   | box _=>
     cases o' with
     | box _=>
       obtain ⟨b,q,n⟩:=i;exact ⟨b,by rw [a]; exact q,n⟩
     | _=>exact d.elim
   | abs _=>exact i.elim
   | map _ _=>exact i.elim
   | iter _ _ _ _=>exact i.elim
   | row sz z1 a1 w1 xs=>
     cases o' with
     | box _=>
       obtain rfl:sz=1:=d;obtain ⟨q,n,b,p,H⟩:=i;exact ⟨b,by rw [a]; exact p,by rw [H,Nat.mul_one]⟩
     | abs _=>exact d.elim
     | map _ _=>exact d.elim
     | iter _ _ _ _=>exact d.elim
     | row sz' z2 a2 w2 xs'=>
       obtain ⟨rfl,d⟩:=d;obtain ⟨q,n,p⟩:=i;exact ⟨by omega,n,by rw [a]; exact p⟩
 | rp ys b o g hR hg=>
   refine .rp ys b o g (h.free b hR).1 fun j y L=>?_;obtain ⟨K,J,I⟩:=hg j y L;refine ⟨?_,J,I.mono h.free⟩;rw [<- K];simp only [World.cell?];rw [(h.free b hR).2]
 | fn f xs k fs cs d hl _ ih=>exact .fn f xs k fs cs d hl ih
 | mp id ver c hc ha=>exact .mp id ver c hc (h.at_ ha fun o o' i a d v=>by rw [a]; exact i)
 | ifc t _ ih=>exact .ifc t ih
 | gd b _ hf ih=>exact .gd b ih hf
 | undef c=>exact .undef c
end
structure St where
 e:Nat->AV
 ob:Obs
def Own (ob:Obs) (ρ:Pl->Option Nat) (b:Nat):Prop:=∃id v o,ob id=some (v,o)/\o.own=true/\foot ρ id o b
def d7 (B:Nat->Prop) (ob:Obs) (ρ:Pl->Option Nat) (w:World) (b:Nat):Prop:=b<w.heap.size/\¬Own ob ρ b/\B b
def y8 (w:World) (R:Nat->Prop) (ob:Obs) (ρ:Pl->Option Nat) (id:Nat):Ob->Prop
 | .box cells=>∃b cs e,ρ id=some b/\w.heap[b]?=some (.cells cs e (0,0))/\cs.size=cells.length /\
  ∀(i:Nat) (x:AV) (c:Value),cells[i]?=some x->cs[i]?=some c->RelA w R ob ρ x c
 | .abs T=>∃b,ρ id=some b/\T.Q w b (fun j=>ρ (.s id j))
 | .map es clock=>∃b,ρ id=some b/\w.heap[b]?=some (.map es.toArray clock)
 | .iter m since seen stepped=>∃b a,ρ id=some b/\w.heap[b]?=some (.mapIter (some a) since seen.toArray stepped)/\RelA w R ob ρ m (.map (some a))
 | .row sz _ app _ xs=>(xs=[]/\ρ id=none/\app=true)\/∃b cs e fr,ρ id=some b/\w.heap[b]?=some (.cells cs e fr) /\
  (∀k,k<cs.size->¬(fr.1<=k/\k<fr.2))/\(app=true->fr=(0,0))/\xs.length*sz<=cs.size /\
  ∀(i:Nat) (x:RV),xs[i]?=some x->x.cells.length=sz/\∀(j:Nat) (y:RV),x.cells[j]?=some y->∃c,cs[i*sz+j]?=some c/\c.oneCell'=true/\RelV w R y c
structure Keeps (I:Nat->Prop) (w w':World):Prop where
 os:w'.os=w.os
 tape:w'.tape=w.tape
 output:w'.output=w.output
 size:w.heap.size<=w'.heap.size
 block:∀b,b<w.heap.size->¬I b->w'.heap[b]?=w.heap[b]?
theorem Keeps.refl (I:Nat->Prop) (w:World):Keeps I w w:=⟨rfl,rfl,rfl,zaa _,fun _ _ _=>rfl⟩
theorem Keeps.trans {I:Nat->Prop} {a b c:World} (h:Keeps I a b) (k:Keeps I b c):Keeps I a c:=
 ⟨k.os.trans h.os,k.tape.trans h.tape,k.output.trans h.output,zan h.size k.size,fun i hi d=>(k.block i (Nat.lt_of_lt_of_le hi h.size) d).trans (h.block i hi d)⟩
structure Cx where
 n:Nat
 I:Nat->Prop
 pn:Nat->Option Nat
 B:Nat->Prop
 w0:World
structure Mem (X:Cx) (ob:Obs) (ρ:Pl->Option Nat) (w:World):Prop where
 obj:∀id v o,ob id=some (v,o)->y8 w (d7 X.B ob ρ w) ob ρ id o
 inj:∀id id' x x' b,ob id=some x->ob id'=some x'->foot ρ id x.2 b->foot ρ id' x'.2 b->id=id'
 keeps:Keeps X.I X.w0 w
 own:∀id v o b,ob id=some (v,o)->foot ρ id o b->X.I b\/X.w0.heap.size<=b
 pin:∀id b,X.pn id=some b->ρ id=some b/\∃o,ob id=some (0,o)/\o.pinned=true/\(o.isRow=true->lj X.w0 w b)
structure Gam (X:Cx) (s:St) (ρ:Pl->Option Nat) (a:Act) (w:World):Prop extends Mem X s.ob ρ w where
 sz:a.tmps.size=X.n
 df:a.defers=[]
 env:∀t,RelA w (d7 X.B s.ob ρ w) s.ob ρ (s.e t) (a.tmps.getD t undef)
 pnn:∀id,par id=false->X.pn id=none
 small:X.n<=100000
 base:∀b,X.I b\/X.w0.heap.size<=b->X.B b

inductive Opd where
 | t (n:Nat)
 | c (x:AV)
inductive PO where
 | mov (x:Opd)
 | pick (c a b:Opd)
 | bin (op:BinOp) (x y:Opd)
 | beq (neg:Bool) (x y:Opd)
 | eqn (neg:Bool) (x:Opd)
 | un (op:UnOp) (x:Opd)
 | conv (k:IntKind) (x:Opd)
 | toStr (x:Opd)
 | toBytes (z:RV) (x:Opd)
 | new (zs:List AV)
 | box (x:Opd)
 | build (zs:List AV) (ps:List (Nat×Nat×Opd))
 | mkf (f:Fn) (xs:List Opd) (k:Nat:=0)
 | eqa (neg:Bool) (ks:List Nat) (x y:Opd)
 | bsl (sz:Nat) (z:RV) (ps:List Opd)
 | ld (n:Option Nat) (x:Opd)
 | st (n:Nat) (x y:Opd)
 | nck (x:Opd)
 | fa (off:Nat) (x:Opd)
 | fld (off:Nat) (n:Option Nat) (x:Opd)
 | ia (sz:Nat) (z:RV) (x i:Opd)
 | ixs (x i:Opd)
 | sls (x:Opd) (lo hi:Option Opd)
 | sll (sz:Nat) (x:Opd) (lo hi mx:Option Opd)
 | mks (sz:Nat) (z:RV) (bytes:Nat) (l c:Opd)
 | len (str:Bool) (x:Opd)
 | app (sz:Nat) (z:RV) (bytes:Nat) (x y:Opd)
 | cpy (sz:Nat) (x y:Opd)
 | ext (x:Opd) (i:Nat)
 | mm (mx:Bool) (x:Opd) (ys:List Opd)
 | iaa (n sz:Nat) (x i:Opd)
 | carry (sub:Bool) (x y c:Opd)
 | lkp (str:Bool) (z:RV) (comma:Bool) (x i:Opd)
 | lenm (x:Opd)
 | mki (t:TypeId) (x:Opd)
 | tas (t:TypeId) (z:RV) (comma:Bool) (x:Opd)
 | ent (x:Opd)
 | mkm
 | mset (str:Bool) (x i y:Opd)
 | mdel (str:Bool) (x i:Opd)
 | rng (x:Opd)
 | mrk (x:Opd)
 | cps (x y:Opd)
 | sla (n:Nat) (x:Opd)
 | clr (sz:Nat) (z:RV) (x:Opd)
structure Rs where
 ok:Prop
 v:AV
 ob:Obs
 rd:List Nat
 wr:List Nat
abbrev Env:=Nat->AV
def put (d:Nat) (x:AV) (e:Env):Env:=fun n=>if n=d then x else e n
def upd (id:Nat) (x:Nat×Ob) (ob:Obs):Obs:=fun n=>if n=id then some x else ob n
def Opd.ev (e:Env):Opd->AV
 | .t n=>e n
 | .c x=>x
abbrev bl (b:Bool):AV:=.r (.v (.bool b))
abbrev int (k:IntKind) (n:Int):AV:=.r (.v (.int k n))
abbrev Vs:=Prop×AV
def Rs.and (p:Prop) (r:Rs):Rs:=⟨p/\r.ok,r.v,r.ob,r.rd,r.wr⟩
def bad (g:Bool):Vs:=(g=true->False,.undef)
def n7 (g:Bool) (id:Nat) (ob:Obs):Rs:=⟨g=true->False,.undef,ob,[id],[]⟩
def AV.bare:AV->AV
 | .gd _ x=>x
 | x=>x
def AV.may (g:Bool):AV->Prop
 | .gd b _=>g=true->b=true
 | _=>True
def Vs.q (ob:Obs) (p:Prop) (v:Vs):Rs:=⟨p/\v.1,v.2,ob,[],[]⟩
def nv (ob:Obs) (id:Nat):Nat:=match ob id with | some (v,_)=>v+1 | none=>0
def vb (g:Bool) (op:BinOp) (k c:IntKind) (a b:Int):Vs:=
 match op with
 | .add=>(k=c,int k (k.wrap (a+b)))
 | .sub=>(k=c,int k (k.wrap (a-b)))
 | .mul=>(k=c,int k (k.wrap (a*b)))
 | .quo=>(k=c/\(g=true->¬b=0),int k (k.wrap (a.tdiv b)))
 | .rem=>(k=c/\(g=true->¬b=0),int k (a.tmod b))
 | .and=>(k=c,int k (k.wrap ((zac k.bits a &&& zac k.bits b).toNat)))
 | .or=>(k=c,int k (k.wrap ((zac k.bits a ||| zac k.bits b).toNat)))
 | .xor=>(k=c,int k (k.wrap ((zac k.bits a ^^^ zac k.bits b).toNat)))
 | .andNot=>(k=c,int k (k.wrap ((zac k.bits a &&& ~~~ zac k.bits b).toNat)))
 | .eql=>(k=c,bl (a == b))
 | .neq=>(k=c,bl (a != b))
 | .lss=>(k=c,bl (decide (a<b)))
 | .gtr=>(k=c,bl (decide (a>b)))
 | .leq=>(k=c,bl (decide (a<=b)))
 | .geq=>(k=c,bl (decide (a>=b)))
 | .shl=>((g=true->0<=b),int k (k.wrap (a*2^(min b.toNat k.bits))))
 | .shr=>((g=true->0<=b),int k (a.fdiv (2^(min b.toNat k.bits))))
abbrev ak0 (a:ByteArray):AV:=.r (.v (.string a))
def va (g:Bool) (op:BinOp) (a b:ByteArray):Vs:=
 match op with
 | .add=>((g=true->a.size+b.size<=9223372036854775807),ak0 (a++b))
 | .eql=>(True,bl (a.toList == b.toList))
 | .neq=>(True,bl (!(a.toList == b.toList)))
 | .lss=>(True,bl (Op.bytesLess a.toList b.toList))
 | .geq=>(True,bl (!Op.bytesLess a.toList b.toList))
 | _=>bad g
def qm (g:Bool) (op:BinOp):AV->AV->Vs
 | .r (.v (.int k a)),.r (.v (.int k' b))=>vb g op k k' a b
 | .r (.v (.string a)),.r (.v (.string b))=>va g op a b
 | _,_=>bad g
def ka (g:Bool):AV->AV->AV->Vs
 | .r (.v (.bool c)),.r (.v (.bool a)),.r (.v (.bool b))=>(True,bl (bif c then a else b))
 | .r (.v (.bool c)),.gd h (.r (.v (.bool a))),.r (.v (.bool b))=>((g=true->c=true->h=true),bl (bif c then a else b))
 | .r (.v (.bool c)),.r (.v (.bool a)),.gd h (.r (.v (.bool b)))=>((g=true->c=false->h=true),bl (bif c then a else b))
 | .r (.v (.bool c)),.r (.v (.bool a)),.undef=>((g=true->c=true),bl a)
 | .r (.v (.bool c)),.undef,.r (.v (.bool b))=>((g=true->c=false),bl b)
 | .r (.v (.bool c)),.gd h .undef,.r (.v (.bool b))=>((g=true->c=false),bl b)
 | .r (.v (.bool c)),.r (.v (.bool a)),.gd h .undef=>((g=true->c=true),bl a)
 | _,_,_=>bad g
def qn (g c:Bool):AV->AV->Vs
 | .r (.v (.bool a)),.r (.v (.bool b))=>(True,bl (bif c then !(a == b) else (a == b)))
 | _,_=>bad g
def un1 (g:Bool) (op:UnOp):AV->Vs
 | .r (.v (.int k n))=>match op with
   | .neg=>(True,int k (k.wrap (0-n)))
   | .xor=>(True,int k (k.wrap ((zac k.bits (if k.signed then -1 else k.max) ^^^ zac k.bits n).toNat)))
   | _=>bad g
 | .r (.v (.bool b))=>match op with
   | .not=>(True,bl !b)
   | _=>bad g
 | _=>bad g
def kl (g:Bool) (k:IntKind):AV->Vs
 | .r (.v (.int _ n))=>(True,int k (k.wrap n))
 | _=>bad g
def g7 (ob:Obs) (id ver:Nat):Option (Nat×RV×Bool×Bool×List RV):=
 match ob id with
 | some (v,.row sz z app wr xs)=>if ver=v then some (sz,z,app,wr,xs) else none
 | _=>none
def l7 (ob:Obs) (id ver:Nat):Option (List AV):=
 match ob id with
 | some (v,.box cells)=>if ver=v then some cells else none
 | _=>none
def bq (ob:Obs) (id ver:Nat):Option Unit:=
 match ob id with
 | some (v,.box _)=>if ver=v then some () else none
 | some (v,.abs _)=>if ver=v then some () else none
 | _=>none
def leb (g str:Bool) (id n:Nat) (ob:Obs):Option (List AV)->Rs
 | some _=>⟨str=false,int .i64 n,ob,[id],[]⟩
 | none=>n7 g id ob
def lw (g str:Bool):AV->Obs->Rs
 | .r (.sl _ xs),ob=>Vs.q ob (str=false) (True,int .i64 xs.length)
 | .r (.v (.string s)),ob=>Vs.q ob (str=true) (True,int .i64 s.size)
 | .nils _ _,ob=>Vs.q ob (str=false) (True,int .i64 0)
 | .own id ver _ n,ob=>match g7 ob id ver with
   | some _=>⟨str=false,int .i64 n,ob,[id],[]⟩
   | none=>leb g str id n ob (l7 ob id ver)
 | _,ob=>Vs.q ob True (bad g)
def iab (g:Bool) (sz id ver lo n:Nat) (i:Int) (ob:Obs):Option (List AV)->Rs
 | some _=>⟨sz=1/\(g=true->0<=i/\i<n),.ptr id ver (lo+i.toNat),ob,[id],[]⟩
 | none=>n7 g id ob
def ia2 (g:Bool) (sz:Nat) (z:RV):AV->AV->Obs->Rs
 | .r (.sl sz' xs),.r (.v (.int _ i)),ob=>Vs.q ob (sz'=sz) ((g=true->0<=i/\i<xs.length),.rp (xs.getD i.toNat z).cells)
 | .own id ver lo n,.r (.v (.int _ i)),ob=>match g7 ob id ver with
   | some (sz',_)=>⟨sz'=sz/\(g=true->0<=i/\i<n),.oel id ver (lo+i.toNat) 0,ob,[id],[]⟩
   | none=>iab g sz id ver lo n i ob (l7 ob id ver)
 | _,_,ob=>Vs.q ob True (bad g)
def qe (g:Bool):AV->AV->Vs
 | .r (.v (.string s)),.r (.v (.int _ i))=>((g=true->0<=i/\i<s.size),int .u8 (s.data.toList.getD i.toNat 0).toNat)
 | _,_=>bad g
def ldb (id:Nat) (ob:Obs) (g:Bool) (n:Option Nat) (a:Nat):Option (List AV)->Rs
 | some cells=>match n with
   | none=>⟨g=true->a<cells.length,cells.getD a .undef,ob,[id],[]⟩
   | some n=>⟨g=true->a+n<=cells.length,.agg ((cells.drop a).take n),ob,[id],[]⟩
 | none=>n7 g id ob
def ldr (id:Nat) (ob:Obs) (g:Bool) (n:Option Nat) (idx a:Nat):Option (Nat×RV×Bool×Bool×List RV)->Rs
 | some (sz,z,_,_,xs)=>match n with
   | none=>⟨g=true->a<sz,.r ((xs.getD idx z).cells.getD a (.v (.bool false))),ob,[id],[]⟩
   | some n=>⟨g=true->a+n<=sz,.r (.agg (((xs.getD idx z).cells.drop a).take n)),ob,[id],[]⟩
 | none=>n7 g id ob
def ld1 (g:Bool) (n:Option Nat):AV->Obs->Rs
 | .ptr id ver off,ob=>ldb id ob g n off (l7 ob id ver)
 | .oel id ver idx off,ob=>ldr id ob g n idx off (g7 ob id ver)
 | .rp ys,ob=>match n with
   | none=>Vs.q ob True ((g=true->0<ys.length),.r (ys.getD 0 (.v (.bool false))))
   | some n=>Vs.q ob True ((g=true->n<=ys.length),.r (.agg (ys.take n)))
 | _,ob=>Vs.q ob True (bad g)
def nm (g:Bool):AV->Obs->Rs
 | .ptr id ver off,ob=>match bq ob id ver with
   | some _=>⟨True,.ptr id ver off,ob,[id],[]⟩
   | none=>n7 g id ob
 | .oel id ver idx off,ob=>match g7 ob id ver with
   | some _=>⟨True,.oel id ver idx off,ob,[id],[]⟩
   | none=>n7 g id ob
 | .rp ys,ob=>Vs.q ob True (True,.rp ys)
 | .fn (.func f) xs k,ob=>Vs.q ob True (True,.fn (.func f) xs k)
 | _,ob=>Vs.q ob True (bad g)
def ns (g a:Bool):AV->Obs->Rs
 | .ptr id ver _,ob=>match bq ob id ver with
   | some _=>⟨True,bl a,ob,[id],[]⟩
   | none=>n7 g id ob
 | .r (.v (.pointer none)),ob=>Vs.q ob True (True,bl !a)
 | _,ob=>Vs.q ob True (bad g)
def fa1 (g:Bool) (a:Nat):AV->Obs->Rs
 | .ptr id ver o,ob=>match l7 ob id ver with
   | some _=>⟨True,.ptr id ver (o+a),ob,[id],[]⟩
   | none=>n7 g id ob
 | .oel id ver idx o,ob=>match g7 ob id ver with
   | some (sz,_)=>⟨g=true->o+a<=sz,.oel id ver idx (o+a),ob,[id],[]⟩
   | none=>n7 g id ob
 | .rp ys,ob=>Vs.q ob True (True,.rp (ys.drop a))
 | _,ob=>Vs.q ob True (bad g)
def qh (g:Bool) (a:Nat) (n:Option Nat) (x:AV):Vs:=
 match x with
 | .agg cs=>match n with
   | none=>((g=true->a<cs.length),cs.getD a .undef)
   | some n=>((g=true->a+n<=cs.length),.agg ((cs.drop a).take n))
 | .r (.agg cs)=>match n with
   | none=>((g=true->a<cs.length),.r (cs.getD a (.v (.bool false))))
   | some n=>((g=true->a+n<=cs.length),.r (.agg ((cs.drop a).take n)))
 | _=>bad g
def bnd (d:Int):Option AV->Option Int
 | none=>some d
 | some (.r (.v (.int _ i)))=>some i
 | _=>none
def pt (g:Bool):AV->Option AV->Option AV->Vs
 | .r (.v (.string s)),lo,hi=>match bnd 0 lo,bnd s.size hi with
   | some l,some h=>((g=true->0<=l/\l<=h/\h<=s.size),ak0 (s.extract l.toNat h.toNat))
   | _,_=>bad g
 | _,_,_=>bad g
def kw (g:Bool) (sz:Nat):AV->Option AV->Option AV->Option AV->Obs->Rs
 | .r (.sl sz' xs),lo,hi,mx,ob=>match bnd 0 lo,bnd xs.length hi,bnd xs.length mx with
   | some l,some h,some m=>Vs.q ob (sz'=sz) ((g=true->0<=l/\l<=h/\h<=m/\m<=xs.length),.r (.sl sz ((xs.take h.toNat).drop l.toNat)))
   | _,_,_=>Vs.q ob True (bad g)
 | .own id ver lo0 n,lo,hi,mx,ob=>match bnd 0 lo,bnd n hi,bnd n mx with
   | some l,some h,some m=>match g7 ob id ver with
     | some (sz',_)=>⟨sz'=sz/\(g=true->0<=l/\l<=h/\h<=m/\m<=n),.own id ver (lo0+l.toNat) (h-l).toNat,ob,[id],[]⟩
     | none=>n7 g id ob
   | _,_,_=>Vs.q ob True (bad g)
 | _,_,_,_,ob=>Vs.q ob True (bad g)
def sj (g:Bool) (id ver a n:Nat) (ob:Obs):Option (List AV)->Rs
 | some cells=>⟨g=true->a+n<=cells.length/\n<=maxLen,.own id ver a n,ob,[id],[]⟩
 | none=>n7 g id ob
def ln (g:Bool) (n:Nat):AV->Obs->Rs
 | .ptr id ver off,ob=>sj g id ver off n ob (l7 ob id ver)
 | _,ob=>Vs.q ob True (bad g)
def qi (g:Bool) (i:Nat):AV->Vs
 | .tup xs=>(i<xs.length,xs.getD i .undef)
 | _=>bad g
def c7 {a:Type} (l:List a) (i:Nat) (m:List a):List a:=l.take i++m++l.drop (i+m.length)
def src (ob:Obs):AV->Option (Nat×List RV×List Nat)
 | .r (.sl sz xs)=>some (sz,xs,[])
 | .nils sz _=>some (sz,[],[])
 | .own id ver lo len=>match g7 ob id ver with
   | some (sz,_,_,_,xs)=>some (sz,(xs.drop lo).take len,[id])
   | none=>none
 | _=>none
def aa1:RV->UInt8
 | .v (.int _ n)=>UInt8.ofNat n.toNat
 | _=>0
def ahv:RV->Bool
 | .v (.int .u8 n)=>decide (0<=n/\n<256)
 | _=>false
def AV.one:AV->Bool
 | .r x=>x.one
 | .agg _=>false
 | .tup _=>false
 | .gd _ _=>false
 | .undef=>false
 | _=>true
def AV.boxable:AV->Bool
 | .agg _=>true
 | .r (.agg _)=>true
 | x=>x.one
def bw (ob:Obs):Option (Nat×List RV×List Nat)->Rs
 | some (sz,ys,rd)=>⟨sz=1/\ys.all ahv=true,ak0 ⟨(ys.map aa1).toArray⟩,ob,rd,[]⟩
 | none=>Vs.q ob False (False,.undef)
def z8 (g:Bool) (e:Env):List AV->List (Nat×Nat×Opd)->Vs
 | zs,[]=>(True,.agg zs)
 | zs,(off,n,x)::r=>((x.ev e).may g/\(g=true->(x.ev e).bare.boxable=true/\(x.ev e).bare.cells.length=n/\off+n<=zs.length)/\(z8 g e (c7 zs off (x.ev e).bare.cells) r).1,(z8 g e (c7 zs off (x.ev e).bare.cells) r).2)
def i8 (e:Env):List Opd->List AV
 | []=>[]
 | x::xs=>(x.ev e).bare::i8 e xs
def t9 (g:Bool) (e:Env):List Opd->Prop
 | []=>True
 | x::xs=>(x.ev e).may g/\t9 g e xs
def eq2:Nat->AV->AV->Option Bool
 | 0,.r (.v (.int k a)),.r (.v (.int k' b))=>if k=k' then some (a == b) else none
 | 1,.r (.v (.bool a)),.r (.v (.bool b))=>some (a == b)
 | 2,.r (.v (.string a)),.r (.v (.string b))=>some (a.toList == b.toList)
 | _,_,_=>none
def eql:List Nat->List AV->List AV->Option Bool
 | [],[],[]=>some true
 | k::ks,x::xs,y::ys=>match eq2 k x y,eql ks xs ys with
   | some a,some b=>some (a&&b)
   | _,_=>none
 | _,_,_=>none
def AV.isA:AV->Bool
 | .agg _=>true
 | .r (.agg _)=>true
 | _=>false
def su (g a:Bool):Option Bool->Vs
 | some b=>(True,bl (bif a then !b else b))
 | none=>bad g
def mmL (g c:Bool):AV->List AV->Vs
 | x,[]=>(True,x)
 | .r (.v (.int k a)),.r (.v (.int k' b))::ys=>mmL g c (int k (bif c then max a b else min a b)) ys
 | _,_=>bad g
def et (g:Bool) (n sz:Nat):AV->AV->Obs->Rs
 | .ptr id ver o,.r (.v (.int _ i)),ob=>match l7 ob id ver with
   | some _=>⟨g=true->0<=i/\i<n,.ptr id ver (o+i.toNat*sz),ob,[id],[]⟩
   | none=>n7 g id ob
 | .oel id ver idx o,.r (.v (.int _ i)),ob=>match g7 ob id ver with
   | some (sz',_)=>⟨g=true->0<=i/\i<n/\o+n*sz<=sz',.oel id ver idx (o+i.toNat*sz),ob,[id],[]⟩
   | none=>n7 g id ob
 | .rp ys,.r (.v (.int _ i)),ob=>Vs.q ob True ((g=true->0<=i/\i<n),.rp (ys.drop (i.toNat*sz)))
 | _,_,ob=>Vs.q ob True (bad g)
def du (g a:Bool):AV->AV->AV->Vs
 | .r (.v (.int .u64 x)),.r (.v (.int .u64 y)),.r (.v (.int .u64 c))=>((g=true->0<=x/\0<=y/\0<=c/\c<=1/\x<18446744073709551616/\y<18446744073709551616),
  bif a then .tup [int .u64 ((x+18446744073709551616-y-c)%18446744073709551616),int .u64 (if x<y+c then 1 else 0)]
  else .tup [int .u64 ((x+y+c)%18446744073709551616),int .u64 ((x+y+c)/18446744073709551616)])
 | _,_,_=>bad g
def er (str:Bool):Value->Bool
 | .int _ _=>!str
 | .string _=>str
 | _=>false
def tj:Value->Value->Option Bool
 | .int k a,.int k' b=>if k=k' then some (a == b) else none
 | .string a,.string b=>some (a == b)
 | _,_=>none
def il (k:Value):List MapEntry->Nat->Option (Option (Nat×Value))
 | [],_=>some none
 | e::es,i=>match tj k e.key with
   | some true=>some (some (i,e.val))
   | some false=>il k es (i+1)
   | none=>none
def okK (a:List MapEntry) (k:Value):Bool:=(il k a 0).isSome
def gs:Value->RV
 | .agg cs=>.agg (cs.toList.map .v)
 | x=>.v x
def lkR (a:List MapEntry) (k:Value) (z:RV):RV:=match il k a 0 with
 | some (some (_,v))=>gs v
 | _=>z
def lkB (a:List MapEntry) (k:Value):Bool:=match il k a 0 with
 | some (some _)=>true
 | _=>false
def af3 (b:List MapEntry) (a:Nat) (k v:Value):List MapEntry:=match il k b 0 with
 | some (some (i,_))=>b.modify i fun e=>{ e with key:=k,val:=v }
 | _=>b++[⟨k,v,a⟩]
def af4 (b:List MapEntry) (a:Nat) (k:Value):Nat:=match il k b 0 with
 | some (some _)=>a
 | _=>a+1
def af5 (a:List MapEntry) (k:Value):List MapEntry:=match il k a 0 with
 | some (some (i,_))=>a.eraseIdx i
 | _=>a
def ph:List RV->Option (List Value)
 | []=>some []
 | .v x::xs=>match ph xs with
   | some l=>some (x::l)
   | none=>none
 | _=>none
def pi:List AV->Option (List Value)
 | []=>some []
 | .r (.v x)::xs=>match pi xs with
   | some l=>some (x::l)
   | none=>none
 | _=>none
def dm:Option (List Value)->Option Value
 | some l=>some (.agg l.toArray)
 | none=>none
def toV:AV->Option Value
 | .r (.v x)=>some x
 | .r (.agg xs)=>dm (ph xs)
 | .agg xs=>dm (pi xs)
 | _=>none
def n8 (ob:Obs) (id ver:Nat):Option (List MapEntry×Nat):=
 match ob id with
 | some (v,.map es c)=>if ver=v then some (es,c) else none
 | _=>none
def v9 (ob:Obs) (id ver:Nat):Option (AV×Nat×List Nat×Nat):=
 match ob id with
 | some (v,.iter m since seen st)=>if ver=v then some (m,since,seen,st) else none
 | _=>none
def kz (g:Bool) (id:Nat) (ob:Obs) (f:List MapEntry->Vs):Option (List MapEntry×Nat)->Rs
 | some (es,_)=>⟨(f es).1,(f es).2,ob,[id],[]⟩
 | none=>n7 g id ob
def nq (g str:Bool) (z:RV) (a:Bool):AV->AV->Obs->Rs
 | .mp id ver,.r (.v k),ob=>kz g id ob (fun b=>((g=true->er str k=true/\okK b k=true),bif a then .tup [.r (lkR b k z),bl (lkB b k)] else .r (lkR b k z))) (n8 ob id ver)
 | _,_,ob=>Vs.q ob True (bad g)
def ip (g:Bool):AV->Obs->Rs
 | .mp id ver,ob=>kz g id ob (fun a=>(True,int .i64 a.length)) (n8 ob id ver)
 | _,ob=>Vs.q ob True (bad g)
def pl (g:Bool) (t:TypeId) (z:RV) (a:Bool):AV->Vs
 | .ifc t' x=>((g=true->t'=t\/a=true),if t'=t then (bif a then .tup [x,bl true] else x) else .tup [.r z,bl false])
 | _=>bad g
def aq1 (c:List MapEntry) (a:List Nat):Option MapEntry:=match a.getLast? with
 | some b=>c.find? fun e=>e.born == b
 | none=>none
def wm:Option MapEntry->AV
 | some e=>.tup [.r (gs e.key),.r (gs e.val)]
 | none=>.undef
def ma (g:Bool) (id b:Nat) (ob:Obs) (a:List Nat) (d:Nat):Option (List MapEntry×Nat)->Rs
 | some (es,c)=>⟨g=true->c=d/\(aq1 es a).isSome=true,wm (aq1 es a),ob,[id,b],[]⟩
 | none=>⟨g=true->False,.undef,ob,[id,b],[]⟩
def lc (g:Bool) (id:Nat) (ob:Obs):Option (AV×Nat×List Nat×Nat)->Rs
 | some (.mp mid mver,_,seen,st)=>ma g id mid ob seen st (n8 ob mid mver)
 | _=>n7 g id ob
def mb (g:Bool):AV->Obs->Rs
 | .ptr id ver 0,ob=>lc g id ob (v9 ob id ver)
 | _,ob=>Vs.q ob True (bad g)
def PO.see (g:Bool) (e:Env) (ob:Obs):PO->Rs
 | .mov x=>Vs.q ob ((x.ev e).may g) (True,(x.ev e).bare)
 | .pick c a b=>Vs.q ob ((c.ev e).may g) (ka g (c.ev e).bare (a.ev e) (b.ev e))
 | .bin op x y=>Vs.q ob ((x.ev e).may g/\(y.ev e).may g) (qm g op (x.ev e).bare (y.ev e).bare)
 | .beq neg x y=>Vs.q ob ((x.ev e).may g/\(y.ev e).may g) (qn g neg (x.ev e).bare (y.ev e).bare)
 | .eqn neg x=>Rs.and ((x.ev e).may g) (ns g neg (x.ev e).bare ob)
 | .un op x=>Vs.q ob ((x.ev e).may g) (un1 g op (x.ev e).bare)
 | .conv k x=>Vs.q ob ((x.ev e).may g) (kl g k (x.ev e).bare)
 | .len str x=>Rs.and ((x.ev e).may g) (lw g str (x.ev e).bare ob)
 | .ia sz z x i=>Rs.and ((x.ev e).may g/\(i.ev e).may g) (ia2 g sz z (x.ev e).bare (i.ev e).bare ob)
 | .ixs x i=>Vs.q ob ((x.ev e).may g/\(i.ev e).may g) (qe g (x.ev e).bare (i.ev e).bare)
 | .ld n x=>Rs.and ((x.ev e).may g) (ld1 g n (x.ev e).bare ob)
 | .nck x=>Rs.and ((x.ev e).may g) (nm g (x.ev e).bare ob)
 | .fa off x=>Rs.and ((x.ev e).may g) (fa1 g off (x.ev e).bare ob)
 | .fld off n x=>Vs.q ob ((x.ev e).may g) (qh g off n (x.ev e).bare)
 | .sls x lo hi=>Vs.q ob ((x.ev e).may g/\mayO g e lo/\mayO g e hi) (pt g (x.ev e).bare (bareO e lo) (bareO e hi))
 | .sll sz x lo hi mx=>Rs.and ((x.ev e).may g/\mayO g e lo/\mayO g e hi/\mayO g e mx) (kw g sz (x.ev e).bare (bareO e lo) (bareO e hi) (bareO e mx) ob)
 | .sla n x=>Rs.and ((x.ev e).may g) (ln g n (x.ev e).bare ob)
 | .ext x i=>Vs.q ob ((x.ev e).may g) (qi g i (x.ev e).bare)
 | .toStr x=>Rs.and ((x.ev e).may g) (bw ob (src ob (x.ev e).bare))
 | .build zs ps=>Vs.q ob True (z8 g e zs ps)
 | .mkf f xs k=>Vs.q ob (t9 g e xs) (True,.fn f (i8 e xs) k)
 | .eqa neg ks x y=>Vs.q ob ((x.ev e).may g/\(y.ev e).may g/\(g=true->(x.ev e).bare.isA=true/\(y.ev e).bare.isA=true)) (su g neg (eql ks (x.ev e).bare.cells (y.ev e).bare.cells))
 | .mm mx x ys=>Vs.q ob ((x.ev e).may g/\t9 g e ys) (mmL g mx (x.ev e).bare (i8 e ys))
 | .iaa n sz x i=>Rs.and ((x.ev e).may g/\(i.ev e).may g) (et g n sz (x.ev e).bare (i.ev e).bare ob)
 | .carry sub x y c=>Vs.q ob ((x.ev e).may g/\(y.ev e).may g/\(c.ev e).may g) (du g sub (x.ev e).bare (y.ev e).bare (c.ev e).bare)
 | .lkp str z comma x i=>Rs.and ((x.ev e).may g/\(i.ev e).may g) (nq g str z comma (x.ev e).bare (i.ev e).bare ob)
 | .lenm x=>Rs.and ((x.ev e).may g) (ip g (x.ev e).bare ob)
 | .mki t x=>Vs.q ob ((x.ev e).may g) (True,.ifc t (x.ev e).bare)
 | .tas t z comma x=>Vs.q ob ((x.ev e).may g) (pl g t z comma (x.ev e).bare)
 | .ent x=>Rs.and ((x.ev e).may g) (mb g (x.ev e).bare ob)
 | _=>Vs.q ob False (False,.undef)
where
 mayO (g:Bool) (e:Env):Option Opd->Prop
  | none=>True
  | some x=>(x.ev e).may g
 bareO (e:Env):Option Opd->Option AV
  | none=>none
  | some x=>some (x.ev e).bare
def AV.rv (ob:Obs):AV->Option (RV×List Nat)
 | .r x=>some (x,[])
 | .nils sz _=>some (.sl sz [],[])
 | .own id ver lo len=>match g7 ob id ver with
   | some (sz,_,_,_,xs)=>some (.sl sz ((xs.drop lo).take len),[id])
   | none=>none
 | _=>none
def rvs (ob:Obs):List AV->Option (List RV×List Nat)
 | []=>some ([],[])
 | x::xs=>match x.rv ob,rvs ob xs with
   | some (y,i),some (ys,j)=>some (y::ys,i++j)
   | _,_=>none
def AV.elt (ob:Obs):AV->Option (RV×List Nat)
 | .agg xs=>match rvs ob xs with
   | some (ys,i)=>some (.agg ys,i)
   | none=>none
 | x=>x.rv ob
def frz (ob:Obs) (i:Nat):Option (Nat×Ob)->Obs
 | some (v,.row sz z app _ xs)=>upd i (v,.row sz z app false xs) ob
 | _=>ob
def freeze (ob:Obs):List Nat->Obs
 | []=>ob
 | i::is=>freeze (frz ob i (ob i)) is
def s4 (ob:Obs):Rs:=⟨False,.undef,ob,[],[]⟩
def k8 (ob:Obs) (d:Nat) (x:Ob) (y:Nat->AV) (ok:Prop) (rd a:List Nat):Rs:=⟨ok,y (nv ob d),upd d (nv ob d,x) ob,d::rd,d::a⟩
def RV.good (sz:Nat) (x:RV):Bool:=x.cells.length == sz&&x.cells.all (·.one)
def stb (id:Nat) (ver:Nat) (ob:Obs) (n a:Nat) (y:List AV):Option (List AV)->Rs
 | some cells=>⟨y.length=n/\a+n<=cells.length/\y.all (·.one)=true,.undef,upd id (ver,.box (c7 cells a y)) ob,[id],[id]⟩
 | none=>s4 ob
def str (id:Nat) (ver:Nat) (ob:Obs) (n idx a:Nat) (y:List RV):Option (Nat×RV×Bool×Bool×List RV)->Rs
 | some (sz,z,app,wr,xs)=>
   ⟨y.length=n/\a+n<=sz/\wr=true/\y.all (·.one)=true,.undef,
    upd id (ver,.row sz z app wr (xs.set idx (match xs.getD idx z with | .agg cs=>.agg (c7 cs a y) | x=>y.getD 0 x))) ob,[id],[id]⟩
 | none=>s4 ob
def st2 (n:Nat) (x y:AV) (ob:Obs):Rs:=match x with
 | .ptr id ver off=>Rs.and (y.boxable=true) (stb id ver ob n off y.cells (l7 ob id ver))
 | .oel id ver idx off=>match rvs ob y.cells with
   | some (ys,[])=>Rs.and (y.boxable=true) (str id ver ob n idx off ys (g7 ob id ver))
   | _=>s4 ob
 | _=>s4 ob
def le (d:Nat) (ob:Obs) (sz:Nat) (z:RV) (a:Nat):AV->Option (Nat×List RV×List Nat)->Rs
 | .nils sz' _,some (sy,ys,rd)=>k8 ob d (.row sz z true true ys) (fun v=>.own d v 0 ys.length) (sz'=sz/\sy=sz/\ys.length*a<=140737488355328/\ys.length<=maxLen) rd []
 | .own id ver 0 len,some (sy,ys,rd)=>match g7 ob id ver with
   | some (sz',z',app,wr,xs)=>⟨sz'=sz/\sy=sz/\(app || !par id)=true/\wr=true/\(len+ys.length)*a<=140737488355328/\len+ys.length<=maxLen,
    .own id (ver+1) 0 (len+ys.length),upd id (ver+1,.row sz z' app wr (xs.take len++ys)) ob,id::rd,[id]⟩
   | none=>s4 ob
 | _,_=>s4 ob
def spl {a:Type} (l:List a) (i:Nat) (m:List a):List a:=c7 l i m
def mc (ob:Obs) (sz:Nat):AV->Option (Nat×List RV×List Nat)->Rs
 | .own id ver lo n,some (sy,ys,rd)=>match g7 ob id ver with
   | some (sz',z',app,wr,xs)=>⟨sz'=sz/\sy=sz/\wr=true,int .i64 ((Nat.min ys.length n:Nat):Int),upd id (ver,.row sz z' app wr (spl xs lo (ys.take n))) ob,id::rd,[id]⟩
   | none=>s4 ob
 | _,_=>s4 ob
def s5 (e:Env) (ob:Obs) (g:Bool):List Opd->Option (Prop×List RV×List Nat)
 | []=>some (True,[],[])
 | x::xs=>match (x.ev e).bare.elt ob,s5 e ob g xs with
   | some (y,i),some (p,ys,j)=>some ((x.ev e).may g/\p,y::ys,i++j)
   | _,_=>none
def ww (l:Int) (z:RV):List RV:=List.replicate l.toNat z
def bj (d:Nat) (z:RV) (ob:Obs):AV->Rs
 | .r (.v (.string s))=>k8 ob d (.row 1 z false true (s.data.toList.map fun b=>.v (.int .u8 b.toNat))) (fun v=>.own d v 0 s.size) (s.size<=maxLen) [] []
 | _=>s4 ob
def uo (d:Nat) (sz:Nat) (z:RV) (a:Nat) (ob:Obs):AV->AV->Rs
 | .r (.v (.int _ l)),.r (.v (.int _ c))=>k8 ob d (.row sz z true true (ww l z)) (fun v=>.own d v 0 l.toNat) (0<=l/\l<=c/\c<=maxLen/\c*a<=281474976710656) [] []
 | _,_=>s4 ob
def lf (id ver:Nat) (ob:Obs) (ok:List MapEntry->Prop) (a:List MapEntry->Nat->List MapEntry) (b:List MapEntry->Nat->Nat):Option (List MapEntry×Nat)->Rs
 | some (es,c)=>⟨ok es,.undef,upd id (ver,.map (a es c) (b es c)) ob,[id],[id]⟩
 | none=>s4 ob
def ll (str:Bool) (k:Value) (id ver:Nat) (ob:Obs):Option Value->Rs
 | some v=>lf id ver ob (fun a=>er str k=true/\okK a k=true) (fun a c=>af3 a c k v) (fun a c=>af4 a c k) (n8 ob id ver)
 | none=>s4 ob
def ij (str:Bool):AV->AV->AV->Obs->Rs
 | .mp id ver,.r (.v k),y,ob=>ll str k id ver ob (toV y)
 | _,_,_,ob=>s4 ob
def io (str:Bool):AV->AV->Obs->Rs
 | .mp id ver,.r (.v k),ob=>lf id ver ob (fun a=>er str k=true/\okK a k=true) (fun a _=>af5 a k) (fun _ c=>c) (n8 ob id ver)
 | _,_,ob=>s4 ob
def sk (d b a:Nat) (ob:Obs):Option (List MapEntry×Nat)->Rs
 | some (_,c)=>k8 ob d (.iter (.mp b a) c [] c) (fun v=>.ptr d v 0) True [b] []
 | none=>s4 ob
def lq (d:Nat):AV->Obs->Rs
 | .mp mid mver,ob=>sk d mid mver ob (n8 ob mid mver)
 | _,ob=>s4 ob
def qk (ob:Obs):AV->AV->Rs
 | .own id ver lo n,.r (.v (.string s))=>match g7 ob id ver with
   | some (sz,z',app,wr,xs)=>⟨sz=1/\wr=true,int .i64 ((Nat.min (s.data.toList.map fun b=>RV.v (.int .u8 b.toNat)).length n:Nat):Int),upd id (ver,.row 1 z' app wr (spl xs lo ((s.data.toList.map fun b=>RV.v (.int .u8 b.toNat)).take n))) ob,[id],[id]⟩
   | none=>s4 ob
 | _,_=>s4 ob
def ql (ob:Obs) (sz:Nat) (z:RV):AV->Rs
 | .own id ver lo n=>match g7 ob id ver with
   | some (sz',z',app,wr,xs)=>⟨sz'=sz/\wr=true,.undef,upd id (ver,.row sz z' app wr (spl xs lo (List.replicate n z))) ob,[id],[id]⟩
   | none=>s4 ob
 | _=>s4 ob
def qd (ob:Obs):AV->Rs
 | .own id ver lo len=>match g7 ob id ver with
   | some (sz,z',app,wr,xs)=>⟨app=true/\wr=true/\0<len,.own id ver lo len,upd id (ver,.row sz z' false wr xs) ob,[id],[id]⟩
   | none=>s4 ob
 | _=>s4 ob
def PO.act (d:Nat) (e:Env) (ob:Obs):PO->Rs
 | .new zs=>k8 ob d (.box zs) (fun v=>.ptr d v 0) True [] []
 | .box x=>k8 ob d (.box (x.ev e).bare.cells) (fun v=>.ptr d v 0) ((x.ev e).may true/\(x.ev e).bare.boxable=true) [] []
 | .bsl sz z ps=>match s5 e ob true ps with
   | some (p,ys,fz)=>k8 (freeze ob fz) d (.row sz z true true ys) (fun v=>.own d v 0 ys.length) (p/\ys.all (·.good sz)=true/\d∉fz) fz fz
   | none=>s4 ob
 | .st n x y=>Rs.and ((x.ev e).may true/\(y.ev e).may true) (st2 n (x.ev e).bare (y.ev e).bare ob)
 | .cpy sz x y=>Rs.and ((x.ev e).may true/\(y.ev e).may true) (mc ob sz (x.ev e).bare (src ob (y.ev e).bare))
 | .app sz z bytes x y=>Rs.and ((x.ev e).may true/\(y.ev e).may true) (le d ob sz z bytes (x.ev e).bare (src ob (y.ev e).bare))
 | .toBytes z x=>Rs.and ((x.ev e).may true) (bj d z ob (x.ev e).bare)
 | .mks sz z bytes l c=>Rs.and ((l.ev e).may true/\(c.ev e).may true) (uo d sz z bytes ob (l.ev e).bare (c.ev e).bare)
 | .mkm=>k8 ob d (.map [] 0) (fun v=>.mp d v) True [] []
 | .mset str x i y=>Rs.and ((x.ev e).may true/\(i.ev e).may true/\(y.ev e).may true) (ij str (x.ev e).bare (i.ev e).bare (y.ev e).bare ob)
 | .mdel str x i=>Rs.and ((x.ev e).may true/\(i.ev e).may true) (io str (x.ev e).bare (i.ev e).bare ob)
 | .rng x=>Rs.and ((x.ev e).may true) (lq d (x.ev e).bare ob)
 | .mrk x=>Rs.and ((x.ev e).may true) (qd ob (x.ev e).bare)
 | .clr sz z x=>Rs.and ((x.ev e).may true) (ql ob sz z (x.ev e).bare)
 | .cps x y=>Rs.and ((x.ev e).may true/\(y.ev e).may true) (qk ob (x.ev e).bare (y.ev e).bare)
 | _=>s4 ob

def Opd.us:Opd->List Nat
 | .t n=>[n]
 | .c _=>[]
def usO:Option Opd->List Nat
 | none=>[]
 | some x=>x.us
def usL:List Opd->List Nat
 | []=>[]
 | x::xs=>x.us++usL xs
def usP:List (Nat×Nat×Opd)->List Nat
 | []=>[]
 | (_,_,x)::r=>x.us++usP r
def PO.us:PO->List Nat
 | .mov x=>x.us
 | .pick c a b=>c.us++(a.us++b.us)
 | .bin _ x y=>x.us++y.us
 | .beq _ x y=>x.us++y.us
 | .eqn _ x=>x.us
 | .un _ x=>x.us
 | .conv _ x=>x.us
 | .toStr x=>x.us
 | .sla _ x=>x.us
 | .clr _ _ x=>x.us
 | .toBytes _ x=>x.us
 | .new _=>[]
 | .box x=>x.us
 | .build _ ps=>usP ps
 | .mkf _ xs _=>usL xs
 | .eqa _ _ x y=>x.us++y.us
 | .bsl _ _ ps=>usL ps
 | .ld _ x=>x.us
 | .st _ x y=>x.us++y.us
 | .nck x=>x.us
 | .fa _ x=>x.us
 | .fld _ _ x=>x.us
 | .ia _ _ x i=>x.us++i.us
 | .ixs x i=>x.us++i.us
 | .sls x lo hi=>x.us++(usO lo++usO hi)
 | .sll _ x lo hi mx=>x.us++(usO lo++(usO hi++usO mx))
 | .mks _ _ _ l c=>l.us++c.us
 | .len _ x=>x.us
 | .app _ _ _ x y=>x.us++y.us
 | .cpy _ x y=>x.us++y.us
 | .ext x _=>x.us
 | .mm _ x ys=>x.us++usL ys
 | .iaa _ _ x i=>x.us++i.us
 | .carry _ x y c=>x.us++(y.us++c.us)
 | .lkp _ _ _ x i=>x.us++i.us
 | .lenm x=>x.us
 | .mki _ x=>x.us
 | .tas _ _ _ x=>x.us
 | .ent x=>x.us
 | .mkm=>[]
 | .mset _ x i y=>x.us++(i.us++y.us)
 | .mdel _ x i=>x.us++i.us
 | .rng x=>x.us
 | .mrk x=>x.us
 | .cps x y=>x.us++y.us
theorem u9 {p:Nat->Prop} {a b:List Nat} (h:∀t,t∈a++b->p t):(∀t,t∈a->p t)/\∀t,t∈b->p t:=⟨fun t c=>h t (by simp [c]),fun t c=>h t (by simp [c])⟩
section
variable {e e':Env} {ob ob':Obs}
theorem n6 {x:Opd} (h:∀t,t∈x.us->e' t=e t):x.ev e'=x.ev e:=by
 cases x with
 | t n=>exact h n (by simp [Opd.us])
 | c x=>rfl
theorem no {g:Bool} {x:Option Opd} (h:∀t,t∈usO x->e' t=e t):PO.see.mayO g e' x=PO.see.mayO g e x:=by
 cases x with
 | none=>rfl
 | some x=>simp only [PO.see.mayO,n6 h]
theorem li {x:Option Opd} (h:∀t,t∈usO x->e' t=e t):PO.see.bareO e' x=PO.see.bareO e x:=by
 cases x with
 | none=>rfl
 | some x=>simp only [PO.see.bareO,n6 h]
theorem abx {g:Bool}:∀{c:List (Nat×Nat×Opd)} {b:List AV},(∀t,t∈usP c->e' t=e t)->z8 g e' b c=z8 g e b c
 | [],b,h=>rfl
 | (off,n,x)::r,b,h=>by
   obtain ⟨f,d⟩:=u9 (a:=x.us) h;simp only [z8,n6 f];rw [abx d]
theorem gr:∀{b:List Opd},(∀t,t∈usL b->e' t=e t)->i8 e' b=i8 e b
 | [],h=>rfl
 | x::r,h=>by
   obtain ⟨c,d⟩:=u9 (a:=x.us) h;simp only [i8,n6 c,gr d]
theorem kf {g:Bool}:∀{b:List Opd},(∀t,t∈usL b->e' t=e t)->t9 g e' b=t9 g e b
 | [],h=>rfl
 | x::r,h=>by
   obtain ⟨d,c⟩:=u9 (a:=x.us) h;simp only [t9,n6 d,kf c]
theorem ad1 {g:Bool}:∀{b:List Opd},(∀t,t∈usL b->e' t=e t)->s5 e' ob g b=s5 e ob g b
 | [],h=>rfl
 | x::r,h=>by
   obtain ⟨d,c⟩:=u9 (a:=x.us) h;simp only [s5,n6 d,ad1 c]
theorem as8 {o:PO} {g:Bool} (h:∀t,t∈o.us->e' t=e t):o.see g e' ob=o.see g e ob:=by
 cases o with
 | pick c a b | carry _ c a b=>
   obtain ⟨j,d⟩:=u9 (a:=c.us) h;obtain ⟨d,i⟩:=u9 d;simp only [PO.see,n6 j,n6 d,n6 i]
 | bin _ x y | beq _ x y | eqa _ _ x y | ia _ _ x y | ixs x y | iaa _ _ x y | lkp _ _ _ x y=>
   obtain ⟨j,d⟩:=u9 h;simp only [PO.see,n6 j,n6 d]
 | sls x lo hi=>
   obtain ⟨j,d⟩:=u9 (a:=x.us) h;obtain ⟨d,i⟩:=u9 d;simp only [PO.see,n6 j,no d,no i,li d,li i]
 | sll _ x lo hi mx=>
   obtain ⟨j,d⟩:=u9 (a:=x.us) h;obtain ⟨d,i⟩:=u9 (a:=usO lo) d;obtain ⟨i,l⟩:=u9 i;simp only [PO.see,n6 j,no d,no i,no l,li d,li i,li l]
 | mm _ x ys=>
   obtain ⟨j,d⟩:=u9 (a:=x.us) h;simp only [PO.see,n6 j,kf d,gr d]
 | build zs ps=>simp only [PO.see,abx (show ∀t,t∈usP ps->e' t=e t from h)]
 | mkf f xs k=>
   simp only [PO.see,kf (show ∀t,t∈usL xs->e' t=e t from h),gr (show ∀t,t∈usL xs->e' t=e t from h)]
 | sla _ x | lenm x | mki _ x | tas _ _ _ x | ent x | mov x | eqn _ x | un _ x | conv _ x | toStr x | ld _ x | nck x | fa _ x | fld _ _ x | len _ x | ext x _=>
   simp only [PO.see,n6 (show ∀t,t∈x.us->e' t=e t from h)]
 | toBytes _ _ | new _ | box _ | bsl _ _ _ | st _ _ _ | mks _ _ _ _ _ | app _ _ _ _ _ | cpy _ _ _ | mkm | mset _ _ _ _ | mdel _ _ _ | rng _ | mrk _ | cps _ _ | clr _ _ _=>rfl
theorem aur {o:PO} {d:Nat} (h:∀t,t∈o.us->e' t=e t):o.act d e' ob=o.act d e ob:=by
 cases o with
 | mset _ x i y=>
   obtain ⟨c,b⟩:=u9 (a:=x.us) h;obtain ⟨b,f⟩:=u9 b;simp only [PO.act,n6 c,n6 b,n6 f]
 | st _ x y | mks _ _ _ x y | app _ _ _ x y | cpy _ x y | mdel _ x y | cps x y=>
   obtain ⟨c,b⟩:=u9 h;simp only [PO.act,n6 c,n6 b]
 | bsl _ _ ps=>simp only [PO.act,ad1 (show ∀t,t∈usL ps->e' t=e t from h)]
 | box x | toBytes _ x | rng x | mrk x | clr _ _ x=>simp only [PO.act,n6 (show ∀t,t∈x.us->e' t=e t from h)]
 | _=>rfl
theorem k7 {ver:Nat} (h:ob' id=ob id):g7 ob' id ver=g7 ob id ver:=by unfold g7; rw [h]
theorem v3 {ver:Nat} (h:ob' id=ob id):l7 ob' id ver=l7 ob id ver:=by unfold l7; rw [h]
theorem afh {ver:Nat} (h:ob' id=ob id):bq ob' id ver=bq ob id ver:=by unfold bq; rw [h]
theorem mo {ver:Nat} (h:ob' id=ob id):n8 ob' id ver=n8 ob id ver:=by unfold n8; rw [h]
theorem tm {ver:Nat} (h:ob' id=ob id):v9 ob' id ver=v9 ob id ver:=by unfold v9; rw [h]
theorem um (h:ob' id=ob id):nv ob' id=nv ob id:=by unfold nv; rw [h]
def x8 (ob a:Obs) (l:List Nat):Prop:=∀i,i∈l->a i=ob i
def m7 (ob a:Obs) (f:Obs->Rs):Prop:=(f ob).ok->x8 ob a (f ob).rd->(f a).ok/\(f a).v=(f ob).v
theorem m7.and {p:Prop} {f:Obs->Rs} (h:m7 ob ob' f):m7 ob ob' fun ob=>Rs.and p (f ob):=fun ⟨c,a⟩ b=>⟨⟨c,(h a b).1⟩,(h a b).2⟩
theorem m5 {p:Prop} {v:Vs}:m7 ob ob' fun ob=>Vs.q ob p v:=fun h _=>⟨h,rfl⟩
theorem am7 {g:Bool} {ver:Nat} {k:Nat×RV×Bool×Bool×List RV->Obs->Rs} (d:∀x,id∈(k x ob).rd) (c:∀x,m7 ob ob' (k x)) :
 m7 ob ob' fun ob=>match g7 ob id ver with | some x=>k x ob | none=>n7 g id ob:=by
 intro a b;rcases hr:g7 ob id ver with _ | x
 ·simp only [hr] at a b |-;rw [k7 (b id (by simp [n7])),hr];exact ⟨a,rfl⟩
 simp only [hr] at a b |-;rw [k7 (b id (d x)),hr];exact c x a b
theorem ani {g:Bool} {ver:Nat} {k:List AV->Obs->Rs} (d:∀x,id∈(k x ob).rd) (c:∀x,m7 ob ob' (k x)) :
 m7 ob ob' fun ob=>match l7 ob id ver with | some x=>k x ob | none=>n7 g id ob:=by
 intro a b;rcases hr:l7 ob id ver with _ | x
 ·simp only [hr] at a b |-;rw [v3 (b id (by simp [n7])),hr];exact ⟨a,rfl⟩
 simp only [hr] at a b |-;rw [v3 (b id (d x)),hr];exact c x a b
theorem aff {g:Bool} {ver:Nat} {k:Unit->Obs->Rs} (d:∀x,id∈(k x ob).rd) (c:∀x,m7 ob ob' (k x)) :
 m7 ob ob' fun ob=>match bq ob id ver with | some x=>k x ob | none=>n7 g id ob:=by
 intro a b;rcases hr:bq ob id ver with _ | x
 ·simp only [hr] at a b |-;rw [afh (b id (by simp [n7])),hr];exact ⟨a,rfl⟩
 simp only [hr] at a b |-;rw [afh (b id (d x)),hr];exact c x a b
theorem afg {g:Bool} {ver:Nat} {f:List MapEntry->Vs}:m7 ob ob' fun ob=>kz g id ob f (n8 ob id ver):=by
 intro a b;rcases hr:n8 ob id ver with _ | ⟨d,c⟩
 ·simp only [hr] at a b |-;rw [mo (b id (by simp [kz,n7])),hr];exact ⟨a,rfl⟩
 simp only [hr] at a b |-;rw [mo (b id (by simp [kz])),hr];exact ⟨a,rfl⟩
theorem am9 {g str:Bool} {z:RV} {a:Bool} {x y:AV}:m7 ob ob' (nq g str z a x y):=by
 cases x with
 | mp id ver=>cases y with
   | r y=>cases y with
     | v k=>exact afg
     | _=>exact m5
   | _=>exact m5
 | _=>exact m5
theorem ak4 {g:Bool} {x:AV}:m7 ob ob' (ip g x):=by
 cases x with
 | mp id ver=>exact afg
 | _=>exact m5
theorem anh {g:Bool} {x:AV}:m7 ob ob' (mb g x):=by
 cases x with
 | ptr id ver off=>cases off with
   | succ off=>exact m5
   | zero=>
     intro a b;simp only [mb] at a b |-;rcases hr:v9 ob id ver with _ | ⟨m,d,e,f⟩
     ·rw [hr] at a b;rw [tm (b id (by simp [lc,n7])),hr];exact ⟨a,rfl⟩
     rw [hr] at a b;cases m with
     | mp mid mver=>
       simp only [lc] at a b |-;rcases hm:n8 ob mid mver with _ | ⟨h,c⟩
       ·rw [hm] at a b;rw [tm (b id (by simp [ma])),hr];simp only [lc];rw [mo (b mid (by simp [ma])),hm];exact ⟨a,rfl⟩
       rw [hm] at a b;rw [tm (b id (by simp [ma])),hr];simp only [lc];rw [mo (b mid (by simp [ma])),hm];exact ⟨a,rfl⟩
     | _=>
       rw [tm (b id (by simp [lc,n7])),hr];exact ⟨a,rfl⟩
 | _=>exact m5
theorem ana {g str:Bool} {x:AV}:m7 ob ob' (lw g str x):=by
 cases x with
 | own id ver lo n=>
   intro a b;simp only [lw] at a b |-;rcases hr:g7 ob id ver with _ | c
   ·rw [hr] at a b;simp only at a b |-;rcases hb:l7 ob id ver with _ | q
    ·rw [hb] at a b;have d:=b id (by simp [n7,leb]);rw [k7 d,hr];simp only;rw [v3 d,hb];exact ⟨a,rfl⟩
    rw [hb] at a b;have d:=b id (by simp [leb]);rw [k7 d,hr];simp only;rw [v3 d,hb];exact ⟨a,rfl⟩
   rw [hr] at a b;rw [k7 (b id (by simp)),hr];exact ⟨a,rfl⟩
 | r x=>cases x with
   | v x=>cases x<;>exact m5
   | _=>exact m5
 | _=>exact m5
theorem ap5 {g:Bool} {sz:Nat} {z:RV} {x y:AV}:m7 ob ob' (ia2 g sz z x y):=by
 rcases y with ⟨v | _ | _⟩ | _ | _ | _ | _ | _ | _ | _ | _ | _ | _ | _ | _
 ·cases v with
  | int k i=>
    cases x with
    | own id ver lo n=>
      intro a b;simp only [ia2] at a b |-;rcases hr:g7 ob id ver with _ | c
      ·rw [hr] at a b;simp only at a b |-;rcases hb:l7 ob id ver with _ | q
       ·rw [hb] at a b;have d:=b id (by simp [n7,iab]);rw [k7 d,hr];simp only;rw [v3 d,hb];exact ⟨a,rfl⟩
       rw [hb] at a b;have d:=b id (by simp [iab]);rw [k7 d,hr];simp only;rw [v3 d,hb];exact ⟨a,rfl⟩
      rw [hr] at a b;rw [k7 (b id (by simp)),hr];exact ⟨a,rfl⟩
    | r x=>cases x<;>exact m5
    | _=>exact m5
  | _=>rcases x with ⟨_ | _ | _⟩ | _ | _ | _ | _ | _ | _ | _ | _ | _ | _ | _ | _<;>exact m5
 all_goals rcases x with ⟨_ | _ | _⟩ | _ | _ | _ | _ | _ | _ | _ | _ | _ | _ | _ | _<;>exact m5
theorem anf {g:Bool} {n sz:Nat} {x y:AV}:m7 ob ob' (et g n sz x y):=by
 rcases y with ⟨v | _ | _⟩ | _ | _ | _ | _ | _ | _ | _ | _ | _ | _ | _ | _
 ·cases v with
  | int k i=>
    cases x with
    | ptr id ver o=>
      intro a b;simp only [et] at a b |-;rcases hr:l7 ob id ver with _ | c
      ·rw [hr] at a b;rw [v3 (b id (by simp [n7,ldb,ldr])),hr];exact ⟨a,rfl⟩
      rw [hr] at a b;rw [v3 (b id (by simp)),hr];exact ⟨a,rfl⟩
    | oel id ver j o=>
      intro a b;simp only [et] at a b |-;rcases hr:g7 ob id ver with _ | c
      ·rw [hr] at a b;rw [k7 (b id (by simp [n7,ldb,ldr])),hr];exact ⟨a,rfl⟩
      rw [hr] at a b;rw [k7 (b id (by simp)),hr];exact ⟨a,rfl⟩
    | _=>exact m5
  | _=>rcases x with ⟨_ | _ | _⟩ | _ | _ | _ | _ | _ | _ | _ | _ | _ | _ | _ | _<;>exact m5
 all_goals rcases x with ⟨_ | _ | _⟩ | _ | _ | _ | _ | _ | _ | _ | _ | _ | _ | _ | _<;>exact m5
theorem am8 {g:Bool} {x:AV}:m7 ob ob' (nm g x):=by
 cases x with
 | ptr id ver off=>exact aff (k:=fun _ ob=>⟨True,.ptr id ver off,ob,[id],[]⟩) (fun _=>by simp) fun _ h _=>⟨h,rfl⟩
 | oel id ver i off=>exact am7 (k:=fun _ ob=>⟨True,.oel id ver i off,ob,[id],[]⟩) (fun _=>by simp) fun _ h _=>⟨h,rfl⟩
 | fn f xs=>cases f<;>exact m5
 | _=>exact m5
theorem ang {g b:Bool} {x:AV}:m7 ob ob' (ns g b x):=by
 cases x with
 | ptr id ver off=>exact aff (k:=fun _ ob=>⟨True,bl b,ob,[id],[]⟩) (fun _=>by simp) fun _ h _=>⟨h,rfl⟩
 | r x=>cases x with
   | v x=>cases x with
     | pointer a=>cases a<;>exact m5
     | _=>exact m5
   | _=>exact m5
 | _=>exact m5
theorem ap6 {g:Bool} {d:Nat} {x:AV}:m7 ob ob' (fa1 g d x):=by
 cases x with
 | ptr id ver o=>exact ani (k:=fun _ ob=>⟨True,.ptr id ver (o+d),ob,[id],[]⟩) (fun _=>by simp) fun _ h _=>⟨h,rfl⟩
 | oel id ver i o=>
   intro a b;simp only [fa1] at a b |-;rcases hr:g7 ob id ver with _ | c
   ·rw [hr] at a b;rw [k7 (b id (by simp [n7,ldb,ldr])),hr];exact ⟨a,rfl⟩
   rw [hr] at a b;rw [k7 (b id (by simp)),hr];exact ⟨a,rfl⟩
 | _=>exact m5
theorem ane {g:Bool} {n:Option Nat} {a:Nat} {c:Option (List AV)}:m7 ob ob' fun ob=>ldb id ob g n a c:=by
 unfold ldb;intro h b;split at h<;>(try split at h)<;>exact ⟨h,rfl⟩
theorem anb {g:Bool} {n:Option Nat} {idx a:Nat} {c:Option (Nat×RV×Bool×Bool×List RV)}:m7 ob ob' fun ob=>ldr id ob g n idx a c:=by
 unfold ldr;intro h b;split at h<;>(try split at h)<;>exact ⟨h,rfl⟩
theorem av3 {g:Bool} {n:Option Nat} {a:Nat} {c:List AV}:id∈(ldb id ob g n a (some c)).rd:=by unfold ldb; cases n<;>simp
theorem av2 {g:Bool} {n:Option Nat} {idx a:Nat} {c:Nat×RV×Bool×Bool×List RV}:id∈(ldr id ob g n idx a (some c)).rd:=by unfold ldr; cases n<;>simp
theorem ap4 {g:Bool} {n:Option Nat} {x:AV}:m7 ob ob' (ld1 g n x):=by
 cases x with
 | ptr id ver off=>
   intro a b;simp only [ld1] at a b |-;rcases hr:l7 ob id ver with _ | c
   ·rw [hr] at a b;rw [v3 (b id (by simp [n7,ldb,ldr])),hr];exact ⟨a,rfl⟩
   rw [hr] at a b;rw [v3 (b id av3),hr];exact ane a b
 | oel id ver i off=>
   intro a b;simp only [ld1] at a b |-;rcases hr:g7 ob id ver with _ | c
   ·rw [hr] at a b;rw [k7 (b id (by simp [n7,ldb,ldr])),hr];exact ⟨a,rfl⟩
   rw [hr] at a b;rw [k7 (b id av2),hr];exact anb a b
 | rp ys=>cases n<;>exact m5
 | _=>exact m5
theorem am6 {g:Bool} {n:Nat} {x:AV}:m7 ob ob' (ln g n x):=by
 cases x with
 | ptr id ver o=>
   intro a b;simp only [ln] at a b |-;rcases hr:l7 ob id ver with _ | c
   ·rw [hr] at a b;rw [v3 (b id (by simp [n7,sj])),hr];exact ⟨a,rfl⟩
   rw [hr] at a b;rw [v3 (b id (by simp [sj])),hr];exact ⟨a,rfl⟩
 | _=>exact m5
theorem am5 {g:Bool} {sz:Nat} {x:AV} {lo hi d:Option AV}:m7 ob ob' (kw g sz x lo hi d):=by
 cases x with
 | own id ver l0 n=>
   intro a b;rcases h1:bnd 0 lo with _ | l<;>rcases h2:bnd n hi with _ | h<;>rcases h3:bnd n d with _ | m<;>simp only [kw,h1,h2,h3] at a b |-
   all_goals first
    | exact ⟨a,rfl⟩
    | (rcases hr:g7 ob id ver with _ | c
       ·rw [hr] at a b;rw [k7 (b id (by simp [n7])),hr];exact ⟨a,rfl⟩
       rw [hr] at a b;rw [k7 (b id (by simp)),hr]
       exact ⟨a,rfl⟩)
 | r x=>cases x with
   | sl sz' xs=>
     intro a b;simp only [kw] at a b |-;split at a<;>exact ⟨a,rfl⟩
   | _=>exact m5
 | _=>exact m5
theorem vf {x:AV} {sz:Nat} {ys:List RV} {l:List Nat} (h:src ob x=some (sz,ys,l)) (a:x8 ob ob' l):src ob' x=some (sz,ys,l):=by
 unfold src at h |-;split at h
 ·exact h
 ·exact h
 ·rename_i id ver lo len;rcases hr:g7 ob id ver with _ | c
  ·simp only [hr] at h; cases h
  simp only [hr] at h;cases h;rw [k7 (a id (by simp)),hr]
 cases h
theorem am4 {x:AV}:m7 ob ob' fun ob=>bw ob (src ob x):=by
 intro a b;rcases hr:src ob x with _ | ⟨sz,ys,l⟩
 ·simp only [hr,bw] at a; exact a.1.elim
 simp only [hr,bw] at a b |-;rw [vf hr b];exact ⟨a,rfl⟩
theorem avd {o:PO} {g:Bool} {e:Env}:m7 ob ob' fun ob=>o.see g e ob:=by
 cases o with
 | eqn _ x=>exact m7.and ang
 | len _ x=>exact m7.and ana
 | ia _ _ x i=>exact m7.and ap5
 | iaa _ _ x i=>exact m7.and anf
 | ld _ x=>exact m7.and ap4
 | nck x=>exact m7.and am8
 | fa _ x=>exact m7.and ap6
 | sll _ x lo hi mx=>exact m7.and am5
 | sla n x=>exact m7.and am6
 | toStr x=>exact m7.and am4
 | lkp _ _ _ x i=>exact m7.and am9
 | lenm x=>exact m7.and ak4
 | ent x=>exact m7.and anh
 | _=>exact m5
def pin:Option (Nat×Ob)->Option (Nat×Option Nat)
 | some (v,.box _)=>some (v,none)
 | some (v,.row sz _ _ _ _)=>some (v,some sz)
 | _=>none
def apd (ob a:Obs) (l:List Nat):Prop:=∀i,i∈l->pin (a i)=pin (ob i)
def PO.adr:PO->Bool
 | .fa _ _=>true
 | .iaa _ _ _ _=>true
 | .ia _ _ _ _=>true
 | _=>false
def je (ob a:Obs) (f:Obs->Rs):Prop:=(f ob).ok->apd ob a (f ob).rd->(f a).ok/\(f a).v=(f ob).v
theorem je.and {p:Prop} {f:Obs->Rs} (h:je ob ob' f):je ob ob' fun ob=>Rs.and p (f ob):=fun ⟨c,a⟩ b=>⟨⟨c,(h a b).1⟩,(h a b).2⟩
theorem iv {p:Prop} {v:Vs}:je ob ob' fun ob=>Vs.q ob p v:=fun h _=>⟨h,rfl⟩
theorem ae3 {ver:Nat} (h:pin (ob' id)=pin (ob id)):(l7 ob id ver=none/\l7 ob' id ver=none)\/∃c c',l7 ob id ver=some c/\l7 ob' id ver=some c':=by
 unfold l7
 revert h
 generalize ob id=q;generalize ob' id=g;intro h;rcases q with _ | ⟨v,c | ⟨sz,z,f,l,m⟩ | T | _ | _⟩<;>rcases g with _ | ⟨i,c' | ⟨d,k,a,b,e⟩ | j | _ | _⟩<;>simp [pin] at h |-;subst h;by_cases hv:ver=i<;>simp [hv]
theorem aem {ver:Nat} (h:pin (ob' id)=pin (ob id)):(g7 ob id ver=none/\g7 ob' id ver=none)\/∃sz c c',g7 ob id ver=some (sz,c)/\g7 ob' id ver=some (sz,c'):=by
 unfold g7
 revert h
 generalize ob id=q;generalize ob' id=g;intro h;rcases q with _ | ⟨v,c | ⟨sz,z,f,l,m⟩ | T | _ | _⟩<;>rcases g with _ | ⟨i,c' | ⟨d,k,a,b,e⟩ | j | _ | _⟩<;>simp [pin] at h |-;obtain ⟨rfl,rfl⟩:=h;by_cases hv:ver=i<;>simp [hv]
theorem ank {g:Bool} {h:Nat} {x:AV}:je ob ob' (fa1 g h x):=by
 cases x with
 | ptr id ver o=>
   intro a e;simp only [fa1] at a e |-;have f:pin (ob' id)=pin (ob id):=e id (by split<;>simp [n7]);rcases ae3 (ver:=ver) f with ⟨d,b⟩ | ⟨c,c',d,b⟩
   ·rw [d] at a |-; rw [b]; exact ⟨a,rfl⟩
   rw [d]; rw [b]; exact ⟨trivial,rfl⟩
 | oel id ver i o=>
   intro a e;simp only [fa1] at a e |-;have f:pin (ob' id)=pin (ob id):=e id (by split<;>simp [n7]);rcases aem (ver:=ver) f with ⟨d,b⟩ | ⟨sz,c,c',d,b⟩
   ·rw [d] at a |-; rw [b]; exact ⟨a,rfl⟩
   rw [d] at a |-; rw [b]; exact ⟨a,rfl⟩
 | _=>exact iv
theorem ak5 {g:Bool} {n sz:Nat} {x y:AV}:je ob ob' (et g n sz x y):=by
 rcases y with ⟨v | _ | _⟩ | _ | _ | _ | _ | _ | _ | _ | _ | _ | _ | _ | _
 ·cases v with
  | int k i=>
    cases x with
    | ptr id ver o=>
      intro a e;simp only [et] at a e |-;have f:pin (ob' id)=pin (ob id):=e id (by split<;>simp [n7]);rcases ae3 (ver:=ver) f with ⟨d,b⟩ | ⟨c,c',d,b⟩
      ·rw [d] at a |-; rw [b]; exact ⟨a,rfl⟩
      rw [d] at a |-; rw [b]; exact ⟨a,rfl⟩
    | oel id ver j o=>
      intro a e;simp only [et] at a e |-;have f:pin (ob' id)=pin (ob id):=e id (by split<;>simp [n7]);rcases aem (ver:=ver) f with ⟨d,b⟩ | ⟨h,c,c',d,b⟩
      ·rw [d] at a |-; rw [b]; exact ⟨a,rfl⟩
      rw [d] at a |-; rw [b]; exact ⟨a,rfl⟩
    | _=>exact iv
  | _=>rcases x with ⟨_ | _ | _⟩ | _ | _ | _ | _ | _ | _ | _ | _ | _ | _ | _ | _<;>exact iv
 all_goals rcases x with ⟨_ | _ | _⟩ | _ | _ | _ | _ | _ | _ | _ | _ | _ | _ | _ | _<;>exact iv
theorem anj {g:Bool} {sz:Nat} {z:RV} {x y:AV}:je ob ob' (ia2 g sz z x y):=by
 rcases y with ⟨v | _ | _⟩ | _ | _ | _ | _ | _ | _ | _ | _ | _ | _ | _ | _
 ·cases v with
  | int k i=>
    cases x with
    | own id ver lo n=>
      intro a j;simp only [ia2] at a j |-;have h:pin (ob' id)=pin (ob id):=j id (by split<;>first | simp | (cases l7 ob id ver<;>simp [n7,iab]));rcases aem (ver:=ver) h with ⟨f,e⟩ | ⟨l,c,c',f,e⟩
      ·rw [f] at a |-; rw [e];simp only at a |-;rcases ae3 (ver:=ver) h with ⟨d,b⟩ | ⟨q,m,d,b⟩
       ·rw [d] at a |-; rw [b]; exact ⟨a,rfl⟩
       rw [d] at a |-; rw [b]; exact ⟨a,rfl⟩
      rw [f] at a |-; rw [e]; exact ⟨a,rfl⟩
    | r x=>cases x<;>exact iv
    | _=>exact iv
  | _=>rcases x with ⟨_ | _ | _⟩ | _ | _ | _ | _ | _ | _ | _ | _ | _ | _ | _ | _<;>exact iv
 all_goals rcases x with ⟨_ | _ | _⟩ | _ | _ | _ | _ | _ | _ | _ | _ | _ | _ | _ | _<;>exact iv
theorem aw3 {o:PO} {g:Bool} {e:Env} (h:o.adr=true):je ob ob' fun ob=>o.see g e ob:=by
 cases o with
 | fa _ x=>exact je.and ank
 | iaa _ _ x i=>exact je.and ak5
 | ia _ _ x i=>exact je.and anj
 | _=>cases h
theorem au5 {n:Nat} {x y:AV}:pin ((st2 n x y ob).ob i)=pin (ob i):=by
 cases x with
 | ptr id ver off=>
   simp only [st2,Rs.and];rcases hr:l7 ob id ver with _ | c
   ·rfl
   simp only [stb,upd];by_cases hi:i=id
   ·subst hi;rw [if_pos rfl];unfold l7 at hr;split at hr
    ·rename_i v b a;split at hr
     ·rename_i hv; rw [a,hv]; rfl
     cases hr
    cases hr
   rw [if_neg hi]
 | oel id ver idx off=>
   simp only [st2];split
   ·rename_i ys hy;simp only [Rs.and];rcases hr:g7 ob id ver with _ | ⟨sz,z,h,k,l⟩
    ·rfl
    simp only [str,upd];by_cases hi:i=id
    ·subst hi;rw [if_pos rfl];unfold g7 at hr;split at hr
     ·rename_i v f j d e g a;split at hr
      ·rename_i hv; cases hr; rw [a,hv]; rfl
      cases hr
     cases hr
    rw [if_neg hi]
   rfl
 | _=>rfl
end

section
variable {ob ob':Obs} {e:Env}
def t6 (ob a:Obs) (f:Obs->Rs):Prop:=(f ob).ok->x8 ob a (f ob).rd ->
 (f a).ok/\(f a).v=(f ob).v/\(∀i,i∈(f ob).wr->i∈(f ob).rd/\(f a).ob i=(f ob).ob i)/\(∀i,i∉(f ob).wr->(f a).ob i=a i)
theorem t6.and {p:Prop} {f:Obs->Rs} (h:t6 ob ob' f):t6 ob ob' fun ob=>Rs.and p (f ob):=fun ⟨c,a⟩ b=>⟨⟨c,(h a b).1⟩,(h a b).2⟩
theorem lv:t6 ob ob' fun ob=>s4 ob:=fun h _=>h.elim
theorem lu {d:Nat} {x:Ob} {y:Nat->AV} {ok:Prop} {rd:List Nat}:t6 ob ob' fun ob=>k8 ob d x y ok rd []:=by
 intro a c;have b:ob' d=ob d:=c d (by simp [k8]);refine ⟨a,?_,fun i hi=>?_,fun i hi=>?_⟩
 ·simp only [k8,um b]
 ·simp only [k8,zag,zao,or_false] at hi;subst hi;simp [k8,upd,um b]
 simp only [k8,zag,zao,or_false] at hi;simp [k8,upd,hi]
theorem ah1 (ob:Obs) (i j:Nat):frz ob i (ob i) j=if j=i then frz ob i (ob i) i else ob j:=by
 by_cases h:j=i
 ·subst h; simp
 rw [if_neg h];generalize ob i=q;rcases q with _ | ⟨v,_ | _ | _ | _ | _⟩
 ·rfl
 ·rfl
 ·simp [frz,upd,h]
 ·rfl
 ·rfl
 rfl
theorem at3 (h:ob' i=ob i):frz ob' i (ob' i) i=frz ob i (ob i) i:=by
 rcases hq:ob i with _ | ⟨v,_ | _ | _ | _ | _⟩<;>rw [h,hq]
 ·exact h.trans hq |>.trans hq.symm
 ·exact h.trans hq |>.trans hq.symm
 ·simp [frz,upd]
 ·exact h.trans hq |>.trans hq.symm
 ·exact h.trans hq |>.trans hq.symm
 exact h.trans hq |>.trans hq.symm
theorem vq:∀(l:List Nat) {ob a:Obs} {i:Nat},a i=ob i->freeze a l i=freeze ob l i
 | [],_,_,_,h=>h
 | j::l,ob,a,i,h=>by
   refine vq l ?_;rw [ah1 ob,ah1 a];by_cases b:i=j
   ·subst b; simp only [if_true]; exact at3 h
   simp only [if_neg b]; exact h
theorem aal:∀(l:List Nat) {ob:Obs} {i:Nat},i∉l->freeze ob l i=ob i
 | [],_,_,_=>rfl
 | j::l,ob,i,h=>by
   simp only [zag,not_or] at h;rw [freeze,aal l h.2,ah1,if_neg h.1]
theorem ab9 {x:AV} {y:RV} {l:List Nat} (h:x.rv ob=some (y,l)) (a:x8 ob ob' l):x.rv ob'=some (y,l):=by
 unfold AV.rv at h |-;split at h
 ·exact h
 ·exact h
 ·rename_i id ver lo len;rcases hr:g7 ob id ver with _ | c
  ·simp only [hr] at h; cases h
  simp only [hr] at h;cases h;rw [k7 (a id (by simp)),hr]
 cases h
theorem uh {a b:List Nat} (h:x8 ob ob' (a++b)):x8 ob ob' a/\x8 ob ob' b:=⟨fun i hi=>h i (by simp [hi]),fun i hi=>h i (by simp [hi])⟩
theorem vi:∀{a:List AV} {ys:List RV} {l:List Nat},rvs ob a=some (ys,l)->x8 ob ob' l->rvs ob' a=some (ys,l)
 | [],ys,l,h,hs=>h
 | x::a,ys,l,h,hs=>by
   simp only [rvs] at h |-;split at h
   ·rename_i y k f j e d;cases h;obtain ⟨b,c⟩:=uh hs;rw [ab9 e b,vi d c]
   cases h
theorem aol {x:AV} {y:RV} {l:List Nat} (h:x.elt ob=some (y,l)) (a:x8 ob ob' l):x.elt ob'=some (y,l):=by
 unfold AV.elt at h |-;split at h
 ·split at h
  ·rename_i ys j b;cases h;simp only [vi b a]
  cases h
 exact ab9 h a
theorem aaq {g:Bool}:∀{a:List Opd} {p:Prop} {ys:List RV} {l:List Nat},s5 e ob g a=some (p,ys,l)->x8 ob ob' l->s5 e ob' g a=some (p,ys,l)
 | [],p,ys,l,h,hs=>h
 | x::a,p,ys,l,h,hs=>by
   simp only [s5] at h |-;split at h
   ·rename_i y k i m j f d;cases h;obtain ⟨b,c⟩:=uh hs;rw [aol f b,aaq d c]
   cases h
theorem aqn {d sz:Nat} {z:RV} {g:List Opd}:t6 ob ob' fun ob=>PO.act d e ob (.bsl sz z g):=by
 intro a c;simp only [PO.act] at a c |-;rcases hr:s5 e ob true g with _ | ⟨p,ys,b⟩
 ·rw [hr] at a; exact a.elim
 rw [hr] at a c;have h:x8 ob ob' b:=fun i hi=>c i (by simp [k8,hi]);have j:ob' d=ob d:=c d (by simp [k8]);rw [aaq hr h];refine ⟨a,?_,fun i hi=>?_,fun i hi=>?_⟩
 ·simp only [k8,um (vq b j)]
 ·refine ⟨hi,?_⟩;simp only [k8,zag] at hi;simp only [k8,upd,um (vq b j)];split
  ·rfl
  rename_i f;exact vq b (h i (hi.resolve_left f))
 simp only [k8,zag,not_or] at hi;simp only [k8,upd,if_neg hi.1];exact aal b hi.2
theorem iw {x:Nat×Ob} {ok:Prop} {v:AV} {rd:List Nat}:t6 ob ob' fun ob=>⟨ok,v,upd id x ob,id::rd,[id]⟩:=by
 intro a b;refine ⟨a,rfl,fun i hi=>?_,fun i hi=>?_⟩
 ·simp only [zag,zao,or_false] at hi;subst hi;simp [upd]
 simp only [zag,zao,or_false] at hi;simp [upd,hi]
theorem atu {n:Nat} {x y:AV}:t6 ob ob' (st2 n x y):=by
 cases x with
 | ptr id ver off=>
   intro a b;simp only [st2] at a b |-;rcases hr:l7 ob id ver with _ | c
   ·rw [hr] at a; exact a.2.elim
   rw [hr] at a b;rw [v3 (b id (by simp [Rs.and,stb])),hr];exact t6.and (f:=fun ob=>stb id ver ob n off y.cells (some c)) iw a b
 | oel id ver idx off=>
   intro a b;simp only [st2] at a b |-;split at a
   ·rename_i ys hy;rw [vi hy (fun i hi=>by simp at hi)];rw [hy] at b;simp only at b |-;rcases hr:g7 ob id ver with _ | ⟨sz,z,d,e,g⟩
    ·rw [hr] at a; exact a.2.elim
    rw [hr] at a b;rw [k7 (b id (by simp [Rs.and,str])),hr];exact t6.and (f:=fun ob=>str id ver ob n idx off ys (some (sz,z,d,e,g))) iw a b
   exact a.elim
 | _=>exact fun h _=>h.elim
theorem aqo {d sz:Nat} {z:RV} {c:Nat} {x y:AV}:t6 ob ob' fun ob=>le d ob sz z c x (src ob y):=by
 intro a b;rcases hy:src ob y with _ | ⟨l,ys,rd⟩
 ·simp only [hy] at a;unfold le at a;split at a
  ·rename_i h; cases h
  ·rename_i h; cases h
  exact a.elim
 simp only [hy] at a b |-;cases x with
 | nils e j=>
   have f:x8 ob ob' rd:=fun i hi=>b i (by simp [le,k8,hi]);rw [vf hy f];exact lu (ok:=_) a b
 | own id ver lo len=>
   cases lo with
   | succ lo=>exact a.elim
   | zero=>
     simp only [le] at a b;rcases hr:g7 ob id ver with _ | ⟨e,j,g,k,m⟩
     ·rw [hr] at a; exact a.elim
     rw [hr] at a b;have f:x8 ob ob' rd:=fun i hi=>b i (by simp [hi]);rw [vf hy f];simp only [le];rw [hr,k7 (b id (by simp)),hr];exact iw a b
 | _=>exact a.elim
theorem aqk {sz:Nat} {x y:AV}:t6 ob ob' fun ob=>mc ob sz x (src ob y):=by
 intro a b;rcases hy:src ob y with _ | ⟨j,ys,rd⟩
 ·simp only [hy] at a;unfold mc at a;split at a
  ·rename_i h; cases h
  exact a.elim
 simp only [hy] at a b |-;cases x with
 | own id ver lo len=>
   simp only [mc] at a b;rcases hr:g7 ob id ver with _ | ⟨d,f,c,g,k⟩
   ·rw [hr] at a; exact a.elim
   rw [hr] at a b;have e:x8 ob ob' rd:=fun i hi=>b i (by simp [hi]);rw [vf hy e];simp only [mc];rw [hr,k7 (b id (by simp)),hr];exact iw a b
 | _=>exact a.elim
theorem aqm {sz:Nat} {z:RV} {x:AV}:t6 ob ob' fun ob=>ql ob sz z x:=by
 intro a b;cases x with
 | own id ver lo len=>
   simp only [ql] at a b |-;rcases hr:g7 ob id ver with _ | ⟨c,e,d,f,g⟩
   ·rw [hr] at a; exact a.elim
   rw [hr] at a b;rw [k7 (b id (by simp)),hr];exact iw (rd:=[]) a b
 | _=>exact a.elim
theorem ahq {ver:Nat} {ok:List MapEntry->Prop} {d:List MapEntry->Nat->List MapEntry} {e:List MapEntry->Nat->Nat}:t6 ob ob' fun ob=>lf id ver ob ok d e (n8 ob id ver):=by
 intro a b;rcases hr:n8 ob id ver with _ | ⟨f,c⟩
 ·simp only [hr,lf] at a; exact a.elim
 simp only [hr,lf] at a b |-;rw [mo (b id (by simp)),hr];exact iw (rd:=[]) a b
theorem an4 {str:Bool} {x i y:AV}:t6 ob ob' (ij str x i y):=by
 cases x with
 | mp id ver=>cases i with
   | r i=>cases i with
     | v k=>
       show t6 ob ob' fun ob=>ll str k id ver ob (toV y);generalize toV y=q;cases q with
       | none=>exact fun h _=>h.elim
       | some v=>exact ahq
     | _=>exact fun h _=>h.elim
   | _=>exact fun h _=>h.elim
 | _=>exact fun h _=>h.elim
theorem an5 {str:Bool} {x i:AV}:t6 ob ob' (io str x i):=by
 cases x with
 | mp id ver=>cases i with
   | r i=>cases i with
     | v k=>exact ahq
     | _=>exact fun h _=>h.elim
   | _=>exact fun h _=>h.elim
 | _=>exact fun h _=>h.elim
theorem aqi {d:Nat} {x:AV}:t6 ob ob' (lq d x):=by
 cases x with
 | mp id ver=>
   intro a b;simp only [lq] at a b |-;rcases hr:n8 ob id ver with _ | ⟨e,c⟩
   ·rw [hr] at a; exact a.elim
   rw [hr] at a b;rw [mo (b id (by simp [sk,k8])),hr];exact lu (ok:=_) a b
 | _=>exact fun h _=>h.elim
theorem aqj {x:AV}:t6 ob ob' fun ob=>qd ob x:=by
 cases x with
 | own id ver lo len=>
   intro a b;simp only [qd] at a b |-;rcases hr:g7 ob id ver with _ | ⟨c,e,d,f,g⟩
   ·rw [hr] at a; exact a.elim
   rw [hr] at a b;rw [k7 (b id (by simp)),hr];exact iw (rd:=[]) a b
 | _=>exact fun h _=>h.elim
theorem aql {x y:AV}:t6 ob ob' fun ob=>qk ob x y:=by
 cases x with
 | own id ver lo len=>
   cases y with
   | r q=>cases q with
     | v u=>cases u with
       | string sv=>
         intro a b;simp only [qk] at a b |-;rcases hr:g7 ob id ver with _ | ⟨c,e,d,f,g⟩
         ·rw [hr] at a; exact a.elim
         rw [hr] at a b;rw [k7 (b id (by simp)),hr];exact iw (rd:=[]) a b
       | _=>exact fun h _=>h.elim
     | _=>exact fun h _=>h.elim
   | _=>exact fun h _=>h.elim
 | _=>exact fun h _=>h.elim
theorem aw5 {o:PO} {d:Nat}:t6 ob ob' fun ob=>o.act d e ob:=by
 cases o with
 | new zs=>exact lu
 | box x=>exact lu
 | bsl sz z ps=>exact aqn
 | st n x y=>exact t6.and atu
 | app sz z bytes x y=>exact t6.and aqo
 | clr sz z x=>exact t6.and aqm
 | cpy sz x y=>exact t6.and aqk
 | mkm=>exact lu
 | mset str x i y=>exact t6.and an4
 | mdel str x i=>exact t6.and an5
 | rng x=>exact t6.and aqi
 | mrk x=>exact t6.and aqj
 | cps x y=>exact t6.and aql
 | toBytes z x=>
   refine t6.and ?_;generalize (x.ev e).bare=y;rcases y with ⟨v | _ | _⟩ | _ | _ | _ | _ | _ | _ | _ | _ | _ | _ | _ | _
   ·cases v<;>first | exact lu | exact lv
   all_goals exact lv
 | mks sz z bytes l c=>
   refine t6.and ?_;generalize (l.ev e).bare=y;generalize (c.ev e).bare=a;rcases y with ⟨v | _ | _⟩ | _ | _ | _ | _ | _ | _ | _ | _ | _ | _ | _ | _
   ·cases v with
    | int k i=>
      rcases a with ⟨v | _ | _⟩ | _ | _ | _ | _ | _ | _ | _ | _ | _ | _ | _ | _
      ·cases v<;>first | exact lu | exact lv
      all_goals exact lv
    | _=>exact lv
   all_goals exact lv
 | _=>exact lv
end

def eqv:Value->Value->Bool
 | .int k a,.int k' b=>k == k'&&a == b
 | .bool a,.bool b=>a == b
 | .string a,.string b=>a.data.toList == b.data.toList
 | .pointer none,.pointer none=>true
 | .nilFunc,.nilFunc=>true
 | .nilIface,.nilIface=>true
 | .map none,.map none=>true
 | _,_=>false
theorem ad0 {a b:Value} (h:eqv a b=true):a=b:=by
 unfold eqv at h;split at h
 ·rw [zah,beq_iff_eq,beq_iff_eq] at h;rw [h.1,h.2]
 ·rw [beq_iff_eq] at h;rw [h]
 ·rename_i a b;rw [beq_iff_eq] at h;obtain ⟨⟨a⟩⟩:=a;obtain ⟨⟨b⟩⟩:=b;simp only at h;rw [h]
 ·rfl
 ·rfl
 ·rfl
 ·rfl
 cases h
def eqz:Value->AV->Bool
 | .slice none 0 0,.nils _ _=>true
 | v,.r (.v x)=>eqv v x
 | _,_=>false
def opd:Operand->Opd->Bool
 | .tmp t,.t n=>t == n
 | .const v,.c x=>eqz v x
 | .func f,.c (.fn (.func f') [] 0)=>f == f'
 | _,_=>false
section
variable {w:World} {R:Nat->Prop} {ob:Obs} {ρ:Pl->Option Nat}
theorem aey {v:Value} {x:AV} (h:eqz v x=true):RelA w R ob ρ x v:=by
 unfold eqz at h;split at h
 ·exact .nils _ _
 ·rw [ad0 h]; exact .r (.v _)
 cases h
theorem abb {a:Act} {e:Env} (b:∀t,RelA w R ob ρ (e t) (a.tmps.getD t undef)) {x:Operand} {y:Opd} (h:opd x y=true):RelA w R ob ρ (y.ev e) (a.eval x):=by
 unfold opd at h;split at h
 ·simp at h; subst h; exact b _
 ·exact aey h
 ·simp at h; subst h; exact .fn _ [] 0 #[] #[] rfl rfl (by simp)
 cases h
theorem RelA.bare {g:Bool} (a:g=true) {x:AV} (h:RelA w R ob ρ x c) (b:x.may g):RelA w R ob ρ x.bare c:=by
 cases h<;>first | (simp only [AV.bare]; constructor<;>assumption) | skip
 simp only [AV.bare,AV.may] at *;rename_i h d;exact h (b a)
end
def acd:Option Operand->Option Opd->Bool
 | none,none=>true
 | some x,some y=>opd x y
 | _,_=>false
def z4 (P:Program) (t:TypeId) (f:TypeId->TypeInfo->Bool):Bool:=
 match P.underlying t with
 | some (.slice e)=>match P.info? e with
   | some i=>f e i
   | none=>false
 | _=>false
def r3 (P:Program) (t:TypeId) (f:TypeDesc->Bool):Bool:=
 match P.underlying t with
 | some d=>f d
 | none=>false
def wu (P:Program) (t:TypeId) (n:Option Nat):Bool:=
 match P.underlying t,P.info? t with
 | some (.struct _),some i=>n == some i.size
 | some (.array _ _),some i=>n == some i.size
 | some _,some _=>n == none
 | _,_=>false
def abg (P:Program) (t:TypeId) (f:Nat) (k:Go.Field->TypeInfo->Bool):Bool:=
 match P.underlying t with
 | some (.struct fs)=>match fs[f]? with
   | some fd=>match P.info? fd.type with
     | some i=>k fd i
     | none=>false
   | none=>false
 | _=>false
def eqr:Value->RV->Bool
 | .slice none 0 0,.sl _ []=>true
 | v,.v x=>eqv v x
 | _,_=>false
def o6 {b a:Type} (f:b->a->Bool):List b->List a->Bool
 | [],[]=>true
 | x::xs,y::ys=>f x y&&o6 f xs ys
 | _,_=>false
def ml (P:Program) (t:TypeId) (p:Nat×Operand) (q:Nat×Nat×Opd):Bool:=
 opd p.2 q.2.2&&(match P.underlying t with
 | some (.struct fs)=>match fs[p.1]? with
   | some f=>match P.info? f.type with
     | some i=>f.offset == q.1&&i.size == q.2.1
     | none=>false
   | none=>false
 | some (.array _ e)=>match P.info? e with
   | some i=>p.1*i.size == q.1&&i.size == q.2.1
   | none=>false
 | _=>false)
def vo (str:Bool):TypeDesc->Bool
 | .string=>str
 | .slice _=>!str
 | _=>false
def ae1 (P:Program):TypeDesc->Bool
 | .struct fs=>fs.all fun f=>(P.info? f.type).isSome
 | .array _ e=>(P.info? e).isSome
 | _=>false
def aaf:Nat->TypeDesc->Bool
 | 0,.int _=>true
 | 1,.bool=>true
 | 2,.string=>true
 | _,_=>false
def aan (g:TypeId->List Nat->Bool) (P:Program):List Go.Field->List Nat->Nat->Bool
 | [],ks,_=>ks.isEmpty
 | f :: fs, ks, i => f.name != "_" && f.offset == i && decide (P.cellsOf f.type ≤ ks.length) && g f.type (ks.take (P.cellsOf f.type)) && aan g P fs (ks.drop (P.cellsOf f.type)) (i + P.cellsOf f.type)
def aao (g:TypeId->List Nat->Bool) (P:Program) (e:TypeId):Nat->List Nat->Bool
 | 0,ks=>ks.isEmpty
 | n+1,ks=>decide (P.cellsOf e<=ks.length)&&g e (ks.take (P.cellsOf e))&&aao g P e n (ks.drop (P.cellsOf e))
def qu (P:Program):Nat->TypeId->List Nat->Bool
 | 0,_,_=>false
 | d+1,t,ks=>match P.underlying t with
   | some (.struct fs)=>aan (qu P d) P fs.toList ks 0 && !P.stoodInHeld t
   | some (.array n e)=>(P.info? e).isSome&&aao (qu P d) P e n ks
   | some u=>(match ks with
     | [k]=>aaf k u
     | _=>false)
   | none=>false
def adu (P:Program) (t:TypeId):Bool:=match P.underlying t with
 | some (.struct _)=>true
 | some (.array _ _)=>true
 | _=>false
def aq0 (P:Program) (t:TypeId) (a:List Nat):Bool:=
 qu P 4 t a&&adu P t && !P.eqGuardType P.depth t
def aeu (P:Program) (a:Bool) (f:FuncId):Bool:=match P.funcs[f]? with
 | some fn => fn.body.isNone && (fn.name == if a then "math/bits.Sub64" else "math/bits.Add64") && (fn.origin == "" || fn.origin == fn.name)
 | none=>false
def vp (P:Program) (t:TypeId) (str:Bool) (f:TypeId->Bool):Bool:=
 match P.underlying t with
 | some (.map k e)=>(match P.underlying k with
   | some (.int _)=>!str
   | some .string=>str
   | _=>false)&&f e
 | _=>false
def wx (P:Program) (z:RV) (e:TypeId):Bool:=match P.info? e with
 | some i=>match i.zero with
   | some v=>match v,z with
     | .agg cs,.agg xs=>o6 eqr cs.toList xs&&xs.all (fun x=>match x with | .v _=>true | _=>false)
     | v,.v x=>eqv v x
     | _,_=>false
   | none=>false
 | none=>false
def xh (P:Program) (t:TypeId):Bool:=match P.underlying t with
 | some (.interface _)=>false
 | some _=>true
 | none=>false
def aic (P:Program) (o:Oper) (po:PO):Bool:=
 match o.op,po with
 | .move x,.mov y=>opd x y
 | .assign x,.mov y=>opd x y
 | .pick c a b,.pick c' a' b'=>opd c c'&&opd a a'&&opd b b'
 | .binOp op t x y _,.bin op' x' y'=>op == op'&&opd x x'&&opd y y'
 | .binOp op t x y _,.beq neg x' y'=>(if neg then op == .neq else op == .eql)&&r3 P t (fun d=>match d with | .bool=>true | _=>false)&&opd x x'&&opd y y'
 | .unOp op _ x,.un op' x'=>op == op'&&opd x x'
 | .convert a d x,.conv k x'=>r3 P a (fun _=>true)&&r3 P d (fun u=>match u with | .int k'=>k == k' | _=>false)&&opd x x'
 | .call c,.len str x'=>match c.callee with
   | .builtin .len=>match c.args.toList,c.argTypes.toList with
     | [x],[t]=>opd x x'&&r3 P t (vo str)
     | _,_=>false
   | _=>false
 | .indexAddr t x i,.ia sz _ x' i'=>z4 P t (fun _ inf=>inf.size == sz)&&opd x x'&&opd i i'
 | .index t x i,.ixs x' i'=>r3 P t (fun d=>match d with | .string=>true | _=>false)&&opd x x'&&opd i i'
 | .load t x,.ld n x'=>wu P t n&&opd x x'
 | .nilCheck x,.nck x'=>opd x x'
 | .fieldAddr t x f,.fa off x'=>abg P t f (fun g i=>g.offset == off&&i.size != 0)&&opd x x'
 | .field t x f,.fld off n x'=>abg P t f (fun g i=>g.offset == off&&wu P g.type n)&&opd x x'
 | .slice t x lo hi mx,.sla n x'=>(match P.underlying t with
   | some (.array n' e)=>n' == n&&(match P.info? e with | some inf=>inf.size == 1 | none=>false)
   | _=>false)&&opd x x'&&lo.isNone&&hi.isNone&&mx.isNone
 | .slice t x lo hi mx,.sls x' lo' hi'=>r3 P t (fun d=>match d with | .string=>true | _=>false)&&mx.isNone&&opd x x'&&acd lo lo'&&acd hi hi'
 | .slice t x lo hi mx,.sll sz x' lo' hi' mx'=>z4 P t (fun _ inf=>inf.size == sz)&&opd x x'&&acd lo lo'&&acd hi hi'&&acd mx mx'&&(mx.isNone||hi.isSome)
 | .extract x i,.ext x' i'=>i == i'&&opd x x'
 | .convert a d x,.toStr x'=>z4 P a (fun e _=>r3 P e (fun d=>match d with | .int .u8=>true | _=>false))&&r3 P d (fun d=>match d with | .string=>true | _=>false)&&opd x x'
 | .build t ps,.build zs qs=>(match P.info? t with | some i=>(match i.zero with | some z=>o6 eqz z.cells.toList zs | none=>false) | none=>false)&&r3 P t (ae1 P)&&o6 (ml P t) ps.toList qs
 | .makeFunc f first cap,.mkf f' xs k=>f == f'&&first.size == k&&o6 opd (first++cap).toList xs
 | .call c,.mm mx x' ys'=>(match c.callee with
   | .builtin .min=>!mx
   | .builtin .max=>mx
   | _=>false)&&(match c.args.toList with
   | x::ys=>opd x x'&&o6 opd ys ys'
   | _=>false)
 | .indexAddr t x i,.iaa n sz x' i'=>(match P.underlying t with
   | some (.array n' e)=>n == n'&&(match P.info? e with
     | some inf=>inf.size == sz
     | none=>false)
   | _=>false)&&opd x x'&&opd i i'
 | .call c,.carry sub x' y' z'=>(match c.callee with
   | .value (.func f)=>aeu P sub f
   | _=>false)&&(match c.args.toList with
   | [x,y,z]=>opd x x'&&opd y y'&&opd z z'
   | _=>false)
 | .binOp op t x y _,.eqa neg ks x' y'=>(if neg then op == .neq else op == .eql)&&aq0 P t ks&&opd x x'&&opd y y'
 | .lookup t x i c,.lkp str z c' x' i'=>vp P t str (wx P z)&&c == c'&&opd x x'&&opd i i'
 | .call c,.lenm x'=>match c.callee with
   | .builtin .len=>match c.args.toList,c.argTypes.toList with
     | [x],[t]=>opd x x'&&r3 P t (fun d=>match d with | .map _ _=>true | _=>false)
     | _,_=>false
   | _=>false
 | .makeInterface t x,.mki t' x'=>t == t'&&xh P t&&opd x x'
 | .typeAssert x _ t c,.tas t' z c' x'=>t == t'&&xh P t&&wx P z t&&c == c'&&opd x x'
 | .entry x,.ent x'=>opd x x'
 | .binOp op t x y _,.eqn neg x'=>(match y with | .const (.pointer none)=>true | _=>false)&&(if neg then op == .neq else op == .eql)&&r3 P t (fun d=>match d with | .pointer _=>true | _=>false)&&opd x x'
 | _,_=>false
def PO.nod:PO->Bool
 | .st _ _ _=>true
 | .mset _ _ _ _=>true
 | .mdel _ _ _=>true
 | .clr _ _ _=>true
 | _=>false
def aaz (P:Program) (o:Oper) (po:PO):Bool:=
 match o.op,po with
 | .alloc e,.new zs=>match P.info? e with
   | some i=>match i.zero with
     | some z=>o6 eqz z.cells.toList zs
     | none=>false
   | none=>false
 | .box _ x,.box x'=>opd x x'
 | .buildSlice t n ps,.bsl sz _ ps'=>z4 P t (fun _ i=>i.size == sz&&i.zero.isSome)&&n == ps'.length&&o6 (fun p q=>opd p.2 q) ps.toList ps'&&ps.toList.map (·.1) == List.range n&&n*sz<=16777216&&n<=16777216
 | .store t x y,.st n x' y'=>(match P.info? t with | some i=>i.size == n | none=>false)&&opd x x'&&opd y y'
 | .call c,.app sz _ bytes x' y'=>match c.callee with
   | .builtin .append=>match c.args.toList,c.argTypes.toList with
     | [x,y],[t,u]=>z4 P t (fun _ i=>i.size == sz&&i.bytes == bytes&&(match i.zero with | some z=>z.cells.size == sz | none=>false)&&sz != 0)&&z4 P u (fun _ _=>true)&&opd x x'&&opd y y'
     | _,_=>false
   | _=>false
 | .call c,.cpy sz x' y'=>match c.callee with
   | .builtin .copy=>match c.args.toList,c.argTypes.toList with
     | [x,y],[t,u]=>z4 P t (fun _ i=>i.size == sz)&&z4 P u (fun _ _=>true)&&opd x x'&&opd y y'
     | _,_=>false
   | _=>false
 | .convert a d x,.toBytes _ x'=>r3 P a (fun d=>match d with | .string=>true | _=>false)&&z4 P d (fun e i=>i.size == 1&&r3 P e (fun d=>match d with | .int .u8=>true | _=>false))&&opd x x'
 | .makeSlice t l c,.mks sz z bytes l' c'=>z4 P t (fun _ i=>i.size == sz&&i.bytes == bytes&&sz != 0&&(match i.zero with | some v=>o6 eqr v.cells.toList z.cells&&v.cells.size == sz | none=>false))&&opd l l'&&opd c c'
 | .makeMap _ r,.mkm=>r.isNone
 | .mapUpdate t x i y,.mset str x' i' y'=>vp P t str (fun _=>true)&&opd x x'&&opd i i'&&opd y y'
 | .call c,.mdel str x' i'=>match c.callee with
   | .builtin .delete=>match c.args.toList,c.argTypes.toList with
     | [x,i],[t,_]=>vp P t str (fun _=>true)&&opd x x'&&opd i i'
     | _,_=>false
   | _=>false
 | .range t x,.rng x'=>r3 P t (fun d=>match d with | .map _ _=>true | _=>false)&&opd x x'
 | .call c,.clr sz z x'=>match c.callee with
   | .builtin .clear=>match c.args.toList,c.argTypes.toList with
     | [x],[t]=>z4 P t (fun _ i=>i.size == sz&&(match i.zero with | some v=>o6 eqr v.cells.toList z.cells&&v.cells.size == sz | none=>false))&&opd x x'
     | _,_=>false
   | _=>false
 | .call c,.cps x' y'=>match c.callee with
   | .builtin .copy=>match c.args.toList,c.argTypes.toList with
     | [x,y],[t,_]=>z4 P t (fun _ i=>i.size == 1)&&opd x x'&&opd y y'
     | _,_=>false
   | _=>false
 | .convert a d x,.mrk x'=>z4 P a (fun e _=>r3 P e (fun d=>match d with | .int .u8=>true | _=>false))&&a == d&&opd x x'
 | _,_=>false

abbrev RA (X:Cx) (s:St) (ρ:Pl->Option Nat) (w:World):AV->Value->Prop:=RelA w (d7 X.B s.ob ρ w) s.ob ρ
def j5 (P:Program) (X:Cx) (a:Act) (w:World) (s:St) (ρ:Pl->Option Nat) (o:Oper) (v:AV):Prop:=
 ∃c,(execOp a.eval o).run P w=.ok (.value c) w/\RA X s ρ w v c
section
variable {P:Program} {X:Cx} {w:World} {s:St} {ρ:Pl->Option Nat} {a:Act} {o:Oper}
theorem d5 {g:Bool} (d:Gam X s ρ a w) (c:g=true) {x:Operand} {y:Opd} (h:opd x y=true) (b:(y.ev s.e).may g):RA X s ρ w (y.ev s.e).bare (a.eval x):=
 (abb d.env h).bare c b
theorem aj6 {k:IntKind} {m:Int} (h:RA X s ρ w (int k m) c):c=.int k m:=by cases h; rename_i h; cases h; rfl
theorem i7 {x:Value} (h:RA X s ρ w (.r (.v x)) c):c=x:=by cases h; rename_i h; cases h; rfl
theorem x7 (x:Value):RA X s ρ w (.r (.v x)) x:=.r (.v x)
theorem ata {g:Bool} (d:g=true) {op:BinOp} {t ty:TypeId} {x y:Operand} {u v:AV} (h:o.op=.binOp op t x y ty) (i:RA X s ρ w u (a.eval x)) (hv:RA X s ρ w v (a.eval y))
 (c:(qm g op u v).1):j5 P X a w s ρ o (qm g op u v).2:=by
 unfold qm at c |-;split at c
 ·rename_i k m q p;have f:=aj6 i;have e:=aj6 hv;simp only [j5,execOp,h,f,e];cases op<;>simp only [vb] at c |-
  all_goals first
   | (subst c; refine ⟨_,?_,x7 _⟩; simp [eqGuard,binOp,Op.intArith,Op.intBits,Op.intCmp]; done)
   | (obtain ⟨rfl,c⟩:=c; refine ⟨_,?_,x7 _⟩; simp [eqGuard,binOp,Op.intDiv,c d]; done)
   | (refine ⟨_,?_,x7 _⟩; have j:=c d; simp [eqGuard,binOp,Op.shift,show ¬p<0 by omega]; done)
 ·rename_i b n;have f:=i7 i;have e:=i7 hv;simp only [j5,execOp,h,f,e];cases op<;>simp only [va,bad] at c |-
  ·refine ⟨_,?_,x7 _⟩;have j:=c d
   have l:¬(((b.size+n.size:Nat):Int)>IntKind.i64.max):=by
    rw [show IntKind.i64.max=9223372036854775807 from rfl]; omega
   simp only [eqGuard,binOp,Op.stringOp,Sem.run_bind,Sem.run_ite,Sem.run_pure,if_neg l];simp
  all_goals first
   | first | exact (c d).elim | exact (c.2 d).elim
   | (refine ⟨_,?_,x7 _⟩; simp [eqGuard,binOp,Op.stringOp]; done)
 first | exact (c d).elim | exact (c.2 d).elim
theorem apt {g:Bool} (k:g=true) {x y z:Operand} {u v t:AV} (l:o.op=.pick x y z) (m:RA X s ρ w u (a.eval x)) (hv:RA X s ρ w v (a.eval y)) (n:RA X s ρ w t (a.eval z))
 (b:(ka g u v t).1):j5 P X a w s ρ o (ka g u v t).2:=by
 unfold ka at b |-;split at b
 ·have f:=i7 m;have j:=i7 hv;have i:=i7 n;simp only [j5,execOp,l,f,j,i];rename_i c d e;refine ⟨_,?_,x7 _⟩;cases c<;>simp [asBool]
 ·have f:=i7 m;have i:=i7 n;rename_i c h d e;simp only [j5,execOp,l,f,i];refine ⟨_,?_,x7 _⟩;cases c
  ·simp [asBool]
  cases hv with
  | gd _ hv1 hv2=>
    have j:=i7 (hv1 (b k rfl));simp [asBool,j]
 ·have f:=i7 m;have j:=i7 hv;rename_i c d h e;simp only [j5,execOp,l,f,j];refine ⟨_,?_,x7 _⟩;cases c
  ·cases n with
   | gd _ ht1 ht2=>
     have i:=i7 (ht1 (b k rfl));simp [asBool,i]
  simp [asBool]
 ·have f:=i7 m;have j:=i7 hv;simp only [j5,execOp,l,f,j];refine ⟨_,?_,x7 _⟩;simp [asBool,b k]
 ·have f:=i7 m;have i:=i7 n;simp only [j5,execOp,l,f,i];refine ⟨_,?_,x7 _⟩;simp [asBool,b k]
 ·have f:=i7 m;have i:=i7 n;simp only [j5,execOp,l,f,i];refine ⟨_,?_,x7 _⟩;simp [asBool,b k]
 ·have f:=i7 m;have j:=i7 hv;simp only [j5,execOp,l,f,j];refine ⟨_,?_,x7 _⟩;simp [asBool,b k]
 first | exact (b k).elim | exact (b.2 k).elim
theorem atb {g:Bool} (e:g=true) {c:Bool} {op:BinOp} {t ty:TypeId} {x y:Operand} {u v:AV} (f:o.op=.binOp op t x y ty) (d:op=if c then .neq else .eql) (h:P.underlying t=some .bool)
 (i:RA X s ρ w u (a.eval x)) (hv:RA X s ρ w v (a.eval y)) (b:(qn g c u v).1):j5 P X a w s ρ o (qn g c u v).2:=by
 unfold qn at b |-;split at b
 ·have k:=i7 i;have j:=i7 hv;simp only [j5,execOp,f,k,j];refine ⟨_,?_,x7 _⟩;subst d;cases c<;>simp [eqGuard,binOp,run_equal_bool w t _ _ h]
 first | exact (b e).elim | exact (b.2 e).elim
theorem afp {x:AV} (h:RA X s ρ w x c) (b:x.isA=true):∃cs,c=.agg cs/\∀(i:Nat) (y:AV),x.cells[i]?=some y->∃v,cs[i]?=some v/\RA X s ρ w y v:=by
 cases h with
 | agg xs cs hl hr=>
   refine ⟨cs,rfl,fun i y hy=>?_⟩;simp only [AV.cells] at hy;have a:=(zam.1 hy).1;have hc:cs[i]?=some (cs[i]'(by omega)):=by simp [show i<cs.size by omega]
   exact ⟨_,hc,hr i y _ hy hc⟩
 | r h0=>
   cases h0 with
   | agg xs cs hl hr=>
     refine ⟨cs,rfl,fun i y hy=>?_⟩;simp only [AV.cells,List.getElem?_map,zaq] at hy;obtain ⟨z,d,rfl⟩:=hy;have a:=(zam.1 d).1;have hc:cs[i]?=some (cs[i]'(by omega)):=by simp [show i<cs.size by omega]
     exact ⟨_,hc,.r (hr i z _ d hc)⟩
   | _=>cases b
 | _=>cases b
theorem atf {t:TypeId} {d:Nat} (a:r3 P t (aaf k)=true) {u v:AV} {b:Bool} {c':Value} (h:eq2 k u v=some b) (f:RA X s ρ w u c) (hv:RA X s ρ w v c'):(Op.equalIn (d+1) t c c').run P w=.ok b w:=by
 unfold r3 at a;split at a
 ·rename_i e g;unfold eq2 at h;split at h
  ·split at h
   ·rename_i i;subst i;cases h;rw [i7 f,i7 hv];cases e<;>first | (simp [aaf] at a; done) | exact run_equalIn_int w d t _ _ _ _ g
   cases h
  ·cases h;rw [i7 f,i7 hv];cases e<;>first | (simp [aaf] at a; done) | exact run_equalIn_bool' w d t _ _ g
  ·cases h;rw [i7 f,i7 hv];cases e<;>first | (simp [aaf] at a; done) | exact run_equalIn_string w d t _ _ g
  cases h
 cases a
theorem aap:∀{c:List Nat} {a vs:List AV} {b:Bool} (n:Nat),eql c a vs=some b->∃e d,eql (c.take n) (a.take n) (vs.take n)=some e/\eql (c.drop n) (a.drop n) (vs.drop n)=some d/\b=(e&&d)
 | c,a,vs,b,0,h=>⟨true,b,by simp [eql],by simpa using h,by simp⟩
 | [],[],[],b,n+1,h=>by simp [eql] at h; subst h; exact ⟨true,true,by simp [eql],by simp [eql],rfl⟩
 | k::c,u::a,v::vs,b,n+1,h=>by
   simp only [eql] at h;split at h
   ·rename_i p q f i;cases h;obtain ⟨e,d,l,g,j⟩:=aap n i;refine ⟨p&&e,d,?_,by simpa using g,by rw [j,Bool.and_assoc]⟩;simp only [List.take_succ_cons,eql,f,l]
   cases h
 | [],_::_,_,_,n+1,h=>by cases h
 | [],[],_::_,_,n+1,h=>by cases h
 | _::_,[],_,_,n+1,h=>by cases h
 | _::_,_::_,[],_,n+1,h=>by cases h
theorem xk:∀{a:List Nat} {c vs:List AV} {b:Bool},eql a c vs=some b->c.length=a.length/\vs.length=a.length
 | [],[],[],b,h=>⟨rfl,rfl⟩
 | k::a,u::c,v::vs,b,h=>by
   simp only [eql] at h;split at h
   ·rename_i p q e d;have:=xk d;simp only [List.length_cons];omega
   cases h
 | [],_::_,_,_,h=>by cases h
 | [],[],_::_,_,h=>by cases h
 | _::_,[],_,_,h=>by cases h
 | _::_,_::_,[],_,h=>by cases h
def AtR (X:Cx) (s:St) (ρ:Pl->Option Nat) (w:World) (d:Array Value) (a:Nat) (b:List AV):Prop:=∀i u,b[i]?=some u->∃c,d[a+i]?=some c/\RA X s ρ w u c
theorem AtR.take {d:Array Value} {a n:Nat} {c:List AV} (h:AtR X s ρ w d a c):AtR X s ρ w d a (c.take n):=fun i u b=>by
 rw [zad] at b;split at b
 ·exact h i u b
 cases b
theorem AtR.drop {d:Array Value} {a n:Nat} {b:List AV} (h:AtR X s ρ w d a b):AtR X s ρ w d (a+n) (b.drop n):=fun i u c=>by
 rw [zab] at c;have:=h _ u c
 rwa [<- zaj] at this
theorem AtR.cut {f:Array Value} {a n:Nat} {b:List AV} (h:AtR X s ρ w f a b) (j:b.length<=n):AtR X s ρ w (f.extract a (a+n)) 0 b:=fun i u e=>by
 obtain ⟨c,hc,g⟩:=h i u e;have hi:i<b.length:=(zam.1 e).1;refine ⟨c,?_,g⟩;have d:=(zai.1 hc).1;rw [Nat.zero_add,Array.getElem?_extract_of_lt (by omega)];rw [<- hc,Array.getElem?_eq_getElem d]
def tw (X:Cx) (s:St) (ρ:Pl->Option Nat) (w:World) (P:Program) (t:TypeId) (a:List AV) (c:Value):Prop:=
 if adu P t=true then ∃cs,c=.agg cs/\AtR X s ρ w cs 0 a else ∃u,a=[u]/\RA X s ρ w u c
theorem tl {d:Nat} {t:TypeId} {j:List Nat} (b:qu P d t j=true) {l:Array Value} {a:Nat} {h:List AV} (hx:AtR X s ρ w l a h) (g:h.length=j.length) (hc:j.length<=P.cellsOf t) :
 ∃c,(part t l a).run P w=.ok c w/\tw X s ρ w P t h c:=by
 cases d with
 | zero=>cases b
 | succ d=>
   unfold qu at b;unfold tw adu;cases hu:P.underlying t with
   | none=>rw [hu] at b; cases b
   | some kd=>
     obtain ⟨i,hi⟩:=info_of_underlying hu
     have f:((∃n e',kd=.array n e')\/(∃m,kd=.struct m))->(part t l a).run P w=.ok (.agg (l.extract a (a+P.cellsOf t))) w:=by
      rintro (⟨n,e',rfl⟩ | ⟨m,rfl⟩)<;>simp [part,isAgg,run_underlying hu,run_sizeOf w hi]
     rw [hu] at b;cases kd
     case struct m=>exact ⟨_,f (.inr ⟨_,rfl⟩),by simp only [↓reduceIte]; exact ⟨_,rfl,hx.cut (by omega)⟩⟩
     case array n e=>exact ⟨_,f (.inl ⟨_,_,rfl⟩),by simp only [↓reduceIte]; exact ⟨_,rfl,hx.cut (by omega)⟩⟩
     all_goals
      simp only at b
      match j,b with
      | [k],b=>
        match h,g with
        | [u],_=>
          obtain ⟨c,o,p⟩:=hx 0 u rfl;rw [Nat.add_zero] at o;refine ⟨c,by simp [part,isAgg,run_underlying hu,o],?_⟩;simp only [zak,↓reduceIte];exact ⟨u,rfl,p⟩
theorem ag0 (D:Nat):∀(d:Nat) {t:TypeId} {g:List Nat},qu P d t g=true->∀{l vs:List AV} {b:Bool} {c c':Value},eql g l vs=some b->tw X s ρ w P t l c->tw X s ρ w P t vs c' ->
 (Op.equalIn (D+d) t c c').run P w=.ok b w
 | 0,_,_,a,_,_,_,_,_,_,_,_=>by cases a
 | d+1,t,g,a,l,vs,b,c,c',m,B,hv=>by
   have V:∀{t:TypeId} {g:List Nat},qu P d t g=true->∀{l vs:List AV} {b:Bool} {c c':Value},eql g l vs=some b->tw X s ρ w P t l c->tw X s ρ w P t vs c'->(Op.equalIn (D+d) t c c').run P w=.ok b w:=fun h=>ag0 D d h;unfold qu at a;unfold tw adu at B hv;cases hd:P.underlying t with
   | none=>rw [hd] at a; cases a
   | some kd=>
     rw [hd] at a B hv;have h0:r3 P t (fun _=>true)=true:=by simp [r3,hd]
     cases kd
     case struct fs=>
      simp only [↓reduceIte] at B hv;simp only [zah,Bool.not_eq_true'] at a;obtain ⟨cs,rfl,I⟩:=B;obtain ⟨o,rfl,z⟩:=hv;have H:P.fieldsOf t=fs:=by simp [Program.fieldsOf,hd]
      have:=run_equalIn_struct w (D+d) t cs o (by rw [H]; exact hd) a.2;rw [show D+(d+1)=D+d+1 from rfl,this,H];clear this H hd;obtain ⟨a,_⟩:=a
      have G:∀(fl:List Go.Field) (i:Nat) {g:List Nat} {l vs:List AV} {b:Bool},aan (qu P d) P fl g i=true->eql g l vs=some b->AtR X s ρ w cs i l->AtR X s ρ w o i vs->(Op.eqFields (D+d) cs o fl).run P w=.ok b w:=by
       intro fl
       induction fl with
       | nil=>
         intro i g l vs b r m J F;simp only [aan,List.isEmpty_iff] at r;subst r;obtain ⟨C,K⟩:=xk m;obtain rfl:l=[]:=zap.1 C;obtain rfl:vs=[]:=zap.1 K;cases m;simp [Op.eqFields]
       | cons f fl ihl=>
         intro i g l vs b r m J F;simp only [aan,zah,bne_iff_ne,ne_eq,beq_iff_eq,decide_eq_true_eq] at r;obtain ⟨⟨⟨⟨Y,f2⟩,f3⟩,E⟩,Q⟩:=r;obtain ⟨M,b2,C,K,rfl⟩:=aap (P.cellsOf f.type) m;obtain ⟨N,O⟩:=xk C;have A:(g.take (P.cellsOf f.type)).length<=P.cellsOf f.type:=by simp; omega
         obtain ⟨x,S,R⟩:=tl E J.take N A;obtain ⟨y,T,L⟩:=tl E F.take O A;simp only [Op.eqFields,if_pos Y,Sem.run_bind];rw [f2,S,Result.andThen_ok,T,Result.andThen_ok,V E C R L,Result.andThen_ok];cases M
         ·simp
         simpa using ihl (i+P.cellsOf f.type) Q K J.drop F.drop
      exact G _ 0 a m I z
     case array n e=>
      simp only [↓reduceIte] at B hv;simp only [zah] at a;obtain ⟨cs,rfl,I⟩:=B;obtain ⟨o,rfl,z⟩:=hv;obtain ⟨i,hi⟩:=Option.isSome_iff_exists.1 a.1;rw [show D+(d+1)=D+d+1 from rfl,run_equalIn_array w (D+d) cs o hd hi];obtain ⟨_,a⟩:=a
      have G:∀(n j:Nat) {g:List Nat} {l vs:List AV} {b:Bool},aao (qu P d) P e n g=true->eql g l vs=some b->AtR X s ρ w cs (j*P.cellsOf e) l->AtR X s ρ w o (j*P.cellsOf e) vs->(Op.eqItems (D+d) e (P.cellsOf e) cs o (List.range' j n)).run P w=.ok b w:=by
       intro n
       induction n with
       | zero=>
         intro j g l vs b r m J F;simp only [aao,List.isEmpty_iff] at r;subst r;obtain ⟨C,K⟩:=xk m;obtain rfl:l=[]:=zap.1 C;obtain rfl:vs=[]:=zap.1 K;cases m;simp [Op.eqItems]
       | succ n ihn=>
         intro j g l vs b r m J F;simp only [aao,zah,decide_eq_true_eq] at r;obtain ⟨⟨f3,E⟩,Q⟩:=r;obtain ⟨M,b2,C,K,rfl⟩:=aap (P.cellsOf e) m;obtain ⟨N,O⟩:=xk C;have A:(g.take (P.cellsOf e)).length<=P.cellsOf e:=by simp; omega
         obtain ⟨x,S,R⟩:=tl E J.take N A;obtain ⟨y,T,L⟩:=tl E F.take O A;simp only [List.range'_succ,Op.eqItems,Sem.run_bind];rw [S,Result.andThen_ok,T,Result.andThen_ok,V E C R L,Result.andThen_ok];cases M
         ·simp
         have W:=J.drop (n:=P.cellsOf e);have U:=F.drop (n:=P.cellsOf e);rw [<- Nat.succ_mul] at W U;simpa using ihn (j+1) Q K W U
      rw [List.range_eq_range'];exact G n 0 a m (by simpa using I) (by simpa using z)
     all_goals
      simp only [zak,↓reduceIte] at B hv a;obtain ⟨u,rfl,B⟩:=B;obtain ⟨v,rfl,hv⟩:=hv
      match g,a,m with
      | [k],a,m=>
        simp only [eql] at m;split at m
        ·rename_i p q Z hq;cases hq;cases m;rw [Bool.and_true];exact atf (by simpa [r3,hd] using a) Z B hv
        cases m
theorem as7 {g:Bool} (r:g=true) {d:Bool} {k:List Nat} {op:BinOp} {t ty:TypeId} {x y:Operand} {u v:AV} (A:o.op=.binOp op t x y ty) (l:op=if d then .neq else .eql) (z:aq0 P t k=true)
 (j:RA X s ρ w u (a.eval x)) (hv:RA X s ρ w v (a.eval y)) (D:u.isA=true) (B:v.isA=true) (f:(su g d (eql k u.cells v.cells)).1):j5 P X a w s ρ o (su g d (eql k u.cells v.cells)).2:=by
 rcases he:eql k u.cells v.cells with _ | b
 ·rw [he] at f; first | exact (f r).elim | exact (f.2 r).elim
 simp only [aq0,zah,Bool.not_eq_true'] at z;obtain ⟨⟨E,q⟩,C⟩:=z;obtain ⟨cs,hc,p⟩:=afp j D;obtain ⟨e,m,h⟩:=afp hv B
 have n:(Op.equal t (.agg cs) (.agg e)).run P w=.ok b w:=by
  have:=ag0 (X:=X) (s:=s) (ρ:=ρ) (w:=w) 9996 4 E he (c:=.agg cs) (c':=.agg e) (by unfold tw; rw [if_pos q]; exact ⟨cs,rfl,fun i u j=>by simpa using p i u j⟩) (by unfold tw; rw [if_pos q]; exact ⟨e,rfl,fun i u j=>by simpa using h i u j⟩);exact this
 simp only [j5,execOp,A,hc,m];refine ⟨_,?_,x7 _⟩;subst l;cases d<;>simp [binOp,n,run_eqGuard_agg w _ t x y cs e C]
theorem avc {g:Bool} (c:g=true) {op:UnOp} {t:TypeId} {x:Operand} {u:AV} (e:o.op=.unOp op t x) (f:RA X s ρ w u (a.eval x)) (b:(un1 g op u).1):j5 P X a w s ρ o (un1 g op u).2:=by
 unfold un1 at b |-;split at b
 ·have d:=i7 f;simp only [j5,execOp,e,d];cases op<;>simp only [bad,c,true_implies,forall_const] at b |-
  all_goals first
   | first | exact (b c).elim | exact (b.2 c).elim
   | (refine ⟨_,?_,x7 _⟩; simp [Op.unary,Op.intArith,Op.intBits]; done)
 ·have d:=i7 f;simp only [j5,execOp,e,d];cases op<;>simp only [bad,c,true_implies,forall_const] at b |-
  all_goals first
   | first | exact (b c).elim | exact (b.2 c).elim
   | (refine ⟨_,?_,x7 _⟩; simp [Op.unary]; done)
 first | exact (b c).elim | exact (b.2 c).elim
theorem apv {g:Bool} (e:g=true) {k:IntKind} {t c:TypeId} {d:TypeDesc} {x:Operand} {u:AV} (f:o.op=.convert t c x) (l:P.underlying t=some d) (h:P.underlying c=some (.int k)) (i:RA X s ρ w u (a.eval x))
 (b:(kl g k u).1):j5 P X a w s ρ o (kl g k u).2:=by
 unfold kl at b |-;split at b
 ·have j:=i7 i;simp only [j5,execOp,f,j];refine ⟨_,?_,x7 _⟩;simp [convert,run_underlying l,run_underlying h,Conv.intToInt]
 first | exact (b e).elim | exact (b.2 e).elim
theorem m0 {ob:Obs} {ver:Nat} {r:Nat×RV×Bool×Bool×List RV} (h:g7 ob id ver=some r):ob id=some (ver,.row r.1 r.2.1 r.2.2.1 r.2.2.2.1 r.2.2.2.2):=by
 unfold g7 at h;split at h
 ·split at h
  ·rename_i b a;cases h;rw [b,a]
  cases h
 cases h
theorem bh {ob:Obs} {ver:Nat} {r:List AV} (h:l7 ob id ver=some r):ob id=some (ver,.box r):=by
 unfold l7 at h;split at h
 ·split at h
  ·rename_i b a;cases h;rw [b,a]
  cases h
 cases h
theorem adc {ob:Obs} {ver:Nat} {r:Unit} (h:bq ob id ver=some r):∃o,ob id=some (ver,o):=by
 unfold bq at h;split at h
 ·split at h
  ·rename_i b a;exact ⟨_,by rw [b,a]⟩
  cases h
 ·split at h
  ·rename_i b a;exact ⟨_,by rw [b,a]⟩
  cases h
 cases h
theorem At.live {ob:Obs} {ver:Nat} {X:Ob->Prop} {o:Ob} (h:At ob id ver X) (a:ob id=some (ver,o)):X o:=by
 obtain ⟨v,o',c,d,b⟩:=h;rw [c] at a;cases a;exact b rfl
theorem gn {ver lo len:Nat} {r:Nat×RV×Bool×Bool×List RV} (h:RA X s ρ w (.own id ver lo len) c) (a:g7 s.ob id ver=some r) :
 xq w ρ id lo len c (.row r.1 r.2.1 r.2.2.1 r.2.2.2.1 r.2.2.2.2):=by
 cases h;rename_i h;exact h.live (m0 a)
theorem as1 {g:Bool} (y:g=true) {str:Bool} {x:Operand} {u:AV} {t:TypeId} {d:TypeDesc} {c:Call} (F:o.op=.call c) (hc:c.callee=.builtin .len) (hx:c.args=#[x]) (E:c.argTypes=#[t]) (z:P.underlying t=some d)
 (i:vo str d=true) (p:RA X s ρ w u (a.eval x))
 (f:(lw g str u s.ob).ok):j5 P X a w s ρ o (lw g str u s.ob).v:=by
 have l:∀(m:Nat) (v:Value),a.eval x=v->(∀e,d=.slice e->∃A k,v=.slice A m k)->(d=.string->∃b,v=.string b/\b.size=m)->j5 P X a w s ρ o (int .i64 m):=by
  intro m v hv D G;simp only [j5,execOp,F];refine ⟨_,?_,x7 _⟩;unfold vo at i;split at i
  ·rename_i z;obtain ⟨b,rfl,rfl⟩:=G rfl;simp [resolve,hc,hx,E,hv,invoke,builtin,Builtin.len_,run_underlying z,goInt]
  ·rename_i z;obtain ⟨A,k,rfl⟩:=D _ rfl;simp [resolve,hc,hx,E,hv,invoke,builtin,Builtin.len_,run_underlying z,goInt]
  cases i
 unfold lw at f |-;split at f
 ·cases p;rename_i p;generalize hv:a.eval x=v at p;cases p;rename_i A cap M b o g hc O B L y;refine l _ _ hv (fun e j=>⟨A,cap,rfl⟩) (fun j=>?_);subst j;simp only [vo] at i;have:=f.1;rw [i] at this;cases this
 ·have D:=i7 p;refine l _ _ D (fun e j=>?_) (fun j=>⟨_,rfl,rfl⟩);subst j;have:=f.1;simp only [vo] at i;rw [this] at i;cases i
 ·generalize hv:a.eval x=v at p;cases p;refine l 0 _ hv (fun e j=>⟨_,_,rfl⟩) (fun j=>?_);subst j;simp only [vo] at i;have:=f.1;rw [i] at this;cases this
 ·split at f
  ·rename_i r B;obtain ⟨A,cap,C,K,H,N,J⟩:=gn p B;simp only [B];refine l _ _ C (fun e j=>⟨_,_,rfl⟩) (fun j=>?_);subst j;simp only [vo] at i;have:str=false:=f;rw [i] at this;cases this
  rename_i id ver _ n _ I;rcases hb:l7 s.ob id ver with _ | q
  ·rw [hb] at f;exact (f y).elim
  rw [hb] at f
  obtain ⟨A,cap,C,K,H,J⟩:xq w ρ _ _ _ (a.eval x) (.box q):=by
   cases p;rename_i h;exact h.live (bh hb)
  refine l _ _ C (fun e j=>⟨_,_,rfl⟩) (fun j=>?_);subst j;simp only [vo] at i;have:str=false:=f;rw [i] at this;cases this
 first | exact (f y).elim | exact (f.2 y).elim | exact f.2.elim
theorem z5 (b o k:Nat):(⟨b,o,none⟩:Addr).add k=⟨b,o+k,none⟩:=by
 unfold Addr.add; split<;>simp_all
theorem avf {g:Bool} (C:g=true) {t e:TypeId} {i:TypeInfo} {sz:Nat} {z:RV} {x y:Operand} {u v:AV} (I:o.op=.indexAddr t x y) (N:P.underlying t=some (.slice e)) (hi:P.info? e=some i)
 (V:i.size=sz) (D:RA X s ρ w u (a.eval x)) (hv:RA X s ρ w v (a.eval y))
 (d:(ia2 g sz z u v s.ob).ok):j5 P X a w s ρ o (ia2 g sz z u v s.ob).v:=by
 unfold ia2 at d |-;subst V;split at d
 ·rename_i sz O k m;have G:=i7 hv;obtain ⟨rfl,n⟩:=d;obtain ⟨n,R⟩:=n C;cases D;rename_i D;generalize hc:a.eval x=c at D;cases D;rename_i A cap hm b o' U S hA F T E;obtain ⟨rfl,hR⟩:=hA (by omega);obtain ⟨f,rfl⟩:∃f:Nat,m=(f:Int):=⟨m.toNat,by omega⟩
  have l:f<O.length:=by omega
  simp only [j5,execOp,I];refine ⟨.pointer (some ⟨b,o'+f*i.size,none⟩),?_,?_⟩
  ·simp [Instr.indexAt,asIntOf,G,hc,run_underlying N,sizeOf,typeInfo,hi,l,z5]
  simp only [Vs.q,zal];have hx:O[f]?=some (O.getD f z):=by simp [l]
  exact .rp _ b _ (fun j=>U f j) hR fun j y Q=>⟨(E f _ j y hx Q).1,(E f _ j y hx Q).2,F f _ j y hx Q⟩
 ·rename_i id ver lo m k q;split at d
  ·rename_i J r F;have G:=i7 hv;obtain ⟨B,n⟩:=d;obtain ⟨n,R⟩:=n C;obtain ⟨A,cap,K,e2,Y,Z,M⟩:=gn D F;obtain ⟨b,cs,ee,fr,H,L,f3,W⟩:=M (by omega);obtain ⟨f,rfl⟩:∃f:Nat,q=(f:Int):=⟨q.toNat,by omega⟩
   simp only [F];simp only [j5,execOp,I];refine ⟨.pointer (some ⟨b,(lo+f)*J+0,none⟩),?_,?_⟩
   ·have l:f<m:=by omega
    simp [Instr.indexAt,asIntOf,G,K,L,run_underlying N,sizeOf,typeInfo,hi,l,z5,B,Nat.add_mul]
   refine .oel id ver _ 0 _ rfl ⟨ver,_,m0 F,zaa _,fun _=>?_⟩;exact ⟨by rw [zal]; simp only at Z |-; omega,Nat.zero_le _,b,H,by rw [zal]⟩
  rcases hb:l7 s.ob id ver with _ | p
  ·rw [hb] at d;exact (d C).elim
  rw [hb] at d;have G:=i7 hv;obtain ⟨B,n⟩:=d;obtain ⟨n,R⟩:=n C
  obtain ⟨A,cap,K,e2,Y,M⟩:xq w ρ id lo m (a.eval x) (.box p):=by
   cases D;rename_i h;exact h.live (bh hb)
  obtain ⟨b,cs,ee,fr,H,L,f3,W⟩:=M (by omega);obtain ⟨f,rfl⟩:∃f:Nat,q=(f:Int):=⟨q.toNat,by omega⟩
  simp only [j5,execOp,I,iab];refine ⟨.pointer (some ⟨b,lo+f,none⟩),?_,?_⟩
  ·have l:f<m:=by omega
   simp [Instr.indexAt,asIntOf,G,K,L,run_underlying N,sizeOf,typeInfo,hi,l,z5,B]
  exact .ptr id ver _ _ rfl ⟨ver,_,bh hb,zaa _,fun _=>⟨b,H,by rw [zal]⟩⟩
 first | exact (d C).elim | exact (d.2 C).elim | exact d.2.elim
theorem am1 {g:Bool} (j:g=true) {e:Bool}:∀{vs:List AV} {cs:List Value} {u:AV} {c:Value},(mmL g e u vs).1->RA X s ρ w u c->vs.length=cs.length->(∀(i:Nat) (x:AV) (y:Value),vs[i]?=some x->cs[i]?=some y->RA X s ρ w x y) ->
 ∃r,(cs.foldlM (bif e then Builtin.max2 else Builtin.min2) c).run P w=.ok r w/\RA X s ρ w (mmL g e u vs).2 r
 | [],[],u,c,hok,hu,hl,h=>by
   have l:mmL g e u []=(True,u):=by unfold mmL; rfl
   exact ⟨c,by simp,by rw [l]; exact hu⟩
 | v::vs,d::cs,u,c,hok,hu,hl,h=>by
   have hv:=h 0 v d rfl rfl;unfold mmL at hok;split at hok
   ·rename_i f;cases f
   ·rename_i k a n b ys f;cases f;have o:=i7 hu;have m:=i7 hv;subst o; subst m;obtain ⟨r,g1,g2⟩   := am1 j (cs:=cs) hok (x7 (.int k (bif e then max a b else min a b))) (by simpa using hl) (fun i x y hx hy=>h (i+1) x y (by simpa using hx) (by simpa using hy));refine ⟨r,?_,?_⟩
    ·rw [List.foldlM_cons,Sem.run_bind]
     have:((bif e then Builtin.max2 else Builtin.min2) (.int k a) (.int n b)).run P w=.ok (.int k (bif e then max a b else min a b)) w:=by
      cases e
      ·simp only [cond_false,Builtin.min2,Sem.run_pure];congr 2;rw [Int.min_def];split<;>split<;>omega
      simp only [cond_true,Builtin.max2,Sem.run_pure];congr 2;rw [Int.max_def];split<;>split<;>omega
     rw [this,Result.andThen_ok];exact g1
    rw [mmL]; exact g2
   first | exact (hok j).elim | exact (hok.2 j).elim
 | [],_::_,_,_,_,_,hl,_=>by cases hl
 | _::_,[],_,_,_,_,hl,_=>by cases hl
theorem ave {g:Bool} (k:g=true) {d:Bool} {c:Call} {x:Operand} {ys:List Operand} {u:AV} {vs:List AV} (f:o.op=.call c) (hc:c.callee=.builtin (if d then .max else .min)) (hx:c.args.toList=x::ys) (l:RA X s ρ w u (a.eval x))
 (j:vs.length=ys.length) (hv:∀(i:Nat) (v:AV) (y:Operand),vs[i]?=some v->ys[i]?=some y->RA X s ρ w v (a.eval y)) (e:(mmL g d u vs).1):j5 P X a w s ρ o (mmL g d u vs).2:=by
 obtain ⟨r,h1,h2⟩   := am1 k (P:=P) (cs:=ys.map a.eval) e l (by simp [j]) (fun i x y hx hy=>by
  rw [List.getElem?_map,zaq] at hy;obtain ⟨z,h,rfl⟩:=hy
  exact hv i x z hx h)
 have b:c.args=(x::ys).toArray:=by rw [<- hx]
 refine ⟨r,?_,h2⟩;cases d
 ·simp only [if_false,cond_false,zak] at h1 hc;simp [execOp,f,resolve,hc,b,invoke,builtin,Builtin.min_,h1]
 simp only [if_true,cond_true] at h1 hc;simp [execOp,f,resolve,hc,b,invoke,builtin,Builtin.max_,h1]
theorem as3 {g:Bool} (l:g=true) {t e:TypeId} {i:TypeInfo} {n sz:Nat} {x y:Operand} {u v:AV} (H:o.op=.indexAddr t x y) (Q:P.underlying t=some (.array n e)) (hi:P.info? e=some i)
 (I:i.size=sz) (E:RA X s ρ w u (a.eval x)) (hv:RA X s ρ w v (a.eval y)) (d:(et g n sz u v s.ob).ok):j5 P X a w s ρ o (et g n sz u v s.ob).v:=by
 subst I
 have q:∀b o' k (m:Int),a.eval x=.pointer (some ⟨b,o',none⟩)->a.eval y=.int k m->0<=m->m<n->(execOp a.eval o).run P w=.ok (.value (.pointer (some ⟨b,o'+m.toNat*i.size,none⟩))) w:=by
  intro b o' k m hx hy M N;simp [execOp,H,hx,hy,Instr.indexAt,asIntOf,run_underlying Q,Instr.sureAddr,sizeOf,typeInfo,hi,z5,M,N]
 unfold et at d |-;split at d
 ·rename_i id ver o' k m;split at d
  ·rename_i r B;have z:=bh B;have C:=i7 hv;cases E;rename_i h;obtain ⟨b,p,hc⟩:=h.live z;simp only [B];exact ⟨_,q b _ k m hc C (d l).1 (d l).2,.ptr _ _ _ _ rfl ⟨_,_,z,zaa _,fun _=>⟨b,p,rfl⟩⟩⟩
  first | exact (d l).elim | exact (d.2 l).elim | exact d.2.elim
 ·rename_i id ver idx o' k m;split at d
  ·rename_i J r B;have z:=m0 B;have C:=i7 hv;cases E;rename_i h;obtain ⟨A,F,b,p,hc⟩:=h.live z;simp only [B];obtain ⟨D,K,R⟩:=d l;refine ⟨_,q b _ k m hc C D K,.oel _ _ _ _ _ rfl ⟨_,_,z,zaa _,fun _=>⟨A,?_,b,p,?_⟩⟩⟩
   ·have:m.toNat*i.size<=n*i.size:=Nat.mul_le_mul_right _ (by omega);simp only;omega
   rw [zaj]
  first | exact (d l).elim | exact (d.2 l).elim | exact d.2.elim
 ·rename_i ys k m;have C:=i7 hv;generalize hc:a.eval x=c at E;cases E;rename_i b o' f O L;obtain ⟨_,D⟩:=d;refine ⟨_,q b o' k m hc C (D l).1 (D l).2,.rp _ b _ (fun j=>f (m.toNat*i.size+j)) O fun j y G=>?_⟩;rw [zab] at G;have:=L (m.toNat*i.size+j) y G;rw [<- zaj] at this;exact this
 first | exact (d l).elim | exact (d.2 l).elim | exact d.2.elim
def th:Array Value->Sem Value:=fun a=>do
 let (x, y, b) ← Extern.MathBitsCarry.three "Sub64" a
 pure (Extern.MathBitsCarry.pair ((x+Extern.MathBitsCarry.m64-y-b)%Extern.MathBitsCarry.m64) (if x<y+b then 1 else 0))
theorem am0 (x y b:Nat) (a:b<=1) (w:World) :
 (th #[.int .u64 x,.int .u64 y,.int .u64 b]).run P w =
  .ok (.tuple #[.int .u64 (((x+18446744073709551616-y-b)%18446744073709551616:Nat):Int),.int .u64 ((if x<y+b then 1 else 0:Nat):Int)]) w:=by
 have:b=0\/b=1:=by omega
 rcases this with rfl | rfl<;>rfl
theorem aly {b : Bool} {a : Func} (i : a.name = if b then "math/bits.Sub64" else "math/bits.Add64") (j : a.origin = "" ∨ a.origin = a.name) :
 Extern.findNext a = none ∧ Extern.find a = some (if b then th else add64Entry) ∧ (a.name == "runtime.NumGoroutine") = false := by
 have c : a.origin = "" ∨ a.origin = if b then "math/bits.Sub64" else "math/bits.Add64" := by rw [← i]; exact j
 unfold Extern.findNext Extern.find;rw [i];cases b<;>simp only [if_true,if_false,zak] at c |-
 ·have h : Extern.allGenericRows.lookup "math/bits.Add64" = none := by kernel_rfl
  have e : Extern.allTypedRows.lookup "math/bits.Add64" = none := by kernel_rfl
  have g : Extern.allRows.lookup "math/bits.Add64" = some add64Entry := by kernel_rfl
  have f : Extern.allNextRows.lookup "math/bits.Add64" = none := by kernel_rfl
  have d : Extern.allNextRows.lookup "" = none := by kernel_rfl
  refine ⟨?_,?_,by decide⟩
  ·rcases c with c | c<;>simp [c,f,d]
  simp [h,e,g]
 have h : Extern.allGenericRows.lookup "math/bits.Sub64" = none := by kernel_rfl
 have e : Extern.allTypedRows.lookup "math/bits.Sub64" = none := by kernel_rfl
 have g : Extern.allRows.lookup "math/bits.Sub64" = some th := by kernel_rfl
 have f : Extern.allNextRows.lookup "math/bits.Sub64" = none := by kernel_rfl
 have d : Extern.allNextRows.lookup "" = none := by kernel_rfl
 refine ⟨?_,?_,by decide⟩
 ·rcases c with c | c<;>simp [c,f,d]
 simp [h,e,g]
theorem ams {g:Bool} (B:g=true) {h:Bool} {c:Call} {f:FuncId} {x y z:Operand} {u v t:AV} (G:o.op=.call c) (hc:c.callee=.value (.func f)) (l:aeu P h f=true) (hx:c.args.toList=[x,y,z])
 (T:RA X s ρ w u (a.eval x)) (hv:RA X s ρ w v (a.eval y)) (S:RA X s ρ w t (a.eval z)) (e:(du g h u v t).1):j5 P X a w s ρ o (du g h u v t).2:=by
 unfold du at e |-;split at e
 ·rename_i p q r;have O:=i7 T;have J:=i7 hv;have H:=i7 S;obtain ⟨D,E,C,I,W,V⟩:=e B;have j:c.args=#[x,y,z]:=by rw [show c.args=c.args.toList.toArray by simp,hx]
  unfold aeu at l;split at l
  ·rename_i U A;simp only [zah,Bool.or_eq_true,beq_iff_eq] at l;obtain ⟨⟨F,Q⟩,M⟩:=l;obtain ⟨N,R,K⟩:=aly Q M;have k:=fun m w=>run_callFunc_extern (P:=P) A K F N R m w
   have b:(execOp a.eval o).run P w=(((if h then th else add64Entry) #[.int .u64 p,.int .u64 q,.int .u64 r]).run P w).andThen (fun v L=>Result.ok (Next.value v) L):=by
    have n:c.args.map a.eval=#[.int .u64 p,.int .u64 q,.int .u64 r]:=by rw [j,<- O,<- J,<- H]; simp
    rw [<- k,<- n];simp [execOp,G,resolve,hc,Act.eval,Deferred.ofValue,invoke]
    try rfl
   cases h
   ·simp only [if_false,zak] at b;rw [run_add64 p q r D E C I,Result.andThen_ok] at b;refine ⟨_,b,.tup _ _ rfl fun i x c hx hc=>?_⟩;rcases i with _ | _ | i
    ·simp at hx hc; subst hx; subst hc; exact x7 _
    ·simp at hx hc; subst hx; subst hc; exact x7 _
    simp at hx
   simp only [if_true] at b;obtain ⟨p,rfl⟩:=zar D;obtain ⟨q,rfl⟩:=zar E;obtain ⟨r,rfl⟩:=zar C;have d:=b;rw [am0 p q r (by omega),Result.andThen_ok] at d;refine ⟨_,d,.tup _ _ rfl fun i x c hx hc=>?_⟩;rcases i with _ | _ | i
   ·simp only [zas,List.getElem?_cons_zero,Option.some.injEq] at hx hc;subst hx; subst hc;have:(((p+18446744073709551616-q-r)%18446744073709551616:Nat):Int)=((p:Int)+18446744073709551616-q-r)%18446744073709551616:=by omega
    rw [this];exact x7 _
   ·simp only [zas,List.getElem?_cons_zero,List.getElem?_cons_succ,Option.some.injEq] at hx hc;subst hx; subst hc;have:((if p<q+r then 1 else 0:Nat):Int)=if (p:Int)<q+r then 1 else 0:=by split<;>split<;>omega
    rw [<- this];exact x7 _
   simp at hx
  cases l
 first | exact (e B).elim | exact (e.2 B).elim
theorem as2 {g:Bool} (f:g=true) {t:TypeId} {x y:Operand} {u v:AV} (h:o.op=.index t x y) (q:P.underlying t=some .string)
 (r:RA X s ρ w u (a.eval x)) (hv:RA X s ρ w v (a.eval y)) (c:(qe g u v).1):j5 P X a w s ρ o (qe g u v).2:=by
 unfold qe at c |-;split at c
 ·rename_i b k m;have p:=i7 r;have l:=i7 hv;obtain ⟨z,A⟩:=c f;obtain ⟨d,rfl⟩:∃d:Nat,m=(d:Int):=⟨m.toNat,by omega⟩
  have e:d<b.size:=by omega
  simp only [j5,execOp,h];refine ⟨_,?_,x7 _⟩
  have i:b[d]?=some (b.data.toList.getD d 0):=by
   have n:d<b.data.size:=e;have j:b[d]?=some (b[d]'e):=getElem?_pos b d e;rw [j];simp only [List.getD_eq_getElem?_getD,Array.getElem?_toList];rw [Array.getElem?_eq_getElem n]
   rfl
  simp [Instr.index,asIntOf,p,l,run_underlying q,i]
 first | exact (c f).elim | exact (c.2 f).elim
theorem asy {g:Bool} (i:g=true) {x:Operand} {u:AV} (k:o.op=.nilCheck x) (f:RA X s ρ w u (a.eval x)) (d:(nm g u s.ob).ok):j5 P X a w s ρ o (nm g u s.ob).v:=by
 unfold nm at d |-;split at d
 ·split at d
  ·rename_i r j;have e:=f;cases f;rename_i h;obtain ⟨o',l⟩:=adc j;obtain ⟨b,_,hc⟩:=h.live l;simp only [j5,execOp,k,hc,j];exact ⟨_,rfl,by rw [<- hc]; exact e⟩
  first | exact (d i).elim | exact (d.2 i).elim | exact d.2.elim
 ·split at d
  ·rename_i r j;have e:=f;cases f;rename_i h;obtain ⟨_,_,b,_,hc⟩:=h.live (m0 j);simp only [j5,execOp,k,hc,j];exact ⟨_,rfl,by rw [<- hc]; exact e⟩
  first | exact (d i).elim | exact (d.2 i).elim | exact d.2.elim
 ·have e:=f;generalize hc:a.eval x=c at f e;cases f;simp only [j5,execOp,k,hc];exact ⟨_,rfl,e⟩
 ·have e:=f;generalize hc:a.eval x=c at f e;cases f;simp only [j5,execOp,k,hc];exact ⟨_,rfl,e⟩
 first | exact (d i).elim | exact (d.2 i).elim | exact d.2.elim
theorem afc (b o:Nat) (cs:List Value) (h:∀j v,cs[j]?=some v->w.cell? ⟨b,o+j,none⟩=some v):(loadCells ⟨b,o,none⟩ cs.length).run P w=.ok cs.toArray w:=
 run_loadCells_list w ⟨b,o,none⟩ cs fun j v hv=>by rw [z5]; exact h j v hv
theorem agz {t:TypeId} {m:Option Nat} (f:wu P t m=true) (b o:Nat) (cs:List Value) (a:cs.length=m.getD 1) (h:∀j v,cs[j]?=some v->w.cell? ⟨b,o+j,none⟩=some v) :
 (Instr.loadAt t (.pointer (some ⟨b,o,none⟩))).run P w=.ok (match m with | none=>cs.getD 0 undef | some _=>.agg cs.toArray) w:=by
 unfold wu at f;split at f
 ·rename_i q i l hi;have:m=some i.size:=by simpa using f
  subst this;have g:=afc (P:=P) b o cs h;simp only [zae] at a;rw [a] at g;simp [Instr.loadAt,Instr.sureAddr,loadVar,isAgg,run_underlying l,sizeOf,typeInfo,hi,g]
 ·rename_i k e i l hi;have:m=some i.size:=by simpa using f
  subst this;have g:=afc (P:=P) b o cs h;simp only [zae] at a;rw [a] at g;simp [Instr.loadAt,Instr.sureAddr,loadVar,isAgg,run_underlying l,sizeOf,typeInfo,hi,g]
 ·rename_i d i r p l hi;have:m=none:=by simpa using f
  subst this;simp only [zaf] at a;obtain ⟨c,rfl⟩:=List.length_eq_one_iff.1 a;have hc:=h 0 c rfl;simp only [Nat.add_zero] at hc
  have n:(isAgg t).run P w=.ok false w:=by
   simp only [isAgg,Sem.run_bind,run_underlying l,Result.andThen_ok]
   rfl
  simp [Instr.loadAt,Instr.sureAddr,loadVar,n,hc]
 cases f
theorem as5 {g:Bool} (f:g=true) {x:Operand} {u:AV} (j:o.op=.extract x i) (e:RA X s ρ w u (a.eval x)) (b:(qi g i u).1):j5 P X a w s ρ o (qi g i u).2:=by
 unfold qi at b |-;split at b
 ·rename_i l;generalize hc:a.eval x=c at e;cases e;rename_i cs m h;have d:i<cs.size:=by omega
  simp only [j5,execOp,j,hc];refine ⟨cs[i],?_,h i _ _ ?_ (by simp [d])⟩
  ·simp [Instr.extract,d]
  have k:i<l.length:=b;simp [k]
 first | exact (b f).elim | exact (b.2 f).elim
theorem arb {ys:List RV} {o:Nat} {g:Nat->Value} (e:∀(j:Nat) (y:RV),ys[j]?=some y->w.cell? ⟨b,o+j,none⟩=some (g j)) :
 ((List.range ys.length).map g).length=ys.length/\∀j v,((List.range ys.length).map g)[j]?=some v->w.cell? ⟨b,o+j,none⟩=some v:=by
 refine ⟨by simp,fun j v d=>?_⟩;rw [List.getElem?_map,zaq] at d;obtain ⟨k,f,rfl⟩:=d;obtain ⟨a,c⟩:=zam.1 f;rw [List.getElem_range] at c;subst c;rw [List.length_range] at a;exact e j ys[j] (by simp [a])
theorem amq {m:Option Nat} {t:TypeId} {x:Operand} {ys:List RV} {o':Nat} {f:Nat->Value} {R:Nat->Prop} (r:o.op=.load t x) (u:wu P t m=true) (hx:a.eval x=.pointer (some ⟨b,o',none⟩))
 (n:∀(j:Nat) (y:RV),ys[j]?=some y->w.cell? ⟨b,o'+j,none⟩=some (f j)/\(f j).oneCell'=true/\RelV w R y (f j)) (e:m.getD 1<=ys.length) :
 ∃c,(execOp a.eval o).run P w=.ok (.value c) w/\RelV w R (match m with | none=>ys.getD 0 (.v (.bool false)) | some k=>.agg (ys.take k)) c:=by
 obtain ⟨q,p⟩:=arb (ys:=ys.take (m.getD 1)) (w:=w) (b:=b) (o:=o') (g:=f) fun j y d=>by
  rw [zad] at d;split at d
  ·exact (n j y d).1
  cases d
 rw [List.length_take,Nat.min_eq_left e] at q p;have s:=agz u b o' _ q p;simp only [execOp,r,hx];refine ⟨_,by simp only [Sem.run_bind,s,Result.andThen_ok]; rfl,?_⟩;cases m with
 | none=>
   simp only [zaf] at e |-;have:ys[0]?=some (ys.getD 0 (.v (.bool false))):=by simp [show 0<ys.length by omega]
   have:=(n 0 _ this).2.2;simpa using this
 | some k=>
   simp only [zae] at e |-;refine .agg _ _ (by simp; omega) fun i x c hx hc=>?_;rw [zad] at hx;split at hx
   ·rename_i h
    have l:c=f i:=by
     simp [h] at hc;exact hc.symm
    subst l;exact (n i x hx).2.2
   cases hx
theorem ar1 (b:Gam X s ρ a w) {ver:Nat} {ob:Ob} (h:s.ob id=some (ver,ob)):y8 w (d7 X.B s.ob ρ w) s.ob ρ id ob:=b.obj id ver ob h
theorem amr {g:Bool} (D:g=true) {m:Option Nat} {t:TypeId} {x:Operand} {u:AV} (hG:Gam X s ρ a w) (T:o.op=.load t x) (U:wu P t m=true) (V:RA X s ρ w u (a.eval x))
 (d:(ld1 g m u s.ob).ok):j5 P X a w s ρ o (ld1 g m u s.ob).v:=by
 unfold ld1 at d |-;split at d
 ·rename_i id ver l;unfold ldb at d |-;split at d
  ·rename_i E W;have K:=bh W;cases V;rename_i h;obtain ⟨b,G,hc⟩:=h.live K;obtain ⟨b',cs,e,p,hh,h0,F⟩:=ar1 hG K;rw [G] at p;cases p;have n:∀j,w.cell? ⟨b,j,none⟩=cs[j]?:=fun j=>by simp [World.cell?,hh]
   cases m with
   | none=>
     have N:l<E.length:=d D;have hx:cs[l]?=some cs[l]:=by simp [show l<cs.size by omega]
     have I:=agz (P:=P) (w:=w) U b l [cs[l]] rfl fun j v C=>by
      cases j with
      | zero=>simp at C; subst C; rw [n]; simpa using hx
      | succ j=>simp at C
     simp only [j5,execOp,T,hc];refine ⟨_,by simp only [Sem.run_bind,I,Result.andThen_ok]; rfl,?_⟩;simp only [List.getD_cons_zero];exact F l _ _ (by simp [N]) hx
   | some k=>
     have N:l+k<=E.length:=d D
     have I:=agz (P:=P) (w:=w) U b l ((cs.toList.drop l).take k) (by simp; omega) fun j v C=>by
      rw [zad] at C;split at C
      ·rw [zab] at C;rw [n];simpa using C
      cases C
     simp only [j5,execOp,T,hc];refine ⟨_,by simp only [Sem.run_bind,I,Result.andThen_ok]; rfl,?_⟩;refine .agg _ _ (by simp; omega) fun i x c hx R=>?_;rw [zad] at hx;split at hx
     ·rename_i h4;rw [zab] at hx;refine F (l+i) x c hx ?_;simp only [zas,zad,h4,if_true,zab] at R;simpa using R
     cases hx
  first | exact (d D).elim | exact (d.2 D).elim | exact d.2.elim
 ·rename_i id ver idx l;unfold ldr at d |-;split at d
  ·rename_i sz z h7 wr xs W;have K:=m0 W;cases V;rename_i h;obtain ⟨A,O,b,G,hc⟩:=h.live K;simp only at A O;have M:=ar1 hG K;simp only [y8] at M;rcases M with ⟨L,_⟩ | ⟨b',cs,e,fr,p,hh,h6,h5,h0,Y⟩
   ·rw [L] at A; simp at A
   rw [G] at p;cases p;have hx:xs[idx]?=some (xs.getD idx z):=by simp [A]
   obtain ⟨hl,S⟩:=Y idx _ hx;generalize xs.getD idx z=y at hl S |-;have n:∀j,w.cell? ⟨b,j,none⟩=cs[j]?:=fun j=>by simp [World.cell?,hh]
   have Q:∃f:Nat->Value,∀(j:Nat) (q:RV),(y.cells.drop l)[j]?=some q->w.cell? ⟨b,idx*sz+l+j,none⟩=some (f j)/\(f j).oneCell'=true/\RelV w (d7 X.B s.ob ρ w) q (f j):=by
    refine ⟨fun j=>(cs[idx*sz+(l+j)]?).getD undef,fun j q C=>?_⟩;rw [zab] at C;obtain ⟨c,J,H,h3⟩:=S _ q C;simp only [J,zae];refine ⟨?_,H,h3⟩;rw [n,zaj,J]
   obtain ⟨f,hf⟩:=Q
   have Z:m.getD 1<=(y.cells.drop l).length:=by
    rw [List.length_drop,hl];cases m with
    | none=>have:l<sz:=d D; simp only [zaf]; omega
    | some k=>have:l+k<=sz:=d D; simp only [zae]; omega
   obtain ⟨c,J,H⟩:=amq (P:=P) (a:=a) T U hc hf Z;refine ⟨c,J,?_⟩;cases m with
   | none=>
     refine .r ?_;simpa using H
   | some k=>exact .r H
  first | exact (d D).elim | exact (d.2 D).elim | exact d.2.elim
 ·rename_i ys;generalize hc:a.eval x=c at V;cases V;rename_i b o' f hR hf
  have Z:m.getD 1<=ys.length:=by
   cases m with
   | none=>have:0<ys.length:=d.2 D; simp only [zaf]; omega
   | some k=>have:k<=ys.length:=d.2 D; simpa using this
  obtain ⟨c,J,H⟩:=amq (P:=P) (a:=a) T U hc hf Z;refine ⟨c,J,?_⟩;cases m with
  | none=>exact .r H
  | some k=>exact .r H
 cases m<;>first | exact (d D).elim | exact (d.2 D).elim | exact d.2.elim
theorem avg {g:Bool} (n:g=true) {t:TypeId} {e:Nat} {x:Operand} {u:AV} {C:Array Go.Field} {B:Go.Field} {i:TypeInfo} (F:o.op=.fieldAddr t x k) (L:P.underlying t=some (.struct C)) (H:C[k]?=some B)
 (G:P.info? B.type=some i) (I:B.offset=e) (K:i.size≠0) (A:RA X s ρ w u (a.eval x)) (d:(fa1 g e u s.ob).ok):j5 P X a w s ρ o (fa1 g e u s.ob).v:=by
 have m:∀b o',a.eval x=.pointer (some ⟨b,o',none⟩)->(execOp a.eval o).run P w=.ok (.value (.pointer (some ⟨b,o'+e,none⟩))) w:=by
  intro b o' hx;simp [execOp,F,hx,Instr.fieldAt,run_underlying L,H,Instr.sureAddr,fieldPlace,sizeOf,typeInfo,G,K,z5,I]
 unfold fa1 at d |-;split at d
 ·split at d
  ·rename_i r z;have p:=bh z;cases A;rename_i h;obtain ⟨b,l,hc⟩:=h.live p;simp only [z];exact ⟨_,m b _ hc,.ptr _ _ _ _ rfl ⟨_,_,p,zaa _,fun _=>⟨b,l,rfl⟩⟩⟩
  first | exact (d n).elim | exact (d.2 n).elim | exact d.2.elim
 ·split at d
  ·rename_i sz r z;have p:=m0 z;cases A;rename_i h;obtain ⟨q,D,b,l,hc⟩:=h.live p;simp only [z];refine ⟨_,m b _ hc,.oel _ _ _ _ _ rfl ⟨_,_,p,zaa _,fun _=>⟨q,d n,b,l,?_⟩⟩⟩;rw [zaj]
  first | exact (d n).elim | exact (d.2 n).elim | exact d.2.elim
 ·generalize hc:a.eval x=c at A;cases A;rename_i b o' f M J;refine ⟨_,m b o' hc,.rp _ b _ (fun j=>f (e+j)) M fun j y E=>?_⟩;rw [zab] at E;have:=J (e+j) y E;rw [<- zaj] at this;exact this
 first | exact (d n).elim | exact (d.2 n).elim | exact d.2.elim
def ldv (cs:Array Value) (a:Nat):Option Nat->Value
 | none=>cs.getD a undef
 | some k=>.agg (cs.extract a (a+k))
theorem agy {t:TypeId} {m:Option Nat} (b:wu P t m=true) (cs:Array Value) (a:Nat) (c:a+m.getD 1<=cs.size) :
 (part t cs a).run P w=.ok (ldv cs a m) w:=by
 unfold wu at b;split at b
 ·rename_i j i f hi;have:m=some i.size:=by simpa using b
  subst this;simp [part,isAgg,run_underlying f,sizeOf,typeInfo,hi,ldv]
 ·rename_i k e i f hi;have:m=some i.size:=by simpa using b
  subst this;simp [part,isAgg,run_underlying f,sizeOf,typeInfo,hi,ldv]
 ·rename_i d i l h f hi;have:m=none:=by simpa using b
  subst this;simp only [zaf] at c
  have g:(isAgg t).run P w=.ok false w:=by
   simp only [isAgg,Sem.run_bind,run_underlying f,Result.andThen_ok]
   rfl
  simp [part,g,show a<cs.size by omega,ldv]
 cases b
theorem as4 {g:Bool} (p:g=true) {t:TypeId} {l:Nat} {m:Option Nat} {x:Operand} {u:AV} {D:Array Go.Field} {d:Go.Field} (B:o.op=.field t x k) (F:P.underlying t=some (.struct D)) (C:D[k]?=some d)
 (G:d.offset=l) (E:wu P d.type m=true) (v:RA X s ρ w u (a.eval x)) (f:(qh g l m u).1):j5 P X a w s ρ o (qh g l m u).2:=by
 subst G;unfold qh at f |-;split at f
 ·rename_i n;generalize hc:a.eval x=c at v;cases v;rename_i cs H h
  have b:d.offset+m.getD 1<=cs.size:=by
   cases m with
   | none=>have:d.offset<n.length:=f p; simp only [zaf]; omega
   | some q=>have:d.offset+q<=n.length:=f p; simp only [zae]; omega
  have z:=agy (P:=P) (w:=w) E cs d.offset b
  have j:(execOp a.eval o).run P w=.ok (.value (ldv cs d.offset m)) w:=by
   simp only [execOp,B,hc,Instr.field,Sem.run_bind,run_underlying F,Result.andThen_ok,C,asAgg,Sem.run_pure,z]
  refine ⟨_,j,?_⟩;cases m with
  | none=>
    simp only [zaf] at b;simp only;exact h d.offset _ _ (by simp [show d.offset<n.length by omega]) (by simp [show d.offset<cs.size by omega,ldv])
  | some q=>
    simp only [zae] at b;simp only;refine .agg _ _ (by simp; omega) fun i y c hy e=>?_;rw [zad] at hy;split at hy
    ·rename_i A;rw [zab] at hy;refine h (d.offset+i) y c hy ?_;rw [Array.getElem?_extract] at e;split at e
     ·exact e
     cases e
    cases hy
 ·rename_i n;generalize hc:a.eval x=c at v;cases v;rename_i v;cases v;rename_i cs H h
  have b:d.offset+m.getD 1<=cs.size:=by
   cases m with
   | none=>have:d.offset<n.length:=f p; simp only [zaf]; omega
   | some q=>have:d.offset+q<=n.length:=f p; simp only [zae]; omega
  have z:=agy (P:=P) (w:=w) E cs d.offset b
  have j:(execOp a.eval o).run P w=.ok (.value (ldv cs d.offset m)) w:=by
   simp only [execOp,B,hc,Instr.field,Sem.run_bind,run_underlying F,Result.andThen_ok,C,asAgg,Sem.run_pure,z]
  refine ⟨_,j,?_⟩;cases m with
  | none=>
    simp only [zaf] at b;simp only;exact .r (h d.offset _ _ (by simp [show d.offset<n.length by omega]) (by simp [show d.offset<cs.size by omega,ldv]))
  | some q=>
    simp only [zae] at b;simp only;refine .r (.agg _ _ (by simp; omega) fun i y c hy e=>?_);rw [zad] at hy;split at hy
    ·rename_i A;rw [zab] at hy;refine h (d.offset+i) y c hy ?_;rw [Array.getElem?_extract] at e;split at e
     ·exact e
     cases e
    cases hy
 first | exact (f p).elim | exact (f.2 p).elim
def RAO (X:Cx) (s:St) (ρ:Pl->Option Nat) (w:World) (a:Act):Option Operand->Option AV->Prop
 | none,none=>True
 | some x,some v=>RA X s ρ w v (a.eval x)
 | _,_=>False
theorem xi {d i:Int} {x:Option Operand} {v:Option AV} (h:bnd d v=some i) (hx:RAO X s ρ w a x v) :
 (x=none/\v=none/\i=d)\/∃x' k,x=some x'/\a.eval x'=.int k i:=by
 unfold bnd at h;split at h
 ·cases x with
  | none=>exact .inl ⟨rfl,rfl,by cases h; rfl⟩
  | some x=>exact hx.elim
 ·cases x with
  | none=>exact hx.elim
  | some x=>cases h; exact .inr ⟨x,_,rfl,i7 hx⟩
 cases h
theorem asv {g:Bool} (p:g=true) {t:TypeId} {x:Operand} {lo hi:Option Operand} {u:AV} {l h:Option AV} (B:o.op=.slice t x lo hi none) (r:P.underlying t=some .string) (G:RA X s ρ w u (a.eval x))
 (D:RAO X s ρ w a lo l) (F:RAO X s ρ w a hi h)
 (c:(pt g u l h).1):j5 P X a w s ρ o (pt g u l h).2:=by
 unfold pt at c |-;split at c
 ·rename_i b;have q:=i7 G;split at c
  ·rename_i i j A y;obtain ⟨J,L,H⟩:=c p;simp only [j5,execOp,B];refine ⟨_,?_,x7 _⟩;have v:=xi A D;have z:=xi y F;obtain ⟨d,rfl⟩:∃d:Nat,i=(d:Int):=⟨i.toNat,by omega⟩
   obtain ⟨e,rfl⟩:∃e:Nat,j=(e:Int):=⟨j.toNat,by omega⟩
   have m:d<=e:=by omega
   have f:e<=b.size:=by omega
   rcases v with ⟨rfl,rfl,C⟩ | ⟨x1,I,rfl,k⟩<;>rcases z with ⟨rfl,rfl,E⟩ | ⟨x2,K,rfl,n⟩
   ·have:d=0:=by omega
    have:e=b.size:=by omega
    subst this; subst d;simp [Instr.sliceAt,run_underlying r,Instr.slice,q,Instr.sliceBounds]
   ·have:d=0:=by omega
    subst d;simp [Instr.sliceAt,run_underlying r,Instr.slice,q,Instr.sliceBounds,Instr.sliceBound,n,asIntOf,f]
   ·have:e=b.size:=by omega
    subst this;simp [Instr.sliceAt,run_underlying r,Instr.slice,q,Instr.sliceBounds,Instr.sliceBound,k,asIntOf,m]
   simp [Instr.sliceAt,run_underlying r,Instr.slice,q,Instr.sliceBounds,Instr.sliceBound,k,n,asIntOf,m,f]
  first | exact (c p).elim | exact (c.2 p).elim
 first | exact (c p).elim | exact (c.2 p).elim
theorem ajg {t e:TypeId} {inf:TypeInfo} {x:Operand} {lo hi p:Option Operand} {l h m:Option AV} {i j q:Int} {A:Option Addr} {len cap:Nat} (F:o.op=.slice t x lo hi p) (T:P.underlying t=some (.slice e)) (C:P.info? e=some inf)
 (hx:a.eval x=.slice A len cap) (N:len<=cap) (D:bnd 0 l=some i) (B:bnd len h=some j) (z:bnd len m=some q)
 (O:RAO X s ρ w a lo l) (R:RAO X s ρ w a hi h)
 (H:RAO X s ρ w a p m) (v:p≠none->hi≠none) (G:0<=i/\i<=j/\j<=q/\q<=len) :
 ∃A' c,(execOp a.eval o).run P w=.ok (.value (.slice A' (j-i).toNat c)) w/\c<=cap-i.toNat/\(j-i).toNat<=c/\(0<c->A'=A.map (·.add (i.toNat*inf.size))):=by
 obtain ⟨Z,e2,V,U⟩:=G;obtain ⟨b,rfl⟩:∃b:Nat,i=(b:Int):=⟨i.toNat,by omega⟩
 obtain ⟨d,rfl⟩:∃d:Nat,j=(d:Int):=⟨j.toNat,by omega⟩
 obtain ⟨g,rfl⟩:∃g:Nat,q=(g:Int):=⟨q.toNat,by omega⟩
 have n:b<=d:=by omega
 have r:d<=g:=by omega
 have S:g<=len:=by omega
 have u:(Instr.sliceBounds true len cap (lo.map a.eval) (hi.map a.eval) (p.map a.eval)).run P w=.ok (b,d,if p.isNone then cap else g) w:=by
  rcases xi D O with ⟨rfl,rfl,K⟩ | ⟨x1,Y,rfl,k⟩<;>rcases xi B R with ⟨rfl,rfl,Q⟩ | ⟨x2,k2,rfl,f⟩<;>rcases xi z H with ⟨rfl,rfl,L⟩ | ⟨x3,W,rfl,y⟩
  ·have:b=0:=by omega
   have:d=len:=by omega
   subst this; subst b;simp [Instr.sliceBounds]
  ·exact absurd rfl (v (by simp))
  ·have:b=0:=by omega
   subst b;simp [Instr.sliceBounds,Instr.sliceBound,f,asIntOf,show d<=cap by omega]
  ·have:b=0:=by omega
   subst b;simp [Instr.sliceBounds,Instr.sliceBound,f,y,asIntOf,show g<=cap by omega,r]
  ·have:d=len:=by omega
   subst this;simp [Instr.sliceBounds,Instr.sliceBound,k,asIntOf,n]
  ·exact absurd rfl (v (by simp))
  ·simp [Instr.sliceBounds,Instr.sliceBound,k,f,asIntOf,show d<=cap by omega,n]
  simp [Instr.sliceBounds,Instr.sliceBound,k,f,y,asIntOf,show g<=cap by omega,n,r]
 generalize E:(if p.isNone then cap else g)=M at u;have I:M<=cap:=by rw [<- E]; split<;>omega
 have J:d<=M:=by rw [<- E]; split<;>omega
 refine ⟨if M=b then A else A.map (·.add (b*inf.size)),M-b,?_,by simp only [zal]; omega,by omega,fun h0=>?_⟩
 ·simp only [execOp,F,Instr.sliceAt,Sem.run_bind,run_underlying T,Result.andThen_ok,Instr.slice,hx,u,sizeOf,typeInfo,run_program,C,Sem.run_pure];simp [show ((d:Int)-b).toNat=d-b by omega]
 rw [if_neg (by omega),zal]
theorem asw {g:Bool} (D:g=true) {t e:TypeId} {inf:TypeInfo} {sz:Nat} {x:Operand} {lo hi Z:Option Operand} {u:AV} {l h m:Option AV} (ho:o.op=.slice t x lo hi Z) (ht:P.underlying t=some (.slice e)) (J:P.info? e=some inf)
 (I:inf.size=sz) (L:RA X s ρ w u (a.eval x)) (hl:RAO X s ρ w a lo l)
 (hh:RAO X s ρ w a hi h) (hm:RAO X s ρ w a Z m) (M:Z≠none->hi≠none)
 (d:(kw g sz u l h m s.ob).ok):j5 P X a w s ρ o (kw g sz u l h m s.ob).v:=by
 unfold kw at d |-;split at d
 ·rename_i S xs;split at d
  ·rename_i i j q h1 V U;obtain ⟨rfl,G⟩:=d;have G:=G D;cases L;rename_i L;generalize hc:a.eval x=c at L;cases L;rename_i A cap h7 b o' gg K hA Q h5 h6;obtain ⟨A',C,n,B,f,F⟩:=ajg (P:=P) (w:=w) (s:=s) (ρ:=ρ) ho ht J hc K h1 V U hl hh hm M G;have N:(j-i).toNat=((xs.take j.toNat).drop i.toNat).length:=by simp; omega
   rw [N] at n f;refine ⟨_,n,.r ?_⟩;subst I;refine .sl _ _ _ _ f (by omega) b (o'+i.toNat*inf.size) (fun p=>gg (i.toNat+p)) (fun Y=>?_) (fun p y H=>?_) (fun p y k z H W=>?_) (fun p y k z H W=>?_)
   ·obtain ⟨h4,hR⟩:=hA (by rw [List.length_drop,List.length_take] at Y; omega);refine ⟨?_,hR⟩;rw [F (by omega),h4];simp [z5]
   all_goals
    have E:xs[i.toNat+p]?=some y:=by
     rw [zab,zad] at H;split at H
     ·exact H
     cases H
   ·exact h5 _ y E
   ·have:=h6 _ y k z E W;rw [show o'+i.toNat*inf.size+p*inf.size+k=o'+(i.toNat+p)*inf.size+k by rw [Nat.add_mul]; omega];exact this
   exact Q _ y k z E W
  first | exact (d D).elim | exact (d.2 D).elim | exact d.2.elim
 ·rename_i id ver O n0;split at d
  ·rename_i i j q h1 V U;split at d
   ·rename_i S r Q;obtain ⟨rfl,G⟩:=d;have G:=G D;have e6:i.toNat+(j-i).toNat<=n0:=by omega
    obtain ⟨A,cap,e1,e2,e3,T,R⟩:=gn L Q;obtain ⟨A',C,n,B,f,F⟩:=ajg (P:=P) (w:=w) (s:=s) (ρ:=ρ) ho ht J e1 e2 h1 V U hl hh hm M G;subst I;refine ⟨_,n,.own _ _ _ _ _ rfl ⟨_,_,m0 Q,zaa _,fun _=>?_⟩⟩;refine ⟨A',C,rfl,f,zan (zan B (Nat.sub_le _ _)) e3,?_,fun Y=>?_⟩
    ·clear R;simp only at T |-;omega
    have e7:O+i.toNat+C<=O+cap:=by clear R T; omega
    obtain ⟨b,cs,ee,fr,f1,f2,f3,f4⟩:=R (by clear T R; omega);refine ⟨b,cs,ee,fr,f1,?_,f3,zan (Nat.mul_le_mul_right _ e7) f4⟩;rw [F Y,f2];simp [z5,Nat.add_mul]
   first | exact (d D).elim | exact (d.2 D).elim | exact d.2.elim
  first | exact (d D).elim | exact (d.2 D).elim | exact d.2.elim
 first | exact (d D).elim | exact (d.2 D).elim | exact d.2.elim
end

section
variable {P:Program} {X:Cx} {w w':World} {s:St} {ρ ρ':Pl->Option Nat} {a:Act} {o:Oper} {ob ob':Obs} {R R':Nat->Prop}
theorem y8.stays (h:Stays w w' R R' ob ob' ρ ρ') {x:Ob} (hx:y8 w R ob ρ id x) (d:ρ' id=ρ id) (l:∀j,ρ' (.s id j)=ρ (.s id j)) (k:∀b,foot ρ id x b->w'.heap[b]?=w.heap[b]?):y8 w' R' ob' ρ' id x:=by
 cases x with
 | abs T=>
   obtain ⟨b,a,f⟩:=hx;refine ⟨b,by rw [d,a],?_⟩;simp only [l];exact T.loc f (k b (.inl a)) fun j c hc=>k c (.inr ⟨rfl,j,hc⟩)
 | map es clock=>
   obtain ⟨b,a,f⟩:=hx;exact ⟨b,by rw [d,a],by rw [k b (.inl a)]; exact f⟩
 | iter m since seen stepped=>
   obtain ⟨b,t,a,f,g⟩:=hx;exact ⟨b,t,by rw [d,a],by rw [k b (.inl a)]; exact f,g.stays h⟩
 | box cells=>
   obtain ⟨b,cs,e,a,f,g,n⟩:=hx;exact ⟨b,cs,e,by rw [d,a],by rw [k b (.inl a),f],g,fun i x c hi hc=>(n i x c hi hc).stays h⟩
 | row sz z app wr xs=>
   rcases hx with ⟨a,f,g⟩ | ⟨b,cs,e,fr,a,f,g,n,u,o⟩
   ·exact .inl ⟨a,by rw [d,f],g⟩
   refine .inr ⟨b,cs,e,fr,by rw [d,a],by rw [k b (.inl a),f],g,n,u,fun i x hi=>⟨(o i x hi).1,fun j y v=>?_⟩⟩;obtain ⟨c,q,r,p⟩:=(o i x hi).2 j y v;exact ⟨c,q,r,p.mono h.free⟩
theorem y8.lt {x:Ob} (hx:y8 w R ob ρ id x) (d:ρ id=some b):b<w.heap.size:=by
 cases x with
 | abs T=>
   obtain ⟨f,a,c⟩:=hx;rw [d] at a; cases a;obtain ⟨cs,e,g,_⟩:=T.root c;exact (zai.1 g).1
 | map es clock=>
   obtain ⟨f,a,c⟩:=hx;rw [d] at a; cases a;exact (zai.1 c).1
 | iter m since seen stepped=>
   obtain ⟨f,h,a,c,_⟩:=hx;rw [d] at a; cases a;exact (zai.1 c).1
 | box cells=>
   obtain ⟨f,cs,e,a,c,g,i⟩:=hx;rw [d] at a; cases a;exact (zai.1 c).1
 | row sz z app wr xs=>
   rcases hx with ⟨a,c,_⟩ | ⟨f,cs,e,fr,a,c,_⟩
   ·rw [d] at c; cases c
   rw [d] at a; cases a;exact (zai.1 c).1
theorem Gam.lt (d:Gam X s ρ a w) {x:Nat×Ob} (hx:s.ob id=some x) (c:ρ id=some b):b<w.heap.size:=
 (d.obj id x.1 x.2 hx).lt c
theorem y8.foot_lt {x:Ob} (hx:y8 w R ob ρ id x) (a:foot ρ id x b):b<w.heap.size:=by
 rcases a with a | ⟨h,j,a⟩
 ·exact hx.lt a
 cases x with
 | abs T=>
   obtain ⟨d,e,c⟩:=hx;exact T.lt c j b a
 | box _=>cases h
 | map _ _=>cases h
 | iter _ _ _ _=>cases h
 | row _ _ _ _ _=>cases h
theorem Gam.foot_lt (d:Gam X s ρ a w) {x:Nat×Ob} (hx:s.ob id=some x) (c:foot ρ id x.2 b):b<w.heap.size:=(d.obj id x.1 x.2 hx).foot_lt c
theorem aqv (b:a.tmps.size=X.n) {d:Nat} (e:d<X.n) (c:Value) (t:Nat):(a.put (some d) c).tmps.getD t undef=if t=d then c else a.tmps.getD t undef:=by
 simp only [Act.put];by_cases h:t=d
 ·subst h;simp [b,e]
 simp [h,Array.getElem?_setIfInBounds_ne (Ne.symm h)]
theorem Gam.step (c:Gam X s ρ a w) (p:Stays w w' (d7 X.B s.ob ρ w) (d7 X.B ob' ρ' w') s.ob ob' ρ ρ')
 (l:∀id v o,ob' id=some (v,o)->(s.ob id=some (v,o)/\ρ' id=ρ id/\(∀j,ρ' (.s id j)=ρ (.s id j))/\∀b,foot ρ id o b->w'.heap[b]?=w.heap[b]?)\/y8 w' (d7 X.B ob' ρ' w') ob' ρ' id o)
 (k:∀id d x x' b,ob' id=some x->ob' d=some x'->foot ρ' id x.2 b->foot ρ' d x'.2 b->id=d)
 (E:Keeps X.I X.w0 w') (g:∀id v o b,ob' id=some (v,o)->foot ρ' id o b->X.I b\/X.w0.heap.size<=b)
 (i:∀id b o,X.pn id=some b->s.ob id=some (0,o)->o.pinned=true->ρ id=some b->ρ' id=some b/\∃o',ob' id=some (0,o')/\o'.pinned=true):Gam X ⟨s.e,ob'⟩ ρ' a w':=by
 refine ⟨⟨fun id v o h=>?_,k,E,g,fun id b h=>?_⟩,c.sz,c.df,fun t=>(c.env t).stays p,c.pnn,c.small,c.base⟩
 ·rcases l id v o h with ⟨f,m,q,n⟩ | f
  ·exact (c.obj id v o f).stays p m q n
  exact f
 obtain ⟨f,o,m,n,q⟩:=c.pin id b h;obtain ⟨D,o',u,C⟩:=i id b o h m n f;refine ⟨D,o',u,C,fun z=>?_⟩;obtain ⟨K,H,y,J,F⟩:=p.obj id 0 o m;rw [u] at y;cases y;obtain ⟨_,A,G⟩:=F rfl;have r:o.isRow=true:=by cases o<;>cases o'<;>first | rfl | exact A.elim | cases z
 exact (q r).trans fun cs e fr hc=>G b cs e fr f hc
theorem Gam.see (b:Gam X s ρ a w) {d:Nat} (f:d<X.n) {x:AV} (hx:RA X s ρ w x c):Gam X ⟨put d x s.e,s.ob⟩ ρ (a.put (some d) c) w:=by
 refine ⟨b.toMem,by simp [Act.put,b.sz],b.df,fun t=>?_,b.pnn,b.small,b.base⟩;rw [aqv b.sz f];simp only [put];split
 ·exact hx
 exact b.env t
theorem Gam.drew (c:Gam X s ρ a w) (k:Nat):Gam X s ρ a { w with drawn:=k }:=by
 have d:Stays w { w with drawn:=k } (d7 X.B s.ob ρ w) (d7 X.B s.ob ρ { w with drawn:=k }) s.ob s.ob ρ ρ:=
  ⟨fun b h=>⟨h,rfl⟩,fun id v o h=>⟨v,o,h,zaa _,fun _=>⟨rfl,u3.refl o,fun b cs e fr _ h=>⟨cs,e,fr,h,rfl⟩⟩⟩⟩
 exact ⟨⟨fun id v o h=>(c.obj id v o h).stays d rfl (fun _=>rfl) fun _ _=>rfl,c.inj,⟨c.keeps.os,c.keeps.tape,c.keeps.output,c.keeps.size,c.keeps.block⟩,c.own,c.pin⟩,c.sz,c.df,fun t=>(c.env t).stays d,c.pnn,c.small,c.base⟩
structure OneMore (w w':World) (x:Obj):Prop where
 os:w'.os=w.os
 tape:w'.tape=w.tape
 output:w'.output=w.output
 heap:w'.heap=w.heap.push x
theorem OneMore.new {x:Obj} (h:OneMore w w' x):w'.heap[w.heap.size]?=some x:=by rw [h.heap]; simp
theorem OneMore.old {x:Obj} (h:OneMore w w' x) (a:b<w.heap.size):w'.heap[b]?=w.heap[b]?:=by
 rw [h.heap,Array.getElem?_push,if_neg (by omega)]
theorem OneMore.size {x:Obj} (h:OneMore w w' x):w'.heap.size=w.heap.size+1:=by rw [h.heap]; simp
theorem nk {v:Nat} {x:Ob} (h:ob id=some (v,x)):v<nv ob id:=by simp [nv,h]
theorem Stays.alloc (r:Gam X s ρ a w) {x:Obj} (i:OneMore w w' x) (id ver:Nat) (hv:∀v o,s.ob id=some (v,o)->v<ver) (o':Ob) (f:o'.isAbs=false:=by rfl) :
 Stays w w' (d7 X.B s.ob ρ w) (d7 X.B (upd id (ver,o') s.ob) (k9 ρ id (some w.heap.size)) w') s.ob (upd id (ver,o') s.ob) ρ (k9 ρ id (some w.heap.size)):=by
 refine ⟨fun b ⟨p,m,l⟩=>⟨⟨by rw [i.size]; omega,?_,l⟩,i.old p⟩,fun j v o h=>?_⟩
 ·rintro ⟨j,v,o,d,n,g⟩;by_cases c:j=id
  ·subst c;simp [upd] at d;obtain ⟨rfl,rfl⟩:=d;rw [dr f] at g;simp [k9] at g;omega
  simp only [upd,c,if_false] at d;exact m ⟨j,v,o,d,n,(mt c).1 g⟩
 by_cases c:j=id
 ·subst c;exact ⟨ver,o',by simp [upd],Nat.le_of_lt (hv v o h),fun e=>by have:=hv v o h; omega⟩
 refine ⟨v,o,by simp [upd,c,h],zaa _,fun _=>⟨by simp [k9,c],u3.refl o,fun b cs e fr k q=>⟨cs,e,fr,?_,rfl⟩⟩⟩;rw [i.old (r.lt h k),q]
theorem Gam.alloc (g:Gam X s ρ a w) {x:Obj} (m:OneMore w w' x) (id ver:Nat) (u:X.pn id=none) (hv:∀v o,s.ob id=some (v,o)->v<ver) (o':Ob)
 (E:y8 w' (d7 X.B (upd id (ver,o') s.ob) (k9 ρ id (some w.heap.size)) w') (upd id (ver,o') s.ob) (k9 ρ id (some w.heap.size)) id o') (l:o'.isAbs=false:=by rfl) :
 Gam X ⟨s.e,upd id (ver,o') s.ob⟩ (k9 ρ id (some w.heap.size)) a w':=by
 refine g.step (Stays.alloc g m id ver hv o' l) (fun j v o h=>?_) (fun i j x x' b hi c z t=>?_) ?_ (fun j v o b h f=>?_) (fun j b o h hc H p=>?_)
 ·by_cases c:j=id
  ·subst c;simp [upd] at h;obtain ⟨rfl,rfl⟩:=h;exact .inr E
  simp only [upd,c,if_false] at h;refine .inl ⟨h,by simp [k9,c],by simp [k9],fun b p=>m.old (g.foot_lt h p)⟩
 ·have q:∀k (y:Nat×Ob),upd id (ver,o') s.ob k=some y->foot (k9 ρ id (some w.heap.size)) k y.2 b->(k=id/\b=w.heap.size)\/(k≠id/\s.ob k=some y/\foot ρ k y.2 b/\b<w.heap.size):=fun k y r n=>by
   by_cases d:k=id
   ·subst d;simp [upd] at r;subst r;rw [dr l] at n;simp [k9] at n;exact .inl ⟨rfl,n.symm⟩
   simp only [upd,d,if_false] at r;rw [mt d] at n;exact .inr ⟨d,r,n,g.foot_lt r n⟩
  rcases q i x hi z with ⟨D,f⟩ | ⟨D,f,F,I⟩<;>rcases q j x' c t with ⟨A,C⟩ | ⟨A,C,G,J⟩
  ·rw [D,A]
  ·omega
  ·omega
  exact g.inj i j x x' b f C F G
 ·refine g.keeps.trans ⟨m.os,m.tape,m.output,by rw [m.size]; omega,fun b p _=>m.old p⟩
 ·by_cases c:j=id
  ·subst c;simp [upd] at h;obtain ⟨rfl,rfl⟩:=h;rw [dr l] at f;simp [k9] at f;subst f;exact .inr g.keeps.size
  simp only [upd,c,if_false] at h;rw [mt c] at f;exact g.own j v o b h f
 have c:j≠id:=fun e=>by rw [e,u] at h; cases h
 exact ⟨by simp [k9,c,p],o,by simp [upd,c,hc],H⟩
structure Mods (w w':World) (b:Nat) (x:Obj):Prop where
 os:w'.os=w.os
 tape:w'.tape=w.tape
 output:w'.output=w.output
 size:w'.heap.size=w.heap.size
 new:w'.heap[b]?=some x
 old:∀k,k≠b->w'.heap[k]?=w.heap[k]?
theorem di {v ver:Nat} {x x':Ob} (b:ob id=some (v,x)) (h:x'.isAbs=x.isAbs) {p:Nat×Ob} (a:upd id (ver,x') ob j=some p) (c:foot ρ j p.2 k):∃q,ob j=some q/\foot ρ j q.2 k:=by
 by_cases d:j=id
 ·subst d;simp [upd] at a;subst a;exact ⟨_,b,(yo rfl (fun _=>rfl) h).1 c⟩
 simp only [upd,d,if_false] at a;exact ⟨p,a,c⟩
theorem Stays.modifyG (O:Gam X s ρ a w) {v:Nat} {x x':Ob} {y:Obj} (n:s.ob id=some (v,x)) (hx:x.own=true) (G:ρ id=some b)
 (p:Mods w w' b y) (D:∀cs e fr,w.heap[b]?=some (.cells cs e fr)->∃d e' i,y=.cells d e' i/\d.size=cs.size) (ver:Nat) (hv:(ver=v/\u3 x x')\/v<ver) (M:x.isAbs=false:=by rfl) (m:x'.isAbs=false:=by rfl) :
 Stays w w' (d7 X.B s.ob ρ w) (d7 X.B (upd id (ver,x') s.ob) ρ w') s.ob (upd id (ver,x') s.ob) ρ ρ:=by
 refine ⟨fun k ⟨N,H,J⟩=>?_,fun j u o h=>?_⟩
 ·have c:k≠b:=fun h=>H ⟨id,v,x,n,hx,.inl (by rw [G,h])⟩;refine ⟨⟨by rw [p.size]; exact N,?_,J⟩,p.old k c⟩;rintro ⟨j,u,o,r,L,E⟩;unfold upd at r;split at r
  ·rename_i z;subst z;cases r;rw [dr m,G] at E;cases E;exact c rfl
  exact H ⟨j,u,o,r,L,E⟩
 have f:∀(k:Nat) (q:Array Value) (l:TypeId) (g:Nat×Nat),w.heap[k]?=some (.cells q l g)->∃I C A,w'.heap[k]?=some (.cells I C A)/\I.size=q.size:=by
  intro k q l g t;by_cases c:k=b
  ·subst c;obtain ⟨d,e',i,hy,K⟩:=D _ _ _ t;exact ⟨d,e',i,by rw [p.new,hy],K⟩
  exact ⟨q,l,g,by rw [p.old k c,t],rfl⟩
 by_cases z:j=id
 ·subst z;rw [n] at h;cases h;rcases hv with ⟨rfl,t⟩ | hv
  ·exact ⟨_,x',by simp [upd],zaa _,fun _=>⟨rfl,t,fun k q l g _ F=>f k q l g F⟩⟩
  exact ⟨ver,x',by simp [upd],Nat.le_of_lt hv,fun h=>by omega⟩
 exact ⟨u,o,by simp [upd,z,h],zaa _,fun _=>⟨rfl,u3.refl o,fun k q l g _ F=>f k q l g F⟩⟩
theorem Stays.modify (n:Gam X s ρ a w) {v:Nat} {x x':Ob} {cs d:Array Value} {e e':TypeId} {fr i:Nat×Nat} (k:s.ob id=some (v,x)) (hx:x.own=true) (l:ρ id=some b)
 (j:w.heap[b]?=some (.cells cs e fr)) (m:Mods w w' b (.cells d e' i)) (f:d.size=cs.size) (ver:Nat) (hv:(ver=v/\u3 x x')\/v<ver) (g:x.isAbs=false:=by rfl) (c:x'.isAbs=false:=by rfl) :
 Stays w w' (d7 X.B s.ob ρ w) (d7 X.B (upd id (ver,x') s.ob) ρ w') s.ob (upd id (ver,x') s.ob) ρ ρ:=
 Stays.modifyG n k hx l m (fun q p o h=>by rw [j] at h; cases h; exact ⟨_,_,_,rfl,f⟩) ver hv g c
theorem Gam.modifyG (r:Gam X s ρ a w) {v:Nat} {x x':Ob} {y:Obj} (c:s.ob id=some (v,x)) (hx:x.own=true) (z:ρ id=some b)
 (n:Mods w w' b y) (D:∀cs e fr,w.heap[b]?=some (.cells cs e fr)->∃t e' J,y=.cells t e' J/\t.size=cs.size) (ver:Nat) (hv:(ver=v/\u3 x x')\/v<ver) (q:X.pn id=none\/(ver=v/\u3 x x'/\(x.pinned=true->x'.pinned=true)))
 (N:y8 w' (d7 X.B (upd id (ver,x') s.ob) ρ w') (upd id (ver,x') s.ob) ρ id x') (m:x.isAbs=false:=by rfl) (d:x'.isAbs=false:=by rfl):Gam X ⟨s.e,upd id (ver,x') s.ob⟩ ρ a w':=by
 have A:∀j u,j≠id->s.ob j=some u->∀k,foot ρ j u.2 k->k≠b:=fun j u g h k f l=>by
  subst l;exact g (r.inj j id u _ k h c f (.inl z))
 refine r.step (Stays.modifyG r c hx z n D ver hv m d) (fun j u o h=>?_) (fun i j p S k hi g H E=>?_) ?_ (fun j u o k h I=>?_) (fun j k o h hc L f=>?_)
 ·by_cases g:j=id
  ·subst g;simp [upd] at h;obtain ⟨rfl,rfl⟩:=h;exact .inr N
  simp only [upd,g,if_false] at h;exact .inl ⟨h,rfl,fun _=>rfl,fun k f=>n.old k (A j _ g h k f)⟩
 ·obtain ⟨_,K,C⟩:=di c (d.trans m.symm) hi H;obtain ⟨_,I,O⟩:=di c (d.trans m.symm) g E;exact r.inj i j _ _ k K I C O
 ·have f:=r.keeps;refine ⟨n.os.trans f.os,n.tape.trans f.tape,n.output.trans f.output,by rw [n.size]; exact f.size,fun k G M=>?_⟩;by_cases l:k=b
  ·subst l;rcases r.own id v x k c (.inl z) with h | h
   ·exact absurd h M
   omega
  rw [n.old k l];exact f.block k G M
 ·obtain ⟨⟨R,Q⟩,K,C⟩:=di c (d.trans m.symm) h I;exact r.own j R Q k K C
 refine ⟨f,?_⟩;by_cases g:j=id
 ·subst g;rw [c] at hc;cases hc;rcases q with q | ⟨rfl,P,F⟩
  ·rw [q] at h; cases h
  exact ⟨x',by simp [upd],F L⟩
 exact ⟨o,by simp [upd,g,hc],L⟩
theorem Gam.modify (p:Gam X s ρ a w) {v:Nat} {x x':Ob} {cs d:Array Value} {e e':TypeId} {fr j:Nat×Nat} (l:s.ob id=some (v,x)) (hx:x.own=true) (n:ρ id=some b)
 (k:w.heap[b]?=some (.cells cs e fr)) (o:Mods w w' b (.cells d e' j)) (f:d.size=cs.size) (ver:Nat) (hv:(ver=v/\u3 x x')\/v<ver) (g:X.pn id=none\/(ver=v/\u3 x x'/\(x.pinned=true->x'.pinned=true)))
 (m:y8 w' (d7 X.B (upd id (ver,x') s.ob) ρ w') (upd id (ver,x') s.ob) ρ id x') (i:x.isAbs=false:=by rfl) (c:x'.isAbs=false:=by rfl):Gam X ⟨s.e,upd id (ver,x') s.ob⟩ ρ a w':=
 p.modifyG l hx n o (fun q t r h=>by rw [k] at h; cases h; exact ⟨_,_,_,rfl,f⟩) ver hv g m i c
theorem Stays.freeze1 {v sz:Nat} {z:RV} {a p:Bool} {d:List RV} (f:s.ob id=some (v,.row sz z a p d)) :
 Stays w w (d7 X.B s.ob ρ w) (d7 X.B (upd id (v,.row sz z a false d) s.ob) ρ w) s.ob (upd id (v,.row sz z a false d) s.ob) ρ ρ:=by
 refine ⟨fun b ⟨n,l,k⟩=>⟨⟨n,?_,k⟩,rfl⟩,fun j u o h=>?_⟩
 ·rintro ⟨j,u,o,c,g,m⟩;unfold upd at c;split at c
  ·cases c; cases g
  exact l ⟨j,u,o,c,g,m⟩
 by_cases i:j=id
 ·subst i;rw [f] at h;cases h;exact ⟨v,.row sz z a false d,by simp [upd],zaa _,fun _=>⟨rfl,⟨rfl,zaa _⟩,fun b cs e fr _ h=>⟨cs,e,fr,h,rfl⟩⟩⟩
 exact ⟨u,o,by simp [upd,i,h],zaa _,fun _=>⟨rfl,u3.refl o,fun b cs e fr _ h=>⟨cs,e,fr,h,rfl⟩⟩⟩
theorem Gam.freeze1 (g:Gam X s ρ a w) {v sz:Nat} {z:RV} {c D:Bool} {f:List RV} (b:s.ob id=some (v,.row sz z c D f)):Gam X ⟨s.e,upd id (v,.row sz z c false f) s.ob⟩ ρ a w:=by
 have t:=Stays.freeze1 (X:=X) (w:=w) (ρ:=ρ) b;refine g.step t (fun j u o h=>?_) (fun i j p E k hi d n m=>?_) g.keeps (fun j u o k h q=>?_) (fun j k o h hc x A=>⟨A,?_⟩)
 ·by_cases d:j=id
  ·subst d;simp [upd] at h;obtain ⟨rfl,rfl⟩:=h;refine .inr ?_;have:=(g.obj _ _ _ b).stays t rfl (fun _=>rfl) (fun _ _=>rfl);exact this
  simp only [upd,d,if_false] at h;exact .inl ⟨h,rfl,fun _=>rfl,fun _ _=>rfl⟩
 ·obtain ⟨_,r,l⟩:=di (x':=.row sz z c false f) b rfl hi n;obtain ⟨_,q,y⟩:=di (x':=.row sz z c false f) b rfl d m;exact g.inj i j _ _ k r q l y
 ·obtain ⟨⟨C,B⟩,r,l⟩:=di (x':=.row sz z c false f) (p:=(u,o)) b rfl h q;exact g.own j C B k r l
 by_cases d:j=id
 ·subst d;rw [b] at hc;cases hc;exact ⟨.row sz z c false f,by simp [upd],x⟩
 exact ⟨o,by simp [upd,d,hc],x⟩
theorem Stays.shut1 {v sz:Nat} {z:RV} {c:List RV} (a:s.ob id=some (v,.row sz z true true c)) :
 Stays w w (d7 X.B s.ob ρ w) (d7 X.B (upd id (v,.row sz z false true c) s.ob) ρ w) s.ob (upd id (v,.row sz z false true c) s.ob) ρ ρ:=by
 refine ⟨fun b ⟨q,i,l⟩=>⟨⟨q,?_,l⟩,rfl⟩,fun j u o h=>?_⟩
 ·rintro ⟨j,u,o,f,n,k⟩;obtain ⟨⟨t,r⟩,g,m⟩:=di (x':=.row sz z false true c) (p:=(u,o)) a rfl f k;by_cases d:j=id
  ·subst d;rw [a] at g;cases g;exact i ⟨j,_,_,a,rfl,m⟩
  simp only [upd,d,if_false] at f;exact i ⟨j,u,o,f,n,k⟩
 by_cases d:j=id
 ·subst d;rw [a] at h;cases h;exact ⟨v,.row sz z false true c,by simp [upd],zaa _,fun _=>⟨rfl,⟨rfl,zaa _⟩,fun b cs e fr _ h=>⟨cs,e,fr,h,rfl⟩⟩⟩
 exact ⟨u,o,by simp [upd,d,h],zaa _,fun _=>⟨rfl,u3.refl o,fun b cs e fr _ h=>⟨cs,e,fr,h,rfl⟩⟩⟩
theorem Gam.shut1 (n:Gam X s ρ a w) {v sz:Nat} {z:RV} {g:List RV} (c:s.ob id=some (v,.row sz z true true g)) (q:g≠[]):Gam X ⟨s.e,upd id (v,.row sz z false true g) s.ob⟩ ρ a w:=by
 have x:=Stays.shut1 (X:=X) (w:=w) (ρ:=ρ) c;refine n.step x (fun j u o h=>?_) (fun i j p G k hi d t r=>?_) n.keeps (fun j u o k h m=>?_) (fun j k o h hc A C=>⟨C,?_⟩)
 ·by_cases d:j=id
  ·subst d;simp [upd] at h;obtain ⟨rfl,rfl⟩:=h;refine .inr ?_;rcases (n.obj _ _ _ c).stays x rfl (fun _=>rfl) (fun _ _=>rfl) with ⟨f,_⟩ | ⟨b,cs,e,fr,f,m,l,y,D,B⟩
   ·exact absurd f q
   exact .inr ⟨b,cs,e,fr,f,m,l,(fun h=>by cases h),D,B⟩
  simp only [upd,d,if_false] at h;exact .inl ⟨h,rfl,fun _=>rfl,fun _ _=>rfl⟩
 ·obtain ⟨_,f,l⟩:=di (x':=.row sz z false true g) c rfl hi t;obtain ⟨_,m,y⟩:=di (x':=.row sz z false true g) c rfl d r;exact n.inj i j _ _ k f m l y
 ·obtain ⟨⟨F,E⟩,f,l⟩:=di (x':=.row sz z false true g) (p:=(u,o)) c rfl h m;exact n.own j F E k f l
 by_cases d:j=id
 ·subst d;rw [c] at hc;cases hc;cases A
 exact ⟨o,by simp [upd,d,hc],A⟩
theorem Gam.frz {ob:Obs} (h:Gam X ⟨s.e,ob⟩ ρ a w) (i:Nat):Gam X ⟨s.e,Ev.frz ob i (ob i)⟩ ρ a w:=by
 rcases hi:ob i with _ | ⟨v,b | ⟨sz,z,c,d,f⟩ | T | _ | _⟩
 ·exact h
 ·exact h
 ·exact h.freeze1 (s:=⟨s.e,ob⟩) hi
 ·exact h
 ·exact h
 exact h
theorem Gam.freeze:∀(l:List Nat) {ob:Obs},Gam X ⟨s.e,ob⟩ ρ a w->Gam X ⟨s.e,Ev.freeze ob l⟩ ρ a w
 | [],_,h=>h
 | i::is,_,h=>Gam.freeze is (h.frz i)
theorem at1 {v sz:Nat} {z:RV} {c e:Bool} {g:List RV} {ob:Obs} (h:ob i=some (v,.row sz z c e g)):∃b,Ev.frz ob j (ob j) i=some (v,.row sz z c b g)/\(e=false\/i=j->b=false):=by
 by_cases a:i=j
 ·subst a;rw [h];exact ⟨false,by simp [Ev.frz,upd],fun _=>rfl⟩
 refine ⟨e,?_,fun l=>l.resolve_right a⟩;rcases hj:ob j with _ | ⟨o,d | ⟨m,n,f,b,k⟩ | T | _ | _⟩<;>simp [Ev.frz,upd,a,h]
theorem ym {i v sz:Nat} {z:RV} {b:Bool} {f:List RV}:∀(l:List Nat) (ob:Obs) (d:Bool),ob i=some (v,.row sz z b d f)->∃c,Ev.freeze ob l i=some (v,.row sz z b c f)/\(d=false\/i∈l->c=false)
 | [],ob,d,h=>⟨d,h,fun h=>h.resolve_right (by simp)⟩
 | j::l,ob,d,h=>by
   obtain ⟨g,o,e⟩:=at1 (j:=j) h;obtain ⟨k,n,m⟩:=ym l _ g o;refine ⟨k,n,fun a=>m ?_⟩;rcases a with a | a
   ·exact .inl (e (.inl a))
   rcases zag.1 a with a | a
   ·exact .inl (e (.inr a))
   exact .inr a
theorem anp (r:Gam X s ρ a w) {ver lo len sz:Nat} {z:RV} {C:Bool} {k:List RV} (f:s.ob id=some (ver,.row sz z C false k)) (h:RA X s ρ w (.own id ver lo len) c) :
 RelV w (d7 X.B s.ob ρ w) (.sl sz ((k.drop lo).take len)) c:=by
 cases h;rename_i h;obtain ⟨A,cap,rfl,T,F,H,K⟩:=h.live f;have n:((k.drop lo).take len).length=len:=by simp; omega
 rcases r.obj id ver _ f with ⟨m,u⟩ | ⟨b,cs,e,fr,m,u,L,O,P,t⟩
 ·subst m;have:len=0:=by have:lo+len<=0:=H; omega
  subst this;refine (?_:RelV w (d7 X.B s.ob ρ w) (.sl sz []) _);exact .sl sz [] A cap (by simp) F 0 0 (fun _ _=>undef) (by simp) (by simp) (by simp) (by simp)
 have l:=RelV.sl (w:=w) (R:=d7 X.B s.ob ρ w) sz ((k.drop lo).take len) A cap (by omega) F b (lo*sz) (fun i j=>(cs[(lo+i)*sz+j]?).getD undef);rw [n] at l
 have d:∀(i:Nat) (x:RV),((k.drop lo).take len)[i]?=some x->k[lo+i]?=some x:=fun i x hi=>by
  rw [zad] at hi;split at hi
  ·rwa [zab] at hi
  cases hi
 refine l (fun S=>?_) (fun i x hi=>(t _ x (d i x hi)).1) (fun i x j y hi D=>?_) (fun i x j y hi D=>?_)
 ·obtain ⟨N,I,e',G,E,J,Q,M⟩:=K (by omega);rw [m] at E;cases E;refine ⟨J,(zai.1 u).1,?_,r.base b (r.own _ _ _ b f (.inl m))⟩;rintro ⟨j,v,o,g,q,p⟩;have:=r.inj id j _ _ b f g (.inl m) p;subst this;rw [f] at g;cases g;cases q
 ·obtain ⟨c,g,q,p⟩:=(t _ x (d i x hi)).2 j y D;rw [g];refine ⟨?_,q⟩;simp only [World.cell?,u,Option.isSome_none,zak,if_false,zae];rw [<- g,Nat.add_mul]
 obtain ⟨c,g,q,p⟩:=(t _ x (d i x hi)).2 j y D;rw [g];exact p
theorem ac7 (m:Gam X s ρ a w) {ob:Obs} {x:AV} {y:RV} {f l:List Nat} (h:x.rv ob=some (y,f)) (b:∀i∈f,i∈l) (d:s.ob=Ev.freeze ob l) (hx:RA X s ρ w x c):RelV w (d7 X.B s.ob ρ w) y c:=by
 unfold AV.rv at h;split at h
 ·cases h; cases hx; assumption
 ·cases h; cases hx;exact .sl _ [] none 0 (by simp) (by simp) 0 0 (fun _ _=>undef) (by simp) (by simp) (by simp) (by simp)
 ·split at h
  ·rename_i g;cases h;obtain ⟨j,e,k⟩:=ym l ob _ (m0 g);rw [k (.inr (b _ (by simp)))] at e;rw [<- d] at e;exact anp m e hx
  cases h
 cases h
theorem Stays.nil (id ver:Nat) (hv:∀v o,s.ob id=some (v,o)->v<ver) (x:Ob) (d:x.isAbs=false:=by rfl) :
 Stays w w (d7 X.B s.ob ρ w) (d7 X.B (upd id (ver,x) s.ob) (k9 ρ id none) w) s.ob (upd id (ver,x) s.ob) ρ (k9 ρ id none):=by
 refine ⟨fun b ⟨l,i,g⟩=>⟨⟨l,?_,g⟩,rfl⟩,fun j v o h=>?_⟩
 ·rintro ⟨j,v,o,c,k,f⟩;by_cases a:j=id
  ·subst a;simp [upd] at c;obtain ⟨rfl,rfl⟩:=c;rw [dr d] at f;simp [k9] at f
  simp only [upd,a,if_false] at c;exact i ⟨j,v,o,c,k,(mt a).1 f⟩
 by_cases a:j=id
 ·subst a;exact ⟨ver,x,by simp [upd],Nat.le_of_lt (hv v o h),fun e=>by have:=hv v o h; omega⟩
 exact ⟨v,o,by simp [upd,a,h],zaa _,fun _=>⟨by simp [k9,a],u3.refl o,fun b cs e fr n m=>⟨cs,e,fr,m,rfl⟩⟩⟩
theorem Gam.nil (q:Gam X s ρ a w) (id ver:Nat) (t:X.pn id=none) (hv:∀v o,s.ob id=some (v,o)->v<ver) (sz:Nat) (z:RV) (A:Bool) :
 Gam X ⟨s.e,upd id (ver,.row sz z true A []) s.ob⟩ (k9 ρ id none) a w:=by
 refine q.step (Stays.nil id ver hv _ rfl) (fun j v o h=>?_) (fun i j p x k hi c u r=>?_) q.keeps (fun j v o b h f=>?_) (fun j b o h hc E B=>?_)
 ·by_cases c:j=id
  ·subst c;simp [upd] at h;obtain ⟨rfl,rfl⟩:=h;exact .inr (.inl ⟨rfl,by simp [k9],rfl⟩)
  simp only [upd,c,if_false] at h;exact .inl ⟨h,by simp [k9,c],by simp [k9],fun _ _=>rfl⟩
 ·have l:∀g (y:Nat×Ob),upd id (ver,.row sz z true A []) s.ob g=some y->foot (k9 ρ id none) g y.2 k->s.ob g=some y/\foot ρ g y.2 k:=fun g y n m=>by
   by_cases d:g=id
   ·subst d;simp [upd] at n;subst n;rw [dr rfl] at m;simp [k9] at m
   simp only [upd,d,if_false] at n;rw [mt d] at m;exact ⟨n,m⟩
  obtain ⟨F,f⟩:=l i p hi u;obtain ⟨C,D⟩:=l j x c r;exact q.inj i j p x k F C f D
 ·by_cases c:j=id
  ·subst c;simp [upd] at h;obtain ⟨rfl,rfl⟩:=h;rw [dr rfl] at f;simp [k9] at f
  simp only [upd,c,if_false] at h;rw [mt c] at f;exact q.own j v o b h f
 have c:j≠id:=fun e=>by rw [e,t] at h; cases h
 exact ⟨by simp [k9,c,B],o,by simp [upd,c,hc],E⟩
theorem Gam.unpinned (f:Gam X s ρ a w) {v sz:Nat} {z:RV} {c g:Bool} {j:List RV} (e:s.ob id=some (v,.row sz z c g j)) (d:(c || !par id)=true):X.pn id=none:=by
 cases hp:par id with
 | false=>exact f.pnn id hp
 | true=>
   rw [hp] at d;have d:c=true:=by simpa using d
   subst d;rcases h:X.pn id with _ | b
   ·rfl
   obtain ⟨_,o,hc,i,_⟩:=f.pin id b h;rw [e] at hc;cases hc;cases i
end

end Go.Ev

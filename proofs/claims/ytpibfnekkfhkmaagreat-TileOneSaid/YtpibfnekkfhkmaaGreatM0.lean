import Derived.WalkKit
open Nat renaming le_refl → zaa, add_assoc → zak, le_trans → zao
open List renaming getElem?_drop → zab, getElem?_take → zad, mem_cons → zah, getElem?_eq_some_iff → zan, not_mem_nil → zap, length_eq_zero_iff → zaq, getElem?_toArray → zat
open BitVec renaming ofInt → zac
open Option renaming getD_some → zae, getD_none → zaf, map_eq_some_iff → zar
open Bool renaming and_eq_true → zai, false_eq_true → zal
open Array renaming getElem?_eq_some_iff → zaj
open Int renaming toNat_natCast → zam, eq_ofNat_of_zero_le → zas
namespace Go.Ev
set_option maxRecDepth 100000
open Go
set_option linter.unusedSectionVars false
set_option linter.unnecessarySimpa false
set_option linter.unusedSimpArgs false
set_option linter.unusedVariables false
inductive RV where
 | v (x:Value)
 | agg (xs:List RV)
 | sl (sz:Nat) (xs:List RV)
inductive AV where
 | r (x:RV)
 | agg (xs:List AV)
 | tup (xs:List AV)
 | nils (sz:Nat) (z:RV)
 | own (id ver lo len:Nat)
 | ptr (id ver off:Nat)
 | oel (id ver idx off:Nat)
 | rp (ys:List RV)
 | fn (f:Fn) (cap:List AV) (k:Nat:=0)
 | mp (id ver:Nat)
 | ifc (t:TypeId) (x:AV)
 | gd (b:Bool) (x:AV)
 | undef
instance:Inhabited RV:=⟨.v (.bool false)⟩
instance:Inhabited AV:=⟨.undef⟩
inductive Pl where
 | o (id:Nat)
 | s (id j:Nat)
deriving DecidableEq
instance:Coe Nat Pl:=⟨Pl.o⟩
def RV.cells:RV→List RV
 | .agg xs=>xs
 | x=>[x]
def AV.cells:AV→List AV
 | .agg xs=>xs
 | .r (.agg xs)=>xs.map .r
 | x=>[x]
def RV.one:RV→Bool
 | .v x=>x.oneCell'
 | .agg _=>false
 | .sl _ _=>true
section
variable (w:World) (R:Nat→Prop)
inductive RelV:RV→Value→Prop where
 | v (x:Value):RelV (.v x) x
 | agg (xs:List RV) (cs:Array Value) (hl:cs.size=xs.length) (h:∀(i:Nat) (x:RV) (c:Value),xs[i]?=some x→cs[i]?=some c→RelV x c):RelV (.agg xs) (.agg cs)
 | sl (sz:Nat) (xs:List RV) (A:Option Addr) (cap:Nat) (hc:xs.length≤cap) (hm:cap≤maxLen) (b o:Nat) (g:Nat→Nat→Value)
   (hA:0<xs.length→A=some ⟨b,o,none⟩∧R b)
   (hz:∀(i:Nat) (x:RV),xs[i]?=some x→x.cells.length=sz)
   (hg:∀(i:Nat) (x:RV) (j:Nat) (y:RV),xs[i]?=some x→x.cells[j]?=some y→w.cell? ⟨b,o+i*sz+j,none⟩=some (g i j)∧(g i j).oneCell'=true)
   (hr:∀(i:Nat) (x:RV) (j:Nat) (y:RV),xs[i]?=some x→x.cells[j]?=some y→RelV y (g i j)):RelV (.sl sz xs) (.slice A xs.length cap)
end
theorem RelV.mono {w w':World} {R R':Nat→Prop} {x:RV} {c:Value} (h:RelV w R x c) (hw:∀b,R b→R' b∧w'.heap[b]?=w.heap[b]?):RelV w' R' x c:=by
 induction h with
 | v x=>exact .v x
 | agg xs cs hl _ ih=>exact .agg xs cs hl ih
 | sl sz xs A cap hc hm b o g hA hz hg hr ih=>
  refine .sl sz xs A cap hc hm b o g (fun h0=>⟨(hA h0).1,(hw b (hA h0).2).1⟩) hz (fun i x j y hi hj=>?_) ih
  have h0:0<xs.length:=by
   have:=(zan.1 hi).1;omega
  obtain ⟨h1,h2⟩:=hg i x j y hi hj;refine ⟨?_,h2⟩;rw [← h1];simp only [World.cell?];rw [(hw b (hA h0).2).2]
structure AbsT where
 size:Nat
 Q:World→Nat→(Nat→Option Nat)→Prop
 loc:∀{w w':World} {b:Nat} {φ:Nat→Option Nat},Q w b φ→w'.heap[b]?=w.heap[b]?→(∀j c,φ j=some c→w'.heap[c]?=w.heap[c]?)→Q w' b φ
 root:∀{w:World} {b:Nat} {φ:Nat→Option Nat},Q w b φ→∃cs e,w.heap[b]?=some (.cells cs e (0,0))∧cs.size=size
 lt:∀{w:World} {b:Nat} {φ:Nat→Option Nat},Q w b φ→∀j c,φ j=some c→c<w.heap.size
 view:List RV
 rp:∀{w:World} {b:Nat} {φ:Nat→Option Nat} (R:Nat→Prop),Q w b φ→R b→(∀j c,φ j=some c→R c) →
  ∃g:Nat→Value,∀(j:Nat) (y:RV),view[j]?=some y→w.cell? ⟨b,0+j,none⟩=some (g j)∧(g j).oneCell'=true∧RelV w R y (g j)
inductive Ob where
 | box (cells:List AV)
 | row (sz:Nat) (z:RV) (app wr:Bool) (xs:List RV)
 | abs (T:AbsT)
 | map (es:List MapEntry) (clock:Nat)
 | iter (m:AV) (since:Nat) (seen:List Nat) (stepped:Nat)
def Ob.own:Ob→Bool
 | .box _=>true
 | .row _ _ _ wr _=>wr
 | .abs _=>true
 | .map _ _=>true
 | .iter _ _ _ _=>true
def Ob.pinned:Ob→Bool
 | .row _ _ app _ _=>!app
 | _=>true
def Ob.isRow:Ob→Bool
 | .row _ _ _ _ _=>true
 | _=>false
def par (id:Nat):Bool:=bif decide (1000000≤id) then decide (id<2000000) else false
theorem aqy {id:Nat} (h:id<1000000):par id=false:=by unfold par; rw [decide_eq_false (by omega)]; rfl
def wv (w w':World) (b:Nat):Prop:=∀cs e fr,w.heap[b]?=some (.cells cs e fr)→∃cs' e' fr',w'.heap[b]?=some (.cells cs' e' fr')∧cs'.size=cs.size
theorem wv.refl (w:World) (b:Nat):wv w w b:=fun cs e fr h=>⟨cs,e,fr,h,rfl⟩
theorem wv.trans {a b c:World} {k:Nat} (h:wv a b k) (g:wv b c k):wv a c k:=fun cs e fr q=>by
 obtain ⟨cs1,e1,fr1,h1,h2⟩:=h cs e fr q;obtain ⟨cs2,e2,fr2,h3,h4⟩:=g cs1 e1 fr1 h1;exact ⟨cs2,e2,fr2,h3,h4.trans h2⟩
def Ob.isAbs:Ob→Bool
 | .abs _=>true
 | _=>false
def foot (ρ:Pl→Option Nat) (id:Nat) (o:Ob) (b:Nat):Prop:=ρ id=some b∨(o.isAbs=true∧∃j,ρ (.s id j)=some b)
theorem fm {ρ:Pl→Option Nat} {id:Nat} {o:Ob} {b:Nat} (h:o.isAbs=false):foot ρ id o b↔ρ id=some b:=by simp [foot,h]
theorem aad {ρ ρ':Pl→Option Nat} {id id':Nat} {o o':Ob} {b:Nat} (h1:ρ' id'=ρ id) (h2:∀j,ρ' (.s id' j)=ρ (.s id j)) (h3:o'.isAbs=o.isAbs):foot ρ' id' o' b↔foot ρ id o b:=by simp only [foot,h1,h2,h3]
def aca (ρ ρ':Pl→Option Nat) (i i':Nat):Prop:=ρ' (.o i')=ρ (.o i)∧∀j,ρ' (.s i' j)=ρ (.s i j)
theorem aca.foot {ρ ρ':Pl→Option Nat} {i i':Nat} (h:aca ρ ρ' i i') {o o':Ob} {b:Nat} (h3:o'.isAbs=o.isAbs):foot ρ' i' o' b↔foot ρ i o b:=aad h.1 h.2 h3
def o4 (ρ:Pl→Option Nat) (id:Nat) (b:Option Nat):Pl→Option Nat:=fun i=>if i=id then b else ρ i
theorem yq {ρ:Pl→Option Nat} {id j:Nat} {o:Ob} {x:Option Nat} {b:Nat} (h:j≠id):foot (o4 ρ id x) j o b↔foot ρ j o b:=aad (by simp [o4,h]) (by simp [o4]) rfl
abbrev Obs:=Nat→Option (Nat×Ob)
def ah7 (w:World) (ρ:Pl→Option Nat) (id:Nat) (lo len:Nat) (c:Value):Ob→Prop
 | .box _=>∃A cap,c=.slice A len cap∧len≤cap∧cap≤maxLen ∧
   (0<cap→∃b cs e fr,ρ id=some b∧A=some ⟨b,lo,none⟩∧w.heap[b]?=some (.cells cs e fr)∧lo+cap≤cs.size)
 | .abs _=>False
 | .map _ _=>False
 | .iter _ _ _ _=>False
 | .row sz _ _ _ xs=>∃A cap,c=.slice A len cap∧len≤cap∧cap≤maxLen∧lo+len≤xs.length ∧
   (0<cap→∃b cs e fr,ρ id=some b∧A=some ⟨b,lo*sz,none⟩∧w.heap[b]?=some (.cells cs e fr)∧(lo+cap)*sz≤cs.size)
def bhy (ρ:Pl→Option Nat) (id idx off:Nat) (c:Value):Ob→Prop
 | .box _=>∃b,ρ id=some b∧c=.pointer (some ⟨b,idx+off,none⟩)
 | .abs _=>False
 | .map _ _=>False
 | .iter _ _ _ _=>False
 | .row sz _ _ _ xs=>idx<xs.length∧off≤sz∧∃b,ρ id=some b∧c=.pointer (some ⟨b,idx*sz+off,none⟩)
def At (ob:Obs) (id ver:Nat) (X:Ob→Prop):Prop:=∃v o,ob id=some (v,o)∧ver≤v∧(ver=v→X o)
section
variable (w:World) (R:Nat→Prop) (ob:Obs) (ρ:Pl→Option Nat)
inductive RelA:AV→Value→Prop where
 | r {x:RV} {c:Value} (h:RelV w R x c):RelA (.r x) c
 | agg (xs:List AV) (cs:Array Value) (hl:cs.size=xs.length) (h:∀(i:Nat) (x:AV) (c:Value),xs[i]?=some x→cs[i]?=some c→RelA x c):RelA (.agg xs) (.agg cs)
 | tup (xs:List AV) (cs:Array Value) (hl:cs.size=xs.length) (h:∀(i:Nat) (x:AV) (c:Value),xs[i]?=some x→cs[i]?=some c→RelA x c):RelA (.tup xs) (.tuple cs)
 | nils (sz:Nat) (z:RV):RelA (.nils sz z) (.slice none 0 0)
 | own (id ver lo len:Nat) (c:Value) (hc:c.oneCell'=true) (h:At ob id ver (ah7 w ρ id lo len c)):RelA (.own id ver lo len) c
 | ptr (id ver off:Nat) (c:Value) (hc:c.oneCell'=true) (h:At ob id ver fun _=>∃b,ρ id=some b∧c=.pointer (some ⟨b,off,none⟩)):RelA (.ptr id ver off) c
 | oel (id ver idx off:Nat) (c:Value) (hc:c.oneCell'=true) (h:At ob id ver (bhy ρ id idx off c)):RelA (.oel id ver idx off) c
 | rp (ys:List RV) (b o:Nat) (g:Nat→Value) (hR:R b) (hg:∀(j:Nat) (y:RV),ys[j]?=some y→w.cell? ⟨b,o+j,none⟩=some (g j)∧(g j).oneCell'=true∧RelV w R y (g j)) :
   RelA (.rp ys) (.pointer (some ⟨b,o,none⟩))
 | fn (f:Fn) (xs:List AV) (k:Nat) (fs cs:Array Value) (hk:fs.size=k) (hl:fs.size+cs.size=xs.length) (h:∀(i:Nat) (x:AV) (c:Value),xs[i]?=some x→(fs++cs)[i]?=some c→RelA x c):RelA (.fn f xs k) (.func f fs cs)
 | mp (id ver:Nat) (c:Value) (hc:c.oneCell'=true) (h:At ob id ver fun _=>∃b,ρ id=some b∧c=.map (some b)):RelA (.mp id ver) c
 | ifc (t:TypeId) {x:AV} {c:Value} (h:RelA x c):RelA (.ifc t x) (.iface t c)
 | gd (b:Bool) {x:AV} {c:Value} (h:b=true→RelA x c) (hf:b=false→c=undef):RelA (.gd b x) c
 | undef (c:Value):RelA .undef c
end
def y7:Ob→Ob→Prop
 | .box _,.box _=>True
 | .abs T,.abs T'=>T'.size=T.size
 | .map _ _,.map _ _=>True
 | .iter _ _ _ _,.iter _ _ _ _=>True
 | .row sz _ _ _ xs,.row sz' _ _ _ xs'=>sz'=sz∧xs.length≤xs'.length
 | .row sz _ _ _ _,.box _=>sz=1
 | _,_=>False
theorem y7.refl (o:Ob):y7 o o:=by cases o<;>simp [y7]
structure Stays (w w':World) (R R':Nat→Prop) (ob ob':Obs) (ρ ρ':Pl→Option Nat):Prop where
 free:∀b,R b→R' b∧w'.heap[b]?=w.heap[b]?
 obj:∀id v o,ob id=some (v,o)→∃v' o',ob' id=some (v',o')∧v≤v'∧(v=v'→ρ' id=ρ id∧y7 o o' ∧
   (∀b cs e fr,ρ id=some b→w.heap[b]?=some (.cells cs e fr)→∃cs' e' fr',w'.heap[b]?=some (.cells cs' e' fr')∧cs'.size=cs.size))
section
variable {w w':World} {R R':Nat→Prop} {ob ob':Obs} {ρ ρ':Pl→Option Nat}
theorem Stays.at_ (h:Stays w w' R R' ob ob' ρ ρ') {id ver:Nat} {X X':Ob→Prop} (ha:At ob id ver X)
  (hx:∀o o',X o→ρ' id=ρ id→y7 o o'→(∀b cs e fr,ρ id=some b→w.heap[b]?=some (.cells cs e fr)→∃cs' e' fr',w'.heap[b]?=some (.cells cs' e' fr')∧cs'.size=cs.size)→X' o') :
  At ob' id ver X':=by
 obtain ⟨v,o,h1,h2,h3⟩:=ha;obtain ⟨v',o',g1,g2,g3⟩:=h.obj id v o h1;refine ⟨v',o',g1,zao h2 g2,fun e=>?_⟩;obtain ⟨k1,k2,k3⟩:=g3 (by omega);exact hx o o' (h3 (by omega)) k1 k2 k3
theorem RelA.stays (h:Stays w w' R R' ob ob' ρ ρ') {x:AV} {c:Value} (hx:RelA w R ob ρ x c):RelA w' R' ob' ρ' x c:=by
 induction hx with
 | r h0=>exact .r (h0.mono h.free)
 | agg xs cs hl _ ih=>exact .agg xs cs hl ih
 | tup xs cs hl _ ih=>exact .tup xs cs hl ih
 | nils sz z=>exact .nils sz z
 | own id ver lo len c hc ha=>
  refine .own id ver lo len c hc (h.at_ ha fun o o' ho hρ hk hb=>?_);cases o with
  | box _=>
   cases o' with
   | box _=>
    obtain ⟨A,cap,e1,e2,e3,e5⟩:=ho;refine ⟨A,cap,e1,e2,e3,fun h0=>?_⟩;obtain ⟨b,cs,e,fr,f1,f2,f3,f4⟩:=e5 h0;obtain ⟨cs',e',fr',g1,g2⟩:=hb b cs e fr f1 f3;exact ⟨b,cs',e',fr',by rw [hρ,f1],f2,g1,by rw [g2]; exact f4⟩
   | _=>exact hk.elim
  | abs _=>exact ho.elim
  | map _ _=>exact ho.elim
  | iter _ _ _ _=>exact ho.elim
  | row sz z1 a1 w1 xs=>
   cases o' with
   | box _=>
    obtain rfl:sz=1:=hk;obtain ⟨A,cap,e1,e2,e3,e4,e5⟩:=ho;refine ⟨A,cap,e1,e2,e3,fun h0=>?_⟩;obtain ⟨b,cs,e,fr,f1,f2,f3,f4⟩:=e5 h0;obtain ⟨cs',e',fr',g1,g2⟩:=hb b cs e fr f1 f3;exact ⟨b,cs',e',fr',by rw [hρ,f1],by rw [f2,Nat.mul_one],g1,by rw [g2]; simpa using f4⟩
   | abs _=>exact hk.elim
   | map _ _=>exact hk.elim
   | iter _ _ _ _=>exact hk.elim
   | row sz' z2 a2 w2 xs'=>
    obtain ⟨rfl,hk⟩:=hk;obtain ⟨A,cap,e1,e2,e3,e4,e5⟩:=ho;refine ⟨A,cap,e1,e2,e3,by omega,fun h0=>?_⟩;obtain ⟨b,cs,e,fr,f1,f2,f3,f4⟩:=e5 h0;obtain ⟨cs',e',fr',g1,g2⟩:=hb b cs e fr f1 f3;exact ⟨b,cs',e',fr',by rw [hρ,f1],f2,g1,by rw [g2]; exact f4⟩
 | ptr id ver off c hc ha=>exact .ptr id ver off c hc (h.at_ ha fun o o' ho hρ hk hb=>by rw [hρ]; exact ho)
 | oel id ver idx off c hc ha=>
  refine .oel id ver idx off c hc (h.at_ ha fun o o' ho hρ hk hb=>?_);cases o with
  | box _=>
   cases o' with
   | box _=>
    obtain ⟨b,e1,e2⟩:=ho;exact ⟨b,by rw [hρ]; exact e1,e2⟩
   | _=>exact hk.elim
  | abs _=>exact ho.elim
  | map _ _=>exact ho.elim
  | iter _ _ _ _=>exact ho.elim
  | row sz z1 a1 w1 xs=>
   cases o' with
   | box _=>
    obtain rfl:sz=1:=hk;obtain ⟨e1,e2,b,e3,e4⟩:=ho;exact ⟨b,by rw [hρ]; exact e3,by rw [e4,Nat.mul_one]⟩
   | abs _=>exact hk.elim
   | map _ _=>exact hk.elim
   | iter _ _ _ _=>exact hk.elim
   | row sz' z2 a2 w2 xs'=>
    obtain ⟨rfl,hk⟩:=hk;obtain ⟨e1,e2,e3⟩:=ho;exact ⟨by omega,e2,by rw [hρ]; exact e3⟩
 | rp ys b o g hR hg=>
  refine .rp ys b o g (h.free b hR).1 fun j y hj=>?_;obtain ⟨h1,h2,h3⟩:=hg j y hj;refine ⟨?_,h2,h3.mono h.free⟩;rw [← h1];simp only [World.cell?];rw [(h.free b hR).2]
 | fn f xs k fs cs hk hl _ ih=>exact .fn f xs k fs cs hk hl ih
 | mp id ver c hc ha=>exact .mp id ver c hc (h.at_ ha fun o o' ho hρ hk hb=>by rw [hρ]; exact ho)
 | ifc t _ ih=>exact .ifc t ih
 | gd b _ hf ih=>exact .gd b ih hf
 | undef c=>exact .undef c
end
structure St where
 e:Nat→AV
 ob:Obs
def Own (ob:Obs) (ρ:Pl→Option Nat) (b:Nat):Prop:=∃id v o,ob id=some (v,o)∧o.own=true∧foot ρ id o b
def g8 (B:Nat→Prop) (ob:Obs) (ρ:Pl→Option Nat) (w:World) (b:Nat):Prop:=b<w.heap.size∧¬Own ob ρ b∧B b
def dn (w:World) (R:Nat→Prop) (ob:Obs) (ρ:Pl→Option Nat) (id:Nat):Ob→Prop
 | .box cells=>∃b cs e,ρ id=some b∧w.heap[b]?=some (.cells cs e (0,0))∧cs.size=cells.length ∧
   ∀(i:Nat) (x:AV) (c:Value),cells[i]?=some x→cs[i]?=some c→RelA w R ob ρ x c
 | .abs T=>∃b,ρ id=some b∧T.Q w b (fun j=>ρ (.s id j))
 | .map es clock=>∃b,ρ id=some b∧w.heap[b]?=some (.map es.toArray clock)
 | .iter m since seen stepped=>∃b m',ρ id=some b∧w.heap[b]?=some (.mapIter (some m') since seen.toArray stepped)∧RelA w R ob ρ m (.map (some m'))
 | .row sz _ app _ xs=>(xs=[]∧ρ id=none∧app=true)∨∃b cs e fr,ρ id=some b∧w.heap[b]?=some (.cells cs e fr) ∧
   (∀k,k<cs.size→¬(fr.1≤k∧k<fr.2))∧(app=true→fr=(0,0))∧xs.length*sz≤cs.size ∧
   ∀(i:Nat) (x:RV),xs[i]?=some x→x.cells.length=sz∧∀(j:Nat) (y:RV),x.cells[j]?=some y→∃c,cs[i*sz+j]?=some c∧c.oneCell'=true∧RelV w R y c
structure Keeps (I:Nat→Prop) (w w':World):Prop where
 os:w'.os=w.os
 tape:w'.tape=w.tape
 output:w'.output=w.output
 size:w.heap.size≤w'.heap.size
 block:∀b,b<w.heap.size→¬I b→w'.heap[b]?=w.heap[b]?
theorem Keeps.refl (I:Nat→Prop) (w:World):Keeps I w w:=⟨rfl,rfl,rfl,zaa _,fun _ _ _=>rfl⟩
theorem Keeps.trans {I:Nat→Prop} {a b c:World} (h:Keeps I a b) (k:Keeps I b c):Keeps I a c:=
 ⟨k.os.trans h.os,k.tape.trans h.tape,k.output.trans h.output,zao h.size k.size,fun i hi hn=>(k.block i (Nat.lt_of_lt_of_le hi h.size) hn).trans (h.block i hi hn)⟩
structure Cx where
 n:Nat
 I:Nat→Prop
 pn:Nat→Option Nat
 B:Nat→Prop
 w0:World
structure Mem (X:Cx) (ob:Obs) (ρ:Pl→Option Nat) (w:World):Prop where
 obj:∀id v o,ob id=some (v,o)→dn w (g8 X.B ob ρ w) ob ρ id o
 inj:∀id id' x x' b,ob id=some x→ob id'=some x'→foot ρ id x.2 b→foot ρ id' x'.2 b→id=id'
 keeps:Keeps X.I X.w0 w
 own:∀id v o b,ob id=some (v,o)→foot ρ id o b→X.I b∨X.w0.heap.size≤b
 pin:∀id b,X.pn id=some b→ρ id=some b∧∃o,ob id=some (0,o)∧o.pinned=true∧(o.isRow=true→wv X.w0 w b)
structure Gam (X:Cx) (s:St) (ρ:Pl→Option Nat) (a:Act) (w:World):Prop extends Mem X s.ob ρ w where
 sz:a.tmps.size=X.n
 df:a.defers=[]
 env:∀t,RelA w (g8 X.B s.ob ρ w) s.ob ρ (s.e t) (a.tmps.getD t undef)
 pnn:∀id,par id=false→X.pn id=none
 small:X.n≤100000
 base:∀b,X.I b∨X.w0.heap.size≤b→X.B b

inductive Opd where
 | t (n:Nat)
 | c (x:AV)
inductive PO where
 | mov (x:Opd)
 | pick (c a b:Opd)
 | bin (op:BinOp) (x y:Opd)
 | beq (neg:Bool) (x y:Opd)
 | eqn (neg:Bool) (x:Opd)
 | un (op:UnOp) (x:Opd)
 | conv (k:IntKind) (x:Opd)
 | toStr (x:Opd)
 | toBytes (z:RV) (x:Opd)
 | new (zs:List AV)
 | box (x:Opd)
 | build (zs:List AV) (ps:List (Nat×Nat×Opd))
 | mkf (f:Fn) (xs:List Opd) (k:Nat:=0)
 | eqa (neg:Bool) (ks:List Nat) (x y:Opd)
 | bsl (sz:Nat) (z:RV) (ps:List Opd)
 | ld (n:Option Nat) (x:Opd)
 | st (n:Nat) (x y:Opd)
 | nck (x:Opd)
 | fa (off:Nat) (x:Opd)
 | fld (off:Nat) (n:Option Nat) (x:Opd)
 | ia (sz:Nat) (z:RV) (x i:Opd)
 | ixs (x i:Opd)
 | sls (x:Opd) (lo hi:Option Opd)
 | sll (sz:Nat) (x:Opd) (lo hi mx:Option Opd)
 | mks (sz:Nat) (z:RV) (bytes:Nat) (l c:Opd)
 | len (str:Bool) (x:Opd)
 | app (sz:Nat) (z:RV) (bytes:Nat) (x y:Opd)
 | cpy (sz:Nat) (x y:Opd)
 | ext (x:Opd) (i:Nat)
 | mm (mx:Bool) (x:Opd) (ys:List Opd)
 | iaa (n sz:Nat) (x i:Opd)
 | carry (sub:Bool) (x y c:Opd)
 | lkp (str:Bool) (z:RV) (comma:Bool) (x i:Opd)
 | lenm (x:Opd)
 | mki (t:TypeId) (x:Opd)
 | tas (t:TypeId) (z:RV) (comma:Bool) (x:Opd)
 | ent (x:Opd)
 | mkm
 | mset (str:Bool) (x i y:Opd)
 | mdel (str:Bool) (x i:Opd)
 | rng (x:Opd)
 | mrk (x:Opd)
 | cps (x y:Opd)
 | sla (n:Nat) (x:Opd)
 | clr (sz:Nat) (z:RV) (x:Opd)
structure Rs where
 ok:Prop
 v:AV
 ob:Obs
 rd:List Nat
 wr:List Nat
abbrev Env:=Nat→AV
def put (d:Nat) (x:AV) (e:Env):Env:=fun n=>if n=d then x else e n
def upd (id:Nat) (x:Nat×Ob) (ob:Obs):Obs:=fun n=>if n=id then some x else ob n
def Opd.ev (e:Env):Opd→AV
 | .t n=>e n
 | .c x=>x
abbrev bl (b:Bool):AV:=.r (.v (.bool b))
abbrev int (k:IntKind) (n:Int):AV:=.r (.v (.int k n))
abbrev Vs:=Prop×AV
def Rs.and (p:Prop) (r:Rs):Rs:=⟨p∧r.ok,r.v,r.ob,r.rd,r.wr⟩
def bad (g:Bool):Vs:=(g=true→False,.undef)
def t6 (g:Bool) (id:Nat) (ob:Obs):Rs:=⟨g=true→False,.undef,ob,[id],[]⟩
def AV.bare:AV→AV
 | .gd _ x=>x
 | x=>x
def AV.may (g:Bool):AV→Prop
 | .gd b _=>g=true→b=true
 | _=>True
def Vs.q (ob:Obs) (p:Prop) (v:Vs):Rs:=⟨p∧v.1,v.2,ob,[],[]⟩
def nv (ob:Obs) (id:Nat):Nat:=match ob id with | some (v,_)=>v+1 | none=>0
def afe (g:Bool) (op:BinOp) (k k':IntKind) (a b:Int):Vs:=
 match op with
 | .add=>(k=k',int k (k.wrap (a+b)))
 | .sub=>(k=k',int k (k.wrap (a-b)))
 | .mul=>(k=k',int k (k.wrap (a*b)))
 | .quo=>(k=k'∧(g=true→¬b=0),int k (k.wrap (a.tdiv b)))
 | .rem=>(k=k'∧(g=true→¬b=0),int k (a.tmod b))
 | .and=>(k=k',int k (k.wrap ((zac k.bits a &&& zac k.bits b).toNat)))
 | .or=>(k=k',int k (k.wrap ((zac k.bits a ||| zac k.bits b).toNat)))
 | .xor=>(k=k',int k (k.wrap ((zac k.bits a ^^^ zac k.bits b).toNat)))
 | .andNot=>(k=k',int k (k.wrap ((zac k.bits a &&& ~~~ zac k.bits b).toNat)))
 | .eql=>(k=k',bl (a == b))
 | .neq=>(k=k',bl (a != b))
 | .lss=>(k=k',bl (decide (a<b)))
 | .gtr=>(k=k',bl (decide (a>b)))
 | .leq=>(k=k',bl (decide (a≤b)))
 | .geq=>(k=k',bl (decide (a≥b)))
 | .shl=>((g=true→0≤b),int k (k.wrap (a*2^(min b.toNat k.bits))))
 | .shr=>((g=true→0≤b),int k (a.fdiv (2^(min b.toNat k.bits))))
abbrev a02 (a:ByteArray):AV:=.r (.v (.string a))
def afd (g:Bool) (op:BinOp) (a b:ByteArray):Vs:=
 match op with
 | .add=>((g=true→a.size+b.size≤9223372036854775807),a02 (a++b))
 | .eql=>(True,bl (a.toList == b.toList))
 | .neq=>(True,bl (!(a.toList == b.toList)))
 | .lss=>(True,bl (Op.bytesLess a.toList b.toList))
 | .geq=>(True,bl (!Op.bytesLess a.toList b.toList))
 | _=>bad g
def abv (g:Bool) (op:BinOp):AV→AV→Vs
 | .r (.v (.int k a)),.r (.v (.int k' b))=>afe g op k k' a b
 | .r (.v (.string a)),.r (.v (.string b))=>afd g op a b
 | _,_=>bad g
def ud (g:Bool):AV→AV→AV→Vs
 | .r (.v (.bool c)),.r (.v (.bool a)),.r (.v (.bool b))=>(True,bl (bif c then a else b))
 | .r (.v (.bool c)),.gd h (.r (.v (.bool a))),.r (.v (.bool b))=>((g=true→c=true→h=true),bl (bif c then a else b))
 | .r (.v (.bool c)),.r (.v (.bool a)),.gd h (.r (.v (.bool b)))=>((g=true→c=false→h=true),bl (bif c then a else b))
 | .r (.v (.bool c)),.r (.v (.bool a)),.undef=>((g=true→c=true),bl a)
 | .r (.v (.bool c)),.undef,.r (.v (.bool b))=>((g=true→c=false),bl b)
 | .r (.v (.bool c)),.gd h .undef,.r (.v (.bool b))=>((g=true→c=false),bl b)
 | .r (.v (.bool c)),.r (.v (.bool a)),.gd h .undef=>((g=true→c=true),bl a)
 | _,_,_=>bad g
def abx (g neg:Bool):AV→AV→Vs
 | .r (.v (.bool a)),.r (.v (.bool b))=>(True,bl (bif neg then !(a == b) else (a == b)))
 | _,_=>bad g
def un1 (g:Bool) (op:UnOp):AV→Vs
 | .r (.v (.int k n))=>match op with
  | .neg=>(True,int k (k.wrap (0-n)))
  | .xor=>(True,int k (k.wrap ((zac k.bits (if k.signed then -1 else k.max) ^^^ zac k.bits n).toNat)))
  | _=>bad g
 | .r (.v (.bool b))=>match op with
  | .not=>(True,bl !b)
  | _=>bad g
 | _=>bad g
def up (g:Bool) (k:IntKind):AV→Vs
 | .r (.v (.int _ n))=>(True,int k (k.wrap n))
 | _=>bad g
def i9 (ob:Obs) (id ver:Nat):Option (Nat×RV×Bool×Bool×List RV):=
 match ob id with
 | some (v,.row sz z app wr xs)=>if ver=v then some (sz,z,app,wr,xs) else none
 | _=>none
def o7 (ob:Obs) (id ver:Nat):Option (List AV):=
 match ob id with
 | some (v,.box cells)=>if ver=v then some cells else none
 | _=>none
def jc (ob:Obs) (id ver:Nat):Option Unit:=
 match ob id with
 | some (v,.box _)=>if ver=v then some () else none
 | some (v,.abs _)=>if ver=v then some () else none
 | _=>none
def leb (g str:Bool) (id n:Nat) (ob:Obs):Option (List AV)→Rs
 | some _=>⟨str=false,int .i64 n,ob,[id],[]⟩
 | none=>t6 g id ob
def xl (g str:Bool):AV→Obs→Rs
 | .r (.sl _ xs),ob=>Vs.q ob (str=false) (True,int .i64 xs.length)
 | .r (.v (.string s)),ob=>Vs.q ob (str=true) (True,int .i64 s.size)
 | .nils _ _,ob=>Vs.q ob (str=false) (True,int .i64 0)
 | .own id ver _ n,ob=>match i9 ob id ver with
  | some _=>⟨str=false,int .i64 n,ob,[id],[]⟩
  | none=>leb g str id n ob (o7 ob id ver)
 | _,ob=>Vs.q ob True (bad g)
def iab (g:Bool) (sz id ver lo n:Nat) (i:Int) (ob:Obs):Option (List AV)→Rs
 | some _=>⟨sz=1∧(g=true→0≤i∧i<n),.ptr id ver (lo+i.toNat),ob,[id],[]⟩
 | none=>t6 g id ob
def ia2 (g:Bool) (sz:Nat) (z:RV):AV→AV→Obs→Rs
 | .r (.sl sz' xs),.r (.v (.int _ i)),ob=>Vs.q ob (sz'=sz) ((g=true→0≤i∧i<xs.length),.rp (xs.getD i.toNat z).cells)
 | .own id ver lo n,.r (.v (.int _ i)),ob=>match i9 ob id ver with
  | some (sz',_)=>⟨sz'=sz∧(g=true→0≤i∧i<n),.oel id ver (lo+i.toNat) 0,ob,[id],[]⟩
  | none=>iab g sz id ver lo n i ob (o7 ob id ver)
 | _,_,ob=>Vs.q ob True (bad g)
def abk (g:Bool):AV→AV→Vs
 | .r (.v (.string s)),.r (.v (.int _ i))=>((g=true→0≤i∧i<s.size),int .u8 (s.data.toList.getD i.toNat 0).toNat)
 | _,_=>bad g
def ldb (id:Nat) (ob:Obs) (g:Bool) (n:Option Nat) (off:Nat):Option (List AV)→Rs
 | some cells=>match n with
  | none=>⟨g=true→off<cells.length,cells.getD off .undef,ob,[id],[]⟩
  | some n=>⟨g=true→off+n≤cells.length,.agg ((cells.drop off).take n),ob,[id],[]⟩
 | none=>t6 g id ob
def ldr (id:Nat) (ob:Obs) (g:Bool) (n:Option Nat) (idx off:Nat):Option (Nat×RV×Bool×Bool×List RV)→Rs
 | some (sz,z,_,_,xs)=>match n with
  | none=>⟨g=true→off<sz,.r ((xs.getD idx z).cells.getD off (.v (.bool false))),ob,[id],[]⟩
  | some n=>⟨g=true→off+n≤sz,.r (.agg (((xs.getD idx z).cells.drop off).take n)),ob,[id],[]⟩
 | none=>t6 g id ob
def ld1 (g:Bool) (n:Option Nat):AV→Obs→Rs
 | .ptr id ver off,ob=>ldb id ob g n off (o7 ob id ver)
 | .oel id ver idx off,ob=>ldr id ob g n idx off (i9 ob id ver)
 | .rp ys,ob=>match n with
  | none=>Vs.q ob True ((g=true→0<ys.length),.r (ys.getD 0 (.v (.bool false))))
  | some n=>Vs.q ob True ((g=true→n≤ys.length),.r (.agg (ys.take n)))
 | _,ob=>Vs.q ob True (bad g)
def zr (g:Bool):AV→Obs→Rs
 | .ptr id ver off,ob=>match jc ob id ver with
  | some _=>⟨True,.ptr id ver off,ob,[id],[]⟩
  | none=>t6 g id ob
 | .oel id ver idx off,ob=>match i9 ob id ver with
  | some _=>⟨True,.oel id ver idx off,ob,[id],[]⟩
  | none=>t6 g id ob
 | .rp ys,ob=>Vs.q ob True (True,.rp ys)
 | .fn (.func f) xs k,ob=>Vs.q ob True (True,.fn (.func f) xs k)
 | _,ob=>Vs.q ob True (bad g)
def aae (g neg:Bool):AV→Obs→Rs
 | .ptr id ver _,ob=>match jc ob id ver with
  | some _=>⟨True,bl neg,ob,[id],[]⟩
  | none=>t6 g id ob
 | .r (.v (.pointer none)),ob=>Vs.q ob True (True,bl !neg)
 | _,ob=>Vs.q ob True (bad g)
def fa1 (g:Bool) (off:Nat):AV→Obs→Rs
 | .ptr id ver o,ob=>match o7 ob id ver with
  | some _=>⟨True,.ptr id ver (o+off),ob,[id],[]⟩
  | none=>t6 g id ob
 | .oel id ver idx o,ob=>match i9 ob id ver with
  | some (sz,_)=>⟨g=true→o+off≤sz,.oel id ver idx (o+off),ob,[id],[]⟩
  | none=>t6 g id ob
 | .rp ys,ob=>Vs.q ob True (True,.rp (ys.drop off))
 | _,ob=>Vs.q ob True (bad g)
def abn (g:Bool) (off:Nat) (n:Option Nat) (x:AV):Vs:=
 match x with
 | .agg cs=>match n with
  | none=>((g=true→off<cs.length),cs.getD off .undef)
  | some n=>((g=true→off+n≤cs.length),.agg ((cs.drop off).take n))
 | .r (.agg cs)=>match n with
  | none=>((g=true→off<cs.length),.r (cs.getD off (.v (.bool false))))
  | some n=>((g=true→off+n≤cs.length),.r (.agg ((cs.drop off).take n)))
 | _=>bad g
def bnd (d:Int):Option AV→Option Int
 | none=>some d
 | some (.r (.v (.int _ i)))=>some i
 | _=>none
def aba (g:Bool):AV→Option AV→Option AV→Vs
 | .r (.v (.string s)),lo,hi=>match bnd 0 lo,bnd s.size hi with
  | some l,some h=>((g=true→0≤l∧l≤h∧h≤s.size),a02 (s.extract l.toNat h.toNat))
  | _,_=>bad g
 | _,_,_=>bad g
def vg (g:Bool) (sz:Nat):AV→Option AV→Option AV→Option AV→Obs→Rs
 | .r (.sl sz' xs),lo,hi,mx,ob=>match bnd 0 lo,bnd xs.length hi,bnd xs.length mx with
  | some l,some h,some m=>Vs.q ob (sz'=sz) ((g=true→0≤l∧l≤h∧h≤m∧m≤xs.length),.r (.sl sz ((xs.take h.toNat).drop l.toNat)))
  | _,_,_=>Vs.q ob True (bad g)
 | .own id ver lo0 n,lo,hi,mx,ob=>match bnd 0 lo,bnd n hi,bnd n mx with
  | some l,some h,some m=>match i9 ob id ver with
   | some (sz',_)=>⟨sz'=sz∧(g=true→0≤l∧l≤h∧h≤m∧m≤n),.own id ver (lo0+l.toNat) (h-l).toNat,ob,[id],[]⟩
   | none=>t6 g id ob
  | _,_,_=>Vs.q ob True (bad g)
 | _,_,_,_,ob=>Vs.q ob True (bad g)
def ac0 (g:Bool) (id ver off n:Nat) (ob:Obs):Option (List AV)→Rs
 | some cells=>⟨g=true→off+n≤cells.length∧n≤maxLen,.own id ver off n,ob,[id],[]⟩
 | none=>t6 g id ob
def xd (g:Bool) (n:Nat):AV→Obs→Rs
 | .ptr id ver off,ob=>ac0 g id ver off n ob (o7 ob id ver)
 | _,ob=>Vs.q ob True (bad g)
def abp (g:Bool) (i:Nat):AV→Vs
 | .tup xs=>(i<xs.length,xs.getD i .undef)
 | _=>bad g
def d7 {α:Type} (l:List α) (i:Nat) (m:List α):List α:=l.take i++m++l.drop (i+m.length)
def src (ob:Obs):AV→Option (Nat×List RV×List Nat)
 | .r (.sl sz xs)=>some (sz,xs,[])
 | .nils sz _=>some (sz,[],[])
 | .own id ver lo len=>match i9 ob id ver with
  | some (sz,_,_,_,xs)=>some (sz,(xs.drop lo).take len,[id])
  | none=>none
 | _=>none
def we:RV→UInt8
 | .v (.int _ n)=>UInt8.ofNat n.toNat
 | _=>0
def ahu:RV→Bool
 | .v (.int .u8 n)=>decide (0≤n∧n<256)
 | _=>false
def AV.one:AV→Bool
 | .r x=>x.one
 | .agg _=>false
 | .tup _=>false
 | .gd _ _=>false
 | .undef=>false
 | _=>true
def AV.boxable:AV→Bool
 | .agg _=>true
 | .r (.agg _)=>true
 | x=>x.one
def jq (ob:Obs):Option (Nat×List RV×List Nat)→Rs
 | some (sz,ys,rd)=>⟨sz=1∧ys.all ahu=true,a02 ⟨(ys.map we).toArray⟩,ob,rd,[]⟩
 | none=>Vs.q ob False (False,.undef)
def ep (g:Bool) (e:Env):List AV→List (Nat×Nat×Opd)→Vs
 | zs,[]=>(True,.agg zs)
 | zs,(off,n,x)::r=>((x.ev e).may g∧(g=true→(x.ev e).bare.boxable=true∧(x.ev e).bare.cells.length=n∧off+n≤zs.length)∧(ep g e (d7 zs off (x.ev e).bare.cells) r).1,(ep g e (d7 zs off (x.ev e).bare.cells) r).2)
def l8 (e:Env):List Opd→List AV
 | []=>[]
 | x::xs=>(x.ev e).bare::l8 e xs
def bw (g:Bool) (e:Env):List Opd→Prop
 | []=>True
 | x::xs=>(x.ev e).may g∧bw g e xs
def eq2:Nat→AV→AV→Option Bool
 | 0,.r (.v (.int k a)),.r (.v (.int k' b))=>if k=k' then some (a == b) else none
 | 1,.r (.v (.bool a)),.r (.v (.bool b))=>some (a == b)
 | 2,.r (.v (.string a)),.r (.v (.string b))=>some (a.toList == b.toList)
 | _,_,_=>none
def eql:List Nat→List AV→List AV→Option Bool
 | [],[],[]=>some true
 | k::ks,x::xs,y::ys=>match eq2 k x y,eql ks xs ys with
  | some a,some b=>some (a&&b)
  | _,_=>none
 | _,_,_=>none
def AV.isA:AV→Bool
 | .agg _=>true
 | .r (.agg _)=>true
 | _=>false
def ac8 (g neg:Bool):Option Bool→Vs
 | some b=>(True,bl (bif neg then !b else b))
 | none=>bad g
def mmL (g mx:Bool):AV→List AV→Vs
 | x,[]=>(True,x)
 | .r (.v (.int k a)),.r (.v (.int k' b))::ys=>mmL g mx (int k (bif mx then max a b else min a b)) ys
 | _,_=>bad g
def oi (g:Bool) (n sz:Nat):AV→AV→Obs→Rs
 | .ptr id ver o,.r (.v (.int _ i)),ob=>match o7 ob id ver with
  | some _=>⟨g=true→0≤i∧i<n,.ptr id ver (o+i.toNat*sz),ob,[id],[]⟩
  | none=>t6 g id ob
 | .oel id ver idx o,.r (.v (.int _ i)),ob=>match i9 ob id ver with
  | some (sz',_)=>⟨g=true→0≤i∧i<n∧o+n*sz≤sz',.oel id ver idx (o+i.toNat*sz),ob,[id],[]⟩
  | none=>t6 g id ob
 | .rp ys,.r (.v (.int _ i)),ob=>Vs.q ob True ((g=true→0≤i∧i<n),.rp (ys.drop (i.toNat*sz)))
 | _,_,ob=>Vs.q ob True (bad g)
def na (g sub:Bool):AV→AV→AV→Vs
 | .r (.v (.int .u64 x)),.r (.v (.int .u64 y)),.r (.v (.int .u64 c))=>((g=true→0≤x∧0≤y∧0≤c∧c≤1∧x<18446744073709551616∧y<18446744073709551616),
   bif sub then .tup [int .u64 ((x+18446744073709551616-y-c)%18446744073709551616),int .u64 (if x<y+c then 1 else 0)]
   else .tup [int .u64 ((x+y+c)%18446744073709551616),int .u64 ((x+y+c)/18446744073709551616)])
 | _,_,_=>bad g
def oh (str:Bool):Value→Bool
 | .int _ _=>!str
 | .string _=>str
 | _=>false
def ab1:Value→Value→Option Bool
 | .int k a,.int k' b=>if k=k' then some (a == b) else none
 | .string a,.string b=>some (a == b)
 | _,_=>none
def jd (k:Value):List MapEntry→Nat→Option (Option (Nat×Value))
 | [],_=>some none
 | e::es,i=>match ab1 k e.key with
  | some true=>some (some (i,e.val))
  | some false=>jd k es (i+1)
  | none=>none
def okK (es:List MapEntry) (k:Value):Bool:=(jd k es 0).isSome
def ll:Value→RV
 | .agg cs=>.agg (cs.toList.map .v)
 | x=>.v x
def lkR (es:List MapEntry) (k:Value) (z:RV):RV:=match jd k es 0 with
 | some (some (_,v))=>ll v
 | _=>z
def lkB (es:List MapEntry) (k:Value):Bool:=match jd k es 0 with
 | some (some _)=>true
 | _=>false
def mg (es:List MapEntry) (clock:Nat) (k v:Value):List MapEntry:=match jd k es 0 with
 | some (some (i,_))=>es.modify i fun e=>{ e with key:=k,val:=v }
 | _=>es++[⟨k,v,clock⟩]
def mh (es:List MapEntry) (clock:Nat) (k:Value):Nat:=match jd k es 0 with
 | some (some _)=>clock
 | _=>clock+1
def adz (es:List MapEntry) (k:Value):List MapEntry:=match jd k es 0 with
 | some (some (i,_))=>es.eraseIdx i
 | _=>es
def aa6:List RV→Option (List Value)
 | []=>some []
 | .v x::xs=>match aa6 xs with
  | some l=>some (x::l)
  | none=>none
 | _=>none
def aa7:List AV→Option (List Value)
 | []=>some []
 | .r (.v x)::xs=>match aa7 xs with
  | some l=>some (x::l)
  | none=>none
 | _=>none
def ml:Option (List Value)→Option Value
 | some l=>some (.agg l.toArray)
 | none=>none
def toV:AV→Option Value
 | .r (.v x)=>some x
 | .r (.agg xs)=>ml (aa6 xs)
 | .agg xs=>ml (aa7 xs)
 | _=>none
def t7 (ob:Obs) (id ver:Nat):Option (List MapEntry×Nat):=
 match ob id with
 | some (v,.map es c)=>if ver=v then some (es,c) else none
 | _=>none
def de (ob:Obs) (id ver:Nat):Option (AV×Nat×List Nat×Nat):=
 match ob id with
 | some (v,.iter m since seen st)=>if ver=v then some (m,since,seen,st) else none
 | _=>none
def vj (g:Bool) (id:Nat) (ob:Obs) (f:List MapEntry→Vs):Option (List MapEntry×Nat)→Rs
 | some (es,_)=>⟨(f es).1,(f es).2,ob,[id],[]⟩
 | none=>t6 g id ob
def zx (g str:Bool) (z:RV) (comma:Bool):AV→AV→Obs→Rs
 | .mp id ver,.r (.v k),ob=>vj g id ob (fun es=>((g=true→oh str k=true∧okK es k=true),bif comma then .tup [.r (lkR es k z),bl (lkB es k)] else .r (lkR es k z))) (t7 ob id ver)
 | _,_,ob=>Vs.q ob True (bad g)
def qr (g:Bool):AV→Obs→Rs
 | .mp id ver,ob=>vj g id ob (fun es=>(True,int .i64 es.length)) (t7 ob id ver)
 | _,ob=>Vs.q ob True (bad g)
def aa8 (g:Bool) (t:TypeId) (z:RV) (comma:Bool):AV→Vs
 | .ifc t' x=>((g=true→t'=t∨comma=true),if t'=t then (bif comma then .tup [x,bl true] else x) else .tup [.r z,bl false])
 | _=>bad g
def axk (es:List MapEntry) (seen:List Nat):Option MapEntry:=match seen.getLast? with
 | some b=>es.find? fun e=>e.born == b
 | none=>none
def ac9:Option MapEntry→AV
 | some e=>.tup [.r (ll e.key),.r (ll e.val)]
 | none=>.undef
def xp (g:Bool) (id mid:Nat) (ob:Obs) (seen:List Nat) (st:Nat):Option (List MapEntry×Nat)→Rs
 | some (es,c)=>⟨g=true→c=st∧(axk es seen).isSome=true,ac9 (axk es seen),ob,[id,mid],[]⟩
 | none=>⟨g=true→False,.undef,ob,[id,mid],[]⟩
def vo (g:Bool) (id:Nat) (ob:Obs):Option (AV×Nat×List Nat×Nat)→Rs
 | some (.mp mid mver,_,seen,st)=>xp g id mid ob seen st (t7 ob mid mver)
 | _=>t6 g id ob
def xq (g:Bool):AV→Obs→Rs
 | .ptr id ver 0,ob=>vo g id ob (de ob id ver)
 | _,ob=>Vs.q ob True (bad g)
def PO.see (g:Bool) (e:Env) (ob:Obs):PO→Rs
 | .mov x=>Vs.q ob ((x.ev e).may g) (True,(x.ev e).bare)
 | .pick c a b=>Vs.q ob ((c.ev e).may g) (ud g (c.ev e).bare (a.ev e) (b.ev e))
 | .bin op x y=>Vs.q ob ((x.ev e).may g∧(y.ev e).may g) (abv g op (x.ev e).bare (y.ev e).bare)
 | .beq neg x y=>Vs.q ob ((x.ev e).may g∧(y.ev e).may g) (abx g neg (x.ev e).bare (y.ev e).bare)
 | .eqn neg x=>Rs.and ((x.ev e).may g) (aae g neg (x.ev e).bare ob)
 | .un op x=>Vs.q ob ((x.ev e).may g) (un1 g op (x.ev e).bare)
 | .conv k x=>Vs.q ob ((x.ev e).may g) (up g k (x.ev e).bare)
 | .len str x=>Rs.and ((x.ev e).may g) (xl g str (x.ev e).bare ob)
 | .ia sz z x i=>Rs.and ((x.ev e).may g∧(i.ev e).may g) (ia2 g sz z (x.ev e).bare (i.ev e).bare ob)
 | .ixs x i=>Vs.q ob ((x.ev e).may g∧(i.ev e).may g) (abk g (x.ev e).bare (i.ev e).bare)
 | .ld n x=>Rs.and ((x.ev e).may g) (ld1 g n (x.ev e).bare ob)
 | .nck x=>Rs.and ((x.ev e).may g) (zr g (x.ev e).bare ob)
 | .fa off x=>Rs.and ((x.ev e).may g) (fa1 g off (x.ev e).bare ob)
 | .fld off n x=>Vs.q ob ((x.ev e).may g) (abn g off n (x.ev e).bare)
 | .sls x lo hi=>Vs.q ob ((x.ev e).may g∧mayO g e lo∧mayO g e hi) (aba g (x.ev e).bare (bareO e lo) (bareO e hi))
 | .sll sz x lo hi mx=>Rs.and ((x.ev e).may g∧mayO g e lo∧mayO g e hi∧mayO g e mx) (vg g sz (x.ev e).bare (bareO e lo) (bareO e hi) (bareO e mx) ob)
 | .sla n x=>Rs.and ((x.ev e).may g) (xd g n (x.ev e).bare ob)
 | .ext x i=>Vs.q ob ((x.ev e).may g) (abp g i (x.ev e).bare)
 | .toStr x=>Rs.and ((x.ev e).may g) (jq ob (src ob (x.ev e).bare))
 | .build zs ps=>Vs.q ob True (ep g e zs ps)
 | .mkf f xs k=>Vs.q ob (bw g e xs) (True,.fn f (l8 e xs) k)
 | .eqa neg ks x y=>Vs.q ob ((x.ev e).may g∧(y.ev e).may g∧(g=true→(x.ev e).bare.isA=true∧(y.ev e).bare.isA=true)) (ac8 g neg (eql ks (x.ev e).bare.cells (y.ev e).bare.cells))
 | .mm mx x ys=>Vs.q ob ((x.ev e).may g∧bw g e ys) (mmL g mx (x.ev e).bare (l8 e ys))
 | .iaa n sz x i=>Rs.and ((x.ev e).may g∧(i.ev e).may g) (oi g n sz (x.ev e).bare (i.ev e).bare ob)
 | .carry sub x y c=>Vs.q ob ((x.ev e).may g∧(y.ev e).may g∧(c.ev e).may g) (na g sub (x.ev e).bare (y.ev e).bare (c.ev e).bare)
 | .lkp str z comma x i=>Rs.and ((x.ev e).may g∧(i.ev e).may g) (zx g str z comma (x.ev e).bare (i.ev e).bare ob)
 | .lenm x=>Rs.and ((x.ev e).may g) (qr g (x.ev e).bare ob)
 | .mki t x=>Vs.q ob ((x.ev e).may g) (True,.ifc t (x.ev e).bare)
 | .tas t z comma x=>Vs.q ob ((x.ev e).may g) (aa8 g t z comma (x.ev e).bare)
 | .ent x=>Rs.and ((x.ev e).may g) (xq g (x.ev e).bare ob)
 | _=>Vs.q ob False (False,.undef)
where
 mayO (g:Bool) (e:Env):Option Opd→Prop
  | none=>True
  | some x=>(x.ev e).may g
 bareO (e:Env):Option Opd→Option AV
  | none=>none
  | some x=>some (x.ev e).bare
def AV.rv (ob:Obs):AV→Option (RV×List Nat)
 | .r x=>some (x,[])
 | .nils sz _=>some (.sl sz [],[])
 | .own id ver lo len=>match i9 ob id ver with
  | some (sz,_,_,_,xs)=>some (.sl sz ((xs.drop lo).take len),[id])
  | none=>none
 | _=>none
def rvs (ob:Obs):List AV→Option (List RV×List Nat)
 | []=>some ([],[])
 | x::xs=>match x.rv ob,rvs ob xs with
  | some (y,i),some (ys,j)=>some (y::ys,i++j)
  | _,_=>none
def AV.elt (ob:Obs):AV→Option (RV×List Nat)
 | .agg xs=>match rvs ob xs with
  | some (ys,i)=>some (.agg ys,i)
  | none=>none
 | x=>x.rv ob
def frz (ob:Obs) (i:Nat):Option (Nat×Ob)→Obs
 | some (v,.row sz z app _ xs)=>upd i (v,.row sz z app false xs) ob
 | _=>ob
def freeze (ob:Obs):List Nat→Obs
 | []=>ob
 | i::is=>freeze (frz ob i (ob i)) is
def ba (ob:Obs):Rs:=⟨False,.undef,ob,[],[]⟩
def o3 (ob:Obs) (d:Nat) (x:Ob) (y:Nat→AV) (ok:Prop) (rd wr:List Nat):Rs:=⟨ok,y (nv ob d),upd d (nv ob d,x) ob,d::rd,d::wr⟩
def RV.good (sz:Nat) (x:RV):Bool:=x.cells.length == sz&&x.cells.all (·.one)
def stb (id:Nat) (ver:Nat) (ob:Obs) (n off:Nat) (y:List AV):Option (List AV)→Rs
 | some cells=>⟨y.length=n∧off+n≤cells.length∧y.all (·.one)=true,.undef,upd id (ver,.box (d7 cells off y)) ob,[id],[id]⟩
 | none=>ba ob
def str (id:Nat) (ver:Nat) (ob:Obs) (n idx off:Nat) (y:List RV):Option (Nat×RV×Bool×Bool×List RV)→Rs
 | some (sz,z,app,wr,xs)=>
  ⟨y.length=n∧off+n≤sz∧wr=true∧y.all (·.one)=true,.undef,
   upd id (ver,.row sz z app wr (xs.set idx (match xs.getD idx z with | .agg cs=>.agg (d7 cs off y) | x=>y.getD 0 x))) ob,[id],[id]⟩
 | none=>ba ob
def st2 (n:Nat) (x y:AV) (ob:Obs):Rs:=match x with
 | .ptr id ver off=>Rs.and (y.boxable=true) (stb id ver ob n off y.cells (o7 ob id ver))
 | .oel id ver idx off=>match rvs ob y.cells with
  | some (ys,[])=>Rs.and (y.boxable=true) (str id ver ob n idx off ys (i9 ob id ver))
  | _=>ba ob
 | _=>ba ob
def vp (d:Nat) (ob:Obs) (sz:Nat) (z:RV) (bytes:Nat):AV→Option (Nat×List RV×List Nat)→Rs
 | .nils sz' _,some (sy,ys,rd)=>o3 ob d (.row sz z true true ys) (fun v=>.own d v 0 ys.length) (sz'=sz∧sy=sz∧ys.length*bytes≤140737488355328∧ys.length≤maxLen) rd []
 | .own id ver 0 len,some (sy,ys,rd)=>match i9 ob id ver with
  | some (sz',z',app,wr,xs)=>⟨sz'=sz∧sy=sz∧(app || !par id)=true∧wr=true∧(len+ys.length)*bytes≤140737488355328∧len+ys.length≤maxLen,
    .own id (ver+1) 0 (len+ys.length),upd id (ver+1,.row sz z' app wr (xs.take len++ys)) ob,id::rd,[id]⟩
  | none=>ba ob
 | _,_=>ba ob
def spl {α:Type} (l:List α) (i:Nat) (m:List α):List α:=d7 l i m
def xu (ob:Obs) (sz:Nat):AV→Option (Nat×List RV×List Nat)→Rs
 | .own id ver lo n,some (sy,ys,rd)=>match i9 ob id ver with
  | some (sz',z',app,wr,xs)=>⟨sz'=sz∧sy=sz∧wr=true,int .i64 ((Nat.min ys.length n:Nat):Int),upd id (ver,.row sz z' app wr (spl xs lo (ys.take n))) ob,id::rd,[id]⟩
  | none=>ba ob
 | _,_=>ba ob
def be (e:Env) (ob:Obs) (g:Bool):List Opd→Option (Prop×List RV×List Nat)
 | []=>some (True,[],[])
 | x::xs=>match (x.ev e).bare.elt ob,be e ob g xs with
  | some (y,i),some (p,ys,j)=>some ((x.ev e).may g∧p,y::ys,i++j)
  | _,_=>none
def ag8 (l:Int) (z:RV):List RV:=List.replicate l.toNat z
def ir (d:Nat) (z:RV) (ob:Obs):AV→Rs
 | .r (.v (.string s))=>o3 ob d (.row 1 z false true (s.data.toList.map fun b=>.v (.int .u8 b.toNat))) (fun v=>.own d v 0 s.size) (s.size≤maxLen) [] []
 | _=>ba ob
def aey (d:Nat) (sz:Nat) (z:RV) (bytes:Nat) (ob:Obs):AV→AV→Rs
 | .r (.v (.int _ l)),.r (.v (.int _ c))=>o3 ob d (.row sz z true true (ag8 l z)) (fun v=>.own d v 0 l.toNat) (0≤l∧l≤c∧c≤maxLen∧c*bytes≤281474976710656) [] []
 | _,_=>ba ob
def vq (id ver:Nat) (ob:Obs) (ok:List MapEntry→Prop) (fe:List MapEntry→Nat→List MapEntry) (fc:List MapEntry→Nat→Nat):Option (List MapEntry×Nat)→Rs
 | some (es,c)=>⟨ok es,.undef,upd id (ver,.map (fe es c) (fc es c)) ob,[id],[id]⟩
 | none=>ba ob
def xa (str:Bool) (k:Value) (id ver:Nat) (ob:Obs):Option Value→Rs
 | some v=>vq id ver ob (fun es=>oh str k=true∧okK es k=true) (fun es c=>mg es c k v) (fun es c=>mh es c k) (t7 ob id ver)
 | none=>ba ob
def qo (str:Bool):AV→AV→AV→Obs→Rs
 | .mp id ver,.r (.v k),y,ob=>xa str k id ver ob (toV y)
 | _,_,_,ob=>ba ob
def qp (str:Bool):AV→AV→Obs→Rs
 | .mp id ver,.r (.v k),ob=>vq id ver ob (fun es=>oh str k=true∧okK es k=true) (fun es _=>adz es k) (fun _ c=>c) (t7 ob id ver)
 | _,_,ob=>ba ob
def ac1 (d mid mver:Nat) (ob:Obs):Option (List MapEntry×Nat)→Rs
 | some (_,c)=>o3 ob d (.iter (.mp mid mver) c [] c) (fun v=>.ptr d v 0) True [mid] []
 | none=>ba ob
def xe (d:Nat):AV→Obs→Rs
 | .mp mid mver,ob=>ac1 d mid mver ob (t7 ob mid mver)
 | _,ob=>ba ob
def abr (ob:Obs):AV→AV→Rs
 | .own id ver lo n,.r (.v (.string s))=>match i9 ob id ver with
  | some (sz,z',app,wr,xs)=>⟨sz=1∧wr=true,int .i64 ((Nat.min (s.data.toList.map fun b=>RV.v (.int .u8 b.toNat)).length n:Nat):Int),upd id (ver,.row 1 z' app wr (spl xs lo ((s.data.toList.map fun b=>RV.v (.int .u8 b.toNat)).take n))) ob,[id],[id]⟩
  | none=>ba ob
 | _,_=>ba ob
def abt (ob:Obs) (sz:Nat) (z:RV):AV→Rs
 | .own id ver lo n=>match i9 ob id ver with
  | some (sz',z',app,wr,xs)=>⟨sz'=sz∧wr=true,.undef,upd id (ver,.row sz z' app wr (spl xs lo (List.replicate n z))) ob,[id],[id]⟩
  | none=>ba ob
 | _=>ba ob
def abj (ob:Obs):AV→Rs
 | .own id ver lo len=>match i9 ob id ver with
  | some (sz,z',app,wr,xs)=>⟨app=true∧wr=true∧0<len,.own id ver lo len,upd id (ver,.row sz z' false wr xs) ob,[id],[id]⟩
  | none=>ba ob
 | _=>ba ob
def PO.act (d:Nat) (e:Env) (ob:Obs):PO→Rs
 | .new zs=>o3 ob d (.box zs) (fun v=>.ptr d v 0) True [] []
 | .box x=>o3 ob d (.box (x.ev e).bare.cells) (fun v=>.ptr d v 0) ((x.ev e).may true∧(x.ev e).bare.boxable=true) [] []
 | .bsl sz z ps=>match be e ob true ps with
  | some (p,ys,fz)=>o3 (freeze ob fz) d (.row sz z true true ys) (fun v=>.own d v 0 ys.length) (p∧ys.all (·.good sz)=true∧d∉fz) fz fz
  | none=>ba ob
 | .st n x y=>Rs.and ((x.ev e).may true∧(y.ev e).may true) (st2 n (x.ev e).bare (y.ev e).bare ob)
 | .cpy sz x y=>Rs.and ((x.ev e).may true∧(y.ev e).may true) (xu ob sz (x.ev e).bare (src ob (y.ev e).bare))
 | .app sz z bytes x y=>Rs.and ((x.ev e).may true∧(y.ev e).may true) (vp d ob sz z bytes (x.ev e).bare (src ob (y.ev e).bare))
 | .toBytes z x=>Rs.and ((x.ev e).may true) (ir d z ob (x.ev e).bare)
 | .mks sz z bytes l c=>Rs.and ((l.ev e).may true∧(c.ev e).may true) (aey d sz z bytes ob (l.ev e).bare (c.ev e).bare)
 | .mkm=>o3 ob d (.map [] 0) (fun v=>.mp d v) True [] []
 | .mset str x i y=>Rs.and ((x.ev e).may true∧(i.ev e).may true∧(y.ev e).may true) (qo str (x.ev e).bare (i.ev e).bare (y.ev e).bare ob)
 | .mdel str x i=>Rs.and ((x.ev e).may true∧(i.ev e).may true) (qp str (x.ev e).bare (i.ev e).bare ob)
 | .rng x=>Rs.and ((x.ev e).may true) (xe d (x.ev e).bare ob)
 | .mrk x=>Rs.and ((x.ev e).may true) (abj ob (x.ev e).bare)
 | .clr sz z x=>Rs.and ((x.ev e).may true) (abt ob sz z (x.ev e).bare)
 | .cps x y=>Rs.and ((x.ev e).may true∧(y.ev e).may true) (abr ob (x.ev e).bare (y.ev e).bare)
 | _=>ba ob

def Opd.us:Opd→List Nat
 | .t n=>[n]
 | .c _=>[]
def usO:Option Opd→List Nat
 | none=>[]
 | some x=>x.us
def usL:List Opd→List Nat
 | []=>[]
 | x::xs=>x.us++usL xs
def usP:List (Nat×Nat×Opd)→List Nat
 | []=>[]
 | (_,_,x)::r=>x.us++usP r
def PO.us:PO→List Nat
 | .mov x=>x.us
 | .pick c a b=>c.us++(a.us++b.us)
 | .bin _ x y=>x.us++y.us
 | .beq _ x y=>x.us++y.us
 | .eqn _ x=>x.us
 | .un _ x=>x.us
 | .conv _ x=>x.us
 | .toStr x=>x.us
 | .sla _ x=>x.us
 | .clr _ _ x=>x.us
 | .toBytes _ x=>x.us
 | .new _=>[]
 | .box x=>x.us
 | .build _ ps=>usP ps
 | .mkf _ xs _=>usL xs
 | .eqa _ _ x y=>x.us++y.us
 | .bsl _ _ ps=>usL ps
 | .ld _ x=>x.us
 | .st _ x y=>x.us++y.us
 | .nck x=>x.us
 | .fa _ x=>x.us
 | .fld _ _ x=>x.us
 | .ia _ _ x i=>x.us++i.us
 | .ixs x i=>x.us++i.us
 | .sls x lo hi=>x.us++(usO lo++usO hi)
 | .sll _ x lo hi mx=>x.us++(usO lo++(usO hi++usO mx))
 | .mks _ _ _ l c=>l.us++c.us
 | .len _ x=>x.us
 | .app _ _ _ x y=>x.us++y.us
 | .cpy _ x y=>x.us++y.us
 | .ext x _=>x.us
 | .mm _ x ys=>x.us++usL ys
 | .iaa _ _ x i=>x.us++i.us
 | .carry _ x y c=>x.us++(y.us++c.us)
 | .lkp _ _ _ x i=>x.us++i.us
 | .lenm x=>x.us
 | .mki _ x=>x.us
 | .tas _ _ _ x=>x.us
 | .ent x=>x.us
 | .mkm=>[]
 | .mset _ x i y=>x.us++(i.us++y.us)
 | .mdel _ x i=>x.us++i.us
 | .rng x=>x.us
 | .mrk x=>x.us
 | .cps x y=>x.us++y.us
theorem cd {p:Nat→Prop} {a b:List Nat} (h:∀t,t∈a++b→p t):(∀t,t∈a→p t)∧∀t,t∈b→p t:=⟨fun t ht=>h t (by simp [ht]),fun t ht=>h t (by simp [ht])⟩
section
variable {e e':Env} {ob ob':Obs}
theorem t5 {x:Opd} (h:∀t,t∈x.us→e' t=e t):x.ev e'=x.ev e:=by
 cases x with
 | t n=>exact h n (by simp [Opd.us])
 | c x=>rfl
theorem zt {g:Bool} {x:Option Opd} (h:∀t,t∈usO x→e' t=e t):PO.see.mayO g e' x=PO.see.mayO g e x:=by
 cases x with
 | none=>rfl
 | some x=>simp only [PO.see.mayO,t5 h]
theorem wh {x:Option Opd} (h:∀t,t∈usO x→e' t=e t):PO.see.bareO e' x=PO.see.bareO e x:=by
 cases x with
 | none=>rfl
 | some x=>simp only [PO.see.bareO,t5 h]
theorem an2 {g:Bool}:∀{ps:List (Nat×Nat×Opd)} {zs:List AV},(∀t,t∈usP ps→e' t=e t)→ep g e' zs ps=ep g e zs ps
 | [],zs,h=>rfl
 | (off,n,x)::r,zs,h=>by
  obtain ⟨h1,h2⟩:=cd (a:=x.us) h;simp only [ep,t5 h1];rw [an2 h2]
theorem qe:∀{xs:List Opd},(∀t,t∈usL xs→e' t=e t)→l8 e' xs=l8 e xs
 | [],h=>rfl
 | x::r,h=>by
  obtain ⟨h1,h2⟩:=cd (a:=x.us) h;simp only [l8,t5 h1,qe h2]
theorem uh {g:Bool}:∀{xs:List Opd},(∀t,t∈usL xs→e' t=e t)→bw g e' xs=bw g e xs
 | [],h=>rfl
 | x::r,h=>by
  obtain ⟨h1,h2⟩:=cd (a:=x.us) h;simp only [bw,t5 h1,uh h2]
theorem arr {g:Bool}:∀{xs:List Opd},(∀t,t∈usL xs→e' t=e t)→be e' ob g xs=be e ob g xs
 | [],h=>rfl
 | x::r,h=>by
  obtain ⟨h1,h2⟩:=cd (a:=x.us) h;simp only [be,t5 h1,arr h2]
theorem bb6 {o:PO} {g:Bool} (h:∀t,t∈o.us→e' t=e t):o.see g e' ob=o.see g e ob:=by
 cases o with
 | pick c a b | carry _ c a b=>
  obtain ⟨h1,h2⟩:=cd (a:=c.us) h;obtain ⟨h2,h3⟩:=cd h2;simp only [PO.see,t5 h1,t5 h2,t5 h3]
 | bin _ x y | beq _ x y | eqa _ _ x y | ia _ _ x y | ixs x y | iaa _ _ x y | lkp _ _ _ x y=>
  obtain ⟨h1,h2⟩:=cd h;simp only [PO.see,t5 h1,t5 h2]
 | sls x lo hi=>
  obtain ⟨h1,h2⟩:=cd (a:=x.us) h;obtain ⟨h2,h3⟩:=cd h2;simp only [PO.see,t5 h1,zt h2,zt h3,wh h2,wh h3]
 | sll _ x lo hi mx=>
  obtain ⟨h1,h2⟩:=cd (a:=x.us) h;obtain ⟨h2,h3⟩:=cd (a:=usO lo) h2;obtain ⟨h3,h4⟩:=cd h3;simp only [PO.see,t5 h1,zt h2,zt h3,zt h4,wh h2,wh h3,wh h4]
 | mm _ x ys=>
  obtain ⟨h1,h2⟩:=cd (a:=x.us) h;simp only [PO.see,t5 h1,uh h2,qe h2]
 | build zs ps=>simp only [PO.see,an2 (show ∀t,t∈usP ps→e' t=e t from h)]
 | mkf f xs k=>
  simp only [PO.see,uh (show ∀t,t∈usL xs→e' t=e t from h),qe (show ∀t,t∈usL xs→e' t=e t from h)]
 | sla _ x | lenm x | mki _ x | tas _ _ _ x | ent x | mov x | eqn _ x | un _ x | conv _ x | toStr x | ld _ x | nck x | fa _ x | fld _ _ x | len _ x | ext x _=>
  simp only [PO.see,t5 (show ∀t,t∈x.us→e' t=e t from h)]
 | toBytes _ _ | new _ | box _ | bsl _ _ _ | st _ _ _ | mks _ _ _ _ _ | app _ _ _ _ _ | cpy _ _ _ | mkm | mset _ _ _ _ | mdel _ _ _ | rng _ | mrk _ | cps _ _ | clr _ _ _=>rfl
theorem bed {o:PO} {d:Nat} (h:∀t,t∈o.us→e' t=e t):o.act d e' ob=o.act d e ob:=by
 cases o with
 | mset _ x i y=>
  obtain ⟨h1,h2⟩:=cd (a:=x.us) h;obtain ⟨h2,h3⟩:=cd h2;simp only [PO.act,t5 h1,t5 h2,t5 h3]
 | st _ x y | mks _ _ _ x y | app _ _ _ x y | cpy _ x y | mdel _ x y | cps x y=>
  obtain ⟨h1,h2⟩:=cd h;simp only [PO.act,t5 h1,t5 h2]
 | bsl _ _ ps=>simp only [PO.act,arr (show ∀t,t∈usL ps→e' t=e t from h)]
 | box x | toBytes _ x | rng x | mrk x | clr _ _ x=>simp only [PO.act,t5 (show ∀t,t∈x.us→e' t=e t from h)]
 | _=>rfl
theorem n8 {id ver:Nat} (h:ob' id=ob id):i9 ob' id ver=i9 ob id ver:=by unfold i9; rw [h]
theorem cg {id ver:Nat} (h:ob' id=ob id):o7 ob' id ver=o7 ob id ver:=by unfold o7; rw [h]
theorem at6 {id ver:Nat} (h:ob' id=ob id):jc ob' id ver=jc ob id ver:=by unfold jc; rw [h]
theorem ym {id ver:Nat} (h:ob' id=ob id):t7 ob' id ver=t7 ob id ver:=by unfold t7; rw [h]
theorem ad1 {id ver:Nat} (h:ob' id=ob id):de ob' id ver=de ob id ver:=by unfold de; rw [h]
theorem aex {id:Nat} (h:ob' id=ob id):nv ob' id=nv ob id:=by unfold nv; rw [h]
def dr (ob ob':Obs) (l:List Nat):Prop:=∀i,i∈l→ob' i=ob i
def q9 (ob ob':Obs) (f:Obs→Rs):Prop:=(f ob).ok→dr ob ob' (f ob).rd→(f ob').ok∧(f ob').v=(f ob).v
theorem q9.and {p:Prop} {f:Obs→Rs} (h:q9 ob ob' f):q9 ob ob' fun ob=>Rs.and p (f ob):=fun ⟨hp,hok⟩ hs=>⟨⟨hp,(h hok hs).1⟩,(h hok hs).2⟩
theorem p9 {p:Prop} {v:Vs}:q9 ob ob' fun ob=>Vs.q ob p v:=fun h _=>⟨h,rfl⟩
theorem a4d {g:Bool} {id ver:Nat} {k:Nat×RV×Bool×Bool×List RV→Obs→Rs} (hk:∀x,id∈(k x ob).rd) (hq:∀x,q9 ob ob' (k x)) :
  q9 ob ob' fun ob=>match i9 ob id ver with | some x=>k x ob | none=>t6 g id ob:=by
 intro hok hs;rcases hr:i9 ob id ver with _ | x
 ·simp only [hr] at hok hs ⊢;rw [n8 (hs id (by simp [t6])),hr];exact ⟨hok,rfl⟩
 ·simp only [hr] at hok hs ⊢;rw [n8 (hs id (hk x)),hr];exact hq x hok hs
theorem a4m {g:Bool} {id ver:Nat} {k:List AV→Obs→Rs} (hk:∀x,id∈(k x ob).rd) (hq:∀x,q9 ob ob' (k x)) :
  q9 ob ob' fun ob=>match o7 ob id ver with | some x=>k x ob | none=>t6 g id ob:=by
 intro hok hs;rcases hr:o7 ob id ver with _ | x
 ·simp only [hr] at hok hs ⊢;rw [cg (hs id (by simp [t6])),hr];exact ⟨hok,rfl⟩
 ·simp only [hr] at hok hs ⊢;rw [cg (hs id (hk x)),hr];exact hq x hok hs
theorem at4 {g:Bool} {id ver:Nat} {k:Unit→Obs→Rs} (hk:∀x,id∈(k x ob).rd) (hq:∀x,q9 ob ob' (k x)) :
  q9 ob ob' fun ob=>match jc ob id ver with | some x=>k x ob | none=>t6 g id ob:=by
 intro hok hs;rcases hr:jc ob id ver with _ | x
 ·simp only [hr] at hok hs ⊢;rw [at6 (hs id (by simp [t6])),hr];exact ⟨hok,rfl⟩
 ·simp only [hr] at hok hs ⊢;rw [at6 (hs id (hk x)),hr];exact hq x hok hs
theorem at5 {g:Bool} {id ver:Nat} {f:List MapEntry→Vs}:q9 ob ob' fun ob=>vj g id ob f (t7 ob id ver):=by
 intro hok hs;rcases hr:t7 ob id ver with _ | ⟨es,c⟩
 ·simp only [hr] at hok hs ⊢;rw [ym (hs id (by simp [vj,t6])),hr];exact ⟨hok,rfl⟩
 ·simp only [hr] at hok hs ⊢;rw [ym (hs id (by simp [vj])),hr];exact ⟨hok,rfl⟩
theorem a4f {g str:Bool} {z:RV} {comma:Bool} {x y:AV}:q9 ob ob' (zx g str z comma x y):=by
 cases x with
 | mp id ver=>cases y with
  | r y=>cases y with
   | v k=>exact at5
   | _=>exact p9
  | _=>exact p9
 | _=>exact p9
theorem a1f {g:Bool} {x:AV}:q9 ob ob' (qr g x):=by
 cases x with
 | mp id ver=>exact at5
 | _=>exact p9
theorem a4l {g:Bool} {x:AV}:q9 ob ob' (xq g x):=by
 cases x with
 | ptr id ver off=>cases off with
  | succ off=>exact p9
  | zero=>
   intro hok hs;simp only [xq] at hok hs ⊢;rcases hr:de ob id ver with _ | ⟨m,since,seen,st⟩
   ·rw [hr] at hok hs;rw [ad1 (hs id (by simp [vo,t6])),hr];exact ⟨hok,rfl⟩
   ·rw [hr] at hok hs;cases m with
    | mp mid mver=>
     simp only [vo] at hok hs ⊢;rcases hm:t7 ob mid mver with _ | ⟨es,c⟩
     ·rw [hm] at hok hs;rw [ad1 (hs id (by simp [xp])),hr];simp only [vo];rw [ym (hs mid (by simp [xp])),hm];exact ⟨hok,rfl⟩
     ·rw [hm] at hok hs;rw [ad1 (hs id (by simp [xp])),hr];simp only [vo];rw [ym (hs mid (by simp [xp])),hm];exact ⟨hok,rfl⟩
    | _=>
     rw [ad1 (hs id (by simp [vo,t6])),hr];exact ⟨hok,rfl⟩
 | _=>exact p9
theorem a4g {g str:Bool} {x:AV}:q9 ob ob' (xl g str x):=by
 cases x with
 | own id ver lo n=>
  intro hok hs;simp only [xl] at hok hs ⊢;rcases hr:i9 ob id ver with _ | c
  ·rw [hr] at hok hs;simp only at hok hs ⊢;rcases hb:o7 ob id ver with _ | q
   ·rw [hb] at hok hs;have he:=hs id (by simp [t6,leb]);rw [n8 he,hr];simp only;rw [cg he,hb];exact ⟨hok,rfl⟩
   ·rw [hb] at hok hs;have he:=hs id (by simp [leb]);rw [n8 he,hr];simp only;rw [cg he,hb];exact ⟨hok,rfl⟩
  ·rw [hr] at hok hs;rw [n8 (hs id (by simp)),hr];exact ⟨hok,rfl⟩
 | r x=>cases x with
  | v x=>cases x<;>exact p9
  | _=>exact p9
 | _=>exact p9
theorem a7x {g:Bool} {sz:Nat} {z:RV} {x y:AV}:q9 ob ob' (ia2 g sz z x y):=by
 rcases y with ⟨v | _ | _⟩ | _ | _ | _ | _ | _ | _ | _ | _ | _ | _ | _ | _
 ·cases v with
  | int k i=>
   cases x with
   | own id ver lo n=>
    intro hok hs;simp only [ia2] at hok hs ⊢;rcases hr:i9 ob id ver with _ | c
    ·rw [hr] at hok hs;simp only at hok hs ⊢;rcases hb:o7 ob id ver with _ | q
     ·rw [hb] at hok hs;have he:=hs id (by simp [t6,iab]);rw [n8 he,hr];simp only;rw [cg he,hb];exact ⟨hok,rfl⟩
     ·rw [hb] at hok hs;have he:=hs id (by simp [iab]);rw [n8 he,hr];simp only;rw [cg he,hb];exact ⟨hok,rfl⟩
    ·rw [hr] at hok hs;rw [n8 (hs id (by simp)),hr];exact ⟨hok,rfl⟩
   | r x=>cases x<;>exact p9
   | _=>exact p9
  | _=>rcases x with ⟨_ | _ | _⟩ | _ | _ | _ | _ | _ | _ | _ | _ | _ | _ | _ | _<;>exact p9
 all_goals rcases x with ⟨_ | _ | _⟩ | _ | _ | _ | _ | _ | _ | _ | _ | _ | _ | _ | _<;>exact p9
theorem a4j {g:Bool} {n sz:Nat} {x y:AV}:q9 ob ob' (oi g n sz x y):=by
 rcases y with ⟨v | _ | _⟩ | _ | _ | _ | _ | _ | _ | _ | _ | _ | _ | _ | _
 ·cases v with
  | int k i=>
   cases x with
   | ptr id ver o=>
    intro hok hs;simp only [oi] at hok hs ⊢;rcases hr:o7 ob id ver with _ | c
    ·rw [hr] at hok hs;rw [cg (hs id (by simp [t6,ldb,ldr])),hr];exact ⟨hok,rfl⟩
    ·rw [hr] at hok hs;rw [cg (hs id (by simp)),hr];exact ⟨hok,rfl⟩
   | oel id ver j o=>
    intro hok hs;simp only [oi] at hok hs ⊢;rcases hr:i9 ob id ver with _ | c
    ·rw [hr] at hok hs;rw [n8 (hs id (by simp [t6,ldb,ldr])),hr];exact ⟨hok,rfl⟩
    ·rw [hr] at hok hs;rw [n8 (hs id (by simp)),hr];exact ⟨hok,rfl⟩
   | _=>exact p9
  | _=>rcases x with ⟨_ | _ | _⟩ | _ | _ | _ | _ | _ | _ | _ | _ | _ | _ | _ | _<;>exact p9
 all_goals rcases x with ⟨_ | _ | _⟩ | _ | _ | _ | _ | _ | _ | _ | _ | _ | _ | _ | _<;>exact p9
theorem a4e {g:Bool} {x:AV}:q9 ob ob' (zr g x):=by
 cases x with
 | ptr id ver off=>exact at4 (k:=fun _ ob=>⟨True,.ptr id ver off,ob,[id],[]⟩) (fun _=>by simp) fun _ h _=>⟨h,rfl⟩
 | oel id ver i off=>exact a4d (k:=fun _ ob=>⟨True,.oel id ver i off,ob,[id],[]⟩) (fun _=>by simp) fun _ h _=>⟨h,rfl⟩
 | fn f xs=>cases f<;>exact p9
 | _=>exact p9
theorem a4k {g neg:Bool} {x:AV}:q9 ob ob' (aae g neg x):=by
 cases x with
 | ptr id ver off=>exact at4 (k:=fun _ ob=>⟨True,bl neg,ob,[id],[]⟩) (fun _=>by simp) fun _ h _=>⟨h,rfl⟩
 | r x=>cases x with
  | v x=>cases x with
   | pointer a=>cases a<;>exact p9
   | _=>exact p9
  | _=>exact p9
 | _=>exact p9
theorem a7y {g:Bool} {off:Nat} {x:AV}:q9 ob ob' (fa1 g off x):=by
 cases x with
 | ptr id ver o=>exact a4m (k:=fun _ ob=>⟨True,.ptr id ver (o+off),ob,[id],[]⟩) (fun _=>by simp) fun _ h _=>⟨h,rfl⟩
 | oel id ver i o=>
  intro hok hs;simp only [fa1] at hok hs ⊢;rcases hr:i9 ob id ver with _ | c
  ·rw [hr] at hok hs;rw [n8 (hs id (by simp [t6,ldb,ldr])),hr];exact ⟨hok,rfl⟩
  ·rw [hr] at hok hs;rw [n8 (hs id (by simp)),hr];exact ⟨hok,rfl⟩
 | _=>exact p9
theorem a4i {id:Nat} {g:Bool} {n:Option Nat} {off:Nat} {c:Option (List AV)}:q9 ob ob' fun ob=>ldb id ob g n off c:=by
 unfold ldb;intro h hs;split at h<;>(try split at h)<;>exact ⟨h,rfl⟩
theorem a4h {id:Nat} {g:Bool} {n:Option Nat} {idx off:Nat} {c:Option (Nat×RV×Bool×Bool×List RV)}:q9 ob ob' fun ob=>ldr id ob g n idx off c:=by
 unfold ldr;intro h hs;split at h<;>(try split at h)<;>exact ⟨h,rfl⟩
theorem bge {id:Nat} {g:Bool} {n:Option Nat} {off:Nat} {c:List AV}:id∈(ldb id ob g n off (some c)).rd:=by unfold ldb; cases n<;>simp
theorem bgd {id:Nat} {g:Bool} {n:Option Nat} {idx off:Nat} {c:Nat×RV×Bool×Bool×List RV}:id∈(ldr id ob g n idx off (some c)).rd:=by unfold ldr; cases n<;>simp
theorem a7w {g:Bool} {n:Option Nat} {x:AV}:q9 ob ob' (ld1 g n x):=by
 cases x with
 | ptr id ver off=>
  intro hok hs;simp only [ld1] at hok hs ⊢;rcases hr:o7 ob id ver with _ | c
  ·rw [hr] at hok hs;rw [cg (hs id (by simp [t6,ldb,ldr])),hr];exact ⟨hok,rfl⟩
  ·rw [hr] at hok hs;rw [cg (hs id bge),hr];exact a4i hok hs
 | oel id ver i off=>
  intro hok hs;simp only [ld1] at hok hs ⊢;rcases hr:i9 ob id ver with _ | c
  ·rw [hr] at hok hs;rw [n8 (hs id (by simp [t6,ldb,ldr])),hr];exact ⟨hok,rfl⟩
  ·rw [hr] at hok hs;rw [n8 (hs id bgd),hr];exact a4h hok hs
 | rp ys=>cases n<;>exact p9
 | _=>exact p9
theorem a4c {g:Bool} {n:Nat} {x:AV}:q9 ob ob' (xd g n x):=by
 cases x with
 | ptr id ver o=>
  intro hok hs;simp only [xd] at hok hs ⊢;rcases hr:o7 ob id ver with _ | c
  ·rw [hr] at hok hs;rw [cg (hs id (by simp [t6,ac0])),hr];exact ⟨hok,rfl⟩
  ·rw [hr] at hok hs;rw [cg (hs id (by simp [ac0])),hr];exact ⟨hok,rfl⟩
 | _=>exact p9
theorem a4b {g:Bool} {sz:Nat} {x:AV} {lo hi mx:Option AV}:q9 ob ob' (vg g sz x lo hi mx):=by
  cases x with
  | own id ver l0 n=>
    intro hok hs;rcases h1:bnd 0 lo with _ | l<;>rcases h2:bnd n hi with _ | h<;>rcases h3:bnd n mx with _ | m<;>simp only [vg,h1,h2,h3] at hok hs ⊢
    all_goals first
      | exact ⟨hok,rfl⟩
      | (rcases hr:i9 ob id ver with _ | c
         · rw [hr] at hok hs;rw [n8 (hs id (by simp [t6])),hr];exact ⟨hok,rfl⟩
         · rw [hr] at hok hs;rw [n8 (hs id (by simp)),hr]
           exact ⟨hok,rfl⟩)
  | r x=>cases x with
    | sl sz' xs=>
      intro hok hs;simp only [vg] at hok hs ⊢;split at hok<;>exact ⟨hok,rfl⟩
    | _=>exact p9
  | _=>exact p9
theorem afv {x:AV} {sz:Nat} {ys:List RV} {l:List Nat} (h:src ob x=some (sz,ys,l)) (hs:dr ob ob' l):src ob' x=some (sz,ys,l):=by
 unfold src at h ⊢;split at h
 ·exact h
 ·exact h
 ·rename_i id ver lo len;rcases hr:i9 ob id ver with _ | c
  ·simp only [hr] at h; cases h
  ·simp only [hr] at h;cases h;rw [n8 (hs id (by simp)),hr]
 ·cases h
theorem a4a {x:AV}:q9 ob ob' fun ob=>jq ob (src ob x):=by
 intro hok hs;rcases hr:src ob x with _ | ⟨sz,ys,l⟩
 ·simp only [hr,jq] at hok; exact hok.1.elim
 ·simp only [hr,jq] at hok hs ⊢;rw [afv hr hs];exact ⟨hok,rfl⟩
theorem be8 {o:PO} {g:Bool} {e:Env}:q9 ob ob' fun ob=>o.see g e ob:=by
 cases o with
 | eqn _ x=>exact q9.and a4k
 | len _ x=>exact q9.and a4g
 | ia _ _ x i=>exact q9.and a7x
 | iaa _ _ x i=>exact q9.and a4j
 | ld _ x=>exact q9.and a7w
 | nck x=>exact q9.and a4e
 | fa _ x=>exact q9.and a7y
 | sll _ x lo hi mx=>exact q9.and a4b
 | sla n x=>exact q9.and a4c
 | toStr x=>exact q9.and a4a
 | lkp _ _ _ x i=>exact q9.and a4f
 | lenm x=>exact q9.and a1f
 | ent x=>exact q9.and a4l
 | _=>exact p9
def pin:Option (Nat×Ob)→Option (Nat×Option Nat)
 | some (v,.box _)=>some (v,none)
 | some (v,.row sz _ _ _ _)=>some (v,some sz)
 | _=>none
def a6z (ob ob':Obs) (l:List Nat):Prop:=∀i,i∈l→pin (ob' i)=pin (ob i)
def PO.adr:PO→Bool
 | .fa _ _=>true
 | .iaa _ _ _ _=>true
 | .ia _ _ _ _=>true
 | _=>false
def sn (ob ob':Obs) (f:Obs→Rs):Prop:=(f ob).ok→a6z ob ob' (f ob).rd→(f ob').ok∧(f ob').v=(f ob).v
theorem sn.and {p:Prop} {f:Obs→Rs} (h:sn ob ob' f):sn ob ob' fun ob=>Rs.and p (f ob):=fun ⟨hp,hok⟩ hs=>⟨⟨hp,(h hok hs).1⟩,(h hok hs).2⟩
theorem rj {p:Prop} {v:Vs}:sn ob ob' fun ob=>Vs.q ob p v:=fun h _=>⟨h,rfl⟩
theorem atl {id ver:Nat} (h:pin (ob' id)=pin (ob id)):(o7 ob id ver=none∧o7 ob' id ver=none)∨∃c c',o7 ob id ver=some c∧o7 ob' id ver=some c':=by
 unfold o7
 revert h
 generalize ob id=q;generalize ob' id=q';intro h;rcases q with _ | ⟨v,c | ⟨sz,z,app,wr,xs⟩ | T | _ | _⟩<;>rcases q' with _ | ⟨v',c' | ⟨sz',z',app',wr',xs'⟩ | T' | _ | _⟩<;>simp [pin] at h ⊢;subst h;by_cases hv:ver=v'<;>simp [hv]
theorem ash {id ver:Nat} (h:pin (ob' id)=pin (ob id)):(i9 ob id ver=none∧i9 ob' id ver=none)∨∃sz c c',i9 ob id ver=some (sz,c)∧i9 ob' id ver=some (sz,c'):=by
 unfold i9
 revert h
 generalize ob id=q;generalize ob' id=q';intro h;rcases q with _ | ⟨v,c | ⟨sz,z,app,wr,xs⟩ | T | _ | _⟩<;>rcases q' with _ | ⟨v',c' | ⟨sz',z',app',wr',xs'⟩ | T' | _ | _⟩<;>simp [pin] at h ⊢;obtain ⟨rfl,rfl⟩:=h;by_cases hv:ver=v'<;>simp [hv]
theorem a4o {g:Bool} {off:Nat} {x:AV}:sn ob ob' (fa1 g off x):=by
 cases x with
 | ptr id ver o=>
  intro hok hs;simp only [fa1] at hok hs ⊢;have hp:pin (ob' id)=pin (ob id):=hs id (by split<;>simp [t6]);rcases atl (ver:=ver) hp with ⟨h1,h2⟩ | ⟨c,c',h1,h2⟩
  ·rw [h1] at hok ⊢; rw [h2]; exact ⟨hok,rfl⟩
  ·rw [h1]; rw [h2]; exact ⟨trivial,rfl⟩
 | oel id ver i o=>
  intro hok hs;simp only [fa1] at hok hs ⊢;have hp:pin (ob' id)=pin (ob id):=hs id (by split<;>simp [t6]);rcases ash (ver:=ver) hp with ⟨h1,h2⟩ | ⟨sz,c,c',h1,h2⟩
  ·rw [h1] at hok ⊢; rw [h2]; exact ⟨hok,rfl⟩
  ·rw [h1] at hok ⊢; rw [h2]; exact ⟨hok,rfl⟩
 | _=>exact rj
theorem a1g {g:Bool} {n sz:Nat} {x y:AV}:sn ob ob' (oi g n sz x y):=by
 rcases y with ⟨v | _ | _⟩ | _ | _ | _ | _ | _ | _ | _ | _ | _ | _ | _ | _
 ·cases v with
  | int k i=>
   cases x with
   | ptr id ver o=>
    intro hok hs;simp only [oi] at hok hs ⊢;have hp:pin (ob' id)=pin (ob id):=hs id (by split<;>simp [t6]);rcases atl (ver:=ver) hp with ⟨h1,h2⟩ | ⟨c,c',h1,h2⟩
    ·rw [h1] at hok ⊢; rw [h2]; exact ⟨hok,rfl⟩
    ·rw [h1] at hok ⊢; rw [h2]; exact ⟨hok,rfl⟩
   | oel id ver j o=>
    intro hok hs;simp only [oi] at hok hs ⊢;have hp:pin (ob' id)=pin (ob id):=hs id (by split<;>simp [t6]);rcases ash (ver:=ver) hp with ⟨h1,h2⟩ | ⟨sz',c,c',h1,h2⟩
    ·rw [h1] at hok ⊢; rw [h2]; exact ⟨hok,rfl⟩
    ·rw [h1] at hok ⊢; rw [h2]; exact ⟨hok,rfl⟩
   | _=>exact rj
  | _=>rcases x with ⟨_ | _ | _⟩ | _ | _ | _ | _ | _ | _ | _ | _ | _ | _ | _ | _<;>exact rj
 all_goals rcases x with ⟨_ | _ | _⟩ | _ | _ | _ | _ | _ | _ | _ | _ | _ | _ | _ | _<;>exact rj
theorem a4n {g:Bool} {sz:Nat} {z:RV} {x y:AV}:sn ob ob' (ia2 g sz z x y):=by
 rcases y with ⟨v | _ | _⟩ | _ | _ | _ | _ | _ | _ | _ | _ | _ | _ | _ | _
 ·cases v with
  | int k i=>
   cases x with
   | own id ver lo n=>
    intro hok hs;simp only [ia2] at hok hs ⊢;have hp:pin (ob' id)=pin (ob id):=hs id (by split<;>first | simp | (cases o7 ob id ver<;>simp [t6,iab]));rcases ash (ver:=ver) hp with ⟨h1,h2⟩ | ⟨sz',c,c',h1,h2⟩
    ·rw [h1] at hok ⊢; rw [h2];simp only at hok ⊢;rcases atl (ver:=ver) hp with ⟨k1,k2⟩ | ⟨q,q',k1,k2⟩
     ·rw [k1] at hok ⊢; rw [k2]; exact ⟨hok,rfl⟩
     ·rw [k1] at hok ⊢; rw [k2]; exact ⟨hok,rfl⟩
    ·rw [h1] at hok ⊢; rw [h2]; exact ⟨hok,rfl⟩
   | r x=>cases x<;>exact rj
   | _=>exact rj
  | _=>rcases x with ⟨_ | _ | _⟩ | _ | _ | _ | _ | _ | _ | _ | _ | _ | _ | _ | _<;>exact rj
 all_goals rcases x with ⟨_ | _ | _⟩ | _ | _ | _ | _ | _ | _ | _ | _ | _ | _ | _ | _<;>exact rj
theorem bhs {o:PO} {g:Bool} {e:Env} (h:o.adr=true):sn ob ob' fun ob=>o.see g e ob:=by
 cases o with
 | fa _ x=>exact sn.and a4o
 | iaa _ _ x i=>exact sn.and a1g
 | ia _ _ x i=>exact sn.and a4n
 | _=>cases h
theorem be0 {n:Nat} {x y:AV} {i:Nat}:pin ((st2 n x y ob).ob i)=pin (ob i):=by
 cases x with
 | ptr id ver off=>
  simp only [st2,Rs.and];rcases hr:o7 ob id ver with _ | c
  ·rfl
  ·simp only [stb,upd];by_cases hi:i=id
   ·subst hi;rw [if_pos rfl];unfold o7 at hr;split at hr
    ·rename_i v cells ho;split at hr
     ·rename_i hv; rw [ho,hv]; rfl
     ·cases hr
    ·cases hr
   ·rw [if_neg hi]
 | oel id ver idx off=>
  simp only [st2];split
  ·rename_i ys hy;simp only [Rs.and];rcases hr:i9 ob id ver with _ | ⟨sz,z,app,wr,xs⟩
   ·rfl
   ·simp only [str,upd];by_cases hi:i=id
    ·subst hi;rw [if_pos rfl];unfold i9 at hr;split at hr
     ·rename_i v sz' z' app' wr' xs' ho;split at hr
      ·rename_i hv; cases hr; rw [ho,hv]; rfl
      ·cases hr
     ·cases hr
    ·rw [if_neg hi]
  ·rfl
 | _=>rfl
end

section
variable {ob ob':Obs} {e:Env}
def bp (ob ob':Obs) (f:Obs→Rs):Prop:=(f ob).ok→dr ob ob' (f ob).rd →
 (f ob').ok∧(f ob').v=(f ob).v∧(∀i,i∈(f ob).wr→i∈(f ob).rd∧(f ob').ob i=(f ob).ob i)∧(∀i,i∉(f ob).wr→(f ob').ob i=ob' i)
theorem bp.and {p:Prop} {f:Obs→Rs} (h:bp ob ob' f):bp ob ob' fun ob=>Rs.and p (f ob):=fun ⟨hp,hok⟩ hs=>⟨⟨hp,(h hok hs).1⟩,(h hok hs).2⟩
theorem xk:bp ob ob' fun ob=>ba ob:=fun h _=>h.elim
theorem xj {d:Nat} {x:Ob} {y:Nat→AV} {ok:Prop} {rd:List Nat}:bp ob ob' fun ob=>o3 ob d x y ok rd []:=by
 intro hok hs;have hd:ob' d=ob d:=hs d (by simp [o3]);refine ⟨hok,?_,fun i hi=>?_,fun i hi=>?_⟩
 ·simp only [o3,aex hd]
 ·simp only [o3,zah,zap,or_false] at hi;subst hi;simp [o3,upd,aex hd]
 ·simp only [o3,zah,zap,or_false] at hi;simp [o3,upd,hi]
theorem axa (ob:Obs) (i j:Nat):frz ob i (ob i) j=if j=i then frz ob i (ob i) i else ob j:=by
 by_cases h:j=i
 ·subst h; simp
 ·rw [if_neg h];generalize ob i=q;rcases q with _ | ⟨v,_ | _ | _ | _ | _⟩
  ·rfl
  ·rfl
  ·simp [frz,upd,h]
  ·rfl
  ·rfl
  ·rfl
theorem bdb {i:Nat} (h:ob' i=ob i):frz ob' i (ob' i) i=frz ob i (ob i) i:=by
 rcases hq:ob i with _ | ⟨v,_ | _ | _ | _ | _⟩<;>rw [h,hq]
 ·exact h.trans hq |>.trans hq.symm
 ·exact h.trans hq |>.trans hq.symm
 ·simp [frz,upd]
 ·exact h.trans hq |>.trans hq.symm
 ·exact h.trans hq |>.trans hq.symm
 ·exact h.trans hq |>.trans hq.symm
theorem agc:∀(l:List Nat) {ob ob':Obs} {i:Nat},ob' i=ob i→freeze ob' l i=freeze ob l i
 | [],_,_,_,h=>h
 | j::l,ob,ob',i,h=>by
  refine agc l ?_;rw [axa ob,axa ob'];by_cases hij:i=j
  ·subst hij; simp only [if_true]; exact bdb h
  ·simp only [if_neg hij]; exact h
theorem alg:∀(l:List Nat) {ob:Obs} {i:Nat},i∉l→freeze ob l i=ob i
 | [],_,_,_=>rfl
 | j::l,ob,i,h=>by
  simp only [zah,not_or] at h;rw [freeze,alg l h.2,axa,if_neg h.1]
theorem aor {x:AV} {y:RV} {l:List Nat} (h:x.rv ob=some (y,l)) (hs:dr ob ob' l):x.rv ob'=some (y,l):=by
 unfold AV.rv at h ⊢;split at h
 ·exact h
 ·exact h
 ·rename_i id ver lo len;rcases hr:i9 ob id ver with _ | c
  ·simp only [hr] at h; cases h
  ·simp only [hr] at h;cases h;rw [n8 (hs id (by simp)),hr]
 ·cases h
theorem aet {a b:List Nat} (h:dr ob ob' (a++b)):dr ob ob' a∧dr ob ob' b:=⟨fun i hi=>h i (by simp [hi]),fun i hi=>h i (by simp [hi])⟩
theorem afy:∀{xs:List AV} {ys:List RV} {l:List Nat},rvs ob xs=some (ys,l)→dr ob ob' l→rvs ob' xs=some (ys,l)
 | [],ys,l,h,hs=>h
 | x::xs,ys,l,h,hs=>by
  simp only [rvs] at h ⊢;split at h
  ·rename_i y k zs j h1 h2;cases h;obtain ⟨g1,g2⟩:=aet hs;rw [aor h1 g1,afy h2 g2]
  ·cases h
theorem a5z {x:AV} {y:RV} {l:List Nat} (h:x.elt ob=some (y,l)) (hs:dr ob ob' l):x.elt ob'=some (y,l):=by
 unfold AV.elt at h ⊢;split at h
 ·split at h
  ·rename_i ys j hr;cases h;simp only [afy hr hs]
  ·cases h
 ·exact aor h hs
theorem alp {g:Bool}:∀{xs:List Opd} {p:Prop} {ys:List RV} {l:List Nat},be e ob g xs=some (p,ys,l)→dr ob ob' l→be e ob' g xs=some (p,ys,l)
 | [],p,ys,l,h,hs=>h
 | x::xs,p,ys,l,h,hs=>by
  simp only [be] at h ⊢;split at h
  ·rename_i y k p' zs j h1 h2;cases h;obtain ⟨g1,g2⟩:=aet hs;rw [a5z h1 g1,alp h2 g2]
  ·cases h
theorem a8u {d sz:Nat} {z:RV} {ps:List Opd}:bp ob ob' fun ob=>PO.act d e ob (.bsl sz z ps):=by
 intro hok hs;simp only [PO.act] at hok hs ⊢;rcases hr:be e ob true ps with _ | ⟨p,ys,fz⟩
 ·rw [hr] at hok; exact hok.elim
 ·rw [hr] at hok hs;have hf:dr ob ob' fz:=fun i hi=>hs i (by simp [o3,hi]);have hd:ob' d=ob d:=hs d (by simp [o3]);rw [alp hr hf];refine ⟨hok,?_,fun i hi=>?_,fun i hi=>?_⟩
  ·simp only [o3,aex (agc fz hd)]
  ·refine ⟨hi,?_⟩;simp only [o3,zah] at hi;simp only [o3,upd,aex (agc fz hd)];split
   ·rfl
   ·rename_i hid;exact agc fz (hf i (hi.resolve_left hid))
  ·simp only [o3,zah,not_or] at hi;simp only [o3,upd,if_neg hi.1];exact alg fz hi.2
theorem rl {id:Nat} {x:Nat×Ob} {ok:Prop} {v:AV} {rd:List Nat}:bp ob ob' fun ob=>⟨ok,v,upd id x ob,id::rd,[id]⟩:=by
 intro hok hs;refine ⟨hok,rfl,fun i hi=>?_,fun i hi=>?_⟩
 ·simp only [zah,zap,or_false] at hi;subst hi;simp [upd]
 ·simp only [zah,zap,or_false] at hi;simp [upd,hi]
theorem bc0 {n:Nat} {x y:AV}:bp ob ob' (st2 n x y):=by
 cases x with
 | ptr id ver off=>
  intro hok hs;simp only [st2] at hok hs ⊢;rcases hr:o7 ob id ver with _ | c
  ·rw [hr] at hok; exact hok.2.elim
  ·rw [hr] at hok hs;rw [cg (hs id (by simp [Rs.and,stb])),hr];exact bp.and (f:=fun ob=>stb id ver ob n off y.cells (some c)) rl hok hs
 | oel id ver idx off=>
  intro hok hs;simp only [st2] at hok hs ⊢;split at hok
  ·rename_i ys hy;rw [afy hy (fun i hi=>by simp at hi)];rw [hy] at hs;simp only at hs ⊢;rcases hr:i9 ob id ver with _ | ⟨sz,z,app,wr,xs⟩
   ·rw [hr] at hok; exact hok.2.elim
   ·rw [hr] at hok hs;rw [n8 (hs id (by simp [Rs.and,str])),hr];exact bp.and (f:=fun ob=>str id ver ob n idx off ys (some (sz,z,app,wr,xs))) rl hok hs
  ·exact hok.elim
 | _=>exact fun h _=>h.elim
theorem a8v {d sz:Nat} {z:RV} {bytes:Nat} {x y:AV}:bp ob ob' fun ob=>vp d ob sz z bytes x (src ob y):=by
 intro hok hs;rcases hy:src ob y with _ | ⟨sy,ys,rd⟩
 ·simp only [hy] at hok;unfold vp at hok;split at hok
  ·rename_i h; cases h
  ·rename_i h; cases h
  ·exact hok.elim
 ·simp only [hy] at hok hs ⊢;cases x with
  | nils sz' z'=>
   have h1:dr ob ob' rd:=fun i hi=>hs i (by simp [vp,o3,hi]);rw [afv hy h1];exact xj (ok:=_) hok hs
  | own id ver lo len=>
   cases lo with
   | succ lo=>exact hok.elim
   | zero=>
    simp only [vp] at hok hs;rcases hr:i9 ob id ver with _ | ⟨sz',z',app,wr,xs⟩
    ·rw [hr] at hok; exact hok.elim
    ·rw [hr] at hok hs;have h1:dr ob ob' rd:=fun i hi=>hs i (by simp [hi]);rw [afv hy h1];simp only [vp];rw [hr,n8 (hs id (by simp)),hr];exact rl hok hs
  | _=>exact hok.elim
theorem a8r {sz:Nat} {x y:AV}:bp ob ob' fun ob=>xu ob sz x (src ob y):=by
 intro hok hs;rcases hy:src ob y with _ | ⟨sy,ys,rd⟩
 ·simp only [hy] at hok;unfold xu at hok;split at hok
  ·rename_i h; cases h
  ·exact hok.elim
 ·simp only [hy] at hok hs ⊢;cases x with
  | own id ver lo len=>
   simp only [xu] at hok hs;rcases hr:i9 ob id ver with _ | ⟨sz',z',app,wr,xs⟩
   ·rw [hr] at hok; exact hok.elim
   ·rw [hr] at hok hs;have h1:dr ob ob' rd:=fun i hi=>hs i (by simp [hi]);rw [afv hy h1];simp only [xu];rw [hr,n8 (hs id (by simp)),hr];exact rl hok hs
  | _=>exact hok.elim
theorem a8t {sz:Nat} {z:RV} {x:AV}:bp ob ob' fun ob=>abt ob sz z x:=by
 intro hok hs;cases x with
 | own id ver lo len=>
  simp only [abt] at hok hs ⊢;rcases hr:i9 ob id ver with _ | ⟨sz',z',app,wr,xs⟩
  ·rw [hr] at hok; exact hok.elim
  ·rw [hr] at hok hs;rw [n8 (hs id (by simp)),hr];exact rl (rd:=[]) hok hs
 | _=>exact hok.elim
theorem aww {id ver:Nat} {ok:List MapEntry→Prop} {fe:List MapEntry→Nat→List MapEntry} {fc:List MapEntry→Nat→Nat}:bp ob ob' fun ob=>vq id ver ob ok fe fc (t7 ob id ver):=by
 intro hok hs;rcases hr:t7 ob id ver with _ | ⟨es,c⟩
 ·simp only [hr,vq] at hok; exact hok.elim
 ·simp only [hr,vq] at hok hs ⊢;rw [ym (hs id (by simp)),hr];exact rl (rd:=[]) hok hs
theorem a5e {str:Bool} {x i y:AV}:bp ob ob' (qo str x i y):=by
 cases x with
 | mp id ver=>cases i with
  | r i=>cases i with
   | v k=>
    show bp ob ob' fun ob=>xa str k id ver ob (toV y);generalize toV y=q;cases q with
    | none=>exact fun h _=>h.elim
    | some v=>exact aww
   | _=>exact fun h _=>h.elim
  | _=>exact fun h _=>h.elim
 | _=>exact fun h _=>h.elim
theorem a5f {str:Bool} {x i:AV}:bp ob ob' (qp str x i):=by
 cases x with
 | mp id ver=>cases i with
  | r i=>cases i with
   | v k=>exact aww
   | _=>exact fun h _=>h.elim
  | _=>exact fun h _=>h.elim
 | _=>exact fun h _=>h.elim
theorem a8p {d:Nat} {x:AV}:bp ob ob' (xe d x):=by
 cases x with
 | mp id ver=>
  intro hok hs;simp only [xe] at hok hs ⊢;rcases hr:t7 ob id ver with _ | ⟨es,c⟩
  ·rw [hr] at hok; exact hok.elim
  ·rw [hr] at hok hs;rw [ym (hs id (by simp [ac1,o3])),hr];exact xj (ok:=_) hok hs
 | _=>exact fun h _=>h.elim
theorem a8q {x:AV}:bp ob ob' fun ob=>abj ob x:=by
 cases x with
 | own id ver lo len=>
  intro hok hs;simp only [abj] at hok hs ⊢;rcases hr:i9 ob id ver with _ | ⟨sz',z',app,wr,xs⟩
  ·rw [hr] at hok; exact hok.elim
  ·rw [hr] at hok hs;rw [n8 (hs id (by simp)),hr];exact rl (rd:=[]) hok hs
 | _=>exact fun h _=>h.elim
theorem a8s {x y:AV}:bp ob ob' fun ob=>abr ob x y:=by
 cases x with
 | own id ver lo len=>
  cases y with
  | r q=>cases q with
   | v u=>cases u with
    | string sv=>
     intro hok hs;simp only [abr] at hok hs ⊢;rcases hr:i9 ob id ver with _ | ⟨sz',z',app,wr,xs⟩
     ·rw [hr] at hok; exact hok.elim
     ·rw [hr] at hok hs;rw [n8 (hs id (by simp)),hr];exact rl (rd:=[]) hok hs
    | _=>exact fun h _=>h.elim
   | _=>exact fun h _=>h.elim
  | _=>exact fun h _=>h.elim
 | _=>exact fun h _=>h.elim
theorem bhu {o:PO} {d:Nat}:bp ob ob' fun ob=>o.act d e ob:=by
 cases o with
 | new zs=>exact xj
 | box x=>exact xj
 | bsl sz z ps=>exact a8u
 | st n x y=>exact bp.and bc0
 | app sz z bytes x y=>exact bp.and a8v
 | clr sz z x=>exact bp.and a8t
 | cpy sz x y=>exact bp.and a8r
 | mkm=>exact xj
 | mset str x i y=>exact bp.and a5e
 | mdel str x i=>exact bp.and a5f
 | rng x=>exact bp.and a8p
 | mrk x=>exact bp.and a8q
 | cps x y=>exact bp.and a8s
 | toBytes z x=>
  refine bp.and ?_;generalize (x.ev e).bare=y;rcases y with ⟨v | _ | _⟩ | _ | _ | _ | _ | _ | _ | _ | _ | _ | _ | _ | _
  ·cases v<;>first | exact xj | exact xk
  all_goals exact xk
 | mks sz z bytes l c=>
  refine bp.and ?_;generalize (l.ev e).bare=y;generalize (c.ev e).bare=y';rcases y with ⟨v | _ | _⟩ | _ | _ | _ | _ | _ | _ | _ | _ | _ | _ | _ | _
  ·cases v with
   | int k i=>
    rcases y' with ⟨v | _ | _⟩ | _ | _ | _ | _ | _ | _ | _ | _ | _ | _ | _ | _
    ·cases v<;>first | exact xj | exact xk
    all_goals exact xk
   | _=>exact xk
  all_goals exact xk
 | _=>exact xk
end

def eqv:Value→Value→Bool
 | .int k a,.int k' b=>k == k'&&a == b
 | .bool a,.bool b=>a == b
 | .string a,.string b=>a.data.toList == b.data.toList
 | .pointer none,.pointer none=>true
 | .nilFunc,.nilFunc=>true
 | .nilIface,.nilIface=>true
 | .map none,.map none=>true
 | _,_=>false
theorem arq {a b:Value} (h:eqv a b=true):a=b:=by
 unfold eqv at h;split at h
 ·rw [zai,beq_iff_eq,beq_iff_eq] at h;rw [h.1,h.2]
 ·rw [beq_iff_eq] at h;rw [h]
 ·rename_i a b;rw [beq_iff_eq] at h;obtain ⟨⟨a⟩⟩:=a;obtain ⟨⟨b⟩⟩:=b;simp only at h;rw [h]
 ·rfl
 ·rfl
 ·rfl
 ·rfl
 ·cases h
def eqz:Value→AV→Bool
 | .slice none 0 0,.nils _ _=>true
 | v,.r (.v x)=>eqv v x
 | _,_=>false
def opd:Operand→Opd→Bool
 | .tmp t,.t n=>t == n
 | .const v,.c x=>eqz v x
 | .func f,.c (.fn (.func f') [] 0)=>f == f'
 | _,_=>false
section
variable {w:World} {R:Nat→Prop} {ob:Obs} {ρ:Pl→Option Nat}
theorem atc {v:Value} {x:AV} (h:eqz v x=true):RelA w R ob ρ x v:=by
 unfold eqz at h;split at h
 ·exact .nils _ _
 ·rw [arq h]; exact .r (.v _)
 ·cases h
theorem ami {a:Act} {e:Env} (henv:∀t,RelA w R ob ρ (e t) (a.tmps.getD t undef)) {x:Operand} {y:Opd} (h:opd x y=true):RelA w R ob ρ (y.ev e) (a.eval x):=by
 unfold opd at h;split at h
 ·simp at h; subst h; exact henv _
 ·exact atc h
 ·simp at h; subst h; exact .fn _ [] 0 #[] #[] rfl rfl (by simp)
 ·cases h
theorem RelA.bare {g:Bool} (hg:g=true) {x:AV} {c:Value} (h:RelA w R ob ρ x c) (hm:x.may g):RelA w R ob ρ x.bare c:=by
 cases h<;>first | (simp only [AV.bare]; constructor<;>assumption) | skip
 ·simp only [AV.bare,AV.may] at *;rename_i h hf;exact h (hm hg)
end
def aoz:Option Operand→Option Opd→Bool
 | none,none=>true
 | some x,some y=>opd x y
 | _,_=>false
def ej (P:Program) (t:TypeId) (f:TypeId→TypeInfo→Bool):Bool:=
 match P.underlying t with
 | some (.slice e)=>match P.info? e with
  | some i=>f e i
  | none=>false
 | _=>false
def al (P:Program) (t:TypeId) (f:TypeDesc→Bool):Bool:=
 match P.underlying t with
 | some d=>f d
 | none=>false
def ag6 (P:Program) (t:TypeId) (n:Option Nat):Bool:=
 match P.underlying t,P.info? t with
 | some (.struct _),some i=>n == some i.size
 | some (.array _ _),some i=>n == some i.size
 | some _,some _=>n == none
 | _,_=>false
def amp (P:Program) (t:TypeId) (f:Nat) (k:Go.Field→TypeInfo→Bool):Bool:=
 match P.underlying t with
 | some (.struct fs)=>match fs[f]? with
  | some fd=>match P.info? fd.type with
   | some i=>k fd i
   | none=>false
  | none=>false
 | _=>false
def eqr:Value→RV→Bool
 | .slice none 0 0,.sl _ []=>true
 | v,.v x=>eqv v x
 | _,_=>false
def u7 {α β:Type} (f:α→β→Bool):List α→List β→Bool
 | [],[]=>true
 | x::xs,y::ys=>f x y&&u7 f xs ys
 | _,_=>false
def yj (P:Program) (t:TypeId) (p:Nat×Operand) (q:Nat×Nat×Opd):Bool:=
 opd p.2 q.2.2&&(match P.underlying t with
 | some (.struct fs)=>match fs[p.1]? with
  | some f=>match P.info? f.type with
   | some i=>f.offset == q.1&&i.size == q.2.1
   | none=>false
  | none=>false
 | some (.array _ e)=>match P.info? e with
  | some i=>p.1*i.size == q.1&&i.size == q.2.1
  | none=>false
 | _=>false)
def af5 (str:Bool):TypeDesc→Bool
 | .string=>str
 | .slice _=>!str
 | _=>false
def atj (P:Program):TypeDesc→Bool
 | .struct fs=>fs.all fun f=>(P.info? f.type).isSome
 | .array _ e=>(P.info? e).isSome
 | _=>false
def ak9:Nat→TypeDesc→Bool
 | 0,.int _=>true
 | 1,.bool=>true
 | 2,.string=>true
 | _,_=>false
def alj (g:TypeId→List Nat→Bool) (P:Program):List Go.Field→List Nat→Nat→Bool
 | [],ks,_=>ks.isEmpty
 | f :: fs, ks, i => f.name != "_" && f.offset == i && decide (P.cellsOf f.type ≤ ks.length) && g f.type (ks.take (P.cellsOf f.type)) && alj g P fs (ks.drop (P.cellsOf f.type)) (i + P.cellsOf f.type)
def alk (g:TypeId→List Nat→Bool) (P:Program) (e:TypeId):Nat→List Nat→Bool
 | 0,ks=>ks.isEmpty
 | n+1,ks=>decide (P.cellsOf e≤ks.length)&&g e (ks.take (P.cellsOf e))&&alk g P e n (ks.drop (P.cellsOf e))
def ab6 (P:Program):Nat→TypeId→List Nat→Bool
 | 0,_,_=>false
 | d+1,t,ks=>match P.underlying t with
  | some (.struct fs)=>alj (ab6 P d) P fs.toList ks 0 && !P.stoodInHeld t
  | some (.array n e)=>(P.info? e).isSome&&alk (ab6 P d) P e n ks
  | some u=>(match ks with
   | [k]=>ak9 k u
   | _=>false)
  | none=>false
def arh (P:Program) (t:TypeId):Bool:=match P.underlying t with
 | some (.struct _)=>true
 | some (.array _ _)=>true
 | _=>false
def a9c (P:Program) (t:TypeId) (ks:List Nat):Bool:=
 ab6 P 4 t ks&&arh P t && !P.eqGuardType P.depth t
def as7 (P:Program) (sub:Bool) (f:FuncId):Bool:=match P.funcs[f]? with
 | some fn => fn.body.isNone && (fn.name == if sub then "math/bits.Sub64" else "math/bits.Add64") && (fn.origin == "" || fn.origin == fn.name)
 | none=>false
def af7 (P:Program) (t:TypeId) (str:Bool) (f:TypeId→Bool):Bool:=
 match P.underlying t with
 | some (.map k e)=>(match P.underlying k with
  | some (.int _)=>!str
  | some .string=>str
  | _=>false)&&f e
 | _=>false
def ag9 (P:Program) (z:RV) (e:TypeId):Bool:=match P.info? e with
 | some i=>match i.zero with
  | some v=>match v,z with
   | .agg cs,.agg xs=>u7 eqr cs.toList xs&&xs.all (fun x=>match x with | .v _=>true | _=>false)
   | v,.v x=>eqv v x
   | _,_=>false
  | none=>false
 | none=>false
def aht (P:Program) (t:TypeId):Bool:=match P.underlying t with
 | some (.interface _)=>false
 | some _=>true
 | none=>false
def axp (P:Program) (o:Oper) (po:PO):Bool:=
 match o.op,po with
 | .move x,.mov y=>opd x y
 | .assign x,.mov y=>opd x y
 | .pick c a b,.pick c' a' b'=>opd c c'&&opd a a'&&opd b b'
 | .binOp op t x y _,.bin op' x' y'=>op == op'&&opd x x'&&opd y y'
 | .binOp op t x y _,.beq neg x' y'=>(if neg then op == .neq else op == .eql)&&al P t (fun d=>match d with | .bool=>true | _=>false)&&opd x x'&&opd y y'
 | .unOp op _ x,.un op' x'=>op == op'&&opd x x'
 | .convert a d x,.conv k x'=>al P a (fun _=>true)&&al P d (fun u=>match u with | .int k'=>k == k' | _=>false)&&opd x x'
 | .call c,.len str x'=>match c.callee with
  | .builtin .len=>match c.args.toList,c.argTypes.toList with
   | [x],[t]=>opd x x'&&al P t (af5 str)
   | _,_=>false
  | _=>false
 | .indexAddr t x i,.ia sz _ x' i'=>ej P t (fun _ inf=>inf.size == sz)&&opd x x'&&opd i i'
 | .index t x i,.ixs x' i'=>al P t (fun d=>match d with | .string=>true | _=>false)&&opd x x'&&opd i i'
 | .load t x,.ld n x'=>ag6 P t n&&opd x x'
 | .nilCheck x,.nck x'=>opd x x'
 | .fieldAddr t x f,.fa off x'=>amp P t f (fun fd i=>fd.offset == off&&i.size != 0)&&opd x x'
 | .field t x f,.fld off n x'=>amp P t f (fun fd i=>fd.offset == off&&ag6 P fd.type n)&&opd x x'
 | .slice t x lo hi mx,.sla n x'=>(match P.underlying t with
  | some (.array n' e)=>n' == n&&(match P.info? e with | some inf=>inf.size == 1 | none=>false)
  | _=>false)&&opd x x'&&lo.isNone&&hi.isNone&&mx.isNone
 | .slice t x lo hi mx,.sls x' lo' hi'=>al P t (fun d=>match d with | .string=>true | _=>false)&&mx.isNone&&opd x x'&&aoz lo lo'&&aoz hi hi'
 | .slice t x lo hi mx,.sll sz x' lo' hi' mx'=>ej P t (fun _ inf=>inf.size == sz)&&opd x x'&&aoz lo lo'&&aoz hi hi'&&aoz mx mx'&&(mx.isNone||hi.isSome)
 | .extract x i,.ext x' i'=>i == i'&&opd x x'
 | .convert a d x,.toStr x'=>ej P a (fun e _=>al P e (fun d=>match d with | .int .u8=>true | _=>false))&&al P d (fun d=>match d with | .string=>true | _=>false)&&opd x x'
 | .build t ps,.build zs qs=>(match P.info? t with | some i=>(match i.zero with | some z=>u7 eqz z.cells.toList zs | none=>false) | none=>false)&&al P t (atj P)&&u7 (yj P t) ps.toList qs
 | .makeFunc f first cap,.mkf f' xs k=>f == f'&&first.size == k&&u7 opd (first++cap).toList xs
 | .call c,.mm mx x' ys'=>(match c.callee with
  | .builtin .min=>!mx
  | .builtin .max=>mx
  | _=>false)&&(match c.args.toList with
  | x::ys=>opd x x'&&u7 opd ys ys'
  | _=>false)
 | .indexAddr t x i,.iaa n sz x' i'=>(match P.underlying t with
  | some (.array n' e)=>n == n'&&(match P.info? e with
   | some inf=>inf.size == sz
   | none=>false)
  | _=>false)&&opd x x'&&opd i i'
 | .call c,.carry sub x' y' z'=>(match c.callee with
  | .value (.func f)=>as7 P sub f
  | _=>false)&&(match c.args.toList with
  | [x,y,z]=>opd x x'&&opd y y'&&opd z z'
  | _=>false)
 | .binOp op t x y _,.eqa neg ks x' y'=>(if neg then op == .neq else op == .eql)&&a9c P t ks&&opd x x'&&opd y y'
 | .lookup t x i c,.lkp str z c' x' i'=>af7 P t str (ag9 P z)&&c == c'&&opd x x'&&opd i i'
 | .call c,.lenm x'=>match c.callee with
  | .builtin .len=>match c.args.toList,c.argTypes.toList with
   | [x],[t]=>opd x x'&&al P t (fun d=>match d with | .map _ _=>true | _=>false)
   | _,_=>false
  | _=>false
 | .makeInterface t x,.mki t' x'=>t == t'&&aht P t&&opd x x'
 | .typeAssert x _ t c,.tas t' z c' x'=>t == t'&&aht P t&&ag9 P z t&&c == c'&&opd x x'
 | .entry x,.ent x'=>opd x x'
 | .binOp op t x y _,.eqn neg x'=>(match y with | .const (.pointer none)=>true | _=>false)&&(if neg then op == .neq else op == .eql)&&al P t (fun d=>match d with | .pointer _=>true | _=>false)&&opd x x'
 | _,_=>false
def PO.nod:PO→Bool
 | .st _ _ _=>true
 | .mset _ _ _ _=>true
 | .mdel _ _ _=>true
 | .clr _ _ _=>true
 | _=>false
def al3 (P:Program) (o:Oper) (po:PO):Bool:=
 match o.op,po with
 | .alloc e,.new zs=>match P.info? e with
  | some i=>match i.zero with
   | some z=>u7 eqz z.cells.toList zs
   | none=>false
  | none=>false
 | .box _ x,.box x'=>opd x x'
 | .buildSlice t n ps,.bsl sz _ ps'=>ej P t (fun _ i=>i.size == sz&&i.zero.isSome)&&n == ps'.length&&u7 (fun p q=>opd p.2 q) ps.toList ps'&&ps.toList.map (·.1) == List.range n&&n*sz≤16777216&&n≤16777216
 | .store t x y,.st n x' y'=>(match P.info? t with | some i=>i.size == n | none=>false)&&opd x x'&&opd y y'
 | .call c,.app sz _ bytes x' y'=>match c.callee with
  | .builtin .append=>match c.args.toList,c.argTypes.toList with
   | [x,y],[t,u]=>ej P t (fun _ i=>i.size == sz&&i.bytes == bytes&&(match i.zero with | some z=>z.cells.size == sz | none=>false)&&sz != 0)&&ej P u (fun _ _=>true)&&opd x x'&&opd y y'
   | _,_=>false
  | _=>false
 | .call c,.cpy sz x' y'=>match c.callee with
  | .builtin .copy=>match c.args.toList,c.argTypes.toList with
   | [x,y],[t,u]=>ej P t (fun _ i=>i.size == sz)&&ej P u (fun _ _=>true)&&opd x x'&&opd y y'
   | _,_=>false
  | _=>false
 | .convert a d x,.toBytes _ x'=>al P a (fun d=>match d with | .string=>true | _=>false)&&ej P d (fun e i=>i.size == 1&&al P e (fun d=>match d with | .int .u8=>true | _=>false))&&opd x x'
 | .makeSlice t l c,.mks sz z bytes l' c'=>ej P t (fun _ i=>i.size == sz&&i.bytes == bytes&&sz != 0&&(match i.zero with | some v=>u7 eqr v.cells.toList z.cells&&v.cells.size == sz | none=>false))&&opd l l'&&opd c c'
 | .makeMap _ r,.mkm=>r.isNone
 | .mapUpdate t x i y,.mset str x' i' y'=>af7 P t str (fun _=>true)&&opd x x'&&opd i i'&&opd y y'
 | .call c,.mdel str x' i'=>match c.callee with
  | .builtin .delete=>match c.args.toList,c.argTypes.toList with
   | [x,i],[t,_]=>af7 P t str (fun _=>true)&&opd x x'&&opd i i'
   | _,_=>false
  | _=>false
 | .range t x,.rng x'=>al P t (fun d=>match d with | .map _ _=>true | _=>false)&&opd x x'
 | .call c,.clr sz z x'=>match c.callee with
  | .builtin .clear=>match c.args.toList,c.argTypes.toList with
   | [x],[t]=>ej P t (fun _ i=>i.size == sz&&(match i.zero with | some v=>u7 eqr v.cells.toList z.cells&&v.cells.size == sz | none=>false))&&opd x x'
   | _,_=>false
  | _=>false
 | .call c,.cps x' y'=>match c.callee with
  | .builtin .copy=>match c.args.toList,c.argTypes.toList with
   | [x,y],[t,_]=>ej P t (fun _ i=>i.size == 1)&&opd x x'&&opd y y'
   | _,_=>false
  | _=>false
 | .convert a d x,.mrk x'=>ej P a (fun e _=>al P e (fun d=>match d with | .int .u8=>true | _=>false))&&a == d&&opd x x'
 | _,_=>false

abbrev RA (X:Cx) (s:St) (ρ:Pl→Option Nat) (w:World):AV→Value→Prop:=RelA w (g8 X.B s.ob ρ w) s.ob ρ
def m6 (P:Program) (X:Cx) (a:Act) (w:World) (s:St) (ρ:Pl→Option Nat) (o:Oper) (v:AV):Prop:=
 ∃c,(execOp a.eval o).run P w=.ok (.value c) w∧RA X s ρ w v c
section
variable {P:Program} {X:Cx} {w:World} {s:St} {ρ:Pl→Option Nat} {a:Act} {o:Oper}
theorem g9 {g:Bool} (hG:Gam X s ρ a w) (hg:g=true) {x:Operand} {y:Opd} (h:opd x y=true) (hm:(y.ev s.e).may g):RA X s ρ w (y.ev s.e).bare (a.eval x):=
 (ami hG.env h).bare hg hm
theorem azz {k:IntKind} {m:Int} {c:Value} (h:RA X s ρ w (int k m) c):c=.int k m:=by cases h; rename_i h; cases h; rfl
theorem k9 {x c:Value} (h:RA X s ρ w (.r (.v x)) c):c=x:=by cases h; rename_i h; cases h; rfl
theorem dq (x:Value):RA X s ρ w (.r (.v x)) x:=.r (.v x)
theorem bb8 {g:Bool} (hg:g=true) {op:BinOp} {t ty:TypeId} {x y:Operand} {u v:AV} (ho:o.op=.binOp op t x y ty) (hu:RA X s ρ w u (a.eval x)) (hv:RA X s ρ w v (a.eval y))
  (hok:(abv g op u v).1):m6 P X a w s ρ o (abv g op u v).2:=by
 unfold abv at hok ⊢;split at hok
 ·rename_i k m k' m';have h1:=azz hu;have h2:=azz hv;simp only [m6,execOp,ho,h1,h2];cases op<;>simp only [afe] at hok ⊢
  all_goals first
   | (subst hok; refine ⟨_,?_,dq _⟩; simp [eqGuard,binOp,Op.intArith,Op.intBits,Op.intCmp]; done)
   | (obtain ⟨rfl,hok⟩:=hok; refine ⟨_,?_,dq _⟩; simp [eqGuard,binOp,Op.intDiv,hok hg]; done)
   | (refine ⟨_,?_,dq _⟩; have hb:=hok hg; simp [eqGuard,binOp,Op.shift,show ¬m'<0 by omega]; done)
 ·rename_i b b';have h1:=k9 hu;have h2:=k9 hv;simp only [m6,execOp,ho,h1,h2];cases op<;>simp only [afd,bad] at hok ⊢
  ·refine ⟨_,?_,dq _⟩;have hb:=hok hg
   have hm:¬(((b.size+b'.size:Nat):Int)>IntKind.i64.max):=by
    rw [show IntKind.i64.max=9223372036854775807 from rfl]; omega
   simp only [eqGuard,binOp,Op.stringOp,Sem.run_bind,Sem.run_ite,Sem.run_pure,if_neg hm];simp
  all_goals first
   | first | exact (hok hg).elim | exact (hok.2 hg).elim
   | (refine ⟨_,?_,dq _⟩; simp [eqGuard,binOp,Op.stringOp]; done)
 ·first | exact (hok hg).elim | exact (hok.2 hg).elim
theorem a7n {g:Bool} (hg:g=true) {x y z:Operand} {u v t:AV} (ho:o.op=.pick x y z) (hu:RA X s ρ w u (a.eval x)) (hv:RA X s ρ w v (a.eval y)) (ht:RA X s ρ w t (a.eval z))
  (hok:(ud g u v t).1):m6 P X a w s ρ o (ud g u v t).2:=by
 unfold ud at hok ⊢;split at hok
 ·have h1:=k9 hu;have h2:=k9 hv;have h3:=k9 ht;simp only [m6,execOp,ho,h1,h2,h3];rename_i c d e;refine ⟨_,?_,dq _⟩;cases c<;>simp [asBool]
 ·have h1:=k9 hu;have h3:=k9 ht;rename_i c h d e;simp only [m6,execOp,ho,h1,h3];refine ⟨_,?_,dq _⟩;cases c
  ·simp [asBool]
  ·cases hv with
   | gd _ hv1 hv2=>
    have h2:=k9 (hv1 (hok hg rfl));simp [asBool,h2]
 ·have h1:=k9 hu;have h2:=k9 hv;rename_i c d h e;simp only [m6,execOp,ho,h1,h2];refine ⟨_,?_,dq _⟩;cases c
  ·cases ht with
   | gd _ ht1 ht2=>
    have h3:=k9 (ht1 (hok hg rfl));simp [asBool,h3]
  ·simp [asBool]
 ·have h1:=k9 hu;have h2:=k9 hv;simp only [m6,execOp,ho,h1,h2];refine ⟨_,?_,dq _⟩;simp [asBool,hok hg]
 ·have h1:=k9 hu;have h3:=k9 ht;simp only [m6,execOp,ho,h1,h3];refine ⟨_,?_,dq _⟩;simp [asBool,hok hg]
 ·have h1:=k9 hu;have h3:=k9 ht;simp only [m6,execOp,ho,h1,h3];refine ⟨_,?_,dq _⟩;simp [asBool,hok hg]
 ·have h1:=k9 hu;have h2:=k9 hv;simp only [m6,execOp,ho,h1,h2];refine ⟨_,?_,dq _⟩;simp [asBool,hok hg]
 ·first | exact (hok hg).elim | exact (hok.2 hg).elim
theorem bb9 {g:Bool} (hg:g=true) {neg:Bool} {op:BinOp} {t ty:TypeId} {x y:Operand} {u v:AV} (ho:o.op=.binOp op t x y ty) (hop:op=if neg then .neq else .eql) (ht:P.underlying t=some .bool)
  (hu:RA X s ρ w u (a.eval x)) (hv:RA X s ρ w v (a.eval y)) (hok:(abx g neg u v).1):m6 P X a w s ρ o (abx g neg u v).2:=by
 unfold abx at hok ⊢;split at hok
 ·have h1:=k9 hu;have h2:=k9 hv;simp only [m6,execOp,ho,h1,h2];refine ⟨_,?_,dq _⟩;subst hop;cases neg<;>simp [eqGuard,binOp,run_equal_bool w t _ _ ht]
 ·first | exact (hok hg).elim | exact (hok.2 hg).elim
theorem aui {x:AV} {c:Value} (h:RA X s ρ w x c) (ha:x.isA=true):∃cs,c=.agg cs∧∀(i:Nat) (y:AV),x.cells[i]?=some y→∃v,cs[i]?=some v∧RA X s ρ w y v:=by
 cases h with
 | agg xs cs hl hr=>
  refine ⟨cs,rfl,fun i y hy=>?_⟩;simp only [AV.cells] at hy;have hlt:=(zan.1 hy).1;have hc:cs[i]?=some (cs[i]'(by omega)):=by simp [show i<cs.size by omega]
  exact ⟨_,hc,hr i y _ hy hc⟩
 | r h0=>
  cases h0 with
  | agg xs cs hl hr=>
   refine ⟨cs,rfl,fun i y hy=>?_⟩;simp only [AV.cells,List.getElem?_map,zar] at hy;obtain ⟨z,hz,rfl⟩:=hy;have hlt:=(zan.1 hz).1;have hc:cs[i]?=some (cs[i]'(by omega)):=by simp [show i<cs.size by omega]
   exact ⟨_,hc,.r (hr i z _ hz hc)⟩
  | _=>cases ha
 | _=>cases ha
theorem bcd {t:TypeId} {k d:Nat} (ht:al P t (ak9 k)=true) {u v:AV} {b:Bool} {c c':Value} (h:eq2 k u v=some b) (hu:RA X s ρ w u c) (hv:RA X s ρ w v c'):(Op.equalIn (d+1) t c c').run P w=.ok b w:=by
 unfold al at ht;split at ht
 ·rename_i ds hd;unfold eq2 at h;split at h
  ·split at h
   ·rename_i hk;subst hk;cases h;rw [k9 hu,k9 hv];cases ds<;>first | (simp [ak9] at ht; done) | exact run_equalIn_int w d t _ _ _ _ hd
   ·cases h
  ·cases h;rw [k9 hu,k9 hv];cases ds<;>first | (simp [ak9] at ht; done) | exact run_equalIn_bool' w d t _ _ hd
  ·cases h;rw [k9 hu,k9 hv];cases ds<;>first | (simp [ak9] at ht; done) | exact run_equalIn_string w d t _ _ hd
  ·cases h
 ·cases ht
theorem alo:∀{ks:List Nat} {us vs:List AV} {b:Bool} (n:Nat),eql ks us vs=some b→∃b1 b2,eql (ks.take n) (us.take n) (vs.take n)=some b1∧eql (ks.drop n) (us.drop n) (vs.drop n)=some b2∧b=(b1&&b2)
 | ks,us,vs,b,0,h=>⟨true,b,by simp [eql],by simpa using h,by simp⟩
 | [],[],[],b,n+1,h=>by simp [eql] at h; subst h; exact ⟨true,true,by simp [eql],by simp [eql],rfl⟩
 | k::ks,u::us,v::vs,b,n+1,h=>by
  simp only [eql] at h;split at h
  ·rename_i p q hp hq;cases h;obtain ⟨b1,b2,h1,h2,h3⟩:=alo n hq;refine ⟨p&&b1,b2,?_,by simpa using h2,by rw [h3,Bool.and_assoc]⟩;simp only [List.take_succ_cons,eql,hp,h1]
  ·cases h
 | [],_::_,_,_,n+1,h=>by cases h
 | [],[],_::_,_,n+1,h=>by cases h
 | _::_,[],_,_,n+1,h=>by cases h
 | _::_,_::_,[],_,n+1,h=>by cases h
theorem ahz:∀{ks:List Nat} {us vs:List AV} {b:Bool},eql ks us vs=some b→us.length=ks.length∧vs.length=ks.length
 | [],[],[],b,h=>⟨rfl,rfl⟩
 | k::ks,u::us,v::vs,b,h=>by
  simp only [eql] at h;split at h
  ·rename_i p q hp hq;have:=ahz hq;simp only [List.length_cons];omega
  ·cases h
 | [],_::_,_,_,h=>by cases h
 | [],[],_::_,_,h=>by cases h
 | _::_,[],_,_,h=>by cases h
 | _::_,_::_,[],_,h=>by cases h
def AtR (X:Cx) (s:St) (ρ:Pl→Option Nat) (w:World) (xs:Array Value) (off:Nat) (us:List AV):Prop:=∀i u,us[i]?=some u→∃c,xs[off+i]?=some c∧RA X s ρ w u c
theorem AtR.take {xs:Array Value} {off n:Nat} {us:List AV} (h:AtR X s ρ w xs off us):AtR X s ρ w xs off (us.take n):=fun i u hu=>by
 rw [zad] at hu;split at hu
 ·exact h i u hu
 ·cases hu
theorem AtR.drop {xs:Array Value} {off n:Nat} {us:List AV} (h:AtR X s ρ w xs off us):AtR X s ρ w xs (off+n) (us.drop n):=fun i u hu=>by
 rw [zab] at hu;have:=h _ u hu
 rwa [← zak] at this
theorem AtR.cut {xs:Array Value} {off n:Nat} {us:List AV} (h:AtR X s ρ w xs off us) (hn:us.length≤n):AtR X s ρ w (xs.extract off (off+n)) 0 us:=fun i u hu=>by
 obtain ⟨c,hc,hr⟩:=h i u hu;have hi:i<us.length:=(zan.1 hu).1;refine ⟨c,?_,hr⟩;have hlt:=(zaj.1 hc).1;rw [Nat.zero_add,Array.getElem?_extract_of_lt (by omega)];rw [← hc,Array.getElem?_eq_getElem hlt]
def aef (X:Cx) (s:St) (ρ:Pl→Option Nat) (w:World) (P:Program) (t:TypeId) (us:List AV) (c:Value):Prop:=
 if arh P t=true then ∃cs,c=.agg cs∧AtR X s ρ w cs 0 us else ∃u,us=[u]∧RA X s ρ w u c
theorem ady {d:Nat} {t:TypeId} {ks:List Nat} (ht:ab6 P d t ks=true) {xs:Array Value} {off:Nat} {us:List AV} (hx:AtR X s ρ w xs off us) (hlen:us.length=ks.length) (hc:ks.length≤P.cellsOf t) :
  ∃c,(part t xs off).run P w=.ok c w∧aef X s ρ w P t us c:=by
 cases d with
 | zero=>cases ht
 | succ d=>
  unfold ab6 at ht;unfold aef arh;cases hu:P.underlying t with
  | none=>rw [hu] at ht; cases ht
  | some kd=>
   obtain ⟨i,hi⟩:=info_of_underlying hu
   have agg:((∃n e',kd=.array n e')∨(∃fs,kd=.struct fs))→(part t xs off).run P w=.ok (.agg (xs.extract off (off+P.cellsOf t))) w:=by
    rintro (⟨n,e',rfl⟩ | ⟨fs,rfl⟩)<;>simp [part,isAgg,run_underlying hu,run_sizeOf w hi]
   rw [hu] at ht;cases kd
   case struct fs=>exact ⟨_,agg (.inr ⟨_,rfl⟩),by simp only [↓reduceIte]; exact ⟨_,rfl,hx.cut (by omega)⟩⟩
   case array n e=>exact ⟨_,agg (.inl ⟨_,_,rfl⟩),by simp only [↓reduceIte]; exact ⟨_,rfl,hx.cut (by omega)⟩⟩
   all_goals
    simp only at ht
    match ks,ht with
    | [k],ht=>
     match us,hlen with
     | [u],_=>
      obtain ⟨c,h1,h2⟩:=hx 0 u rfl;rw [Nat.add_zero] at h1;refine ⟨c,by simp [part,isAgg,run_underlying hu,h1],?_⟩;simp only [zal,↓reduceIte];exact ⟨u,rfl,h2⟩
theorem avz (D:Nat):∀(d:Nat) {t:TypeId} {ks:List Nat},ab6 P d t ks=true→∀{us vs:List AV} {b:Bool} {c c':Value},eql ks us vs=some b→aef X s ρ w P t us c→aef X s ρ w P t vs c' →
  (Op.equalIn (D+d) t c c').run P w=.ok b w
 | 0,_,_,ht,_,_,_,_,_,_,_,_=>by cases ht
 | d+1,t,ks,ht,us,vs,b,c,c',he,hu,hv=>by
  have ih:∀{t:TypeId} {ks:List Nat},ab6 P d t ks=true→∀{us vs:List AV} {b:Bool} {c c':Value},eql ks us vs=some b→aef X s ρ w P t us c→aef X s ρ w P t vs c'→(Op.equalIn (D+d) t c c').run P w=.ok b w:=fun h=>avz D d h;unfold ab6 at ht;unfold aef arh at hu hv;cases hd:P.underlying t with
  | none=>rw [hd] at ht; cases ht
  | some kd=>
   rw [hd] at ht hu hv;have hk0:al P t (fun _=>true)=true:=by simp [al,hd]
   cases kd
   case struct fs=>
    simp only [↓reduceIte] at hu hv;simp only [zai,Bool.not_eq_true'] at ht;obtain ⟨cs,rfl,hcs⟩:=hu;obtain ⟨cs',rfl,hcs'⟩:=hv;have hfo:P.fieldsOf t=fs:=by simp [Program.fieldsOf,hd]
    have:=run_equalIn_struct w (D+d) t cs cs' (by rw [hfo]; exact hd) ht.2;rw [show D+(d+1)=D+d+1 from rfl,this,hfo];clear this hfo hd;obtain ⟨ht,_⟩:=ht
    have key:∀(fl:List Go.Field) (i:Nat) {ks:List Nat} {us vs:List AV} {b:Bool},alj (ab6 P d) P fl ks i=true→eql ks us vs=some b→AtR X s ρ w cs i us→AtR X s ρ w cs' i vs→(Op.eqFields (D+d) cs cs' fl).run P w=.ok b w:=by
     intro fl
     induction fl with
     | nil=>
      intro i ks us vs b hf he h1 h2;simp only [alj,List.isEmpty_iff] at hf;subst hf;obtain ⟨e1,e2⟩:=ahz he;obtain rfl:us=[]:=zaq.1 e1;obtain rfl:vs=[]:=zaq.1 e2;cases he;simp [Op.eqFields]
     | cons f fl ihl=>
      intro i ks us vs b hf he h1 h2;simp only [alj,zai,bne_iff_ne,ne_eq,beq_iff_eq,decide_eq_true_eq] at hf;obtain ⟨⟨⟨⟨f1,f2⟩,f3⟩,f4⟩,f5⟩:=hf;obtain ⟨b1,b2,e1,e2,rfl⟩:=alo (P.cellsOf f.type) he;obtain ⟨l1,l2⟩:=ahz e1;have hle:(ks.take (P.cellsOf f.type)).length≤P.cellsOf f.type:=by simp; omega
      obtain ⟨x,px,fx⟩:=ady f4 h1.take l1 hle;obtain ⟨y,py,fy⟩:=ady f4 h2.take l2 hle;simp only [Op.eqFields,if_pos f1,Sem.run_bind];rw [f2,px,Result.andThen_ok,py,Result.andThen_ok,ih f4 e1 fx fy,Result.andThen_ok];cases b1
      ·simp
      ·simpa using ihl (i+P.cellsOf f.type) f5 e2 h1.drop h2.drop
    exact key _ 0 ht he hcs hcs'
   case array n e=>
    simp only [↓reduceIte] at hu hv;simp only [zai] at ht;obtain ⟨cs,rfl,hcs⟩:=hu;obtain ⟨cs',rfl,hcs'⟩:=hv;obtain ⟨i,hi⟩:=Option.isSome_iff_exists.1 ht.1;rw [show D+(d+1)=D+d+1 from rfl,run_equalIn_array w (D+d) cs cs' hd hi];obtain ⟨_,ht⟩:=ht
    have key:∀(n j:Nat) {ks:List Nat} {us vs:List AV} {b:Bool},alk (ab6 P d) P e n ks=true→eql ks us vs=some b→AtR X s ρ w cs (j*P.cellsOf e) us→AtR X s ρ w cs' (j*P.cellsOf e) vs→(Op.eqItems (D+d) e (P.cellsOf e) cs cs' (List.range' j n)).run P w=.ok b w:=by
     intro n
     induction n with
     | zero=>
      intro j ks us vs b hf he h1 h2;simp only [alk,List.isEmpty_iff] at hf;subst hf;obtain ⟨e1,e2⟩:=ahz he;obtain rfl:us=[]:=zaq.1 e1;obtain rfl:vs=[]:=zaq.1 e2;cases he;simp [Op.eqItems]
     | succ n ihn=>
      intro j ks us vs b hf he h1 h2;simp only [alk,zai,decide_eq_true_eq] at hf;obtain ⟨⟨f3,f4⟩,f5⟩:=hf;obtain ⟨b1,b2,e1,e2,rfl⟩:=alo (P.cellsOf e) he;obtain ⟨l1,l2⟩:=ahz e1;have hle:(ks.take (P.cellsOf e)).length≤P.cellsOf e:=by simp; omega
      obtain ⟨x,px,fx⟩:=ady f4 h1.take l1 hle;obtain ⟨y,py,fy⟩:=ady f4 h2.take l2 hle;simp only [List.range'_succ,Op.eqItems,Sem.run_bind];rw [px,Result.andThen_ok,py,Result.andThen_ok,ih f4 e1 fx fy,Result.andThen_ok];cases b1
      ·simp
      ·have d1:=h1.drop (n:=P.cellsOf e);have d2:=h2.drop (n:=P.cellsOf e);rw [← Nat.succ_mul] at d1 d2;simpa using ihn (j+1) f5 e2 d1 d2
    rw [List.range_eq_range'];exact key n 0 ht he (by simpa using hcs) (by simpa using hcs')
   all_goals
    simp only [zal,↓reduceIte] at hu hv ht;obtain ⟨u,rfl,hu⟩:=hu;obtain ⟨v,rfl,hv⟩:=hv
    match ks,ht,he with
    | [k],ht,he=>
     simp only [eql] at he;split at he
     ·rename_i p q hp hq;cases hq;cases he;rw [Bool.and_true];exact bcd (by simpa [al,hd] using ht) hp hu hv
     ·cases he
theorem bb5 {g:Bool} (hg:g=true) {neg:Bool} {ks:List Nat} {op:BinOp} {t ty:TypeId} {x y:Operand} {u v:AV} (ho:o.op=.binOp op t x y ty) (hop:op=if neg then .neq else .eql) (ht:a9c P t ks=true)
  (hu:RA X s ρ w u (a.eval x)) (hv:RA X s ρ w v (a.eval y)) (ha:u.isA=true) (hb:v.isA=true) (hok:(ac8 g neg (eql ks u.cells v.cells)).1):m6 P X a w s ρ o (ac8 g neg (eql ks u.cells v.cells)).2:=by
 rcases he:eql ks u.cells v.cells with _ | b
 ·rw [he] at hok; first | exact (hok hg).elim | exact (hok.2 hg).elim
 ·simp only [a9c,zai,Bool.not_eq_true'] at ht;obtain ⟨⟨h1,h2⟩,h3⟩:=ht;obtain ⟨cs,hc,hcs⟩:=aui hu ha;obtain ⟨cs',hc',hcs'⟩:=aui hv hb
  have key:(Op.equal t (.agg cs) (.agg cs')).run P w=.ok b w:=by
   have:=avz (X:=X) (s:=s) (ρ:=ρ) (w:=w) 9996 4 h1 he (c:=.agg cs) (c':=.agg cs') (by unfold aef; rw [if_pos h2]; exact ⟨cs,rfl,fun i u hu=>by simpa using hcs i u hu⟩) (by unfold aef; rw [if_pos h2]; exact ⟨cs',rfl,fun i u hu=>by simpa using hcs' i u hu⟩);exact this
  simp only [m6,execOp,ho,hc,hc'];refine ⟨_,?_,dq _⟩;subst hop;cases neg<;>simp [binOp,key,run_eqGuard_agg w _ t x y cs cs' h3]
theorem be7 {g:Bool} (hg:g=true) {op:UnOp} {t:TypeId} {x:Operand} {u:AV} (ho:o.op=.unOp op t x) (hu:RA X s ρ w u (a.eval x)) (hok:(un1 g op u).1):m6 P X a w s ρ o (un1 g op u).2:=by
 unfold un1 at hok ⊢;split at hok
 ·have h1:=k9 hu;simp only [m6,execOp,ho,h1];cases op<;>simp only [bad,hg,true_implies,forall_const] at hok ⊢
  all_goals first
   | first | exact (hok hg).elim | exact (hok.2 hg).elim
   | (refine ⟨_,?_,dq _⟩; simp [Op.unary,Op.intArith,Op.intBits]; done)
 ·have h1:=k9 hu;simp only [m6,execOp,ho,h1];cases op<;>simp only [bad,hg,true_implies,forall_const] at hok ⊢
  all_goals first
   | first | exact (hok hg).elim | exact (hok.2 hg).elim
   | (refine ⟨_,?_,dq _⟩; simp [Op.unary]; done)
 ·first | exact (hok hg).elim | exact (hok.2 hg).elim
theorem a7p {g:Bool} (hg:g=true) {k:IntKind} {t t':TypeId} {d:TypeDesc} {x:Operand} {u:AV} (ho:o.op=.convert t t' x) (h1:P.underlying t=some d) (h2:P.underlying t'=some (.int k)) (hu:RA X s ρ w u (a.eval x))
  (hok:(up g k u).1):m6 P X a w s ρ o (up g k u).2:=by
 unfold up at hok ⊢;split at hok
 ·have h3:=k9 hu;simp only [m6,execOp,ho,h3];refine ⟨_,?_,dq _⟩;simp [convert,run_underlying h1,run_underlying h2,Conv.intToInt]
 ·first | exact (hok hg).elim | exact (hok.2 hg).elim
theorem p6 {ob:Obs} {id ver:Nat} {r:Nat×RV×Bool×Bool×List RV} (h:i9 ob id ver=some r):ob id=some (ver,.row r.1 r.2.1 r.2.2.1 r.2.2.2.1 r.2.2.2.2):=by
 unfold i9 at h;split at h
 ·split at h
  ·rename_i h1 h2;cases h;rw [h1,h2]
  ·cases h
 ·cases h
theorem il {ob:Obs} {id ver:Nat} {r:List AV} (h:o7 ob id ver=some r):ob id=some (ver,.box r):=by
 unfold o7 at h;split at h
 ·split at h
  ·rename_i h1 h2;cases h;rw [h1,h2]
  ·cases h
 ·cases h
theorem aqm {ob:Obs} {id ver:Nat} {r:Unit} (h:jc ob id ver=some r):∃o,ob id=some (ver,o):=by
 unfold jc at h;split at h
 ·split at h
  ·rename_i h1 h2;exact ⟨_,by rw [h1,h2]⟩
  ·cases h
 ·split at h
  ·rename_i h1 h2;exact ⟨_,by rw [h1,h2]⟩
  ·cases h
 ·cases h
theorem At.live {ob:Obs} {id ver:Nat} {X:Ob→Prop} {o:Ob} (h:At ob id ver X) (ho:ob id=some (ver,o)):X o:=by
 obtain ⟨v,o',h1,h2,h3⟩:=h;rw [h1] at ho;cases ho;exact h3 rfl
theorem pz {id ver lo len:Nat} {c:Value} {r:Nat×RV×Bool×Bool×List RV} (h:RA X s ρ w (.own id ver lo len) c) (hr:i9 s.ob id ver=some r) :
  ah7 w ρ id lo len c (.row r.1 r.2.1 r.2.2.1 r.2.2.2.1 r.2.2.2.2):=by
 cases h;rename_i h;exact h.live (p6 hr)
theorem bbz {g:Bool} (hg:g=true) {str:Bool} {x:Operand} {u:AV} {t:TypeId} {d:TypeDesc} {c:Call} (ho:o.op=.call c) (hc:c.callee=.builtin .len) (hx:c.args=#[x]) (ht:c.argTypes=#[t]) (hd:P.underlying t=some d)
  (hs:af5 str d=true) (hu:RA X s ρ w u (a.eval x))
  (hok:(xl g str u s.ob).ok):m6 P X a w s ρ o (xl g str u s.ob).v:=by
 have key:∀(m:Nat) (v:Value),a.eval x=v→(∀e,d=.slice e→∃A k,v=.slice A m k)→(d=.string→∃b,v=.string b∧b.size=m)→m6 P X a w s ρ o (int .i64 m):=by
  intro m v hv h1 h2;simp only [m6,execOp,ho];refine ⟨_,?_,dq _⟩;unfold af5 at hs;split at hs
  ·rename_i hd;obtain ⟨b,rfl,rfl⟩:=h2 rfl;simp [resolve,hc,hx,ht,hv,invoke,builtin,Builtin.len_,run_underlying hd,goInt]
  ·rename_i hd;obtain ⟨A,k,rfl⟩:=h1 _ rfl;simp [resolve,hc,hx,ht,hv,invoke,builtin,Builtin.len_,run_underlying hd,goInt]
  ·cases hs
 unfold xl at hok ⊢;split at hok
 ·cases hu;rename_i hu;generalize hv:a.eval x=v at hu;cases hu;rename_i A cap hm b o g hc hA hr hz hg;refine key _ _ hv (fun e he=>⟨A,cap,rfl⟩) (fun he=>?_);subst he;simp only [af5] at hs;have:=hok.1;rw [hs] at this;cases this
 ·have h1:=k9 hu;refine key _ _ h1 (fun e he=>?_) (fun he=>⟨_,rfl,rfl⟩);subst he;have:=hok.1;simp only [af5] at hs;rw [this] at hs;cases hs
 ·generalize hv:a.eval x=v at hu;cases hu;refine key 0 _ hv (fun e he=>⟨_,_,rfl⟩) (fun he=>?_);subst he;simp only [af5] at hs;have:=hok.1;rw [hs] at this;cases this
 ·split at hok
  ·rename_i r hr;obtain ⟨A,cap,e1,e2,e3,e4,e5⟩:=pz hu hr;simp only [hr];refine key _ _ e1 (fun e he=>⟨_,_,rfl⟩) (fun he=>?_);subst he;simp only [af5] at hs;have:str=false:=hok;rw [hs] at this;cases this
  ·rename_i id ver _ n _ hnr;rcases hb:o7 s.ob id ver with _ | cells
   ·rw [hb] at hok;exact (hok hg).elim
   ·rw [hb] at hok
    obtain ⟨A,cap,e1,e2,e3,e5⟩:ah7 w ρ _ _ _ (a.eval x) (.box cells):=by
     cases hu;rename_i h;exact h.live (il hb)
    refine key _ _ e1 (fun e he=>⟨_,_,rfl⟩) (fun he=>?_);subst he;simp only [af5] at hs;have:str=false:=hok;rw [hs] at this;cases this
 ·first | exact (hok hg).elim | exact (hok.2 hg).elim | exact hok.2.elim
theorem dm (b o k:Nat):(⟨b,o,none⟩:Addr).add k=⟨b,o+k,none⟩:=by
 unfold Addr.add; split<;>simp_all
theorem bfa {g:Bool} (hg:g=true) {t e:TypeId} {i:TypeInfo} {sz:Nat} {z:RV} {x y:Operand} {u v:AV} (ho:o.op=.indexAddr t x y) (ht:P.underlying t=some (.slice e)) (hi:P.info? e=some i)
  (hz:i.size=sz) (hu:RA X s ρ w u (a.eval x)) (hv:RA X s ρ w v (a.eval y))
  (hok:(ia2 g sz z u v s.ob).ok):m6 P X a w s ρ o (ia2 g sz z u v s.ob).v:=by
 unfold ia2 at hok ⊢;subst hz;split at hok
 ·rename_i sz xs k m;have h2:=k9 hv;obtain ⟨rfl,h3⟩:=hok;obtain ⟨h3,h4⟩:=h3 hg;cases hu;rename_i hu;generalize hc:a.eval x=c at hu;cases hu;rename_i A cap hm b o' gg hcap hA hr hzz hgg;obtain ⟨rfl,hR⟩:=hA (by omega);obtain ⟨mm,rfl⟩:∃mm:Nat,m=(mm:Int):=⟨m.toNat,by omega⟩
  have hlt:mm<xs.length:=by omega
  simp only [m6,execOp,ho];refine ⟨.pointer (some ⟨b,o'+mm*i.size,none⟩),?_,?_⟩
  ·simp [Instr.indexAt,asIntOf,h2,hc,run_underlying ht,sizeOf,typeInfo,hi,hlt,dm]
  ·simp only [Vs.q,zam];have hx:xs[mm]?=some (xs.getD mm z):=by simp [hlt]
   exact .rp _ b _ (fun j=>gg mm j) hR fun j y hj=>⟨(hgg mm _ j y hx hj).1,(hgg mm _ j y hx hj).2,hr mm _ j y hx hj⟩
 ·rename_i id ver lo m k q;split at hok
  ·rename_i sz' r hr;have h2:=k9 hv;obtain ⟨hsz,h3⟩:=hok;obtain ⟨h3,h4⟩:=h3 hg;obtain ⟨A,cap,e1,e2,e3,e4,e5⟩:=pz hu hr;obtain ⟨b,cs,ee,fr,f1,f2,f3,f4⟩:=e5 (by omega);obtain ⟨mm,rfl⟩:∃mm:Nat,q=(mm:Int):=⟨q.toNat,by omega⟩
   simp only [hr];simp only [m6,execOp,ho];refine ⟨.pointer (some ⟨b,(lo+mm)*sz'+0,none⟩),?_,?_⟩
   ·have hlt:mm<m:=by omega
    simp [Instr.indexAt,asIntOf,h2,e1,f2,run_underlying ht,sizeOf,typeInfo,hi,hlt,dm,hsz,Nat.add_mul]
   ·refine .oel id ver _ 0 _ rfl ⟨ver,_,p6 hr,zaa _,fun _=>?_⟩;exact ⟨by rw [zam]; simp only at e4 ⊢; omega,Nat.zero_le _,b,f1,by rw [zam]⟩
  ·rcases hb:o7 s.ob id ver with _ | cells
   ·rw [hb] at hok;exact (hok hg).elim
   ·rw [hb] at hok;have h2:=k9 hv;obtain ⟨hsz,h3⟩:=hok;obtain ⟨h3,h4⟩:=h3 hg
    obtain ⟨A,cap,e1,e2,e3,e5⟩:ah7 w ρ id lo m (a.eval x) (.box cells):=by
     cases hu;rename_i h;exact h.live (il hb)
    obtain ⟨b,cs,ee,fr,f1,f2,f3,f4⟩:=e5 (by omega);obtain ⟨mm,rfl⟩:∃mm:Nat,q=(mm:Int):=⟨q.toNat,by omega⟩
    simp only [m6,execOp,ho,iab];refine ⟨.pointer (some ⟨b,lo+mm,none⟩),?_,?_⟩
    ·have hlt:mm<m:=by omega
     simp [Instr.indexAt,asIntOf,h2,e1,f2,run_underlying ht,sizeOf,typeInfo,hi,hlt,dm,hsz]
    ·exact .ptr id ver _ _ rfl ⟨ver,_,il hb,zaa _,fun _=>⟨b,f1,by rw [zam]⟩⟩
 ·first | exact (hok hg).elim | exact (hok.2 hg).elim | exact hok.2.elim
theorem a36 {g:Bool} (hg:g=true) {mx:Bool}:∀{vs:List AV} {cs:List Value} {u:AV} {c:Value},(mmL g mx u vs).1→RA X s ρ w u c→vs.length=cs.length→(∀(i:Nat) (x:AV) (y:Value),vs[i]?=some x→cs[i]?=some y→RA X s ρ w x y) →
  ∃r,(cs.foldlM (bif mx then Builtin.max2 else Builtin.min2) c).run P w=.ok r w∧RA X s ρ w (mmL g mx u vs).2 r
 | [],[],u,c,hok,hu,hl,h=>by
  have hm:mmL g mx u []=(True,u):=by unfold mmL; rfl
  exact ⟨c,by simp,by rw [hm]; exact hu⟩
 | v::vs,d::cs,u,c,hok,hu,hl,h=>by
  have hv:=h 0 v d rfl rfl;unfold mmL at hok;split at hok
  ·rename_i heq;cases heq
  ·rename_i k a k' b ys heq;cases heq;have h1:=k9 hu;have h2:=k9 hv;subst h1; subst h2;obtain ⟨r,g1,g2⟩   := a36 hg (cs:=cs) hok (dq (.int k (bif mx then max a b else min a b))) (by simpa using hl) (fun i x y hx hy=>h (i+1) x y (by simpa using hx) (by simpa using hy));refine ⟨r,?_,?_⟩
   ·rw [List.foldlM_cons,Sem.run_bind]
    have:((bif mx then Builtin.max2 else Builtin.min2) (.int k a) (.int k' b)).run P w=.ok (.int k (bif mx then max a b else min a b)) w:=by
     cases mx
     ·simp only [cond_false,Builtin.min2,Sem.run_pure];congr 2;rw [Int.min_def];split<;>split<;>omega
     ·simp only [cond_true,Builtin.max2,Sem.run_pure];congr 2;rw [Int.max_def];split<;>split<;>omega
    rw [this,Result.andThen_ok];exact g1
   ·rw [mmL]; exact g2
  ·first | exact (hok hg).elim | exact (hok.2 hg).elim
 | [],_::_,_,_,_,_,hl,_=>by cases hl
 | _::_,[],_,_,_,_,hl,_=>by cases hl
theorem be9 {g:Bool} (hg:g=true) {mx:Bool} {c:Call} {x:Operand} {ys:List Operand} {u:AV} {vs:List AV} (ho:o.op=.call c) (hc:c.callee=.builtin (if mx then .max else .min)) (hx:c.args.toList=x::ys) (hu:RA X s ρ w u (a.eval x))
  (hl:vs.length=ys.length) (hv:∀(i:Nat) (v:AV) (y:Operand),vs[i]?=some v→ys[i]?=some y→RA X s ρ w v (a.eval y)) (hok:(mmL g mx u vs).1):m6 P X a w s ρ o (mmL g mx u vs).2:=by
 obtain ⟨r,h1,h2⟩   := a36 hg (P:=P) (cs:=ys.map a.eval) hok hu (by simp [hl]) (fun i x y hx hy=>by
  rw [List.getElem?_map,zar] at hy;obtain ⟨z,hz,rfl⟩:=hy
  exact hv i x z hx hz)
 have hargs:c.args=(x::ys).toArray:=by rw [← hx]
 refine ⟨r,?_,h2⟩;cases mx
 ·simp only [if_false,cond_false,zal] at h1 hc;simp [execOp,ho,resolve,hc,hargs,invoke,builtin,Builtin.min_,h1]
 ·simp only [if_true,cond_true] at h1 hc;simp [execOp,ho,resolve,hc,hargs,invoke,builtin,Builtin.max_,h1]
theorem bb1 {g:Bool} (hg:g=true) {t e:TypeId} {i:TypeInfo} {n sz:Nat} {x y:Operand} {u v:AV} (ho:o.op=.indexAddr t x y) (ht:P.underlying t=some (.array n e)) (hi:P.info? e=some i)
  (hz:i.size=sz) (hu:RA X s ρ w u (a.eval x)) (hv:RA X s ρ w v (a.eval y)) (hok:(oi g n sz u v s.ob).ok):m6 P X a w s ρ o (oi g n sz u v s.ob).v:=by
 subst hz
 have key:∀b o' k (m:Int),a.eval x=.pointer (some ⟨b,o',none⟩)→a.eval y=.int k m→0≤m→m<n→(execOp a.eval o).run P w=.ok (.value (.pointer (some ⟨b,o'+m.toNat*i.size,none⟩))) w:=by
  intro b o' k m hx hy h0 h1;simp [execOp,ho,hx,hy,Instr.indexAt,asIntOf,run_underlying ht,Instr.sureAddr,sizeOf,typeInfo,hi,dm,h0,h1]
 unfold oi at hok ⊢;split at hok
 ·rename_i id ver o' k m;split at hok
  ·rename_i r hr;have hb:=il hr;have h2:=k9 hv;cases hu;rename_i h;obtain ⟨b,hρ,hc⟩:=h.live hb;simp only [hr];exact ⟨_,key b _ k m hc h2 (hok hg).1 (hok hg).2,.ptr _ _ _ _ rfl ⟨_,_,hb,zaa _,fun _=>⟨b,hρ,rfl⟩⟩⟩
  ·first | exact (hok hg).elim | exact (hok.2 hg).elim | exact hok.2.elim
 ·rename_i id ver idx o' k m;split at hok
  ·rename_i sz' r hr;have hb:=p6 hr;have h2:=k9 hv;cases hu;rename_i h;obtain ⟨hidx,hoff,b,hρ,hc⟩:=h.live hb;simp only [hr];obtain ⟨h3,h4,h5⟩:=hok hg;refine ⟨_,key b _ k m hc h2 h3 h4,.oel _ _ _ _ _ rfl ⟨_,_,hb,zaa _,fun _=>⟨hidx,?_,b,hρ,?_⟩⟩⟩
   ·have:m.toNat*i.size≤n*i.size:=Nat.mul_le_mul_right _ (by omega);simp only;omega
   ·rw [zak]
  ·first | exact (hok hg).elim | exact (hok.2 hg).elim | exact hok.2.elim
 ·rename_i ys k m;have h2:=k9 hv;generalize hc:a.eval x=c at hu;cases hu;rename_i b o' f hR hf;obtain ⟨_,h3⟩:=hok;refine ⟨_,key b o' k m hc h2 (h3 hg).1 (h3 hg).2,.rp _ b _ (fun j=>f (m.toNat*i.size+j)) hR fun j y hj=>?_⟩;rw [zab] at hj;have:=hf (m.toNat*i.size+j) y hj;rw [← zak] at this;exact this
 ·first | exact (hok hg).elim | exact (hok.2 hg).elim | exact hok.2.elim
def ads:Array Value→Sem Value:=fun args=>do
 let (x, y, b) ← Extern.MathBitsCarry.three "Sub64" args
 pure (Extern.MathBitsCarry.pair ((x+Extern.MathBitsCarry.m64-y-b)%Extern.MathBitsCarry.m64) (if x<y+b then 1 else 0))
theorem a35 (x y b:Nat) (hb:b≤1) (w:World) :
  (ads #[.int .u64 x,.int .u64 y,.int .u64 b]).run P w =
   .ok (.tuple #[.int .u64 (((x+18446744073709551616-y-b)%18446744073709551616:Nat):Int),.int .u64 ((if x<y+b then 1 else 0:Nat):Int)]) w:=by
 have:b=0∨b=1:=by omega
 rcases this with rfl | rfl<;>rfl
theorem a2n {sub : Bool} {fn : Func} (hn : fn.name = if sub then "math/bits.Sub64" else "math/bits.Add64") (ho : fn.origin = "" ∨ fn.origin = fn.name) :
  Extern.findNext fn = none ∧ Extern.find fn = some (if sub then ads else add64Entry) ∧ (fn.name == "runtime.NumGoroutine") = false := by
 have hr : fn.origin = "" ∨ fn.origin = if sub then "math/bits.Sub64" else "math/bits.Add64" := by rw [← hn]; exact ho
 unfold Extern.findNext Extern.find;rw [hn];cases sub<;>simp only [if_true,if_false,zal] at hr ⊢
 ·have h1 : Extern.allGenericRows.lookup "math/bits.Add64" = none := by kernel_rfl
  have h2 : Extern.allTypedRows.lookup "math/bits.Add64" = none := by kernel_rfl
  have h3 : Extern.allRows.lookup "math/bits.Add64" = some add64Entry := by kernel_rfl
  have h4 : Extern.allNextRows.lookup "math/bits.Add64" = none := by kernel_rfl
  have h5 : Extern.allNextRows.lookup "" = none := by kernel_rfl
  refine ⟨?_,?_,by decide⟩
  ·rcases hr with hr | hr<;>simp [hr,h4,h5]
  ·simp [h1,h2,h3]
 ·have h1 : Extern.allGenericRows.lookup "math/bits.Sub64" = none := by kernel_rfl
  have h2 : Extern.allTypedRows.lookup "math/bits.Sub64" = none := by kernel_rfl
  have h3 : Extern.allRows.lookup "math/bits.Sub64" = some ads := by kernel_rfl
  have h4 : Extern.allNextRows.lookup "math/bits.Sub64" = none := by kernel_rfl
  have h5 : Extern.allNextRows.lookup "" = none := by kernel_rfl
  refine ⟨?_,?_,by decide⟩
  ·rcases hr with hr | hr<;>simp [hr,h4,h5]
  ·simp [h1,h2,h3]
theorem a3y {g:Bool} (hg:g=true) {sub:Bool} {c:Call} {f:FuncId} {x y z:Operand} {u v t:AV} (ho:o.op=.call c) (hc:c.callee=.value (.func f)) (hf:as7 P sub f=true) (hx:c.args.toList=[x,y,z])
  (hu:RA X s ρ w u (a.eval x)) (hv:RA X s ρ w v (a.eval y)) (ht:RA X s ρ w t (a.eval z)) (hok:(na g sub u v t).1):m6 P X a w s ρ o (na g sub u v t).2:=by
 unfold na at hok ⊢;split at hok
 ·rename_i p q r;have h1:=k9 hu;have h2:=k9 hv;have h3:=k9 ht;obtain ⟨k1,k2,k3,k4,k5,k6⟩:=hok hg;have hargs:c.args=#[x,y,z]:=by rw [show c.args=c.args.toList.toArray by simp,hx]
  unfold as7 at hf;split at hf
  ·rename_i fn hfn;simp only [zai,Bool.or_eq_true,beq_iff_eq] at hf;obtain ⟨⟨f1,f2⟩,f3⟩:=hf;obtain ⟨e1,e2,e3⟩:=a2n f2 f3;have hcall:=fun args w=>run_callFunc_extern (P:=P) hfn e3 f1 e1 e2 args w
   have hrun:(execOp a.eval o).run P w=(((if sub then ads else add64Entry) #[.int .u64 p,.int .u64 q,.int .u64 r]).run P w).andThen (fun v w'=>Result.ok (Next.value v) w'):=by
    have hmap:c.args.map a.eval=#[.int .u64 p,.int .u64 q,.int .u64 r]:=by rw [hargs,← h1,← h2,← h3]; simp
    rw [← hcall,← hmap];simp [execOp,ho,resolve,hc,Act.eval,Deferred.ofValue,invoke]
    try rfl
   cases sub
   ·simp only [if_false,zal] at hrun;rw [run_add64 p q r k1 k2 k3 k4,Result.andThen_ok] at hrun;refine ⟨_,hrun,.tup _ _ rfl fun i x c hx hc=>?_⟩;rcases i with _ | _ | i
    ·simp at hx hc; subst hx; subst hc; exact dq _
    ·simp at hx hc; subst hx; subst hc; exact dq _
    ·simp at hx
   ·simp only [if_true] at hrun;obtain ⟨p,rfl⟩:=zas k1;obtain ⟨q,rfl⟩:=zas k2;obtain ⟨r,rfl⟩:=zas k3;have hrun2:=hrun;rw [a35 p q r (by omega),Result.andThen_ok] at hrun2;refine ⟨_,hrun2,.tup _ _ rfl fun i x c hx hc=>?_⟩;rcases i with _ | _ | i
    ·simp only [zat,List.getElem?_cons_zero,Option.some.injEq] at hx hc;subst hx; subst hc;have:(((p+18446744073709551616-q-r)%18446744073709551616:Nat):Int)=((p:Int)+18446744073709551616-q-r)%18446744073709551616:=by omega
     rw [this];exact dq _
    ·simp only [zat,List.getElem?_cons_zero,List.getElem?_cons_succ,Option.some.injEq] at hx hc;subst hx; subst hc;have:((if p<q+r then 1 else 0:Nat):Int)=if (p:Int)<q+r then 1 else 0:=by split<;>split<;>omega
     rw [← this];exact dq _
    ·simp at hx
  ·cases hf
 ·first | exact (hok hg).elim | exact (hok.2 hg).elim
theorem bb0 {g:Bool} (hg:g=true) {t:TypeId} {x y:Operand} {u v:AV} (ho:o.op=.index t x y) (ht:P.underlying t=some .string)
  (hu:RA X s ρ w u (a.eval x)) (hv:RA X s ρ w v (a.eval y)) (hok:(abk g u v).1):m6 P X a w s ρ o (abk g u v).2:=by
 unfold abk at hok ⊢;split at hok
 ·rename_i b k m;have h1:=k9 hu;have h2:=k9 hv;obtain ⟨h3,h4⟩:=hok hg;obtain ⟨mm,rfl⟩:∃mm:Nat,m=(mm:Int):=⟨m.toNat,by omega⟩
  have hlt:mm<b.size:=by omega
  simp only [m6,execOp,ho];refine ⟨_,?_,dq _⟩
  have hb:b[mm]?=some (b.data.toList.getD mm 0):=by
   have h5:mm<b.data.size:=hlt;have h6:b[mm]?=some (b[mm]'hlt):=getElem?_pos b mm hlt;rw [h6];simp only [List.getD_eq_getElem?_getD,Array.getElem?_toList];rw [Array.getElem?_eq_getElem h5]
   rfl
  simp [Instr.index,asIntOf,h1,h2,run_underlying ht,hb]
 ·first | exact (hok hg).elim | exact (hok.2 hg).elim
theorem bbw {g:Bool} (hg:g=true) {x:Operand} {u:AV} (ho:o.op=.nilCheck x) (hu:RA X s ρ w u (a.eval x)) (hok:(zr g u s.ob).ok):m6 P X a w s ρ o (zr g u s.ob).v:=by
 unfold zr at hok ⊢;split at hok
 ·split at hok
  ·rename_i r hr;have hu':=hu;cases hu;rename_i h;obtain ⟨o',ho'⟩:=aqm hr;obtain ⟨b,_,hc⟩:=h.live ho';simp only [m6,execOp,ho,hc,hr];exact ⟨_,rfl,by rw [← hc]; exact hu'⟩
  ·first | exact (hok hg).elim | exact (hok.2 hg).elim | exact hok.2.elim
 ·split at hok
  ·rename_i r hr;have hu':=hu;cases hu;rename_i h;obtain ⟨_,_,b,_,hc⟩:=h.live (p6 hr);simp only [m6,execOp,ho,hc,hr];exact ⟨_,rfl,by rw [← hc]; exact hu'⟩
  ·first | exact (hok hg).elim | exact (hok.2 hg).elim | exact hok.2.elim
 ·have hu':=hu;generalize hc:a.eval x=c at hu hu';cases hu;simp only [m6,execOp,ho,hc];exact ⟨_,rfl,hu'⟩
 ·have hu':=hu;generalize hc:a.eval x=c at hu hu';cases hu;simp only [m6,execOp,ho,hc];exact ⟨_,rfl,hu'⟩
 ·first | exact (hok hg).elim | exact (hok.2 hg).elim | exact hok.2.elim
theorem atz (b o:Nat) (cs:List Value) (h:∀j v,cs[j]?=some v→w.cell? ⟨b,o+j,none⟩=some v):(loadCells ⟨b,o,none⟩ cs.length).run P w=.ok cs.toArray w:=
 run_loadCells_list w ⟨b,o,none⟩ cs fun j v hv=>by rw [dm]; exact h j v hv
theorem avy {t:TypeId} {m:Option Nat} (ht:ag6 P t m=true) (b o:Nat) (cs:List Value) (hn:cs.length=m.getD 1) (h:∀j v,cs[j]?=some v→w.cell? ⟨b,o+j,none⟩=some v) :
  (Instr.loadAt t (.pointer (some ⟨b,o,none⟩))).run P w=.ok (match m with | none=>cs.getD 0 undef | some _=>.agg cs.toArray) w:=by
 unfold ag6 at ht;split at ht
 ·rename_i fs i hu hi;have:m=some i.size:=by simpa using ht
  subst this;have hl:=atz (P:=P) b o cs h;simp only [zae] at hn;rw [hn] at hl;simp [Instr.loadAt,Instr.sureAddr,loadVar,isAgg,run_underlying hu,sizeOf,typeInfo,hi,hl]
 ·rename_i k e i hu hi;have:m=some i.size:=by simpa using ht
  subst this;have hl:=atz (P:=P) b o cs h;simp only [zae] at hn;rw [hn] at hl;simp [Instr.loadAt,Instr.sureAddr,loadVar,isAgg,run_underlying hu,sizeOf,typeInfo,hi,hl]
 ·rename_i d i h1 h2 hu hi;have:m=none:=by simpa using ht
  subst this;simp only [zaf] at hn;obtain ⟨c,rfl⟩:=List.length_eq_one_iff.1 hn;have hc:=h 0 c rfl;simp only [Nat.add_zero] at hc
  have hag:(isAgg t).run P w=.ok false w:=by
   simp only [isAgg,Sem.run_bind,run_underlying hu,Result.andThen_ok]
   rfl
  simp [Instr.loadAt,Instr.sureAddr,loadVar,hag,hc]
 ·cases ht
theorem bb3 {g:Bool} (hg:g=true) {i:Nat} {x:Operand} {u:AV} (ho:o.op=.extract x i) (hu:RA X s ρ w u (a.eval x)) (hok:(abp g i u).1):m6 P X a w s ρ o (abp g i u).2:=by
 unfold abp at hok ⊢;split at hok
 ·rename_i xs;generalize hc:a.eval x=c at hu;cases hu;rename_i cs hl h;have hlt:i<cs.size:=by omega
  simp only [m6,execOp,ho,hc];refine ⟨cs[i],?_,h i _ _ ?_ (by simp [hlt])⟩
  ·simp [Instr.extract,hlt]
  ·have hh:i<xs.length:=hok;simp [hh]
 ·first | exact (hok hg).elim | exact (hok.2 hg).elim
theorem a9o {ys:List RV} {b o:Nat} {g:Nat→Value} (hg:∀(j:Nat) (y:RV),ys[j]?=some y→w.cell? ⟨b,o+j,none⟩=some (g j)) :
  ((List.range ys.length).map g).length=ys.length∧∀j v,((List.range ys.length).map g)[j]?=some v→w.cell? ⟨b,o+j,none⟩=some v:=by
 refine ⟨by simp,fun j v hj=>?_⟩;rw [List.getElem?_map,zar] at hj;obtain ⟨k,hk,rfl⟩:=hj;obtain ⟨hk1,hk2⟩:=zan.1 hk;rw [List.getElem_range] at hk2;subst hk2;rw [List.length_range] at hk1;exact hg j ys[j] (by simp [hk1])
theorem a3w {m:Option Nat} {t:TypeId} {x:Operand} {ys:List RV} {b o':Nat} {f:Nat→Value} {R:Nat→Prop} (ho:o.op=.load t x) (ht:ag6 P t m=true) (hx:a.eval x=.pointer (some ⟨b,o',none⟩))
  (hg:∀(j:Nat) (y:RV),ys[j]?=some y→w.cell? ⟨b,o'+j,none⟩=some (f j)∧(f j).oneCell'=true∧RelV w R y (f j)) (hm:m.getD 1≤ys.length) :
  ∃c,(execOp a.eval o).run P w=.ok (.value c) w∧RelV w R (match m with | none=>ys.getD 0 (.v (.bool false)) | some k=>.agg (ys.take k)) c:=by
 obtain ⟨h1,h2⟩:=a9o (ys:=ys.take (m.getD 1)) (w:=w) (b:=b) (o:=o') (g:=f) fun j y hj=>by
  rw [zad] at hj;split at hj
  ·exact (hg j y hj).1
  ·cases hj
 rw [List.length_take,Nat.min_eq_left hm] at h1 h2;have hr:=avy ht b o' _ h1 h2;simp only [execOp,ho,hx];refine ⟨_,by simp only [Sem.run_bind,hr,Result.andThen_ok]; rfl,?_⟩;cases m with
 | none=>
  simp only [zaf] at hm ⊢;have:ys[0]?=some (ys.getD 0 (.v (.bool false))):=by simp [show 0<ys.length by omega]
  have:=(hg 0 _ this).2.2;simpa using this
 | some k=>
  simp only [zae] at hm ⊢;refine .agg _ _ (by simp; omega) fun i x c hx hc=>?_;rw [zad] at hx;split at hx
  ·rename_i hik
   have hc':c=f i:=by
    simp [hik] at hc;exact hc.symm
   subst hc';exact (hg i x hx).2.2
  ·cases hx
theorem bam (hG:Gam X s ρ a w) {id ver:Nat} {ob:Ob} (h:s.ob id=some (ver,ob)):dn w (g8 X.B s.ob ρ w) s.ob ρ id ob:=hG.obj id ver ob h
theorem a3x {g:Bool} (hg:g=true) {m:Option Nat} {t:TypeId} {x:Operand} {u:AV} (hG:Gam X s ρ a w) (ho:o.op=.load t x) (ht:ag6 P t m=true) (hu:RA X s ρ w u (a.eval x))
  (hok:(ld1 g m u s.ob).ok):m6 P X a w s ρ o (ld1 g m u s.ob).v:=by
 unfold ld1 at hok ⊢;split at hok
 ·rename_i id ver off;unfold ldb at hok ⊢;split at hok
  ·rename_i cells hr;have hb:=il hr;cases hu;rename_i h;obtain ⟨b,hρ,hc⟩:=h.live hb;obtain ⟨b',cs,e,hρ',hh,hsz,hrel⟩:=bam hG hb;rw [hρ] at hρ';cases hρ';have hcell:∀j,w.cell? ⟨b,j,none⟩=cs[j]?:=fun j=>by simp [World.cell?,hh]
   cases m with
   | none=>
    have hlt:off<cells.length:=hok hg;have hx:cs[off]?=some cs[off]:=by simp [show off<cs.size by omega]
    have hr2:=avy (P:=P) (w:=w) ht b off [cs[off]] rfl fun j v hj=>by
     cases j with
     | zero=>simp at hj; subst hj; rw [hcell]; simpa using hx
     | succ j=>simp at hj
    simp only [m6,execOp,ho,hc];refine ⟨_,by simp only [Sem.run_bind,hr2,Result.andThen_ok]; rfl,?_⟩;simp only [List.getD_cons_zero];exact hrel off _ _ (by simp [hlt]) hx
   | some k=>
    have hlt:off+k≤cells.length:=hok hg
    have hr2:=avy (P:=P) (w:=w) ht b off ((cs.toList.drop off).take k) (by simp; omega) fun j v hj=>by
     rw [zad] at hj;split at hj
     ·rw [zab] at hj;rw [hcell];simpa using hj
     ·cases hj
    simp only [m6,execOp,ho,hc];refine ⟨_,by simp only [Sem.run_bind,hr2,Result.andThen_ok]; rfl,?_⟩;refine .agg _ _ (by simp; omega) fun i x c hx hc2=>?_;rw [zad] at hx;split at hx
    ·rename_i hik;rw [zab] at hx;refine hrel (off+i) x c hx ?_;simp only [zat,zad,hik,if_true,zab] at hc2;simpa using hc2
    ·cases hx
  ·first | exact (hok hg).elim | exact (hok.2 hg).elim | exact hok.2.elim
 ·rename_i id ver idx off;unfold ldr at hok ⊢;split at hok
  ·rename_i sz z app wr xs hr;have hb:=p6 hr;cases hu;rename_i h;obtain ⟨hidx,hoff,b,hρ,hc⟩:=h.live hb;simp only at hidx hoff;have hoR:=bam hG hb;simp only [dn] at hoR;rcases hoR with ⟨hnil,_⟩ | ⟨b',cs,e,fr,hρ',hh,hfr,happ,hsz,hel⟩
   ·rw [hnil] at hidx; simp at hidx
   ·rw [hρ] at hρ';cases hρ';have hx:xs[idx]?=some (xs.getD idx z):=by simp [hidx]
    obtain ⟨hl,hcl⟩:=hel idx _ hx;generalize xs.getD idx z=y at hl hcl ⊢;have hcell:∀j,w.cell? ⟨b,j,none⟩=cs[j]?:=fun j=>by simp [World.cell?,hh]
    have hkey:∃f:Nat→Value,∀(j:Nat) (q:RV),(y.cells.drop off)[j]?=some q→w.cell? ⟨b,idx*sz+off+j,none⟩=some (f j)∧(f j).oneCell'=true∧RelV w (g8 X.B s.ob ρ w) q (f j):=by
     refine ⟨fun j=>(cs[idx*sz+(off+j)]?).getD undef,fun j q hj=>?_⟩;rw [zab] at hj;obtain ⟨c,h1,h2,h3⟩:=hcl _ q hj;simp only [h1,zae];refine ⟨?_,h2,h3⟩;rw [hcell,zak,h1]
    obtain ⟨f,hf⟩:=hkey
    have hm:m.getD 1≤(y.cells.drop off).length:=by
     rw [List.length_drop,hl];cases m with
     | none=>have:off<sz:=hok hg; simp only [zaf]; omega
     | some k=>have:off+k≤sz:=hok hg; simp only [zae]; omega
    obtain ⟨c,h1,h2⟩:=a3w (P:=P) (a:=a) ho ht hc hf hm;refine ⟨c,h1,?_⟩;cases m with
    | none=>
     refine .r ?_;simpa using h2
    | some k=>exact .r h2
  ·first | exact (hok hg).elim | exact (hok.2 hg).elim | exact hok.2.elim
 ·rename_i ys;generalize hc:a.eval x=c at hu;cases hu;rename_i b o' f hR hf
  have hm:m.getD 1≤ys.length:=by
   cases m with
   | none=>have:0<ys.length:=hok.2 hg; simp only [zaf]; omega
   | some k=>have:k≤ys.length:=hok.2 hg; simpa using this
  obtain ⟨c,h1,h2⟩:=a3w (P:=P) (a:=a) ho ht hc hf hm;refine ⟨c,h1,?_⟩;cases m with
  | none=>exact .r h2
  | some k=>exact .r h2
 ·cases m<;>first | exact (hok hg).elim | exact (hok.2 hg).elim | exact hok.2.elim
theorem bfb {g:Bool} (hg:g=true) {t:TypeId} {k off:Nat} {x:Operand} {u:AV} {fs:Array Go.Field} {fd:Go.Field} {i:TypeInfo} (ho:o.op=.fieldAddr t x k) (h1:P.underlying t=some (.struct fs)) (h2:fs[k]?=some fd)
  (h3:P.info? fd.type=some i) (h4:fd.offset=off) (h5:i.size≠0) (hu:RA X s ρ w u (a.eval x)) (hok:(fa1 g off u s.ob).ok):m6 P X a w s ρ o (fa1 g off u s.ob).v:=by
 have key:∀b o',a.eval x=.pointer (some ⟨b,o',none⟩)→(execOp a.eval o).run P w=.ok (.value (.pointer (some ⟨b,o'+off,none⟩))) w:=by
  intro b o' hx;simp [execOp,ho,hx,Instr.fieldAt,run_underlying h1,h2,Instr.sureAddr,fieldPlace,sizeOf,typeInfo,h3,h5,dm,h4]
 unfold fa1 at hok ⊢;split at hok
 ·split at hok
  ·rename_i r hr;have hb:=il hr;cases hu;rename_i h;obtain ⟨b,hρ,hc⟩:=h.live hb;simp only [hr];exact ⟨_,key b _ hc,.ptr _ _ _ _ rfl ⟨_,_,hb,zaa _,fun _=>⟨b,hρ,rfl⟩⟩⟩
  ·first | exact (hok hg).elim | exact (hok.2 hg).elim | exact hok.2.elim
 ·split at hok
  ·rename_i sz r hr;have hb:=p6 hr;cases hu;rename_i h;obtain ⟨hidx,hoff,b,hρ,hc⟩:=h.live hb;simp only [hr];refine ⟨_,key b _ hc,.oel _ _ _ _ _ rfl ⟨_,_,hb,zaa _,fun _=>⟨hidx,hok hg,b,hρ,?_⟩⟩⟩;rw [zak]
  ·first | exact (hok hg).elim | exact (hok.2 hg).elim | exact hok.2.elim
 ·generalize hc:a.eval x=c at hu;cases hu;rename_i b o' f hR hf;refine ⟨_,key b o' hc,.rp _ b _ (fun j=>f (off+j)) hR fun j y hj=>?_⟩;rw [zab] at hj;have:=hf (off+j) y hj;rw [← zak] at this;exact this
 ·first | exact (hok hg).elim | exact (hok.2 hg).elim | exact hok.2.elim
def ldv (cs:Array Value) (off:Nat):Option Nat→Value
 | none=>cs.getD off undef
 | some k=>.agg (cs.extract off (off+k))
theorem avx {t:TypeId} {m:Option Nat} (ht:ag6 P t m=true) (cs:Array Value) (off:Nat) (hlen:off+m.getD 1≤cs.size) :
  (part t cs off).run P w=.ok (ldv cs off m) w:=by
 unfold ag6 at ht;split at ht
 ·rename_i fs i hu hi;have:m=some i.size:=by simpa using ht
  subst this;simp [part,isAgg,run_underlying hu,sizeOf,typeInfo,hi,ldv]
 ·rename_i k e i hu hi;have:m=some i.size:=by simpa using ht
  subst this;simp [part,isAgg,run_underlying hu,sizeOf,typeInfo,hi,ldv]
 ·rename_i d i h1 h2 hu hi;have:m=none:=by simpa using ht
  subst this;simp only [zaf] at hlen
  have hag:(isAgg t).run P w=.ok false w:=by
   simp only [isAgg,Sem.run_bind,run_underlying hu,Result.andThen_ok]
   rfl
  simp [part,hag,show off<cs.size by omega,ldv]
 ·cases ht
theorem bb2 {g:Bool} (hg:g=true) {t:TypeId} {k off:Nat} {m:Option Nat} {x:Operand} {u:AV} {fs:Array Go.Field} {fd:Go.Field} (ho:o.op=.field t x k) (h1:P.underlying t=some (.struct fs)) (h2:fs[k]?=some fd)
  (h4:fd.offset=off) (h5:ag6 P fd.type m=true) (hu:RA X s ρ w u (a.eval x)) (hok:(abn g off m u).1):m6 P X a w s ρ o (abn g off m u).2:=by
 subst h4;unfold abn at hok ⊢;split at hok
 ·rename_i xs;generalize hc:a.eval x=c at hu;cases hu;rename_i cs hl h
  have hlen:fd.offset+m.getD 1≤cs.size:=by
   cases m with
   | none=>have:fd.offset<xs.length:=hok hg; simp only [zaf]; omega
   | some q=>have:fd.offset+q≤xs.length:=hok hg; simp only [zae]; omega
  have hr:=avx (P:=P) (w:=w) h5 cs fd.offset hlen
  have hrun:(execOp a.eval o).run P w=.ok (.value (ldv cs fd.offset m)) w:=by
   simp only [execOp,ho,hc,Instr.field,Sem.run_bind,run_underlying h1,Result.andThen_ok,h2,asAgg,Sem.run_pure,hr]
  refine ⟨_,hrun,?_⟩;cases m with
  | none=>
   simp only [zaf] at hlen;simp only;exact h fd.offset _ _ (by simp [show fd.offset<xs.length by omega]) (by simp [show fd.offset<cs.size by omega,ldv])
  | some q=>
   simp only [zae] at hlen;simp only;refine .agg _ _ (by simp; omega) fun i y c hy hc2=>?_;rw [zad] at hy;split at hy
   ·rename_i hik;rw [zab] at hy;refine h (fd.offset+i) y c hy ?_;rw [Array.getElem?_extract] at hc2;split at hc2
    ·exact hc2
    ·cases hc2
   ·cases hy
 ·rename_i xs;generalize hc:a.eval x=c at hu;cases hu;rename_i hu;cases hu;rename_i cs hl h
  have hlen:fd.offset+m.getD 1≤cs.size:=by
   cases m with
   | none=>have:fd.offset<xs.length:=hok hg; simp only [zaf]; omega
   | some q=>have:fd.offset+q≤xs.length:=hok hg; simp only [zae]; omega
  have hr:=avx (P:=P) (w:=w) h5 cs fd.offset hlen
  have hrun:(execOp a.eval o).run P w=.ok (.value (ldv cs fd.offset m)) w:=by
   simp only [execOp,ho,hc,Instr.field,Sem.run_bind,run_underlying h1,Result.andThen_ok,h2,asAgg,Sem.run_pure,hr]
  refine ⟨_,hrun,?_⟩;cases m with
  | none=>
   simp only [zaf] at hlen;simp only;exact .r (h fd.offset _ _ (by simp [show fd.offset<xs.length by omega]) (by simp [show fd.offset<cs.size by omega,ldv]))
  | some q=>
   simp only [zae] at hlen;simp only;refine .r (.agg _ _ (by simp; omega) fun i y c hy hc2=>?_);rw [zad] at hy;split at hy
   ·rename_i hik;rw [zab] at hy;refine h (fd.offset+i) y c hy ?_;rw [Array.getElem?_extract] at hc2;split at hc2
    ·exact hc2
    ·cases hc2
   ·cases hy
 ·first | exact (hok hg).elim | exact (hok.2 hg).elim
def RAO (X:Cx) (s:St) (ρ:Pl→Option Nat) (w:World) (a:Act):Option Operand→Option AV→Prop
 | none,none=>True
 | some x,some v=>RA X s ρ w v (a.eval x)
 | _,_=>False
theorem ahv {d i:Int} {x:Option Operand} {v:Option AV} (h:bnd d v=some i) (hx:RAO X s ρ w a x v) :
  (x=none∧v=none∧i=d)∨∃x' k,x=some x'∧a.eval x'=.int k i:=by
 unfold bnd at h;split at h
 ·cases x with
  | none=>exact .inl ⟨rfl,rfl,by cases h; rfl⟩
  | some x=>exact hx.elim
 ·cases x with
  | none=>exact hx.elim
  | some x=>cases h; exact .inr ⟨x,_,rfl,k9 hx⟩
 ·cases h
theorem bbt {g:Bool} (hg:g=true) {t:TypeId} {x:Operand} {lo hi:Option Operand} {u:AV} {l h:Option AV} (ho:o.op=.slice t x lo hi none) (ht:P.underlying t=some .string) (hu:RA X s ρ w u (a.eval x))
  (hl:RAO X s ρ w a lo l) (hh:RAO X s ρ w a hi h)
  (hok:(aba g u l h).1):m6 P X a w s ρ o (aba g u l h).2:=by
 unfold aba at hok ⊢;split at hok
 ·rename_i b;have h1:=k9 hu;split at hok
  ·rename_i i j hi1 hj1;obtain ⟨e1,e2,e3⟩:=hok hg;simp only [m6,execOp,ho];refine ⟨_,?_,dq _⟩;have hb1:=ahv hi1 hl;have hb2:=ahv hj1 hh;obtain ⟨ii,rfl⟩:∃ii:Nat,i=(ii:Int):=⟨i.toNat,by omega⟩
   obtain ⟨jj,rfl⟩:∃jj:Nat,j=(jj:Int):=⟨j.toNat,by omega⟩
   have e2':ii≤jj:=by omega
   have e3':jj≤b.size:=by omega
   rcases hb1 with ⟨rfl,rfl,hi0⟩ | ⟨x1,k1,rfl,hx1⟩<;>rcases hb2 with ⟨rfl,rfl,hj0⟩ | ⟨x2,k2,rfl,hx2⟩
   ·have:ii=0:=by omega
    have:jj=b.size:=by omega
    subst this; subst ii;simp [Instr.sliceAt,run_underlying ht,Instr.slice,h1,Instr.sliceBounds]
   ·have:ii=0:=by omega
    subst ii;simp [Instr.sliceAt,run_underlying ht,Instr.slice,h1,Instr.sliceBounds,Instr.sliceBound,hx2,asIntOf,e3']
   ·have:jj=b.size:=by omega
    subst this;simp [Instr.sliceAt,run_underlying ht,Instr.slice,h1,Instr.sliceBounds,Instr.sliceBound,hx1,asIntOf,e2']
   ·simp [Instr.sliceAt,run_underlying ht,Instr.slice,h1,Instr.sliceBounds,Instr.sliceBound,hx1,hx2,asIntOf,e2',e3']
  ·first | exact (hok hg).elim | exact (hok.2 hg).elim
 ·first | exact (hok hg).elim | exact (hok.2 hg).elim
theorem ay8 {t e:TypeId} {inf:TypeInfo} {x:Operand} {lo hi mx:Option Operand} {l h m:Option AV} {i j q:Int} {A:Option Addr} {len cap:Nat} (ho:o.op=.slice t x lo hi mx) (ht:P.underlying t=some (.slice e)) (hi':P.info? e=some inf)
  (hx:a.eval x=.slice A len cap) (hlc:len≤cap) (hi1:bnd 0 l=some i) (hj1:bnd len h=some j) (hq1:bnd len m=some q)
  (hl:RAO X s ρ w a lo l) (hh:RAO X s ρ w a hi h)
  (hm:RAO X s ρ w a mx m) (hmh:mx≠none→hi≠none) (hb:0≤i∧i≤j∧j≤q∧q≤len) :
  ∃A' cap',(execOp a.eval o).run P w=.ok (.value (.slice A' (j-i).toNat cap')) w∧cap'≤cap-i.toNat∧(j-i).toNat≤cap'∧(0<cap'→A'=A.map (·.add (i.toNat*inf.size))):=by
 obtain ⟨e1,e2,e3,e4⟩:=hb;obtain ⟨ii,rfl⟩:∃ii:Nat,i=(ii:Int):=⟨i.toNat,by omega⟩
 obtain ⟨jj,rfl⟩:∃jj:Nat,j=(jj:Int):=⟨j.toNat,by omega⟩
 obtain ⟨qq,rfl⟩:∃qq:Nat,q=(qq:Int):=⟨q.toNat,by omega⟩
 have e2':ii≤jj:=by omega
 have e3':jj≤qq:=by omega
 have e4':qq≤len:=by omega
 have hnd:(Instr.sliceBounds true len cap (lo.map a.eval) (hi.map a.eval) (mx.map a.eval)).run P w=.ok (ii,jj,if mx.isNone then cap else qq) w:=by
  rcases ahv hi1 hl with ⟨rfl,rfl,hi0⟩ | ⟨x1,k1,rfl,hx1⟩<;>rcases ahv hj1 hh with ⟨rfl,rfl,hj0⟩ | ⟨x2,k2,rfl,hx2⟩<;>rcases ahv hq1 hm with ⟨rfl,rfl,hq0⟩ | ⟨x3,k3,rfl,hx3⟩
  ·have:ii=0:=by omega
   have:jj=len:=by omega
   subst this; subst ii;simp [Instr.sliceBounds]
  ·exact absurd rfl (hmh (by simp))
  ·have:ii=0:=by omega
   subst ii;simp [Instr.sliceBounds,Instr.sliceBound,hx2,asIntOf,show jj≤cap by omega]
  ·have:ii=0:=by omega
   subst ii;simp [Instr.sliceBounds,Instr.sliceBound,hx2,hx3,asIntOf,show qq≤cap by omega,e3']
  ·have:jj=len:=by omega
   subst this;simp [Instr.sliceBounds,Instr.sliceBound,hx1,asIntOf,e2']
  ·exact absurd rfl (hmh (by simp))
  ·simp [Instr.sliceBounds,Instr.sliceBound,hx1,hx2,asIntOf,show jj≤cap by omega,e2']
  ·simp [Instr.sliceBounds,Instr.sliceBound,hx1,hx2,hx3,asIntOf,show qq≤cap by omega,e2',e3']
 generalize hM:(if mx.isNone then cap else qq)=M at hnd;have hM1:M≤cap:=by rw [← hM]; split<;>omega
 have hM2:jj≤M:=by rw [← hM]; split<;>omega
 refine ⟨if M=ii then A else A.map (·.add (ii*inf.size)),M-ii,?_,by simp only [zam]; omega,by omega,fun h0=>?_⟩
 ·simp only [execOp,ho,Instr.sliceAt,Sem.run_bind,run_underlying ht,Result.andThen_ok,Instr.slice,hx,hnd,sizeOf,typeInfo,run_program,hi',Sem.run_pure];simp [show ((jj:Int)-ii).toNat=jj-ii by omega]
 ·rw [if_neg (by omega),zam]
theorem bbu {g:Bool} (hg:g=true) {t e:TypeId} {inf:TypeInfo} {sz:Nat} {x:Operand} {lo hi mx:Option Operand} {u:AV} {l h m:Option AV} (ho:o.op=.slice t x lo hi mx) (ht:P.underlying t=some (.slice e)) (hi':P.info? e=some inf)
  (hsz:inf.size=sz) (hu:RA X s ρ w u (a.eval x)) (hl:RAO X s ρ w a lo l)
  (hh:RAO X s ρ w a hi h) (hm:RAO X s ρ w a mx m) (hmh:mx≠none→hi≠none)
  (hok:(vg g sz u l h m s.ob).ok):m6 P X a w s ρ o (vg g sz u l h m s.ob).v:=by
 unfold vg at hok ⊢;split at hok
 ·rename_i sz' xs;split at hok
  ·rename_i i j q h1 h2 h3;obtain ⟨rfl,hb⟩:=hok;have hb:=hb hg;cases hu;rename_i hu;generalize hc:a.eval x=c at hu;cases hu;rename_i A cap hmx b o' gg hcap hA hr hzz hgg;obtain ⟨A',cap',hrun,hcap1,hcap2,hA'⟩:=ay8 (P:=P) (w:=w) (s:=s) (ρ:=ρ) ho ht hi' hc hcap h1 h2 h3 hl hh hm hmh hb;have hlen:(j-i).toNat=((xs.take j.toNat).drop i.toNat).length:=by simp; omega
   rw [hlen] at hrun hcap2;refine ⟨_,hrun,.r ?_⟩;subst hsz;refine .sl _ _ _ _ hcap2 (by omega) b (o'+i.toNat*inf.size) (fun p=>gg (i.toNat+p)) (fun h0=>?_) (fun p y hp=>?_) (fun p y k z hp hk=>?_) (fun p y k z hp hk=>?_)
   ·obtain ⟨hA1,hR⟩:=hA (by rw [List.length_drop,List.length_take] at h0; omega);refine ⟨?_,hR⟩;rw [hA' (by omega),hA1];simp [dm]
   all_goals
    have hp':xs[i.toNat+p]?=some y:=by
     rw [zab,zad] at hp;split at hp
     ·exact hp
     ·cases hp
   ·exact hzz _ y hp'
   ·have:=hgg _ y k z hp' hk;rw [show o'+i.toNat*inf.size+p*inf.size+k=o'+(i.toNat+p)*inf.size+k by rw [Nat.add_mul]; omega];exact this
   ·exact hr _ y k z hp' hk
  ·first | exact (hok hg).elim | exact (hok.2 hg).elim | exact hok.2.elim
 ·rename_i id ver lo0 n0;split at hok
  ·rename_i i j q h1 h2 h3;split at hok
   ·rename_i sz' r hr;obtain ⟨rfl,hb⟩:=hok;have hb:=hb hg;have e6:i.toNat+(j-i).toNat≤n0:=by omega
    obtain ⟨A,cap,e1,e2,e3,e4,e5⟩:=pz hu hr;obtain ⟨A',cap',hrun,hcap1,hcap2,hA'⟩:=ay8 (P:=P) (w:=w) (s:=s) (ρ:=ρ) ho ht hi' e1 e2 h1 h2 h3 hl hh hm hmh hb;subst hsz;refine ⟨_,hrun,.own _ _ _ _ _ rfl ⟨_,_,p6 hr,zaa _,fun _=>?_⟩⟩;refine ⟨A',cap',rfl,hcap2,zao (zao hcap1 (Nat.sub_le _ _)) e3,?_,fun h0=>?_⟩
    ·clear e5;simp only at e4 ⊢;omega
    ·have e7:lo0+i.toNat+cap'≤lo0+cap:=by clear e5 e4; omega
     obtain ⟨b,cs,ee,fr,f1,f2,f3,f4⟩:=e5 (by clear e4 e5; omega);refine ⟨b,cs,ee,fr,f1,?_,f3,zao (Nat.mul_le_mul_right _ e7) f4⟩;rw [hA' h0,f2];simp [dm,Nat.add_mul]
   ·first | exact (hok hg).elim | exact (hok.2 hg).elim | exact hok.2.elim
  ·first | exact (hok hg).elim | exact (hok.2 hg).elim | exact hok.2.elim
 ·first | exact (hok hg).elim | exact (hok.2 hg).elim | exact hok.2.elim
end

section
variable {P:Program} {X:Cx} {w w':World} {s:St} {ρ ρ':Pl→Option Nat} {a:Act} {o:Oper} {ob ob':Obs} {R R':Nat→Prop}
theorem dn.stays (h:Stays w w' R R' ob ob' ρ ρ') {id:Nat} {x:Ob} (hx:dn w R ob ρ id x) (hρ:ρ' id=ρ id) (hρs:∀j,ρ' (.s id j)=ρ (.s id j)) (hb:∀b,foot ρ id x b→w'.heap[b]?=w.heap[b]?):dn w' R' ob' ρ' id x:=by
 cases x with
 | abs T=>
  obtain ⟨b,h1,h2⟩:=hx;refine ⟨b,by rw [hρ,h1],?_⟩;simp only [hρs];exact T.loc h2 (hb b (.inl h1)) fun j c hc=>hb c (.inr ⟨rfl,j,hc⟩)
 | map es clock=>
  obtain ⟨b,h1,h2⟩:=hx;exact ⟨b,by rw [hρ,h1],by rw [hb b (.inl h1)]; exact h2⟩
 | iter m since seen stepped=>
  obtain ⟨b,m',h1,h2,h3⟩:=hx;exact ⟨b,m',by rw [hρ,h1],by rw [hb b (.inl h1)]; exact h2,h3.stays h⟩
 | box cells=>
  obtain ⟨b,cs,e,h1,h2,h3,h4⟩:=hx;exact ⟨b,cs,e,by rw [hρ,h1],by rw [hb b (.inl h1),h2],h3,fun i x c hi hc=>(h4 i x c hi hc).stays h⟩
 | row sz z app wr xs=>
  rcases hx with ⟨h1,h2,h3⟩ | ⟨b,cs,e,fr,h1,h2,h3,h4,h5,h6⟩
  ·exact .inl ⟨h1,by rw [hρ,h2],h3⟩
  ·refine .inr ⟨b,cs,e,fr,by rw [hρ,h1],by rw [hb b (.inl h1),h2],h3,h4,h5,fun i x hi=>⟨(h6 i x hi).1,fun j y hj=>?_⟩⟩;obtain ⟨c,g1,g2,g3⟩:=(h6 i x hi).2 j y hj;exact ⟨c,g1,g2,g3.mono h.free⟩
theorem dn.lt {id:Nat} {x:Ob} (hx:dn w R ob ρ id x) {b:Nat} (hb:ρ id=some b):b<w.heap.size:=by
 cases x with
 | abs T=>
  obtain ⟨b',h1,h2⟩:=hx;rw [hb] at h1; cases h1;obtain ⟨cs,e,h3,_⟩:=T.root h2;exact (zaj.1 h3).1
 | map es clock=>
  obtain ⟨b',h1,h2⟩:=hx;rw [hb] at h1; cases h1;exact (zaj.1 h2).1
 | iter m since seen stepped=>
  obtain ⟨b',m',h1,h2,_⟩:=hx;rw [hb] at h1; cases h1;exact (zaj.1 h2).1
 | box cells=>
  obtain ⟨b',cs,e,h1,h2,h3,h4⟩:=hx;rw [hb] at h1; cases h1;exact (zaj.1 h2).1
 | row sz z app wr xs=>
  rcases hx with ⟨h1,h2,_⟩ | ⟨b',cs,e,fr,h1,h2,_⟩
  ·rw [hb] at h2; cases h2
  ·rw [hb] at h1; cases h1;exact (zaj.1 h2).1
theorem Gam.lt (hG:Gam X s ρ a w) {id:Nat} {x:Nat×Ob} (hx:s.ob id=some x) {b:Nat} (hb:ρ id=some b):b<w.heap.size:=
 (hG.obj id x.1 x.2 hx).lt hb
theorem dn.foot_lt {id:Nat} {x:Ob} (hx:dn w R ob ρ id x) {b:Nat} (hb:foot ρ id x b):b<w.heap.size:=by
 rcases hb with hb | ⟨h,j,hb⟩
 ·exact hx.lt hb
 ·cases x with
  | abs T=>
   obtain ⟨b',h1,h2⟩:=hx;exact T.lt h2 j b hb
  | box _=>cases h
  | map _ _=>cases h
  | iter _ _ _ _=>cases h
  | row _ _ _ _ _=>cases h
theorem Gam.foot_lt (hG:Gam X s ρ a w) {id:Nat} {x:Nat×Ob} (hx:s.ob id=some x) {b:Nat} (hb:foot ρ id x.2 b):b<w.heap.size:=(hG.obj id x.1 x.2 hx).foot_lt hb
theorem a85 (hs:a.tmps.size=X.n) {d:Nat} (hd:d<X.n) (c:Value) (t:Nat):(a.put (some d) c).tmps.getD t undef=if t=d then c else a.tmps.getD t undef:=by
 simp only [Act.put];by_cases h:t=d
 ·subst h;simp [hs,hd]
 ·simp [h,Array.getElem?_setIfInBounds_ne (Ne.symm h)]
theorem Gam.step (hG:Gam X s ρ a w) (hs:Stays w w' (g8 X.B s.ob ρ w) (g8 X.B ob' ρ' w') s.ob ob' ρ ρ')
  (hobj:∀id v o,ob' id=some (v,o)→(s.ob id=some (v,o)∧ρ' id=ρ id∧(∀j,ρ' (.s id j)=ρ (.s id j))∧∀b,foot ρ id o b→w'.heap[b]?=w.heap[b]?)∨dn w' (g8 X.B ob' ρ' w') ob' ρ' id o)
  (hinj:∀id id' x x' b,ob' id=some x→ob' id'=some x'→foot ρ' id x.2 b→foot ρ' id' x'.2 b→id=id')
  (hk:Keeps X.I X.w0 w') (hown:∀id v o b,ob' id=some (v,o)→foot ρ' id o b→X.I b∨X.w0.heap.size≤b)
  (hpin:∀id b o,X.pn id=some b→s.ob id=some (0,o)→o.pinned=true→ρ id=some b→ρ' id=some b∧∃o',ob' id=some (0,o')∧o'.pinned=true):Gam X ⟨s.e,ob'⟩ ρ' a w':=by
 refine ⟨⟨fun id v o h=>?_,hinj,hk,hown,fun id b h=>?_⟩,hG.sz,hG.df,fun t=>(hG.env t).stays hs,hG.pnn,hG.small,hG.base⟩
 ·rcases hobj id v o h with ⟨h1,h2,h4,h3⟩ | h1
  ·exact (hG.obj id v o h1).stays hs h2 h4 h3
  ·exact h1
 ·obtain ⟨h1,o,h2,h3,h4⟩:=hG.pin id b h;obtain ⟨g1,o',g2,g3⟩:=hpin id b o h h2 h3 h1;refine ⟨g1,o',g2,g3,fun hr=>?_⟩;obtain ⟨v',o'',k1,k2,k3⟩:=hs.obj id 0 o h2;rw [g2] at k1;cases k1;obtain ⟨_,k4,k5⟩:=k3 rfl;have hro:o.isRow=true:=by cases o<;>cases o'<;>first | rfl | exact k4.elim | cases hr
  exact (h4 hro).trans fun cs e fr hc=>k5 b cs e fr h1 hc
theorem Gam.see (hG:Gam X s ρ a w) {d:Nat} (hd:d<X.n) {x:AV} {c:Value} (hx:RA X s ρ w x c):Gam X ⟨put d x s.e,s.ob⟩ ρ (a.put (some d) c) w:=by
 refine ⟨hG.toMem,by simp [Act.put,hG.sz],hG.df,fun t=>?_,hG.pnn,hG.small,hG.base⟩;rw [a85 hG.sz hd];simp only [put];split
 ·exact hx
 ·exact hG.env t
theorem Gam.drew (hG:Gam X s ρ a w) (k:Nat):Gam X s ρ a { w with drawn:=k }:=by
 have hs:Stays w { w with drawn:=k } (g8 X.B s.ob ρ w) (g8 X.B s.ob ρ { w with drawn:=k }) s.ob s.ob ρ ρ:=
  ⟨fun b h=>⟨h,rfl⟩,fun id v o h=>⟨v,o,h,zaa _,fun _=>⟨rfl,y7.refl o,fun b cs e fr _ h=>⟨cs,e,fr,h,rfl⟩⟩⟩⟩
 exact ⟨⟨fun id v o h=>(hG.obj id v o h).stays hs rfl (fun _=>rfl) fun _ _=>rfl,hG.inj,⟨hG.keeps.os,hG.keeps.tape,hG.keeps.output,hG.keeps.size,hG.keeps.block⟩,hG.own,hG.pin⟩,hG.sz,hG.df,fun t=>(hG.env t).stays hs,hG.pnn,hG.small,hG.base⟩
structure OneMore (w w':World) (x:Obj):Prop where
 os:w'.os=w.os
 tape:w'.tape=w.tape
 output:w'.output=w.output
 heap:w'.heap=w.heap.push x
theorem OneMore.new {x:Obj} (h:OneMore w w' x):w'.heap[w.heap.size]?=some x:=by rw [h.heap]; simp
theorem OneMore.old {x:Obj} (h:OneMore w w' x) {b:Nat} (hb:b<w.heap.size):w'.heap[b]?=w.heap[b]?:=by
 rw [h.heap,Array.getElem?_push,if_neg (by omega)]
theorem OneMore.size {x:Obj} (h:OneMore w w' x):w'.heap.size=w.heap.size+1:=by rw [h.heap]; simp
theorem zp {id v:Nat} {x:Ob} (h:ob id=some (v,x)):v<nv ob id:=by simp [nv,h]
theorem Stays.alloc (hG:Gam X s ρ a w) {x:Obj} (hw:OneMore w w' x) (id ver:Nat) (hv:∀v o,s.ob id=some (v,o)→v<ver) (o':Ob) (hna:o'.isAbs=false:=by rfl) :
  Stays w w' (g8 X.B s.ob ρ w) (g8 X.B (upd id (ver,o') s.ob) (o4 ρ id (some w.heap.size)) w') s.ob (upd id (ver,o') s.ob) ρ (o4 ρ id (some w.heap.size)):=by
 refine ⟨fun b ⟨h1,h2,hB⟩=>⟨⟨by rw [hw.size]; omega,?_,hB⟩,hw.old h1⟩,fun j v o h=>?_⟩
 ·rintro ⟨j,v,o,h3,h4,h5⟩;by_cases hj:j=id
  ·subst hj;simp [upd] at h3;obtain ⟨rfl,rfl⟩:=h3;rw [fm hna] at h5;simp [o4] at h5;omega
  ·simp only [upd,hj,if_false] at h3;exact h2 ⟨j,v,o,h3,h4,(yq hj).1 h5⟩
 ·by_cases hj:j=id
  ·subst hj;exact ⟨ver,o',by simp [upd],Nat.le_of_lt (hv v o h),fun e=>by have:=hv v o h; omega⟩
  ·refine ⟨v,o,by simp [upd,hj,h],zaa _,fun _=>⟨by simp [o4,hj],y7.refl o,fun b cs e fr hb hh=>⟨cs,e,fr,?_,rfl⟩⟩⟩;rw [hw.old (hG.lt h hb),hh]
theorem Gam.alloc (hG:Gam X s ρ a w) {x:Obj} (hw:OneMore w w' x) (id ver:Nat) (hpn:X.pn id=none) (hv:∀v o,s.ob id=some (v,o)→v<ver) (o':Ob)
  (ho:dn w' (g8 X.B (upd id (ver,o') s.ob) (o4 ρ id (some w.heap.size)) w') (upd id (ver,o') s.ob) (o4 ρ id (some w.heap.size)) id o') (hna:o'.isAbs=false:=by rfl) :
  Gam X ⟨s.e,upd id (ver,o') s.ob⟩ (o4 ρ id (some w.heap.size)) a w':=by
 refine hG.step (Stays.alloc hG hw id ver hv o' hna) (fun j v o h=>?_) (fun i j x x' b hi hj hbi hbj=>?_) ?_ (fun j v o b h h2=>?_) (fun j b o h hc hp hb=>?_)
 ·by_cases hj:j=id
  ·subst hj;simp [upd] at h;obtain ⟨rfl,rfl⟩:=h;exact .inr ho
  ·simp only [upd,hj,if_false] at h;refine .inl ⟨h,by simp [o4,hj],by simp [o4],fun b hb=>hw.old (hG.foot_lt h hb)⟩
 ·have key:∀k (y:Nat×Ob),upd id (ver,o') s.ob k=some y→foot (o4 ρ id (some w.heap.size)) k y.2 b→(k=id∧b=w.heap.size)∨(k≠id∧s.ob k=some y∧foot ρ k y.2 b∧b<w.heap.size):=fun k y hk hf=>by
   by_cases hki:k=id
   ·subst hki;simp [upd] at hk;subst hk;rw [fm hna] at hf;simp [o4] at hf;exact .inl ⟨rfl,hf.symm⟩
   ·simp only [upd,hki,if_false] at hk;rw [yq hki] at hf;exact .inr ⟨hki,hk,hf,hG.foot_lt hk hf⟩
  rcases key i x hi hbi with ⟨h1,h2⟩ | ⟨h1,h2,h3,h4⟩<;>rcases key j x' hj hbj with ⟨g1,g2⟩ | ⟨g1,g2,g3,g4⟩
  ·rw [h1,g1]
  ·omega
  ·omega
  ·exact hG.inj i j x x' b h2 g2 h3 g3
 ·refine hG.keeps.trans ⟨hw.os,hw.tape,hw.output,by rw [hw.size]; omega,fun b hb _=>hw.old hb⟩
 ·by_cases hj:j=id
  ·subst hj;simp [upd] at h;obtain ⟨rfl,rfl⟩:=h;rw [fm hna] at h2;simp [o4] at h2;subst h2;exact .inr hG.keeps.size
  ·simp only [upd,hj,if_false] at h;rw [yq hj] at h2;exact hG.own j v o b h h2
 ·have hj:j≠id:=fun e=>by rw [e,hpn] at h; cases h
  exact ⟨by simp [o4,hj,hb],o,by simp [upd,hj,hc],hp⟩
structure Mods (w w':World) (b:Nat) (x:Obj):Prop where
 os:w'.os=w.os
 tape:w'.tape=w.tape
 output:w'.output=w.output
 size:w'.heap.size=w.heap.size
 new:w'.heap[b]?=some x
 old:∀k,k≠b→w'.heap[k]?=w.heap[k]?
theorem lv {id v ver:Nat} {x x':Ob} (hid:ob id=some (v,x)) (h:x'.isAbs=x.isAbs) {j k:Nat} {p:Nat×Ob} (hp:upd id (ver,x') ob j=some p) (hf:foot ρ j p.2 k):∃q,ob j=some q∧foot ρ j q.2 k:=by
 by_cases hj:j=id
 ·subst hj;simp [upd] at hp;subst hp;exact ⟨_,hid,(aad rfl (fun _=>rfl) h).1 hf⟩
 ·simp only [upd,hj,if_false] at hp;exact ⟨p,hp,hf⟩
theorem Stays.modifyG (hG:Gam X s ρ a w) {id v:Nat} {x x':Ob} {b:Nat} {y:Obj} (hid:s.ob id=some (v,x)) (hx:x.own=true) (hb:ρ id=some b)
  (hm:Mods w w' b y) (hsz:∀cs e fr,w.heap[b]?=some (.cells cs e fr)→∃cs' e' fr',y=.cells cs' e' fr'∧cs'.size=cs.size) (ver:Nat) (hv:(ver=v∧y7 x x')∨v<ver) (hna:x.isAbs=false:=by rfl) (hna':x'.isAbs=false:=by rfl) :
  Stays w w' (g8 X.B s.ob ρ w) (g8 X.B (upd id (ver,x') s.ob) ρ w') s.ob (upd id (ver,x') s.ob) ρ ρ:=by
 refine ⟨fun k ⟨h1,h2,hB⟩=>?_,fun j u o h=>?_⟩
 ·have hkb:k≠b:=fun h=>h2 ⟨id,v,x,hid,hx,.inl (by rw [hb,h])⟩;refine ⟨⟨by rw [hm.size]; exact h1,?_,hB⟩,hm.old k hkb⟩;rintro ⟨j,u,o,h3,h4,h5⟩;unfold upd at h3;split at h3
  ·rename_i hj;subst hj;cases h3;rw [fm hna',hb] at h5;cases h5;exact hkb rfl
  ·exact h2 ⟨j,u,o,h3,h4,h5⟩
 ·have hblk:∀(k:Nat) (q:Array Value) (eq:TypeId) (fq:Nat×Nat),w.heap[k]?=some (.cells q eq fq)→∃q' eq' fq',w'.heap[k]?=some (.cells q' eq' fq')∧q'.size=q.size:=by
   intro k q eq fq hk;by_cases hkb:k=b
   ·subst hkb;obtain ⟨cs',e',fr',hy,hz⟩:=hsz _ _ _ hk;exact ⟨cs',e',fr',by rw [hm.new,hy],hz⟩
   ·exact ⟨q,eq,fq,by rw [hm.old k hkb,hk],rfl⟩
  by_cases hj:j=id
  ·subst hj;rw [hid] at h;cases h;rcases hv with ⟨rfl,hk⟩ | hv
   ·exact ⟨_,x',by simp [upd],zaa _,fun _=>⟨rfl,hk,fun k q eq fq _ hh=>hblk k q eq fq hh⟩⟩
   ·exact ⟨ver,x',by simp [upd],Nat.le_of_lt hv,fun h=>by omega⟩
  ·exact ⟨u,o,by simp [upd,hj,h],zaa _,fun _=>⟨rfl,y7.refl o,fun k q eq fq _ hh=>hblk k q eq fq hh⟩⟩
theorem Stays.modify (hG:Gam X s ρ a w) {id v:Nat} {x x':Ob} {b:Nat} {cs cs':Array Value} {e e':TypeId} {fr fr':Nat×Nat} (hid:s.ob id=some (v,x)) (hx:x.own=true) (hb:ρ id=some b)
  (hcs:w.heap[b]?=some (.cells cs e fr)) (hm:Mods w w' b (.cells cs' e' fr')) (hsz:cs'.size=cs.size) (ver:Nat) (hv:(ver=v∧y7 x x')∨v<ver) (hna:x.isAbs=false:=by rfl) (hna':x'.isAbs=false:=by rfl) :
  Stays w w' (g8 X.B s.ob ρ w) (g8 X.B (upd id (ver,x') s.ob) ρ w') s.ob (upd id (ver,x') s.ob) ρ ρ:=
 Stays.modifyG hG hid hx hb hm (fun q eq fq h=>by rw [hcs] at h; cases h; exact ⟨_,_,_,rfl,hsz⟩) ver hv hna hna'
theorem Gam.modifyG (hG:Gam X s ρ a w) {id v:Nat} {x x':Ob} {b:Nat} {y:Obj} (hid:s.ob id=some (v,x)) (hx:x.own=true) (hb:ρ id=some b)
  (hm:Mods w w' b y) (hsz:∀cs e fr,w.heap[b]?=some (.cells cs e fr)→∃cs' e' fr',y=.cells cs' e' fr'∧cs'.size=cs.size) (ver:Nat) (hv:(ver=v∧y7 x x')∨v<ver) (hpn:X.pn id=none∨(ver=v∧y7 x x'∧(x.pinned=true→x'.pinned=true)))
  (ho:dn w' (g8 X.B (upd id (ver,x') s.ob) ρ w') (upd id (ver,x') s.ob) ρ id x') (hna:x.isAbs=false:=by rfl) (hna':x'.isAbs=false:=by rfl):Gam X ⟨s.e,upd id (ver,x') s.ob⟩ ρ a w':=by
 have hne:∀j u,j≠id→s.ob j=some u→∀k,foot ρ j u.2 k→k≠b:=fun j u hj h k hk hkb=>by
  subst hkb;exact hj (hG.inj j id u _ k h hid hk (.inl hb))
 refine hG.step (Stays.modifyG hG hid hx hb hm hsz ver hv hna hna') (fun j u o h=>?_) (fun i j p p' k hi hj hbi hbj=>?_) ?_ (fun j u o k h h2=>?_) (fun j k o h hc hp hk=>?_)
 ·by_cases hj:j=id
  ·subst hj;simp [upd] at h;obtain ⟨rfl,rfl⟩:=h;exact .inr ho
  ·simp only [upd,hj,if_false] at h;exact .inl ⟨h,rfl,fun _=>rfl,fun k hk=>hm.old k (hne j _ hj h k hk)⟩
 ·obtain ⟨_,h1,h3⟩:=lv hid (hna'.trans hna.symm) hi hbi;obtain ⟨_,h2,h4⟩:=lv hid (hna'.trans hna.symm) hj hbj;exact hG.inj i j _ _ k h1 h2 h3 h4
 ·have hk:=hG.keeps;refine ⟨hm.os.trans hk.os,hm.tape.trans hk.tape,hm.output.trans hk.output,by rw [hm.size]; exact hk.size,fun k hk1 hI=>?_⟩;by_cases hkb:k=b
  ·subst hkb;rcases hG.own id v x k hid (.inl hb) with h | h
   ·exact absurd h hI
   ·omega
  ·rw [hm.old k hkb];exact hk.block k hk1 hI
 ·obtain ⟨⟨v0,o0⟩,h1,h3⟩:=lv hid (hna'.trans hna.symm) h h2;exact hG.own j v0 o0 k h1 h3
 ·refine ⟨hk,?_⟩;by_cases hj:j=id
  ·subst hj;rw [hid] at hc;cases hc;rcases hpn with hpn | ⟨rfl,hkp,hpp⟩
   ·rw [hpn] at h; cases h
   ·exact ⟨x',by simp [upd],hpp hp⟩
  ·exact ⟨o,by simp [upd,hj,hc],hp⟩
theorem Gam.modify (hG:Gam X s ρ a w) {id v:Nat} {x x':Ob} {b:Nat} {cs cs':Array Value} {e e':TypeId} {fr fr':Nat×Nat} (hid:s.ob id=some (v,x)) (hx:x.own=true) (hb:ρ id=some b)
  (hcs:w.heap[b]?=some (.cells cs e fr)) (hm:Mods w w' b (.cells cs' e' fr')) (hsz:cs'.size=cs.size) (ver:Nat) (hv:(ver=v∧y7 x x')∨v<ver) (hpn:X.pn id=none∨(ver=v∧y7 x x'∧(x.pinned=true→x'.pinned=true)))
  (ho:dn w' (g8 X.B (upd id (ver,x') s.ob) ρ w') (upd id (ver,x') s.ob) ρ id x') (hna:x.isAbs=false:=by rfl) (hna':x'.isAbs=false:=by rfl):Gam X ⟨s.e,upd id (ver,x') s.ob⟩ ρ a w':=
 hG.modifyG hid hx hb hm (fun q eq fq h=>by rw [hcs] at h; cases h; exact ⟨_,_,_,rfl,hsz⟩) ver hv hpn ho hna hna'
theorem Stays.freeze1 {id v sz:Nat} {z:RV} {app wr:Bool} {xs:List RV} (hid:s.ob id=some (v,.row sz z app wr xs)) :
  Stays w w (g8 X.B s.ob ρ w) (g8 X.B (upd id (v,.row sz z app false xs) s.ob) ρ w) s.ob (upd id (v,.row sz z app false xs) s.ob) ρ ρ:=by
 refine ⟨fun b ⟨h1,h2,hB⟩=>⟨⟨h1,?_,hB⟩,rfl⟩,fun j u o h=>?_⟩
 ·rintro ⟨j,u,o,h3,h4,h5⟩;unfold upd at h3;split at h3
  ·cases h3; cases h4
  ·exact h2 ⟨j,u,o,h3,h4,h5⟩
 ·by_cases hj:j=id
  ·subst hj;rw [hid] at h;cases h;exact ⟨v,.row sz z app false xs,by simp [upd],zaa _,fun _=>⟨rfl,⟨rfl,zaa _⟩,fun b cs e fr _ h=>⟨cs,e,fr,h,rfl⟩⟩⟩
  ·exact ⟨u,o,by simp [upd,hj,h],zaa _,fun _=>⟨rfl,y7.refl o,fun b cs e fr _ h=>⟨cs,e,fr,h,rfl⟩⟩⟩
theorem Gam.freeze1 (hG:Gam X s ρ a w) {id v sz:Nat} {z:RV} {app wr:Bool} {xs:List RV} (hid:s.ob id=some (v,.row sz z app wr xs)):Gam X ⟨s.e,upd id (v,.row sz z app false xs) s.ob⟩ ρ a w:=by
 have hs:=Stays.freeze1 (X:=X) (w:=w) (ρ:=ρ) hid;refine hG.step hs (fun j u o h=>?_) (fun i j p p' k hi hj hbi hbj=>?_) hG.keeps (fun j u o k h h2=>?_) (fun j k o h hc hp hk=>⟨hk,?_⟩)
 ·by_cases hj:j=id
  ·subst hj;simp [upd] at h;obtain ⟨rfl,rfl⟩:=h;refine .inr ?_;have:=(hG.obj _ _ _ hid).stays hs rfl (fun _=>rfl) (fun _ _=>rfl);exact this
  ·simp only [upd,hj,if_false] at h;exact .inl ⟨h,rfl,fun _=>rfl,fun _ _=>rfl⟩
 ·obtain ⟨_,h1,h3⟩:=lv (x':=.row sz z app false xs) hid rfl hi hbi;obtain ⟨_,h2,h4⟩:=lv (x':=.row sz z app false xs) hid rfl hj hbj;exact hG.inj i j _ _ k h1 h2 h3 h4
 ·obtain ⟨⟨v0,o0⟩,h1,h3⟩:=lv (x':=.row sz z app false xs) (p:=(u,o)) hid rfl h h2;exact hG.own j v0 o0 k h1 h3
 ·by_cases hj:j=id
  ·subst hj;rw [hid] at hc;cases hc;exact ⟨.row sz z app false xs,by simp [upd],hp⟩
  ·exact ⟨o,by simp [upd,hj,hc],hp⟩
theorem Stays.shut1 {id v sz:Nat} {z:RV} {xs:List RV} (hid:s.ob id=some (v,.row sz z true true xs)) :
  Stays w w (g8 X.B s.ob ρ w) (g8 X.B (upd id (v,.row sz z false true xs) s.ob) ρ w) s.ob (upd id (v,.row sz z false true xs) s.ob) ρ ρ:=by
 refine ⟨fun b ⟨h1,h2,hB⟩=>⟨⟨h1,?_,hB⟩,rfl⟩,fun j u o h=>?_⟩
 ·rintro ⟨j,u,o,h3,h4,h5⟩;obtain ⟨⟨v0,o0⟩,g1,g3⟩:=lv (x':=.row sz z false true xs) (p:=(u,o)) hid rfl h3 h5;by_cases hj:j=id
  ·subst hj;rw [hid] at g1;cases g1;exact h2 ⟨j,_,_,hid,rfl,g3⟩
  ·simp only [upd,hj,if_false] at h3;exact h2 ⟨j,u,o,h3,h4,h5⟩
 ·by_cases hj:j=id
  ·subst hj;rw [hid] at h;cases h;exact ⟨v,.row sz z false true xs,by simp [upd],zaa _,fun _=>⟨rfl,⟨rfl,zaa _⟩,fun b cs e fr _ h=>⟨cs,e,fr,h,rfl⟩⟩⟩
  ·exact ⟨u,o,by simp [upd,hj,h],zaa _,fun _=>⟨rfl,y7.refl o,fun b cs e fr _ h=>⟨cs,e,fr,h,rfl⟩⟩⟩
theorem Gam.shut1 (hG:Gam X s ρ a w) {id v sz:Nat} {z:RV} {xs:List RV} (hid:s.ob id=some (v,.row sz z true true xs)) (hne:xs≠[]):Gam X ⟨s.e,upd id (v,.row sz z false true xs) s.ob⟩ ρ a w:=by
 have hs:=Stays.shut1 (X:=X) (w:=w) (ρ:=ρ) hid;refine hG.step hs (fun j u o h=>?_) (fun i j p p' k hi hj hbi hbj=>?_) hG.keeps (fun j u o k h h2=>?_) (fun j k o h hc hp hk=>⟨hk,?_⟩)
 ·by_cases hj:j=id
  ·subst hj;simp [upd] at h;obtain ⟨rfl,rfl⟩:=h;refine .inr ?_;rcases (hG.obj _ _ _ hid).stays hs rfl (fun _=>rfl) (fun _ _=>rfl) with ⟨h1,_⟩ | ⟨b,cs,e,fr,h1,h2,h3,h4,h5,h6⟩
   ·exact absurd h1 hne
   ·exact .inr ⟨b,cs,e,fr,h1,h2,h3,(fun h=>by cases h),h5,h6⟩
  ·simp only [upd,hj,if_false] at h;exact .inl ⟨h,rfl,fun _=>rfl,fun _ _=>rfl⟩
 ·obtain ⟨_,h1,h3⟩:=lv (x':=.row sz z false true xs) hid rfl hi hbi;obtain ⟨_,h2,h4⟩:=lv (x':=.row sz z false true xs) hid rfl hj hbj;exact hG.inj i j _ _ k h1 h2 h3 h4
 ·obtain ⟨⟨v0,o0⟩,h1,h3⟩:=lv (x':=.row sz z false true xs) (p:=(u,o)) hid rfl h h2;exact hG.own j v0 o0 k h1 h3
 ·by_cases hj:j=id
  ·subst hj;rw [hid] at hc;cases hc;cases hp
  ·exact ⟨o,by simp [upd,hj,hc],hp⟩
theorem Gam.frz {ob:Obs} (h:Gam X ⟨s.e,ob⟩ ρ a w) (i:Nat):Gam X ⟨s.e,Ev.frz ob i (ob i)⟩ ρ a w:=by
 rcases hi:ob i with _ | ⟨v,cells | ⟨sz,z,app,wr,xs⟩ | T | _ | _⟩
 ·exact h
 ·exact h
 ·exact h.freeze1 (s:=⟨s.e,ob⟩) hi
 ·exact h
 ·exact h
 ·exact h
theorem Gam.freeze:∀(l:List Nat) {ob:Obs},Gam X ⟨s.e,ob⟩ ρ a w→Gam X ⟨s.e,Ev.freeze ob l⟩ ρ a w
 | [],_,h=>h
 | i::is,_,h=>Gam.freeze is (h.frz i)
theorem bc9 {i j v sz:Nat} {z:RV} {app wr:Bool} {xs:List RV} {ob:Obs} (h:ob i=some (v,.row sz z app wr xs)):∃wr',Ev.frz ob j (ob j) i=some (v,.row sz z app wr' xs)∧(wr=false∨i=j→wr'=false):=by
 by_cases hij:i=j
 ·subst hij;rw [h];exact ⟨false,by simp [Ev.frz,upd],fun _=>rfl⟩
 ·refine ⟨wr,?_,fun hh=>hh.resolve_right hij⟩;rcases hj:ob j with _ | ⟨v',cells | ⟨sz',z',app',wr',xs'⟩ | T | _ | _⟩<;>simp [Ev.frz,upd,hij,h]
theorem ai4 {i v sz:Nat} {z:RV} {app:Bool} {xs:List RV}:∀(l:List Nat) (ob:Obs) (wr:Bool),ob i=some (v,.row sz z app wr xs)→∃wr',Ev.freeze ob l i=some (v,.row sz z app wr' xs)∧(wr=false∨i∈l→wr'=false)
 | [],ob,wr,h=>⟨wr,h,fun h=>h.resolve_right (by simp)⟩
 | j::l,ob,wr,h=>by
  obtain ⟨w1,h1,h2⟩:=bc9 (j:=j) h;obtain ⟨w2,h3,h4⟩:=ai4 l _ w1 h1;refine ⟨w2,h3,fun hh=>h4 ?_⟩;rcases hh with hh | hh
  ·exact .inl (h2 (.inl hh))
  ·rcases zah.1 hh with hh | hh
   ·exact .inl (h2 (.inr hh))
   ·exact .inr hh
theorem a4w (hG:Gam X s ρ a w) {id ver lo len sz:Nat} {z:RV} {app:Bool} {xs:List RV} {c:Value} (hid:s.ob id=some (ver,.row sz z app false xs)) (h:RA X s ρ w (.own id ver lo len) c) :
  RelV w (g8 X.B s.ob ρ w) (.sl sz ((xs.drop lo).take len)) c:=by
 cases h;rename_i h;obtain ⟨A,cap,rfl,e2,e3,e4,e5⟩:=h.live hid;have hlen:((xs.drop lo).take len).length=len:=by simp; omega
 rcases hG.obj id ver _ hid with ⟨h1,h2⟩ | ⟨b,cs,e,fr,h1,h2,h3,h4,h5,h6⟩
 ·subst h1;have:len=0:=by have:lo+len≤0:=e4; omega
  subst this;refine (?_:RelV w (g8 X.B s.ob ρ w) (.sl sz []) _);exact .sl sz [] A cap (by simp) e3 0 0 (fun _ _=>undef) (by simp) (by simp) (by simp) (by simp)
 ·have key:=RelV.sl (w:=w) (R:=g8 X.B s.ob ρ w) sz ((xs.drop lo).take len) A cap (by omega) e3 b (lo*sz) (fun i j=>(cs[(lo+i)*sz+j]?).getD undef);rw [hlen] at key
  have hget:∀(i:Nat) (x:RV),((xs.drop lo).take len)[i]?=some x→xs[lo+i]?=some x:=fun i x hi=>by
   rw [zad] at hi;split at hi
   ·rwa [zab] at hi
   ·cases hi
  refine key (fun h0=>?_) (fun i x hi=>(h6 _ x (hget i x hi)).1) (fun i x j y hi hj=>?_) (fun i x j y hi hj=>?_)
  ·obtain ⟨b',cs',e',fr',f1,f2,f3,f4⟩:=e5 (by omega);rw [h1] at f1;cases f1;refine ⟨f2,(zaj.1 h2).1,?_,hG.base b (hG.own _ _ _ b hid (.inl h1))⟩;rintro ⟨j,v,o,g1,g2,g3⟩;have:=hG.inj id j _ _ b hid g1 (.inl h1) g3;subst this;rw [hid] at g1;cases g1;cases g2
  ·obtain ⟨c,g1,g2,g3⟩:=(h6 _ x (hget i x hi)).2 j y hj;rw [g1];refine ⟨?_,g2⟩;simp only [World.cell?,h2,Option.isSome_none,zal,if_false,zae];rw [← g1,Nat.add_mul]
  ·obtain ⟨c,g1,g2,g3⟩:=(h6 _ x (hget i x hi)).2 j y hj;rw [g1];exact g3
theorem aqf (hG:Gam X s ρ a w) {ob:Obs} {x:AV} {y:RV} {fz l:List Nat} {c:Value} (h:x.rv ob=some (y,fz)) (hsub:∀i∈fz,i∈l) (hob:s.ob=Ev.freeze ob l) (hx:RA X s ρ w x c):RelV w (g8 X.B s.ob ρ w) y c:=by
 unfold AV.rv at h;split at h
 ·cases h; cases hx; assumption
 ·cases h; cases hx;exact .sl _ [] none 0 (by simp) (by simp) 0 0 (fun _ _=>undef) (by simp) (by simp) (by simp) (by simp)
 ·split at h
  ·rename_i hr;cases h;obtain ⟨wr',h1,h2⟩:=ai4 l ob _ (p6 hr);rw [h2 (.inr (hsub _ (by simp)))] at h1;rw [← hob] at h1;exact a4w hG h1 hx
  ·cases h
 ·cases h
theorem Stays.nil (id ver:Nat) (hv:∀v o,s.ob id=some (v,o)→v<ver) (x:Ob) (hna:x.isAbs=false:=by rfl) :
  Stays w w (g8 X.B s.ob ρ w) (g8 X.B (upd id (ver,x) s.ob) (o4 ρ id none) w) s.ob (upd id (ver,x) s.ob) ρ (o4 ρ id none):=by
 refine ⟨fun b ⟨h1,h2,hB⟩=>⟨⟨h1,?_,hB⟩,rfl⟩,fun j v o h=>?_⟩
 ·rintro ⟨j,v,o,h3,h4,h5⟩;by_cases hj:j=id
  ·subst hj;simp [upd] at h3;obtain ⟨rfl,rfl⟩:=h3;rw [fm hna] at h5;simp [o4] at h5
  ·simp only [upd,hj,if_false] at h3;exact h2 ⟨j,v,o,h3,h4,(yq hj).1 h5⟩
 ·by_cases hj:j=id
  ·subst hj;exact ⟨ver,x,by simp [upd],Nat.le_of_lt (hv v o h),fun e=>by have:=hv v o h; omega⟩
  ·exact ⟨v,o,by simp [upd,hj,h],zaa _,fun _=>⟨by simp [o4,hj],y7.refl o,fun b cs e fr hb hh=>⟨cs,e,fr,hh,rfl⟩⟩⟩
theorem Gam.nil (hG:Gam X s ρ a w) (id ver:Nat) (hpn:X.pn id=none) (hv:∀v o,s.ob id=some (v,o)→v<ver) (sz:Nat) (z:RV) (wr:Bool) :
  Gam X ⟨s.e,upd id (ver,.row sz z true wr []) s.ob⟩ (o4 ρ id none) a w:=by
 refine hG.step (Stays.nil id ver hv _ rfl) (fun j v o h=>?_) (fun i j p p' k hi hj hbi hbj=>?_) hG.keeps (fun j v o b h h2=>?_) (fun j b o h hc hp hb=>?_)
 ·by_cases hj:j=id
  ·subst hj;simp [upd] at h;obtain ⟨rfl,rfl⟩:=h;exact .inr (.inl ⟨rfl,by simp [o4],rfl⟩)
  ·simp only [upd,hj,if_false] at h;exact .inl ⟨h,by simp [o4,hj],by simp [o4],fun _ _=>rfl⟩
 ·have key:∀k' (y:Nat×Ob),upd id (ver,.row sz z true wr []) s.ob k'=some y→foot (o4 ρ id none) k' y.2 k→s.ob k'=some y∧foot ρ k' y.2 k:=fun k' y hk hf=>by
   by_cases hki:k'=id
   ·subst hki;simp [upd] at hk;subst hk;rw [fm rfl] at hf;simp [o4] at hf
   ·simp only [upd,hki,if_false] at hk;rw [yq hki] at hf;exact ⟨hk,hf⟩
  obtain ⟨h1,h2⟩:=key i p hi hbi;obtain ⟨h3,h4⟩:=key j p' hj hbj;exact hG.inj i j p p' k h1 h3 h2 h4
 ·by_cases hj:j=id
  ·subst hj;simp [upd] at h;obtain ⟨rfl,rfl⟩:=h;rw [fm rfl] at h2;simp [o4] at h2
  ·simp only [upd,hj,if_false] at h;rw [yq hj] at h2;exact hG.own j v o b h h2
 ·have hj:j≠id:=fun e=>by rw [e,hpn] at h; cases h
  exact ⟨by simp [o4,hj,hb],o,by simp [upd,hj,hc],hp⟩
theorem Gam.unpinned (hG:Gam X s ρ a w) {id v sz:Nat} {z:RV} {app wr:Bool} {xs:List RV} (hid:s.ob id=some (v,.row sz z app wr xs)) (ha:(app || !par id)=true):X.pn id=none:=by
 cases hp:par id with
 | false=>exact hG.pnn id hp
 | true=>
  rw [hp] at ha;have ha:app=true:=by simpa using ha
  subst ha;rcases h:X.pn id with _ | b
  ·rfl
  ·obtain ⟨_,o,hc,hq,_⟩:=hG.pin id b h;rw [hid] at hc;cases hc;cases hq
end

end Go.Ev

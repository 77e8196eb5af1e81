import Derived.Lib.DecodeN
import Derived.Test.YtpibfnekkfhkmaaGreatM2
open List renaming getElem?_eq_some_iff → zaa, mem_iff_getElem? → zab, mem_of_getElem? → zae, range → zah, replicate → zai
open Nat renaming le_refl → zac
open Option renaming map_eq_some_iff → zad, some → zaf
namespace Go.Ev
set_option maxRecDepth 100000
open Go
set_option linter.unusedSectionVars false
set_option linter.unnecessarySimpa false
set_option linter.unusedSimpArgs false
set_option linter.unusedVariables false
abbrev Ren:=Nat→Nat→Option (Nat×Nat)
mutual
def imV (F:Ren):AV→AV
 | .r x=>.r x
 | .agg xs=>.agg (imL F xs)
 | .tup xs=>.tup (imL F xs)
 | .nils sz z=>.nils sz z
 | .own id ver lo len=>match F id ver with | some (i,v)=>.own i v lo len | none=>.undef
 | .ptr id ver off=>match F id ver with | some (i,v)=>.ptr i v off | none=>.undef
 | .oel id ver idx off=>match F id ver with | some (i,v)=>.oel i v idx off | none=>.undef
 | .rp ys=>.rp ys
 | .fn f xs k=>.fn f (imL F xs) k
 | .mp id ver=>match F id ver with | some (i,v)=>.mp i v | none=>.undef
 | .ifc t x=>.ifc t (imV F x)
 | .gd b x=>.gd b (imV F x)
 | .undef=>.undef
def imL (F:Ren):List AV→List AV
 | []=>[]
 | x::xs=>imV F x::imL F xs
end
def imO (F:Ren):Ob→Ob
 | .box cells=>.box (imL F cells)
 | .row sz z app wr xs=>.row sz z app wr xs
 | .abs T=>.abs T
 | .map es c=>.map es c
 | .iter m since seen st=>.iter (imV F m) since seen st
theorem yn (F:Ren):∀(xs:List AV) (i:Nat),(imL F xs)[i]?=(xs[i]?).map (imV F)
 | [],i=>by simp [imL]
 | x::xs,0=>by simp [imL]
 | x::xs,i+1=>by simp [imL,yn F xs i]
theorem gm (F:Ren):∀(xs:List AV),(imL F xs).length=xs.length
 | []=>by simp [imL]
 | x::xs=>by simp [imL,gm F xs]
section
variable {P:Program} {X Y:Cx} {w w':World} {s:St} {ρ ρ':Pl→Option Nat} {a:Act} {ob ob':Obs} {R R':Nat→Prop} {F:Ren}
def adf (ob ob':Obs) (ρ ρ':Pl→Option Nat) (F:Ren):Prop:=∀id ver i v,F id ver=some (i,v)→∃o o',ob id=some (ver,o)∧ob' i=some (v,o')∧ρ' i=ρ id∧y7 o o'
theorem y7.own {lo len id id':Nat} {c:Value} {o o':Ob} (h:ah7 w ρ id lo len c o) (hk:y7 o o') (hρ:ρ' id'=ρ id):ah7 w ρ' id' lo len c o':=by
 cases o with
 | box _=>
  cases o' with
  | box _=>
   obtain ⟨A,cap,e1,e2,e3,e5⟩:=h;refine ⟨A,cap,e1,e2,e3,fun h0=>?_⟩;obtain ⟨b,cs,e,fr,f1,f2,f3,f4⟩:=e5 h0;exact ⟨b,cs,e,fr,by rw [hρ,f1],f2,f3,f4⟩
  | _=>exact hk.elim
 | abs _=>exact h.elim
 | map _ _=>exact h.elim
 | iter _ _ _ _=>exact h.elim
 | row sz z1 a1 w1 xs=>
  cases o' with
  | box _=>
   obtain rfl:sz=1:=hk;obtain ⟨A,cap,e1,e2,e3,e4,e5⟩:=h;refine ⟨A,cap,e1,e2,e3,fun h0=>?_⟩;obtain ⟨b,cs,e,fr,f1,f2,f3,f4⟩:=e5 h0;exact ⟨b,cs,e,fr,by rw [hρ,f1],by rw [f2,Nat.mul_one],f3,by simpa using f4⟩
  | abs _=>exact hk.elim
  | map _ _=>exact hk.elim
  | iter _ _ _ _=>exact hk.elim
  | row sz' z2 a2 w2 xs'=>
   obtain ⟨rfl,hk⟩:=hk;obtain ⟨A,cap,e1,e2,e3,e4,e5⟩:=h;refine ⟨A,cap,e1,e2,e3,by omega,fun h0=>?_⟩;obtain ⟨b,cs,e,fr,f1,f2,f3,f4⟩:=e5 h0;exact ⟨b,cs,e,fr,by rw [hρ,f1],f2,f3,f4⟩
theorem RelA.im (hR:∀b,R b→R' b) (hF:adf ob ob' ρ ρ' F) {x:AV} {c:Value} (h:RelA w R ob ρ x c):RelA w R' ob' ρ' (imV F x) c:=by
 induction h with
 | r h0=>rw [imV]; exact .r (h0.mono fun b hb=>⟨hR b hb,rfl⟩)
 | agg xs cs hl _ ih=>
  rw [imV];refine .agg _ cs (by rw [gm]; exact hl) fun i x c hx hc=>?_;rw [yn,zad] at hx;obtain ⟨y,hy,rfl⟩:=hx;exact ih i y c hy hc
 | tup xs cs hl _ ih=>
  rw [imV];refine .tup _ cs (by rw [gm]; exact hl) fun i x c hx hc=>?_;rw [yn,zad] at hx;obtain ⟨y,hy,rfl⟩:=hx;exact ih i y c hy hc
 | nils sz z=>rw [imV]; exact .nils sz z
 | own id ver lo len c hc ha=>
  rw [imV];split
  ·rename_i i v hf;obtain ⟨o,o',h1,h2,h3,h4⟩:=hF _ _ _ _ hf;exact .own _ _ _ _ _ hc ⟨v,o',h2,zac _,fun _=>y7.own (ha.live h1) h4 h3⟩
  ·exact .undef _
 | ptr id ver off c hc ha=>
  rw [imV];split
  ·rename_i i v hf;obtain ⟨o,o',h1,h2,h3,h4⟩:=hF _ _ _ _ hf;exact .ptr _ _ _ _ hc ⟨v,o',h2,zac _,fun _=>by rw [h3]; exact ha.live h1⟩
  ·exact .undef _
 | oel id ver idx off c hc ha=>
  rw [imV];split
  ·rename_i i v hf;obtain ⟨o,o',h1,h2,h3,h4⟩:=hF _ _ _ _ hf;refine .oel _ _ _ _ _ hc ⟨v,o',h2,zac _,fun _=>?_⟩;have hr:=ha.live h1;cases o with
   | box _=>
    cases o' with
    | box _=>
     obtain ⟨b,e1,e2⟩:=hr;exact ⟨b,by rw [h3]; exact e1,e2⟩
    | _=>exact h4.elim
   | abs _=>exact hr.elim
   | map _ _=>exact hr.elim
   | iter _ _ _ _=>exact hr.elim
   | row sz z1 a1 w1 xs=>
    cases o' with
    | box _=>
     obtain rfl:sz=1:=h4;obtain ⟨e1,e2,b,e3,e4⟩:=hr;exact ⟨b,by rw [h3]; exact e3,by rw [e4,Nat.mul_one]⟩
    | abs _=>exact h4.elim
    | map _ _=>exact h4.elim
    | iter _ _ _ _=>exact h4.elim
    | row sz' z2 a2 w2 xs'=>
     obtain ⟨rfl,h4⟩:=h4;obtain ⟨e1,e2,e3⟩:=hr;exact ⟨by omega,e2,by rw [h3]; exact e3⟩
  ·exact .undef _
 | rp ys b o g hRb hg=>
  rw [imV];exact .rp ys b o g (hR b hRb) fun j y hj=>⟨(hg j y hj).1,(hg j y hj).2.1,(hg j y hj).2.2.mono fun b hb=>⟨hR b hb,rfl⟩⟩
 | fn f xs k fs cs hk hl _ ih=>
  rw [imV];refine .fn f _ k fs cs hk (by rw [gm]; exact hl) fun i x c hx hc=>?_;rw [yn,zad] at hx;obtain ⟨y,hy,rfl⟩:=hx;exact ih i y c hy hc
 | mp id ver c hc ha=>
  rw [imV];split
  ·rename_i i v hf;obtain ⟨o,o',h1,h2,h3,h4⟩:=hF _ _ _ _ hf;exact .mp _ _ _ hc ⟨v,o',h2,zac _,fun _=>by rw [h3]; exact ha.live h1⟩
  ·exact .undef _
 | ifc t _ ih=>rw [imV]; exact .ifc t ih
 | gd b _ hf ih=>rw [imV]; exact .gd b ih hf
 | undef c=>rw [imV]; exact .undef c
theorem dn.im (hR:∀b,R b→R' b) (hF:adf ob ob' ρ ρ' F) {id i:Nat} {x:Ob} (h:dn w R ob ρ id x) (hρ:ρ' i=ρ id) (hρs:∀j,ρ' (.s i j)=ρ (.s id j)):dn w R' ob' ρ' i (imO F x):=by
 cases x with
 | abs T=>
  obtain ⟨b,h1,h2⟩:=h;exact ⟨b,by rw [hρ,h1],by simp only [hρs]; exact h2⟩
 | map es clock=>
  obtain ⟨b,h1,h2⟩:=h;exact ⟨b,by rw [hρ,h1],h2⟩
 | iter m since seen st=>
  obtain ⟨b,m',h1,h2,h3⟩:=h;exact ⟨b,m',by rw [hρ,h1],h2,h3.im hR hF⟩
 | box cells=>
  obtain ⟨b,cs,e,h1,h2,h3,h4⟩:=h;refine ⟨b,cs,e,by rw [hρ,h1],h2,by rw [gm]; exact h3,fun i x c hx hc=>?_⟩;rw [yn,zad] at hx;obtain ⟨y,hy,rfl⟩:=hx;exact (h4 i y c hy hc).im hR hF
 | row sz z app wr xs=>
  rcases h with ⟨h1,h2,h3⟩ | ⟨b,cs,e,fr,h1,h2,h3,h4,h5,h6⟩
  ·exact .inl ⟨h1,by rw [hρ,h2],h3⟩
  ·refine .inr ⟨b,cs,e,fr,by rw [hρ,h1],h2,h3,h4,h5,fun i x hi=>⟨(h6 i x hi).1,fun j y hj=>?_⟩⟩;obtain ⟨c,g1,g2,g3⟩:=(h6 i x hi).2 j y hj;exact ⟨c,g1,g2,g3.mono fun b hb=>⟨hR b hb,rfl⟩⟩
theorem y7.im (F:Ren) (x:Ob):y7 x (imO F x):=by cases x<;>simp [y7,imO]
theorem dh (F:Ren) (x:Ob):(imO F x).isAbs=x.isAbs:=by cases x<;>rfl
theorem af1 (F:Ren) (x:Ob):(imO F x).pinned=x.pinned:=by cases x<;>rfl
theorem ao7 (F:Ren) (x:Ob):(imO F x).isRow=x.isRow:=by cases x<;>rfl
theorem a4x (F:Ren) (x:Ob):(imO F x).own=x.own:=by cases x<;>rfl
def idx:Nat→List Nat→Option Nat
  | _,[]=>none
  | i,j::l=>if i=j then some 0 else (idx i l).map (· + 1)
theorem aiz {i:Nat}:∀{l:List Nat} {k:Nat},idx i l=some k→l[k]?=some i
 | [],k,h=>by cases h
 | j::l,k,h=>by
  unfold idx at h;split at h
  ·rename_i hij; cases h; simp [hij]
  ·rw [zad] at h;obtain ⟨m,hm,rfl⟩:=h;simpa using aiz hm
def obs:Nat→List Ob→Obs
 | _,[]=>fun _=>none
 | k,o::os=>upd k (0,o) (obs (k+1) os)
theorem a44:∀{os:List Ob} {k id:Nat},id<k→obs k os id=none
 | [],k,id,h=>rfl
 | o::os,k,id,h=>by
  unfold obs upd;rw [if_neg (by omega)];exact a44 (by omega)
theorem awf:∀{os:List Ob} {k id:Nat},k≤id→obs k os id=(os[id-k]?).map fun o=>(0,o)
 | [],k,id,h=>by simp [obs]
 | o::os,k,id,h=>by
  unfold obs upd;by_cases hk:id=k
  ·subst hk; simp
  ·rw [if_neg hk,awf (by omega),show id-k=(id-(k+1))+1 by omega];simp
abbrev ob0 (po:List Ob):Obs:=obs 1000000 po
theorem xg {po:List Ob} {id:Nat} {x:Nat×Ob} (h:ob0 po id=some x):1000000≤id∧po[id-1000000]?=some x.2∧x.1=0:=by
 by_cases hid:1000000≤id
 ·rw [ob0,awf hid,zad] at h;obtain ⟨o,ho,rfl⟩:=h;exact ⟨hid,ho,rfl⟩
 ·rw [ob0,a44 (by omega)] at h;cases h
def sq (ob:Obs) (ρ:Pl→Option Nat) (i b:Nat):Prop:=∃x,ob i=some x∧foot ρ i x.2 b
def jn (ob:Obs) (ρ:Pl→Option Nat) (b:Nat):Prop:=∃id x,ob id=some x∧foot ρ id x.2 b
def me (po:List Ob) (ρ:Pl→Option Nat):Nat→Option Nat:=fun id=>match ob0 po id with
 | some (_,o)=>if o.pinned=true then ρ id else none
 | none=>none
def al9 (P:Program) (w:World) (I:Nat→Prop) (name:String) (ok:Array Value→Prop):Prop:=
 ∀g,P.globalNamed name=some g→¬I g∧∃cs e fr,w.heap[g]?=some (.cells cs e fr)∧ok cs
def bfh:Array Value:=((zah 20).map fun k=>Value.int .u64 (10^k:Nat)).toArray
abbrev qk:Bool:=false
structure Gl (P:Program) (w:World) (I:Nat→Prop):Prop where
 pow : al9 P w I "internal/strconv.uint64pow10" fun cs => cs = bfh
 syn : qk = true → al9 P w I "strconv.ErrSyntax" fun cs => ∃ t p, cs = #[.iface t p]
 rng : qk = true → al9 P w I "strconv.ErrRange" fun cs => ∃ t p, cs = #[.iface t p]
 fst : qk = true → al9 P w I "unicode/utf8.first" fun cs => ∀ i : Nat, i < 256 → cs[i]? = some (.int .u8 (Lib.firstT i))
 acc : qk = true → al9 P w I "unicode/utf8.acceptRanges" fun cs => ∀ i : Nat, i < 16 → cs[2 * i]? = some (.int .u8 (Lib.accLo i)) ∧ cs[2 * i + 1]? = some (.int .u8 (Lib.accHi i))
theorem al9.keep {P:Program} {w w':World} {I I':Nat→Prop} {name:String} {ok:Array Value→Prop} (h:al9 P w I name ok)
  (hw:∀g,g<w.heap.size→¬I g→w'.heap[g]?=w.heap[g]?∧¬I' g):al9 P w' I' name ok:=fun g hg=>by
 obtain ⟨h1,cs,e,fr,h2,h3⟩:=h g hg;obtain ⟨k1,k2⟩:=hw g (Array.getElem?_eq_some_iff.1 h2).1 h1;exact ⟨k2,cs,e,fr,by rw [k1,h2],h3⟩
theorem Gl.keep {P:Program} {w w':World} {I I':Nat→Prop} (h:Gl P w I) (hw:∀g,g<w.heap.size→¬I g→w'.heap[g]?=w.heap[g]?∧¬I' g):Gl P w' I':=
 ⟨h.pow.keep hw,fun he=>(h.syn he).keep hw,fun he=>(h.rng he).keep hw,fun he=>(h.fst he).keep hw,fun he=>(h.acc he).keep hw⟩
class GlC (P:Program) (X:Cx):Prop where
 gl:Gl P X.w0 X.I
def a8 (P:Program) (f:FuncId) (args:List AV) (po:List Ob) (res:AV) (ro:List Ob):Prop:=
 ∀(w:World) (cargs:Array Value) (ρ:Pl→Option Nat) (B:Nat→Prop),Gl P w (jn (ob0 po) ρ)→(∀b,jn (ob0 po) ρ b∨w.heap.size≤b→B b) →
  Mem ⟨0,jn (ob0 po) ρ,fun _=>none,B,w⟩ (ob0 po) ρ w→cargs.size=args.length →
  (∀(i:Nat) (x:AV) (c:Value),args[i]?=some x→cargs[i]?=some c→RelA w (g8 B (ob0 po) ρ w) (ob0 po) ρ x c) →
  Calls P f cargs w fun e w'=>∃c ρ',e=.returned c∧Mem ⟨0,jn (ob0 po) ρ,me po ρ,B,w⟩ (ob0 ro) ρ' w'∧RelA w' (g8 B (ob0 ro) ρ' w') (ob0 ro) ρ' res c
end

mutual
def dp:RV→Prop
 | .v _=>True
 | .agg xs=>pq xs
 | .sl _ _=>False
def pq:List RV→Prop
 | []=>True
 | x::xs=>dp x∧pq xs
end
mutual
def v9:AV→Prop
 | .r x=>dp x
 | .agg xs=>ft xs
 | .tup xs=>ft xs
 | .rp _=>False
 | .fn _ xs _=>ft xs
 | .gd _ x=>v9 x
 | .ifc _ x=>v9 x
 | _=>True
def ft:List AV→Prop
 | []=>True
 | x::xs=>v9 x∧ft xs
end
def ea:Ob→Prop
 | .box cells=>ft cells
 | .row _ _ _ _ xs=>∀x,x∈xs→dp x
 | .abs _=>True
 | .map _ _=>True
 | .iter m _ _ _=>v9 m
theorem pq.at_:∀{xs:List RV},pq xs→∀{i:Nat} {x:RV},xs[i]?=some x→dp x
 | [],_,i,x,hx=>by simp at hx
 | y::ys,h,0,x,hx=>by simp at hx; subst hx; exact h.1
 | y::ys,h,i+1,x,hx=>by simp at hx; exact pq.at_ h.2 hx
theorem ft.at_:∀{xs:List AV},ft xs→∀{i:Nat} {x:AV},xs[i]?=some x→v9 x
 | [],_,i,x,hx=>by simp at hx
 | y::ys,h,0,x,hx=>by simp at hx; subst hx; exact h.1
 | y::ys,h,i+1,x,hx=>by simp at hx; exact ft.at_ h.2 hx
section
variable {P:Program} {X:Cx} [GlC P X] {w w':World} {s:St} {ρ ρ':Pl→Option Nat} {a:Act} {ob ob':Obs} {R R':Nat→Prop}
theorem RelV.flat {x:RV} {c:Value} (h:RelV w R x c) (hf:dp x):RelV w R' x c:=by
 induction h with
 | v x=>exact .v x
 | agg xs cs hl _ ih=>exact .agg xs cs hl fun i x c hx hc=>ih i x c hx hc (pq.at_ (by simpa [dp] using hf) hx)
 | sl sz xs A cap hc hm b o g hA hz hg hr ih=>simp [dp] at hf
theorem RelA.flat {x:AV} {c:Value} (h:RelA w R ob ρ x c) (hf:v9 x):RelA w R' ob ρ x c:=by
 induction h with
 | r h0=>exact .r (h0.flat (by simpa [v9] using hf))
 | agg xs cs hl _ ih=>exact .agg xs cs hl fun i x c hx hc=>ih i x c hx hc (ft.at_ (by simpa [v9] using hf) hx)
 | tup xs cs hl _ ih=>exact .tup xs cs hl fun i x c hx hc=>ih i x c hx hc (ft.at_ (by simpa [v9] using hf) hx)
 | nils sz z=>exact .nils sz z
 | own id ver lo len c hc ha=>exact .own id ver lo len c hc ha
 | ptr id ver off c hc ha=>exact .ptr id ver off c hc ha
 | oel id ver i off c hc ha=>exact .oel id ver i off c hc ha
 | rp ys b o g hR hg=>simp [v9] at hf
 | fn f xs k fs cs hk hl _ ih=>exact .fn f xs k fs cs hk hl fun i x c hx hc=>ih i x c hx hc (ft.at_ (by simpa [v9] using hf) hx)
 | mp id ver c hc ha=>exact .mp id ver c hc ha
 | ifc t _ ih=>exact .ifc t (ih (by simpa [v9] using hf))
 | gd b _ hf' ih=>exact .gd b (fun hb=>ih hb (by simpa [v9] using hf)) hf'
 | undef c=>exact .undef c
theorem pq.cells {x:RV} (h:dp x) {j:Nat} {y:RV} (hj:x.cells[j]?=some y):dp y:=by
 cases x with
 | v v=>cases j<;>simp [RV.cells] at hj; subst hj; trivial
 | agg xs=>simp only [RV.cells] at hj; exact pq.at_ (by simpa [dp] using h) hj
 | sl k xs=>simp [dp] at h
theorem dn.flat {id:Nat} {x:Ob} (h:dn w R ob ρ id x) (hf:ea x):dn w R' ob ρ id x:=by
 cases x with
 | abs T=>exact h
 | map es c=>exact h
 | iter m since seen st=>
  obtain ⟨b,m',h1,h2,h3⟩:=h;exact ⟨b,m',h1,h2,h3.flat hf⟩
 | box cells=>
  obtain ⟨b,cs,e,h1,h2,h3,h4⟩:=h;exact ⟨b,cs,e,h1,h2,h3,fun i x c hx hc=>(h4 i x c hx hc).flat (ft.at_ hf hx)⟩
 | row sz z app wr xs=>
  rcases h with h | ⟨b,cs,e,fr,h1,h2,h3,h4,h5,h6⟩
  ·exact .inl h
  ·refine .inr ⟨b,cs,e,fr,h1,h2,h3,h4,h5,fun i x hi=>⟨(h6 i x hi).1,fun j y hj=>?_⟩⟩;obtain ⟨c,g1,g2,g3⟩:=(h6 i x hi).2 j y hj;exact ⟨c,g1,g2,g3.flat (pq.cells (hf x (zae hi)) hj)⟩
def jb (ob:Obs):AV→Option (AV×List Nat)
 | .own id ver lo len=>match AV.rv ob (.own id ver lo len) with
  | some (y,fz)=>some (.r y,fz)
  | none=>none
 | .nils sz _=>some (.r (.sl sz []),[])
 | .agg xs=>match rvs ob xs with
  | some (ys,fz)=>some (.r (.agg ys),fz)
  | none=>none
 | .gd _ _=>none
 | .oel _ _ _ _=>none
 | x=>some (x,[])
def n6 (ob:Obs):List AV→Option (List AV×List Nat)
 | []=>some ([],[])
 | x::xs=>match jb ob x,n6 ob xs with
  | some (y,i),some (ys,j)=>some (y::ys,i++j)
  | _,_=>none
mutual
def x9:AV→List Nat
 | .own id _ _ _=>[id]
 | .ptr id _ _=>[id]
 | .oel id _ _ _=>[id]
 | .agg xs=>m5 xs
 | .tup xs=>m5 xs
 | .fn _ xs _=>m5 xs
 | .gd _ x=>x9 x
 | .mp id _=>[id]
 | .ifc _ x=>x9 x
 | _=>[]
def m5:List AV→List Nat
 | []=>[]
 | x::xs=>x9 x++m5 xs
end
def ags:Option (Nat×Ob)→List Nat
 | some (_,.box cells)=>m5 cells
 | some (_,.iter m _ _ _)=>x9 m
 | _=>[]
def n9 (ob:Obs):Nat→List Nat→List Nat→List Nat
 | 0,_,acc=>acc
 | _+1,[],acc=>acc
 | n+1,i::todo,acc=>if acc.contains i then n9 ob n todo acc else n9 ob n (ags (ob i)++todo) (acc++[i])
def ae2 (ver k:Nat):Option (Nat×Ob)→Option (Nat×Nat)
 | some (v,_)=>if ver=v then some (1000000+k,0) else none
 | none=>none
def fwd (ob:Obs) (ids:List Nat):Ren:=fun id ver=>match idx id ids with
 | some k=>ae2 ver k (ob id)
 | none=>none
def za (F:Ren):Option (Nat×Ob)→Option Ob
 | some (_,o)=>if o.own then some (imO F o) else none
 | none=>none
def u3 (F:Ren) (ob:Obs):List Nat→Option (List Ob)
 | []=>some []
 | i::is=>match za F (ob i),u3 F ob is with
  | some o,some os=>some (o::os)
  | _,_=>none
theorem aa9 {F:Ren} {ob:Obs}:∀{ids:List Nat} {po:List Ob},u3 F ob ids=some po→po.length=ids.length∧∀(k i:Nat) (o:Ob),ids[k]?=some i→po[k]?=some o→∃v x,ob i=some (v,x)∧x.own=true∧o=imO F x
 | [],po,h=>by simp [u3] at h; subst h; simp
 | j::ids,po,h=>by
  simp only [u3] at h;split at h
  ·rename_i o os h1 h2;cases h;obtain ⟨g1,g2⟩:=aa9 h2;refine ⟨by simp [g1],fun k i q hk ho=>?_⟩;cases k with
   | zero=>
    simp at hk ho;subst hk; subst ho;unfold za at h1;split at h1
    ·rename_i v x hx;split at h1
     ·rename_i hown;cases h1;exact ⟨v,x,hx,hown,rfl⟩
     ·cases h1
    ·cases h1
   | succ k=>simp at hk ho; exact g2 k i q hk ho
  ·cases h
def j8 (u:Nat) (ids:List Nat) (k:Nat):Nat:=match ids[k]? with
 | some i=>i
 | none=>100000+1000*u+k
def jf (ob:Obs) (i:Nat):Option (Nat×Ob)→Nat
 | some (v,.box _)=>v
 | some (v,.row _ _ app _ _)=>bif app then v+1 else v
 | some (v,.abs _)=>v
 | some (v,.map _ _)=>v
 | some (v,.iter _ _ _ _)=>v
 | none=>0
def ij (ob:Obs) (u:Nat) (ids:List Nat) (k:Nat):Nat:=match ids[k]? with
 | some i=>jf ob i (ob i)
 | none=>nv ob (100000+1000*u+k)
def back (ob:Obs) (u:Nat) (ids:List Nat) (m:Nat):Ren:=fun id ver=>
 if ver=0∧1000000≤id∧id-1000000<m then some (j8 u ids (id-1000000),ij ob u ids (id-1000000)) else none
def cw (ob:Obs) (u:Nat) (ids:List Nat) (F:Ren):Nat→List Ob→Obs
 | _,[]=>ob
 | k,o::os=>upd (j8 u ids k) (ij ob u ids k,imO F o) (cw ob u ids F (k+1) os)
theorem aqk {u:Nat} {ids:List Nat} {F:Ren} {i:Nat}:∀{os:List Ob} {k:Nat},(∀j,k≤j→j<k+os.length→j8 u ids j≠i)→cw ob u ids F k os i=ob i
 | [],k,h=>rfl
 | o::os,k,h=>by
  unfold cw upd;rw [if_neg (fun e=>h k (zac _) (by simp) e.symm)];exact aqk fun j h1 h2=>h j (by omega) (by simp; omega)
theorem aza {u:Nat} {ids:List Nat} {F:Ren} {m:Nat} (hinj:∀i j,i<m→j<m→j8 u ids i=j8 u ids j→i=j):∀{os:List Ob} {k j:Nat} {o:Ob},k+os.length≤m→os[j]?=some o→cw ob u ids F k os (j8 u ids (k+j))=some (ij ob u ids (k+j),imO F o)
 | [],k,j,o,h,hj=>by simp at hj
 | q::os,k,0,o,h,hj=>by simp at hj; subst hj; simp [cw,upd]
 | q::os,k,j+1,o,h,hj=>by
  simp at hj h;have hjl:=(zaa.1 hj).1;unfold cw upd;rw [if_neg (fun e=>by have:=hinj _ _ (by omega) (by omega) e; omega),show k+(j+1)=k+1+j by omega];exact aza hinj (by omega) hj
theorem i8 {po:List Ob} {k:Nat} {o:Ob} (h:po[k]?=some o):ob0 po (1000000+k)=some (0,o):=by
 rw [ob0,awf (by omega),show 1000000+k-1000000=k by omega,h]
 rfl
def a0n:Ob→Ob→Prop
 | .row sz _ app _ xs,o'=>app=true∨∃z' wr' xs',o'=.row sz z' false wr' xs'∧xs.length≤xs'.length
 | .box cells,.box cells'=>cells'.length=cells.length
 | .abs T,.abs T'=>T'.size=T.size
 | .map _ _,.map _ _=>True
 | .iter _ _ _ _,.iter _ _ _ _=>True
 | _,_=>False
set_option maxHeartbeats 1000000 in
theorem Gam.call {f:FuncId} {as:List AV} {ids:List Nat} {po ro:List Ob} {res:AV} {u:Nat} {cargs:Array Value} {Bc Ra:Nat→Prop} (hG:Gam X s ρ a w) (hpo:u3 (fwd s.ob ids) s.ob ids=some po)
  (hT:a8 P f (imL (fwd s.ob ids) as) po res ro) (hlen:ids.length≤ro.length) (hinj:∀i j,i<ro.length→j<ro.length→j8 u ids i=j8 u ids j→i=j) (hsm:100000+1000*u+ro.length≤1000000)
  (hcs:cargs.size=as.length) (hargs:∀(i:Nat) (x:AV) (c:Value),as[i]?=some x→cargs[i]?=some c→RelA w Ra s.ob ρ x c)
  (hRa:∀b,Ra b→b<w.heap.size∧Bc b∧∀(i:Nat),i∈ids→¬sq s.ob ρ i b) (hB1:∀b,g8 X.B s.ob ρ w b→Bc b) (hB2:∀b,(∃i,i∈ids∧sq s.ob ρ i b)∨w.heap.size≤b→Bc b)
  (hbox:∀(k:Nat) (o o':Ob),po[k]?=some o→ro[k]?=some o'→a0n o o')
  (hfin:(v9 res∧∀o∈ro,ea o)∨∀b,Bc b→g8 X.B s.ob ρ w b∨(∃i,i∈ids∧sq s.ob ρ i b)∨w.heap.size≤b) :
  Calls P f cargs w fun e w'=>∃c ρ',e=.returned c∧Gam X ⟨s.e,cw s.ob u ids (back s.ob u ids ro.length) 0 ro⟩ ρ' a w'∧RA X ⟨s.e,cw s.ob u ids (back s.ob u ids ro.length) 0 ro⟩ ρ' w' (imV (back s.ob u ids ro.length) res) c:=by
 obtain ⟨hpl,hpa⟩:=aa9 hpo
 let ρc:Pl→Option Nat:=fun p=>match p with
  | .o i=>if 1000000≤i then (ids[i-1000000]?).bind fun i=>ρ (.o i) else none
  | .s i j=>if 1000000≤i then (ids[i-1000000]?).bind fun i=>ρ (.s i j) else none
 have hρc:∀(k i:Nat),ids[k]?=some i→aca ρ ρc i (1000000+k):=fun k i hk=>by
  simp [aca,ρc,hk]
 have hidl:∀(k i:Nat),ids[k]?=some i→∃v x o,s.ob i=some (v,x)∧x.own=true∧po[k]?=some o∧o=imO (fwd s.ob ids) x:=fun k i hk=>by
  have hlt:=(zaa.1 hk).1;have hp:po[k]?=some po[k]:=by simp [show k<po.length by omega]
  obtain ⟨v,x,h1,h2,h3⟩:=hpa k i _ hk hp;exact ⟨v,x,_,h1,h2,hp,h3⟩
 have hoc:∀(id:Nat) (x:Nat×Ob),ob0 po id=some x→∃k i,id=1000000+k∧ids[k]?=some i∧po[k]?=some x.2∧x.1=0∧aca ρ ρc i id:=fun id x hx=>by
  obtain ⟨h1,h2,h3⟩:=xg hx;have hlt:=(zaa.1 h2).1;have hi:ids[id-1000000]?=some (ids[id-1000000]'(by omega)):=by simp [show id-1000000<ids.length by omega]
  refine ⟨id-1000000,_,by omega,hi,h2,h3,?_⟩;have:=hρc _ _ hi;rw [show 1000000+(id-1000000)=id by omega] at this;exact this
 have hnd:∀(k l i:Nat),ids[k]?=some i→ids[l]?=some i→k=l:=fun k l i hk hl=>by
  have h1:=(zaa.1 hk).1;have h2:=(zaa.1 hl).1;exact hinj k l (by omega) (by omega) (by simp [j8,hk,hl])
 have hheld:∀b,jn (ob0 po) ρc b↔∃i,i∈ids∧sq s.ob ρ i b:=fun b=>by
  constructor
  ·rintro ⟨id,x,h1,h2⟩;obtain ⟨k,i,rfl,hk,hp0,_,hρ⟩:=hoc id x h1;obtain ⟨v,y,o,g1,_,hp,ho⟩:=hidl k i hk;rw [hp0] at hp;refine ⟨i,zae hk,_,g1,(hρ.foot ?_).1 h2⟩;rw [zaf.inj hp,ho,dh]
  ·rintro ⟨i,hi,⟨y,g1,hb⟩⟩;obtain ⟨k,hk⟩:=zab.1 hi;obtain ⟨v,x,o,g2,_,hp,ho⟩:=hidl k i hk;rw [g1] at g2;refine ⟨1000000+k,(0,o),i8 hp,((hρc k i hk).foot ?_).2 hb⟩;rw [ho,dh,zaf.inj g2]
 have hownc:∀b,Own (ob0 po) ρc b→∃i,i∈ids∧sq s.ob ρ i b:=fun b ⟨id,v,o,h1,h2,h3⟩=>(hheld b).1 ⟨id,_,h1,h3⟩
 have hidown:∀i,i∈ids→∀b,sq s.ob ρ i b→Own s.ob ρ b:=fun i hi b ⟨y,g1,hb⟩=>by
  obtain ⟨k,hk⟩:=zab.1 hi;obtain ⟨v,x,o,h1,h2,_,_⟩:=hidl k i hk;rw [g1] at h1;cases h1;exact ⟨i,v,x,g1,h2,hb⟩
 have hfits:adf s.ob (ob0 po) ρ ρc (fwd s.ob ids):=fun id ver i v hF=>by
  unfold fwd at hF;split at hF
  ·rename_i k hk;have hik:=aiz hk;obtain ⟨v0,x,o,h1,h2,h3,h4⟩:=hidl k id hik;rw [h1] at hF;simp only [ae2] at hF;split at hF
   ·rename_i hv;cases hF;subst hv;exact ⟨x,o,h1,i8 h3,(hρc k id hik).1,by rw [h4]; exact y7.im _ x⟩
   ·cases hF
  ·cases hF
 have hRc:∀b,g8 X.B s.ob ρ w b→g8 Bc (ob0 po) ρc w b:=fun b hb=>⟨hb.1,fun ho=>by
   obtain ⟨i,hi,hb'⟩:=hownc b ho
   exact hb.2.1 (hidown i hi b hb'),hB1 b hb⟩
 have hmem:Mem ⟨0,jn (ob0 po) ρc,fun _=>none,Bc,w⟩ (ob0 po) ρc w:=by
  refine ⟨fun id v o h=>?_,fun id id' x x' b h1 h2 h3 h4=>?_,Keeps.refl _ _,fun id v o b h1 h2=>.inl ⟨id,_,h1,h2⟩,fun id b h=>by cases h⟩
  ·obtain ⟨k,i,rfl,hk,hp,_,hρ⟩:=hoc id _ h;obtain ⟨v0,x,o',h1,h2,h3,h4⟩:=hidl k i hk;simp only at hp;rw [hp] at h3;cases h3;rw [h4];exact (hG.obj i v0 x h1).im hRc hfits hρ.1 hρ.2
  ·obtain ⟨k,i,rfl,hk,hp0,_,hρ⟩:=hoc id _ h1;obtain ⟨k',i',rfl,hk',hp0',_,hρ'⟩:=hoc id' _ h2;obtain ⟨v0,y,o',g1,_,hp,ho⟩:=hidl k i hk;obtain ⟨v1,y',o'',g1',_,hp',ho'⟩:=hidl k' i' hk';rw [hp0] at hp;rw [hp0'] at hp';have:=hG.inj i i' _ _ b g1 g1' ((hρ.foot (by rw [zaf.inj hp,ho,dh])).1 h3) ((hρ'.foot (by rw [zaf.inj hp',ho',dh])).1 h4);subst this;rw [hnd k k' i hk hk']
 have hgl:Gl P w (jn (ob0 po) ρc):=(GlC.gl (P:=P) (X:=X)).keep fun g h1 h2=>⟨hG.keeps.block g h1 h2,fun hh=>by
  obtain ⟨i,hi,⟨⟨v,x⟩,g1,hb⟩⟩:=(hheld g).1 hh;rcases hG.own i v x g g1 hb with h | h
  ·exact h2 h
  ·omega⟩
 refine (hT w cargs ρc Bc hgl (fun b hb=>hB2 b (hb.imp_left (hheld b).1)) hmem (by rw [gm,hcs]) (fun i x c hx hc=>?_)).mono ?_
 ·rw [yn,zad] at hx;obtain ⟨y,hy,rfl⟩:=hx
  exact (hargs i y c hy hc).im (fun b hb=>⟨(hRa b hb).1,fun ho=>by
   obtain ⟨j,hj,hbj⟩:=hownc b ho
   exact (hRa b hb).2.2 j hj hbj,(hRa b hb).2.1⟩) hfits
 rintro e w' ⟨c,ρ',rfl,hM,hres⟩;generalize hFb:back s.ob u ids ro.length=Fb;generalize hOb:cw s.ob u ids Fb 0 ro=ob2
 let ρ2:Pl→Option Nat:=fun p=>match p with
  | .o i=>open Classical in if h:∃k,k<ro.length∧j8 u ids k=i then ρ' (1000000+h.choose:Nat) else ρ i
  | .s i j=>open Classical in if h:∃k,k<ro.length∧j8 u ids k=i then ρ' (.s (1000000+h.choose) j) else ρ (.s i j)
 have A:∀k,k<ro.length→aca ρ' ρ2 (1000000+k) (j8 u ids k):=fun k hk=>by
  have hex:∃l,l<ro.length∧j8 u ids l=j8 u ids k:=⟨k,hk,rfl⟩
  have:=hinj _ _ hex.choose_spec.1 hk hex.choose_spec.2;refine ⟨?_,fun j=>?_⟩
  ·simp only [ρ2,dif_pos hex,this]
  ·simp only [ρ2,dif_pos hex,this]
 have hN:∀i,(¬∃k,k<ro.length∧j8 u ids k=i)→aca ρ ρ2 i i∧ob2 i=s.ob i:=fun i hi=>by
  refine ⟨⟨by simp only [ρ2,dif_neg hi],fun j=>by simp only [ρ2,dif_neg hi]⟩,?_⟩;rw [← hOb];exact aqk fun j _ h2 e=>hi ⟨j,by omega,e⟩
 have hC:∀k o,ro[k]?=some o→ob2 (j8 u ids k)=some (ij s.ob u ids k,imO Fb o):=fun k o hk=>by
  have:=aza (ob:=s.ob) (F:=Fb) hinj (os:=ro) (k:=0) (j:=k) (o:=o) (by omega) hk;rw [Nat.zero_add] at this;rw [← hOb];exact this
 have hname:∀i x,ob2 i=some x→(∃k o,ro[k]?=some o∧i=j8 u ids k∧x=(ij s.ob u ids k,imO Fb o))∨((¬∃k,k<ro.length∧j8 u ids k=i)∧s.ob i=some x):=fun i x hx=>by
  by_cases hi:∃k,k<ro.length∧j8 u ids k=i
  ·obtain ⟨k,hk,rfl⟩:=hi;have hr:ro[k]?=some ro[k]:=by simp [hk]
   rw [hC k _ hr] at hx;exact .inl ⟨k,_,hr,rfl,(zaf.inj hx).symm⟩
  ·rw [(hN i hi).2] at hx;exact .inr ⟨hi,hx⟩
 have hidn:∀i,i∈ids→∃k,k<ro.length∧j8 u ids k=i:=fun i hi=>by
  obtain ⟨k,hk⟩:=zab.1 hi;have:=(zaa.1 hk).1;exact ⟨k,by omega,by simp [j8,hk]⟩
 have hlt:∀i x b,s.ob i=some x→foot ρ i x.2 b→b<w.heap.size:=fun i x b hi hb=>hG.foot_lt hi hb;have hrb:∀k o b,ro[k]?=some o→foot ρ' (1000000+k) o b→(∃i,i∈ids∧sq s.ob ρ i b)∨w.heap.size≤b:=fun k o b hk hb=>(hM.own _ _ _ b (i8 hk) hb).imp_left (hheld b).1
 have hown2:∀b,Own ob2 ρ2 b→Own (ob0 ro) ρ' b∨∃i v x,(¬∃k,k<ro.length∧j8 u ids k=i)∧s.ob i=some (v,x)∧x.own=true∧foot ρ i x b:=fun b ⟨i,v,x,h1,h2,h3⟩=>by
  rcases hname i _ h1 with ⟨k,o,hk,rfl,hx⟩ | ⟨hi,hx⟩
  ·cases hx;have:=(zaa.1 hk).1;rw [(A k this).foot (dh Fb o)] at h3;exact .inl ⟨_,0,o,i8 hk,by rw [← a4x Fb]; exact h2,h3⟩
  ·rw [(hN i hi).1.foot rfl] at h3;exact .inr ⟨i,v,x,hi,hx,h2,h3⟩
 have hfitb:adf (ob0 ro) ob2 ρ' ρ2 Fb:=fun id ver i v hF=>by
  rw [← hFb] at hF;unfold back at hF;split at hF
  ·rename_i hc;obtain ⟨rfl,h1,h2⟩:=hc;cases hF;have hr:ro[id-1000000]?=some ro[id-1000000]:=by simp [h2]
   have hg:=i8 hr;rw [show 1000000+(id-1000000)=id by omega] at hg;refine ⟨_,_,hg,hC _ _ hr,?_,y7.im Fb _⟩;rw [(A _ h2).1,show 1000000+(id-1000000)=id by omega]
  ·cases hF
 have hheldfree:∀b,g8 X.B s.ob ρ w b→¬∃i,i∈ids∧sq s.ob ρ i b:=fun b hb ⟨i,hi,hib⟩=>hb.2.1 (hidown i hi b hib);have hsame:∀b,b<w.heap.size→(¬∃i,i∈ids∧sq s.ob ρ i b)→w'.heap[b]?=w.heap[b]?:=fun b h1 h2=>hM.keeps.block b h1 fun hh=>h2 ((hheld b).1 hh)
 have hRR:∀b,g8 X.B s.ob ρ w b→g8 X.B ob2 ρ2 w' b:=fun b hb=>by
  refine ⟨Nat.lt_of_lt_of_le hb.1 hM.keeps.size,fun ho=>?_,hb.2.2⟩;rcases hown2 b ho with ⟨id,v,o,h1,h2,h3⟩ | ⟨i,v,x,_,h1,h2,h3⟩
  ·rcases hM.own id v o b h1 h3 with h | h
   ·exact hheldfree b hb ((hheld b).1 h)
   ·have:=hb.1; simp only at h; omega
  ·exact hb.2.1 ⟨i,v,x,h1,h2,h3⟩
 have hfin2:(v9 res∧∀o∈ro,ea o)∨∀b,g8 Bc (ob0 ro) ρ' w' b→g8 X.B ob2 ρ2 w' b:=by
  refine hfin.imp_right fun hf b hb=>⟨hb.1,fun ho=>?_,?_⟩
  ·rcases hown2 b ho with h | ⟨i,v,x,hi,h1,h2,h3⟩
   ·exact hb.2.1 h
   ·rcases hf b hb.2.2 with h | ⟨j,hj,hjb⟩ | h
    ·exact h.2.1 ⟨i,v,x,h1,h2,h3⟩
    ·obtain ⟨k,hk⟩:=zab.1 hj;obtain ⟨⟨v0,y⟩,g1,hjb⟩:=hjb;have:=hG.inj i j _ _ b h1 g1 h3 hjb;subst this;exact hi (hidn i hj)
    ·have:=hlt i _ b h1 h3; omega
  ·rcases hf b hb.2.2 with h | ⟨j,hj,hjb⟩ | h
   ·exact h.2.2
   ·obtain ⟨k,hk⟩:=zab.1 hj;obtain ⟨⟨v0,y⟩,g1,hjb⟩:=hjb;exact hG.base b (hG.own j _ _ b g1 hjb)
   ·exact hG.base b (.inr (Nat.le_trans hG.keeps.size h))
 have hst:Stays w w' (g8 X.B s.ob ρ w) (g8 X.B ob2 ρ2 w') s.ob ob2 ρ ρ2:=by
  refine ⟨fun b hb=>⟨hRR b hb,hsame b hb.1 (hheldfree b hb)⟩,fun i v x hx=>?_⟩;by_cases hi:∃k,k<ro.length∧j8 u ids k=i
  ·obtain ⟨k,hk,rfl⟩:=hi;have hr:ro[k]?=some ro[k]:=by simp [hk]
   refine ⟨_,_,hC k _ hr,?_,?_⟩
   ·unfold ij;rcases hki:ids[k]? with _ | j
    ·have:j8 u ids k=100000+1000*u+k:=by simp [j8,hki]
     rw [this] at hx;exact Nat.le_of_lt (zp hx)
    ·have:j8 u ids k=j:=by simp [j8,hki]
     rw [this] at hx;simp only [hx];cases x with
     | row sz z app wr xs=>cases app<;>simp [jf]
     | _=>simp [jf]
   ·intro hv;unfold ij at hv;rcases hki:ids[k]? with _ | j
    ·have:j8 u ids k=100000+1000*u+k:=by simp [j8,hki]
     rw [this] at hx;simp only [hki] at hv;have:=zp hx;omega
    ·have hbn:j8 u ids k=j:=by simp [j8,hki]
     rw [hbn] at hx ⊢;simp only [hki,hx] at hv;obtain ⟨v0,y,po',g1,g2,g3,g4⟩:=hidl k j hki;rw [hx] at g1;cases g1
     have hnr:x.pinned=true:=by
      cases x with
      | row sz z app wr xs=>cases app<;>first | rfl | (simp [jf] at hv)
      | _=>rfl
     obtain ⟨b,hρj⟩:∃b,ρ j=some b:=by
      have hob:=hG.obj j v _ hx;cases x with
      | row sz z app wr xs=>
       rcases hob with ⟨_,_,h3⟩ | ⟨b,cs,e,fr,h,_⟩
       ·subst h3; cases hnr
       ·exact ⟨b,h⟩
      | box cells=>obtain ⟨b,cs,e,h,_⟩:=hob; exact ⟨b,h⟩
      | abs T=>obtain ⟨b,h,_⟩:=hob; exact ⟨b,h⟩
      | map _ _=>obtain ⟨b,h,_⟩:=hob; exact ⟨b,h⟩
      | iter _ _ _ _=>obtain ⟨b,m',h,_⟩:=hob; exact ⟨b,h⟩
     have hpin:=hM.pin (1000000+k) b (by
      simp only [me,i8 g3,g4]
      rw [if_pos (by rw [af1]; exact hnr),(hρc k j hki).1,hρj])
     obtain ⟨hp1,o',hp2,hp3,hp4⟩:=hpin;rw [i8 hr] at hp2;have hro:ro[k]=o':=by have:=zaf.inj hp2; exact (Prod.mk.inj this).2
     have hA:=A k hk;rw [hbn] at hA;refine ⟨by rw [hA.1,hp1,hρj],?_,fun b' cs' e' fr' hb' hh'=>?_⟩
     ·have hkp:=hbox k po' ro[k] g3 hr;rw [g4] at hkp
      revert hkp
      generalize ro[k]=q;intro hkp;cases x with
      | row sz z app wr xs=>
       rcases hkp with h | ⟨z',wr',xs',rfl,h⟩
       ·subst h; cases hnr
       ·exact ⟨rfl,h⟩
      | box _=>cases q<;>first | exact hkp.elim | trivial
      | abs _=>cases q<;>first | exact hkp.elim | exact hkp
      | map _ _=>cases q<;>first | exact hkp.elim | trivial
      | iter _ _ _ _=>cases q<;>first | exact hkp.elim | trivial
     rw [hρj] at hb';cases hb';have hkp:=hbox k po' ro[k] g3 hr;rw [g4,hro] at hkp;have hob':=hM.obj (1000000+k) 0 o' (by rw [i8 hr,hro]);have hob:=hG.obj j v _ hx;cases x with
     | row sz z app wr xs=>
      rcases hkp with h | ⟨z',wr',xs',rfl,h⟩
      ·subst h; cases hnr
      ·exact hp4 rfl cs' e' fr' hh'
     | box cells=>
      cases o' with
      | row _ _ _ _ _=>exact hkp.elim
      | abs _=>exact hkp.elim
      | map _ _=>exact hkp.elim
      | iter _ _ _ _=>exact hkp.elim
      | box cells'=>
       obtain ⟨b1,cs,e,k1,k2,k3,_⟩:=hob;rw [hρj] at k1; cases k1;rw [hh'] at k2; cases k2;obtain ⟨b2,cs2,e2,f1,f2,f3,_⟩:=hob';rw [hp1] at f1; cases f1;refine ⟨cs2,e2,_,f2,?_⟩;have hkp:cells'.length=(imL (fwd s.ob ids) cells).length:=hkp;rw [f3,k3,hkp,gm]
     | abs T=>
      cases o' with
      | row _ _ _ _ _=>exact hkp.elim
      | box _=>exact hkp.elim
      | map _ _=>exact hkp.elim
      | iter _ _ _ _=>exact hkp.elim
      | abs T'=>
       obtain ⟨b1,k1,k2⟩:=hob;rw [hρj] at k1; cases k1;obtain ⟨cs,e,k3,k4⟩:=T.root k2;rw [hh'] at k3; cases k3;obtain ⟨b2,f1,f2⟩:=hob';rw [hp1] at f1; cases f1;obtain ⟨cs2,e2,f3,f4⟩:=T'.root f2;have hkp:T'.size=T.size:=hkp;exact ⟨cs2,e2,_,f3,by rw [f4,k4,hkp]⟩
     | map es c=>
      obtain ⟨b1,k1,k2⟩:=hob;rw [hρj] at k1; cases k1;rw [hh'] at k2; cases k2
     | iter m since seen st=>
      obtain ⟨b1,m',k1,k2,_⟩:=hob;rw [hρj] at k1; cases k1;rw [hh'] at k2; cases k2
  ·refine ⟨v,x,by rw [(hN i hi).2,hx],zac _,fun _=>⟨(hN i hi).1.1,y7.refl x,fun b cs e fr hb hh=>⟨cs,e,fr,?_,rfl⟩⟩⟩;have hb:foot ρ i x b:=.inl hb;rw [hsame b (hlt i _ b hx hb),hh];rintro ⟨j,hj,hjb⟩;obtain ⟨k,hk⟩:=zab.1 hj;obtain ⟨⟨v0,y⟩,g1,hjb⟩:=hjb;have:=hG.inj i j _ _ b hx g1 hb hjb;subst this;exact hi (hidn i hj)
 have hobr:∀k o,ro[k]?=some o→dn w' (g8 X.B ob2 ρ2 w') ob2 ρ2 (j8 u ids k) (imO Fb o):=fun k o hk=>by
  have hkl:=(zaa.1 hk).1;have h0:=hM.obj _ _ _ (i8 hk);rcases hfin2 with ⟨_,hf⟩ | hf
  ·exact (h0.flat (R':=g8 X.B ob2 ρ2 w') (hf o (zae hk))).im (fun _ h=>h) hfitb (A k hkl).1 (A k hkl).2
  ·exact h0.im hf hfitb (A k hkl).1 (A k hkl).2
 refine ⟨c,ρ2,rfl,⟨⟨fun i v x hx=>?_,fun i j x y b hx hy hb hb'=>?_,?_,fun i v x b hx hb=>?_,fun i b hp=>?_⟩,hG.sz,hG.df,fun t=>(hG.env t).stays hst,hG.pnn,hG.small,hG.base⟩,?_⟩
 ·rcases hname i _ hx with ⟨k,o,hk,rfl,hxx⟩ | ⟨hi,hxx⟩
  ·cases hxx;exact hobr k o hk
  ·refine (hG.obj i v x hxx).stays hst (hN i hi).1.1 (hN i hi).1.2 fun b hb=>hsame b (hlt i _ b hxx hb) ?_;rintro ⟨j,hj,hjb⟩;obtain ⟨k,hk⟩:=zab.1 hj;obtain ⟨⟨v0,y⟩,g1,hjb⟩:=hjb;have:=hG.inj i j _ _ b hxx g1 hb hjb;subst this;exact hi (hidn i hj)
 ·have mixed:∀k o i x b,ro[k]?=some o→(¬∃l,l<ro.length∧j8 u ids l=i)→s.ob i=some x→foot ρ' (1000000+k) o b→foot ρ i x.2 b→False:=fun k o i x b hk hi hx h1 h2=>by
   rcases hrb k o b hk h1 with ⟨j,hj,hjb⟩ | h
   ·obtain ⟨l,hl⟩:=zab.1 hj;obtain ⟨⟨v0,y⟩,g1,hjb⟩:=hjb;have:=hG.inj i j _ _ b hx g1 h2 hjb;subst this;exact hi (hidn i hj)
   ·have:=hlt i _ b hx h2; omega
  rcases hname i _ hx with ⟨k,o,hk,rfl,rfl⟩ | ⟨hi,hxx⟩<;>rcases hname j _ hy with ⟨l,q,hl,rfl,rfl⟩ | ⟨hj,hyy⟩
  ·have h1:=(zaa.1 hk).1;have h2:=(zaa.1 hl).1;rw [(A k h1).foot (dh Fb _)] at hb;rw [(A l h2).foot (dh Fb _)] at hb';have:=hM.inj _ _ _ _ b (i8 hk) (i8 hl) hb hb';rw [show k=l by omega]
  ·have h1:=(zaa.1 hk).1;rw [(A k h1).foot (dh Fb _)] at hb;rw [(hN j hj).1.foot rfl] at hb';exact (mixed k o j _ b hk hj hyy hb hb').elim
  ·have h2:=(zaa.1 hl).1;rw [(A l h2).foot (dh Fb _)] at hb';rw [(hN i hi).1.foot rfl] at hb;exact (mixed l q i _ b hl hi hxx hb' hb).elim
  ·rw [(hN i hi).1.foot rfl] at hb;rw [(hN j hj).1.foot rfl] at hb';exact hG.inj i j _ _ b hxx hyy hb hb'
 ·have hk:=hG.keeps;refine ⟨hM.keeps.os.trans hk.os,hM.keeps.tape.trans hk.tape,hM.keeps.output.trans hk.output,Nat.le_trans hk.size hM.keeps.size,fun b hb hI=>?_⟩;rw [hsame b (Nat.lt_of_lt_of_le hb hk.size),hk.block b hb hI];rintro ⟨j,hj,hjb⟩;obtain ⟨k,hk'⟩:=zab.1 hj;obtain ⟨⟨v0,y⟩,g1,hjb⟩:=hjb;rcases hG.own j _ _ b g1 hjb with h | h
  ·exact hI h
  ·omega
 ·rcases hname i _ hx with ⟨k,o,hk,rfl,hxe⟩ | ⟨hi,hxx⟩
  ·cases hxe;rw [(A k (zaa.1 hk).1).foot (dh Fb _)] at hb;rcases hrb k o b hk hb with ⟨j,hj,hjb⟩ | h
   ·obtain ⟨l,hl⟩:=zab.1 hj;obtain ⟨⟨v0,y⟩,g1,hjb⟩:=hjb;exact hG.own j _ _ b g1 hjb
   ·exact .inr (Nat.le_trans hG.keeps.size h)
  ·rw [(hN i hi).1.foot rfl] at hb;exact hG.own i v x b hxx hb
 ·show ρ2 i=some b∧∃o,ob2 i=some (0,o)∧o.pinned=true∧(o.isRow=true→wv X.w0 w' b);obtain ⟨h1,x,h2,hnr,hsz⟩:=hG.pin i b hp;by_cases hi:∃k,k<ro.length∧j8 u ids k=i
  ·obtain ⟨k,hk,rfl⟩:=hi;have hr:ro[k]?=some ro[k]:=by simp [hk]
   rcases hki:ids[k]? with _ | j
   ·have hbn:j8 u ids k=100000+1000*u+k:=by simp [j8,hki]
    rw [hbn,hG.pnn _ (aqy (by omega))] at hp;cases hp
   ·have hbn:j8 u ids k=j:=by simp [j8,hki]
    rw [hbn] at h1 h2 ⊢;obtain ⟨v0,y,po',g1,g2,g3,g4⟩:=hidl k j hki;rw [h2] at g1;cases g1
    have hpin:=hM.pin (1000000+k) b (by
     simp only [me,i8 g3,g4]
     rw [if_pos (by rw [af1]; exact hnr),(hρc k j hki).1,h1])
    obtain ⟨hp1,o',hp2,hp3,hp4⟩:=hpin;rw [i8 hr] at hp2;have hro:ro[k]=o':=by have:=zaf.inj hp2; exact (Prod.mk.inj this).2
    have hA:=A k hk;have hCk:=hC k _ hr;rw [hbn] at hA hCk;refine ⟨by rw [hA.1,hp1],imO Fb o',?_,by rw [af1]; exact hp3,fun hrr=>?_⟩
    rotate_left
    ·rw [ao7] at hrr;have hkp:=hbox k po' ro[k] g3 hr;rw [g4,hro] at hkp
     have hxr:x.isRow=true:=by
      cases x with
      | row _ _ _ _ _=>rfl
      | box _=>cases o'<;>first | exact hkp.elim | cases hrr
      | abs _=>cases o'<;>first | exact hkp.elim | cases hrr
      | map _ _=>cases o'<;>first | exact hkp.elim | cases hrr
      | iter _ _ _ _=>cases o'<;>first | exact hkp.elim | cases hrr
     exact (hsz hxr).trans (hp4 hrr)
    rw [hCk,hro];cases x with
    | row sz z app wr xs=>cases app<;>first | (cases hnr; done) | simp [ij,hki,h2,jf]
    | box cells=>simp [ij,hki,h2,jf]
    | abs T=>simp [ij,hki,h2,jf]
    | map es c=>simp [ij,hki,h2,jf]
    | iter m since seen st=>simp [ij,hki,h2,jf]
  ·rw [(hN i hi).1.1,(hN i hi).2];refine ⟨h1,x,h2,hnr,fun hrr=>(hsz hrr).trans ?_⟩;have hb:foot ρ i x b:=.inl h1
   have he:w'.heap[b]?=w.heap[b]?:=hsame b (hlt i _ b h2 hb) (by
    rintro ⟨j,hj,hjb⟩;obtain ⟨k,hk⟩:=zab.1 hj;obtain ⟨⟨v0,y⟩,g1,hjb⟩:=hjb;have:=hG.inj i j _ _ b h2 g1 hb hjb;subst this
    exact hi (hidn i hj))
   intro cs e fr hc;exact ⟨cs,e,fr,by rw [he]; exact hc,rfl⟩
 ·rcases hfin2 with ⟨hf,_⟩ | hf
  ·exact (hres.flat (R':=g8 X.B ob2 ρ2 w') hf).im (fun _ h=>h) hfitb
  ·exact hres.im hf hfitb
end

def ug (ver new:Nat):Option (Nat×Ob)→Option (Nat×Nat)
 | some (v,_)=>if ver=v then some (new,0) else none
 | none=>none
def xh (np lb:Nat) (ob:Obs) (ids:List Nat):Ren:=fun id ver=>
 if 1000000≤id∧id<1000000+np then ug ver id (ob id)
 else match idx id ids with
  | some k=>ug ver (lb+k) (ob id)
  | none=>none
def ab3 (F:Ren):Option (Nat×Ob)→Option Ob
 | some (_,o)=>some (imO F o)
 | none=>none
def ry (F:Ren) (ob:Obs):List Nat→Option (List Ob)
 | []=>some []
 | i::is=>match ab3 F (ob i),ry F ob is with
  | some o,some os=>some (o::os)
  | _,_=>none
theorem ata {F:Ren} {ob:Obs}:∀{ids:List Nat} {po:List Ob},ry F ob ids=some po→po.length=ids.length∧∀(k i:Nat) (o:Ob),ids[k]?=some i→po[k]?=some o→∃v x,ob i=some (v,x)∧o=imO F x
 | [],po,h=>by simp [ry] at h; subst h; simp
 | j::ids,po,h=>by
  simp only [ry] at h;split at h
  ·rename_i o os h1 h2;cases h;obtain ⟨g1,g2⟩:=ata h2;refine ⟨by simp [g1],fun k i q hk ho=>?_⟩;cases k with
   | zero=>
    simp at hk ho;subst hk; subst ho;rcases hj:ob j with _ | ⟨v,x⟩
    ·rw [hj] at h1; cases h1
    ·rw [hj] at h1;cases h1;exact ⟨v,x,rfl,rfl⟩
   | succ k=>simp at hk ho; exact g2 k i q hk ho
  ·cases h
def cb (np:Nat):Nat→List Nat
 | 0=>[]
 | n+1=>(1000000+(np-(n+1)))::cb np n
theorem aua {np:Nat}:∀{n k:Nat},n≤np→k<n→(cb np n)[k]?=some (1000000+(np-n+k))
 | 0,k,_,h=>by omega
 | n+1,0,h,_=>by simp [cb]
 | n+1,k+1,h,hk=>by
  simp only [cb,List.getElem?_cons_succ];rw [aua (by omega) (by omega)];congr 1;omega
theorem aqx {np:Nat}:∀{n:Nat},(cb np n).length=n
 | 0=>rfl
 | n+1=>by simp [cb,aqx]
def aaa (np i:Nat):Bool:=decide (1000000≤i∧i<1000000+np)
def mu (np:Nat) (l:List Nat):List Nat:=l.filter fun i=>!aaa np i
def nrm (fuel np lb:Nat) (vs:List AV) (ob:Obs):Option (List AV×List Ob×List Ob):=
 let ids:=mu np (n9 ob fuel (m5 vs++cb np np) [])
 let F:=xh np lb ob ids
 match ry F ob (cb np np),ry F ob ids with
 | some pos,some los=>some (imL F vs,pos,los)
 | _,_=>none
def bk:Nat→List Ob→Obs→Obs
 | _,[],ob=>ob
 | k,o::os,ob=>upd k (0,o) (bk (k+1) os ob)
theorem amj:∀{os:List Ob} {k id:Nat} {ob:Obs},(id<k∨k+os.length≤id)→bk k os ob id=ob id
 | [],k,id,ob,h=>rfl
 | o::os,k,id,ob,h=>by
  simp at h;unfold bk upd;rw [if_neg (by omega)];exact amj (by omega)
theorem ahq:∀{os:List Ob} {k j:Nat} {o:Ob} {ob:Obs},os[j]?=some o→bk k os ob (k+j)=some (0,o)
 | [],k,j,o,ob,h=>by simp at h
 | q::os,k,0,o,ob,h=>by simp at h; subst h; simp [bk,upd]
 | q::os,k,j+1,o,ob,h=>by
  simp at h;unfold bk upd;rw [if_neg (by omega),show k+(j+1)=k+1+j by omega];exact ahq h
theorem agp (ob:Obs):∀(fuel:Nat) (todo acc:List Nat),acc.Nodup→(n9 ob fuel todo acc).Nodup
 | 0,_,acc,h=>h
 | _+1,[],acc,h=>h
 | n+1,i::todo,acc,h=>by
  unfold n9;split
  ·exact agp ob n todo acc h
  ·rename_i hc;refine agp ob n _ _ ?_;rw [List.nodup_append];refine ⟨h,by simp,fun a ha b hb=>?_⟩;simp at hb;subst hb;intro e;subst e;simp at hc;exact hc ha
theorem ak0 {l:List Nat} (h:l.Nodup) {i j x:Nat} (hi:l[i]?=some x) (hj:l[j]?=some x):i=j:=by
 have h1:=(zaa.1 hi)
 have h2:=(zaa.1 hj)
 obtain ⟨a1,b1⟩:=h1;obtain ⟨a2,b2⟩:=h2;rcases Nat.lt_trichotomy i j with hlt | rfl | hlt
 ·exact absurd (by rw [b1,b2]) (List.pairwise_iff_getElem.1 h i j a1 a2 hlt)
 ·rfl
 ·exact absurd (by rw [b1,b2]) (List.pairwise_iff_getElem.1 h j i a2 a1 hlt)
section
variable {P:Program} {X:Cx} {w w':World} {s:St} {ρ ρ':Pl→Option Nat} {a:Act} {ob ob':Obs} {R R':Nat→Prop}
theorem Mem.nrm (hM:Mem X ob ρ w) {fuel np lb:Nat} {vs vs':List AV} {pos los:List Ob} (h:nrm fuel np lb vs ob=some (vs',pos,los)) (hlb:1000000+np≤lb) (hpn:∀id b,X.pn id=some b→1000000≤id∧id<1000000+np) :
  ∃ρ',Mem X (bk 1000000 pos (bk lb los fun _=>none)) ρ' w∧vs'.length=vs.length∧pos.length=np ∧
   ∀(i:Nat) (x y:AV) (c:Value),vs[i]?=some x→vs'[i]?=some y→RelA w (g8 X.B ob ρ w) ob ρ x c→RelA w (g8 X.B (bk 1000000 pos (bk lb los fun _=>none)) ρ' w) (bk 1000000 pos (bk lb los fun _=>none)) ρ' y c:=by
 unfold Ev.nrm at h;generalize x9:mu np (n9 ob fuel (m5 vs++cb np np) [])=ids at h;simp only at h;generalize hF:xh np lb ob ids=F at h;split at h
 ·rename_i pos' los' hp hl;cases h;obtain ⟨p1,p2⟩:=ata hp;obtain ⟨l1,l2⟩:=ata hl;rw [aqx] at p1
  have hnd:ids.Nodup:=by
   rw [← x9];exact (agp ob fuel _ [] (by simp)).filter _
  have hnp:∀i,i∈ids→¬(1000000≤i∧i<1000000+np):=fun i hi=>by
   rw [← x9] at hi;simp [mu,aaa] at hi;intro hc;have:=hi.2;omega
  generalize hob2:bk 1000000 pos (bk lb los fun _=>none)=ob2
  let ρ2:Pl→Option Nat:=fun p=>match p with
   | .o i=>if 1000000≤i∧i<1000000+np then ρ i else if lb≤i then (ids[i-lb]?).bind fun i=>ρ (.o i) else none
   | .s i j=>if 1000000≤i∧i<1000000+np then ρ (.s i j) else if lb≤i then (ids[i-lb]?).bind fun i=>ρ (.s i j) else none
  have hP:∀k o,pos[k]?=some o→ob2 (1000000+k)=some (0,o)∧aca ρ ρ2 (1000000+k) (1000000+k)∧∃v x,ob (1000000+k)=some (v,x)∧o=imO F x:=fun k o hk=>by
   have hlt:=(zaa.1 hk).1;refine ⟨by rw [← hob2]; exact ahq hk,⟨by simp only [ρ2]; rw [if_pos (by omega)],fun j=>by simp only [ρ2]; rw [if_pos (by omega)]⟩,?_⟩;have:=aua (np:=np) (n:=np) (k:=k) (zac _) (by omega);rw [Nat.sub_self,Nat.zero_add] at this;exact p2 k _ o this hk
  have hL:∀k o,los[k]?=some o→ob2 (lb+k)=some (0,o)∧∃i v x,ids[k]?=some i∧aca ρ ρ2 i (lb+k)∧ob i=some (v,x)∧o=imO F x:=fun k o hk=>by
   have hlt:=(zaa.1 hk).1;have hi:ids[k]?=some (ids[k]'(by omega)):=by simp [show k<ids.length by omega]
   obtain ⟨v,x,g1,g2⟩:=l2 k _ o hi hk;refine ⟨?_,_,v,x,hi,?_,g1,g2⟩
   ·rw [← hob2,amj (by omega)];exact ahq hk
   ·refine ⟨?_,fun j=>?_⟩
    ·simp only [ρ2];rw [if_neg (by omega),if_pos (by omega),show lb+k-lb=k by omega,hi]
     rfl
    ·simp only [ρ2];rw [if_neg (by omega),if_pos (by omega),show lb+k-lb=k by omega,hi]
     rfl
  have hcase:∀id x,ob2 id=some x→(∃k,pos[k]?=some x.2∧id=1000000+k∧x.1=0)∨(∃k,los[k]?=some x.2∧id=lb+k∧x.1=0):=fun id x hx=>by
   rw [← hob2] at hx;by_cases h1:1000000≤id∧id<1000000+np
   ·have hk:pos[id-1000000]?=some (pos[id-1000000]'(by omega)):=by simp [show id-1000000<pos.length by omega]
    have:=ahq (k:=1000000) (ob:=bk lb los fun _=>none) hk;rw [show 1000000+(id-1000000)=id by omega,hx] at this;cases this;exact .inl ⟨_,hk,by omega,rfl⟩
   ·rw [amj (by omega)] at hx;by_cases h2:lb≤id∧id<lb+los.length
    ·have hk:los[id-lb]?=some (los[id-lb]'(by omega)):=by simp [show id-lb<los.length by omega]
     have:=ahq (k:=lb) (ob:=fun _=>none) hk;rw [show lb+(id-lb)=id by omega,hx] at this;cases this;exact .inr ⟨_,hk,by omega,rfl⟩
    ·rw [amj (by omega)] at hx;cases hx
  have hold:∀id x,ob2 id=some x→∃i v y,ob i=some (v,y)∧x=(0,imO F y)∧aca ρ ρ2 i id∧((id=i∧1000000≤i∧i<1000000+np)∨(∃k,ids[k]?=some i∧id=lb+k)):=fun id x hx=>by
   rcases hcase id x hx with ⟨k,h1,rfl,h3⟩ | ⟨k,h1,rfl,h3⟩
   ·obtain ⟨g1,g2,v,y,g3,g4⟩:=hP k _ h1;have hlt:=(zaa.1 h1).1;exact ⟨_,v,y,g3,Prod.ext h3 g4,g2,.inl ⟨rfl,by omega,by omega⟩⟩
   ·obtain ⟨g1,i,v,y,g2,g3,g4,g5⟩:=hL k _ h1;exact ⟨i,v,y,g4,Prod.ext h3 g5,g3,.inr ⟨k,g2,rfl⟩⟩
  have hfit:adf ob ob2 ρ ρ2 F:=fun id ver i v hFv=>by
   rw [← hF] at hFv;unfold xh at hFv;split at hFv
   ·rename_i hc;rcases ho:ob id with _ | ⟨v0,y⟩
    ·rw [ho] at hFv; cases hFv
    ·rw [ho] at hFv;simp only [ug] at hFv;split at hFv
     ·rename_i hv;cases hFv;subst hv;have hk:pos[id-1000000]?=some (pos[id-1000000]'(by omega)):=by simp [show id-1000000<pos.length by omega]
      obtain ⟨g1,g2,v1,y1,g3,g4⟩:=hP _ _ hk;rw [show 1000000+(id-1000000)=id by omega] at g1 g2 g3;rw [ho] at g3;cases g3;exact ⟨_,_,rfl,g1,g2.1,by rw [g4]; exact y7.im F _⟩
     ·cases hFv
   ·split at hFv
    ·rename_i k hk;have hik:=aiz hk;rcases ho:ob id with _ | ⟨v0,y⟩
     ·rw [ho] at hFv; cases hFv
     ·rw [ho] at hFv;simp only [ug] at hFv;split at hFv
      ·rename_i hv;cases hFv;subst hv;have hlt:=(zaa.1 hik).1;have hlk:los[k]?=some (los[k]'(by omega)):=by simp [show k<los.length by omega]
       obtain ⟨g1,i,v1,y1,g2,g3,g4,g5⟩:=hL k _ hlk;rw [hik] at g2;cases g2;rw [ho] at g4;cases g4;exact ⟨_,_,rfl,g1,g3.1,by rw [g5]; exact y7.im F _⟩
      ·cases hFv
    ·cases hFv
  have hR:∀b,g8 X.B ob ρ w b→g8 X.B ob2 ρ2 w b:=fun b hb=>⟨hb.1,fun ⟨id,v,o,h1,h2,h3⟩=>by
   obtain ⟨i,v',y,g1,g2,g3,_⟩:=hold id _ h1;cases g2;rw [a4x] at h2
   exact hb.2.1 ⟨i,v',y,g1,h2,(g3.foot (dh F y)).1 h3⟩,hb.2.2⟩
  refine ⟨ρ2,⟨fun id v o hx=>?_,fun id id' x x' b h1 h2 h3 h4=>?_,hM.keeps,fun id v o b h1 h2=>?_,fun id b h1=>?_⟩,by rw [gm],p1,fun i x y c hx hy hr=>?_⟩
  ·obtain ⟨i,v',y,g1,g2,g3,_⟩:=hold id _ hx;cases g2;exact (hM.obj i v' y g1).im hR hfit g3.1 g3.2
  ·obtain ⟨i,v,y,g1,g2,g3,g4⟩:=hold id _ h1;obtain ⟨i',v',y',g1',g2',g3',g4'⟩:=hold id' _ h2;have:=hM.inj i i' _ _ b g1 g1' ((g3.foot (by rw [g2]; exact dh F y)).1 h3) ((g3'.foot (by rw [g2']; exact dh F y')).1 h4);subst this;rcases g4 with ⟨rfl,q1,q2⟩ | ⟨k,q1,rfl⟩<;>rcases g4' with ⟨rfl,q1',q2'⟩ | ⟨k',q1',rfl⟩
   ·rfl
   ·exact absurd ⟨q1,q2⟩ (hnp _ (zae q1'))
   ·exact absurd ⟨q1',q2'⟩ (hnp _ (zae q1))
   ·rw [ak0 hnd q1 q1']
  ·obtain ⟨i,v',y,g1,g2,g3,_⟩:=hold id _ h1;exact hM.own i v' y b g1 ((g3.foot (by rw [show o=imO F y from congrArg Prod.snd g2]; exact dh F y)).1 h2)
  ·obtain ⟨q1,q2⟩:=hpn id b h1;obtain ⟨e1,cells,e2,e3⟩:=hM.pin id b h1;have hk:pos[id-1000000]?=some (pos[id-1000000]'(by omega)):=by simp [show id-1000000<pos.length by omega]
   obtain ⟨g1,g2,v1,y1,g3,g4⟩:=hP _ _ hk;rw [show 1000000+(id-1000000)=id by omega] at g1 g2 g3;rw [e2] at g3;cases g3;exact ⟨by rw [g2.1,e1],imO F cells,by rw [g1,g4],by rw [af1]; exact e3.1,by rw [ao7]; exact e3.2⟩
  ·rw [yn,hx] at hy;cases hy;exact hr.im hR hfit
 ·cases h
end

inductive PX where
 | see (o:PO)
 | act (o:PO)
 | call (f:FuncId) (args:List Opd)
 | callv (x:Opd) (args:List Opd)
 | inv (tbl:List (TypeId×FuncId)) (x:Opd) (args:List Opd)
 | nxt (x:Opd)
structure PR where
 d:Option Nat
 g:Option (Nat×Bool)
 u:Nat
 x:PX
inductive PC where
 | skip
 | reg (ops:List PR)
 | seq (a b:PC)
 | cond (x:Opd) (a b:PC)
 | block (id:Nat) (c:PC)
 | loop (c:PC)
 | exit (id:Nat)
 | ret
 | drw (ops:List PR) (pre:List (List Nat))
inductive Ex where
 | nor
 | ex (id:Nat)
 | rt
def o5 (d:Option Nat) (x:AV) (e:Env):Env:=match d with
 | some d=>put d x e
 | none=>e
def aep (b:Bool):AV→Option Bool
 | .r (.v (.bool x))=>some (bif b then x else !x)
 | .gd h (.r (.v (.bool x)))=>some (h&&(bif b then x else !x))
 | _=>none
def yes (e:Env):Option (Nat×Bool)→Option Bool
 | none=>some true
 | some (t,b)=>aep b (e t)
def gdv (g:Option (Nat×Bool)) (b:Bool) (x:AV):AV:=match g with
 | none=>x
 | some _=>.gd b x
def okC (u:Nat) (ids:List Nat) (m:Nat) (l:List Nat) (fz:Bool):Bool:=
 decide (ids.length≤m)&&decide (((zah m).map (j8 u ids)).Nodup)&&decide (100000+1000*u+m≤1000000)&&(fz||l.all fun i=>!ids.contains i)
def y9:List Ob→List Ob→Prop
 | .box a::xs,.box b::ys=>b.length=a.length∧y9 xs ys
 | .abs T::xs,.abs T'::ys=>T'.size=T.size∧y9 xs ys
 | .map _ _::xs,.map _ _::ys=>True∧y9 xs ys
 | .iter _ _ _ _::xs,.iter _ _ _ _::ys=>True∧y9 xs ys
 | .box _::_,_::_=>False
 | .abs _::_,_::_=>False
 | .map _ _::_,_::_=>False
 | .iter _ _ _ _::_,_::_=>False
 | .row sz _ false _ l::xs,.row sz' _ false _ l'::ys=>(sz'=sz∧l.length≤l'.length)∧y9 xs ys
 | .row _ _ false _ _::_,_::_=>False
 | _::xs,_::ys=>y9 xs ys
 | _,_=>True
def aeg (P:Program) (f:FuncId) (u:Nat) (ob:Obs) (ids:List Nat) (as:List AV) (l:List Nat) (fz:Bool) (K:AV→Obs→Prop):Option (List Ob)→Prop
 | none=>False
 | some po=>∃res ro,a8 P f as po res ro∧okC u ids ro.length l fz=true∧y9 po ro∧(fz=false→v9 res∧∀o∈ro,ea o)∧K (imV (back ob u ids ro.length) res) (cw ob u ids (back ob u ids ro.length) 0 ro)
def li (P:Program) (f:FuncId) (u:Nat) (ob:Obs) (as:List AV) (l:List Nat) (fz:Bool) (K:AV→Obs→Prop):Prop:=
 aeg P f u ob (n9 ob 64 (m5 as) []) (imL (fwd ob (n9 ob 64 (m5 as) [])) as) l fz K (u3 (fwd ob (n9 ob 64 (m5 as) [])) ob (n9 ob 64 (m5 as) []))
def bjj (P:Program) (f:FuncId) (u:Nat) (ob:Obs) (vs:List AV) (K:AV→Obs→Prop):Prop:=
 ∃id v z xs,ob id=some (v,.row 1 z true true (xs.map RV.v))∧xs≠[]∧∀m,li P f u (upd id (v,.box (xs.map (fun x=>AV.r (.v x))++zai m .undef)) ob) vs [] true K
def bjk (P:Program) (f:FuncId) (u:Nat) (ob:Obs) (vs:List AV) (K:AV→Obs→Prop):Prop:=
 ∃id v sz z xs,ob id=some (v,.row sz z true true xs)∧xs≠[]∧li P f u (upd id (v,.row sz z false true xs) ob) vs [] true K
def agk (P:Program) (f:FuncId) (u:Nat) (ob:Obs) (K:AV→Obs→Prop) (vs:List AV):Option (List AV×List Nat)→Prop
 | none=>li P f u ob vs [] true K
 | some (as,[])=>li P f u ob as [] true K
 | some (as,i::l)=>li P f u (freeze ob (i::l)) as (i::l) true K∨li P f u ob as (i::l) false K∨li P f u ob vs [] true K∨bjj P f u ob vs K∨bjk P f u ob vs K
def xm (P:Program) (f:FuncId):Bool:=match P.funcs[f]? with
 | some fn => fn.body.isSome && !(fn.name == "runtime.NumGoroutine")
 | none=>false
def a24 (P:Program) (u:Nat) (ob:Obs) (vs:List AV) (K:AV→Obs→Prop):AV→Prop
 | .fn (.func f) cap k=>xm P f=true∧agk P f u ob K (cap.take k++(vs++cap.drop k)) (n6 ob (cap.take k++(vs++cap.drop k)))
 | _=>False
def dz (t:TypeId):List (TypeId×FuncId)→Option FuncId
 | []=>none
 | (t',f)::r=>if t'=t then some f else dz t r
def amw (P:Program) (tbl:List (TypeId×FuncId)) (u:Nat) (ob:Obs) (vs:List AV) (K:AV→Obs→Prop):AV→Prop
 | .ifc t x=>match dz t tbl with
  | some f=>agk P f u ob K (x::vs) (n6 ob (x::vs))
  | none=>False
 | _=>False
def db (es:List MapEntry) (seen:List Nat):List MapEntry:=es.filter fun e=>!seen.contains e.born
def a8j (id ver:Nat) (ob:Obs) (m:AV) (since:Nat) (seen:List Nat) (st:Nat) (K:AV→Obs→Prop):Option (List MapEntry×Nat)→Prop
 | some (es,c)=>(∀e,e∈es→e.born<since)∧since≤st∧(db es seen=[]→K (.tup [bl false]) ob) ∧
   ∀e,e∈db es seen→K (.tup [bl true,.r (ll e.key),.r (ll e.val)]) (upd id (ver,.iter m since (seen++[e.born]) c) ob)
 | none=>False
def a1n (id ver:Nat) (ob:Obs) (K:AV→Obs→Prop):Option (AV×Nat×List Nat×Nat)→Prop
 | some (.mp mid mver,since,seen,st)=>a8j id ver ob (.mp mid mver) since seen st K (t7 ob mid mver)
 | _=>False
def awh (ob:Obs) (K:AV→Obs→Prop):AV→Prop
 | .ptr id ver 0=>a1n id ver ob K (de ob id ver)
 | _=>False
def PX.wp (P:Program) (r:PR) (s:St) (K:St→Prop) (b:Bool):PX→Prop
 | .see o=>(o.see b s.e s.ob).ok∧K ⟨o5 r.d (gdv r.g b (o.see b s.e s.ob).v) s.e,s.ob⟩
 | .act o=>(b=true→(o.act (r.d.getD 0) s.e s.ob).ok∧K ⟨o5 r.d (o.act (r.d.getD 0) s.e s.ob).v s.e,(o.act (r.d.getD 0) s.e s.ob).ob⟩)∧(b=false→K ⟨o5 r.d .undef s.e,s.ob⟩)
 | .call f args=>(b=true→bw true s.e args∧agk P f r.u s.ob (fun v ob=>K ⟨o5 r.d v s.e,ob⟩) (l8 s.e args) (n6 s.ob (l8 s.e args)))∧(b=false→K ⟨o5 r.d .undef s.e,s.ob⟩)
 | .callv x args=>(b=true→(x.ev s.e).may true∧bw true s.e args∧a24 P r.u s.ob (l8 s.e args) (fun v ob=>K ⟨o5 r.d v s.e,ob⟩) (x.ev s.e).bare)∧(b=false→K ⟨o5 r.d .undef s.e,s.ob⟩)
 | .inv tbl x args=>(b=true→(x.ev s.e).may true∧bw true s.e args∧amw P tbl r.u s.ob (l8 s.e args) (fun v ob=>K ⟨o5 r.d v s.e,ob⟩) (x.ev s.e).bare)∧(b=false→K ⟨o5 r.d .undef s.e,s.ob⟩)
 | .nxt x=>(b=true→(x.ev s.e).may true∧awh s.ob (fun v ob=>K ⟨o5 r.d v s.e,ob⟩) (x.ev s.e).bare)∧(b=false→K ⟨o5 r.d .undef s.e,s.ob⟩)
def PR.wp (P:Program) (r:PR) (s:St) (K:St→Prop):Option Bool→Prop
 | some b=>r.x.wp P r s K b
 | none=>False
def wpR (P:Program):List PR→(St→Prop)→St→Prop
 | [],K,s=>K s
 | r::rs,K,s=>r.wp P s (wpR P rs K) (yes s.e r.g)
def au5 (P:Program) (m:String) (p:TypeId×FuncId):Bool:=xm P p.2&&(match P.info? p.1 with
 | some i=>match i.methods.find? (·.name == m) with
  | some q=>q.path.isEmpty&&(match q.func with | some (f,b)=>f == p.2&&b | none=>false)
  | none=>false
 | none=>false)&&al P p.1 (fun d=>match d with | .pointer _=>true | _=>false)
def ad7 (P:Program) (o:Oper):PX→Bool
 | .see po=>axp P o po
 | .act po=>al3 P o po
 | .call f args=>match o.op with
  | .call c=>match c.callee with
   | .value (.func f')=>f == f'&&u7 opd c.args.toList args&&xm P f
   | _=>false
  | _=>false
 | .callv x args=>match o.op with
  | .call c=>match c.callee with
   | .value x'=>opd x' x&&u7 opd c.args.toList args
   | _=>false
  | _=>false
 | .inv tbl x args=>match o.op with
  | .call c=>match c.callee with
   | .invoke r m=>opd r x&&u7 opd c.args.toList args&&tbl.all (au5 P m)
   | _=>false
  | _=>false
 | .nxt x=>match o.op with
  | .next it str=>opd it x && !str
  | _=>false
def a9m (ops:Array Oper):Option (Nat×Bool)→Option (Nat×Bool)→Bool
 | none,none=>true
 | some (j,b),some (t,b')=>b == b'&&((ops[j]?).bind (·.dst)) == some t
 | _,_=>false
def a15:PX→Bool
 | .see _=>true
 | _=>false
def a5j:PX→Bool
 | .act o=>!o.nod
 | _=>false
def ajb (P:Program) (n:Nat) (ops:Array Oper) (o:Oper) (r:PR):Bool:=
 o.dst == r.d&&(match r.d with | some d=>decide (d<n) | none=>!a15 r.x && !a5j r.x)&&a9m ops o.guard r.g&&ad7 P o r.x
def ar0 (ops:Array Oper) (pre:List (List Nat)):Bool:=
 pre.length == ops.size&&(zah ops.size).all fun j=>match ops[j]?,pre[j]? with
  | some o,some p=>o.after.all (fun e=>!Region.binds .any e||decide (e.on<j)) &&
    p.all (fun k=>decide (k<j)&&o.after.any fun e=>Region.binds .any e&&(e.on == k||(pre.getD e.on []).contains k))
  | _,_=>false
def mz (P:Program) (n:Nat):Code→PC→Bool
 | .skip,.skip=>true
 | .region _ ops d,.reg rs=>!d&&u7 (ajb P n ops) ops.toList rs
 | .region _ ops d,.drw rs pre=>d&&P.follows .mixedOrders&&u7 (ajb P n ops) ops.toList rs&&ar0 ops pre
 | .seq a b,.seq a' b'=>mz P n a a'&&mz P n b b'
 | .cond x a b,.cond x' a' b'=>opd x x'&&mz P n a a'&&mz P n b b'
 | .block i c,.block j c'=>i == j&&mz P n c c'
 | .loop c,.loop c'=>mz P n c c'
 | .exit i,.exit j=>i == j
 | .ret,.ret=>true
 | _,_=>false
section
variable {P:Program} {X:Cx} [GlC P X] {w w':World} {s:St} {ρ ρ':Pl→Option Nat} {a:Act} {o:Oper} {ob ob':Obs} {R R':Nat→Prop}
theorem bfe (hG:Gam X s ρ a w) {id ver lo len sz:Nat} {z:RV} {app wr:Bool} {xs:List RV} {c:Value} (hid:s.ob id=some (ver,.row sz z app wr xs)) (h:RA X s ρ w (.own id ver lo len) c) (hR:∀b,g8 X.B s.ob ρ w b→R b)
  (hb:∀b,ρ id=some b→b<w.heap.size→R b):RelV w R (.sl sz ((xs.drop lo).take len)) c:=by
 cases h;rename_i h;obtain ⟨A,cap,rfl,e2,e3,e4,e5⟩:=h.live hid;have hlen:((xs.drop lo).take len).length=len:=by simp; omega
 have key:=RelV.sl (w:=w) (R:=R) sz ((xs.drop lo).take len) A cap (by omega) e3;rw [hlen] at key
 have hget:∀(i:Nat) (x:RV),((xs.drop lo).take len)[i]?=some x→xs[lo+i]?=some x:=fun i x hi=>by
  rw [List.getElem?_take] at hi;split at hi
  ·rwa [List.getElem?_drop] at hi
  ·cases hi
 rcases hG.obj id ver _ hid with ⟨h1,h2⟩ | ⟨b,cs,e,fr,h1,h2,h3,h4,h5,h6⟩
 ·subst h1;have:len=0:=by have:lo+len≤0:=e4; omega
  subst this;exact key 0 0 (fun _ _=>undef) (by simp) (by simp) (by simp) (by simp)
 ·refine key b (lo*sz) (fun i j=>(cs[(lo+i)*sz+j]?).getD undef) (fun h0=>?_) (fun i x hi=>(h6 _ x (hget i x hi)).1) (fun i x j y hi hj=>?_) (fun i x j y hi hj=>?_)
  ·obtain ⟨b',cs',e',fr',f1,f2,f3,f4⟩:=e5 (by omega);rw [h1] at f1;cases f1;exact ⟨f2,hb b h1 (Array.getElem?_eq_some_iff.1 h2).1⟩
  ·obtain ⟨c,g1,g2,g3⟩:=(h6 _ x (hget i x hi)).2 j y hj;rw [g1];refine ⟨?_,g2⟩;simp only [World.cell?,h2,Option.isSome_none,Bool.false_eq_true,if_false,Option.getD_some];rw [← g1,Nat.add_mul]
  ·obtain ⟨c,g1,g2,g3⟩:=(h6 _ x (hget i x hi)).2 j y hj;rw [g1];exact g3.mono fun b hb'=>⟨hR b hb',rfl⟩
theorem a32 (hG:Gam X s ρ a w) {x:AV} {y:RV} {l:List Nat} {c:Value} (h:x.rv s.ob=some (y,l)) (hx:RA X s ρ w x c) (hR:∀b,g8 X.B s.ob ρ w b→R b) (hb:∀i,i∈l→∀b,ρ i=some b→b<w.heap.size→R b):RelV w R y c:=by
 unfold AV.rv at h;split at h
 ·cases h; cases hx; rename_i h; exact h.mono fun b hb'=>⟨hR b hb',rfl⟩
 ·cases h; cases hx;exact .sl _ [] none 0 (by simp) (by simp) 0 0 (fun _ _=>undef) (by simp) (by simp) (by simp) (by simp)
 ·split at h
  ·rename_i hr;cases h;exact bfe hG (p6 hr) hx hR (hb _ (by simp))
  ·cases h
 ·cases h
theorem ay6 (hG:Gam X s ρ a w) (hR:∀b,g8 X.B s.ob ρ w b→R b):∀{xs:List AV} {ys:List RV} {l:List Nat},rvs s.ob xs=some (ys,l)→(∀i,i∈l→∀b,ρ i=some b→b<w.heap.size→R b) →
  ∀(i:Nat) (x:AV) (y:RV) (c:Value),xs[i]?=some x→ys[i]?=some y→RA X s ρ w x c→RelV w R y c
 | [],ys,l,h,hs,i,x,y,c,hx,hy,hr=>by simp at hx
 | z::xs,ys,l,h,hs,i,x,y,c,hx,hy,hr=>by
  simp only [rvs] at h;split at h
  ·rename_i y' k zs j h1 h2;cases h;cases i with
   | zero=>
    simp at hx hy;subst hx; subst hy;exact a32 hG h1 hr hR (fun p hp=>hs p (by simp [hp]))
   | succ i=>
    simp at hx hy;exact ay6 hG hR h2 (fun p hp=>hs p (by simp [hp])) i x y c hx hy hr
  ·cases h
theorem a9x (hG:Gam X s ρ a w) (hR:∀b,g8 X.B s.ob ρ w b→R b) {x y:AV} {l:List Nat} {c:Value} (h:jb s.ob x=some (y,l)) (hb:∀i,i∈l→∀b,ρ i=some b→b<w.heap.size→R b) (hx:RA X s ρ w x c):RelA w R s.ob ρ y c:=by
 have keep:∀z:AV,RA X s ρ w z c→RelA w R s.ob ρ z c:=fun z hz=>hz.stays ⟨fun b hb'=>⟨hR b hb',rfl⟩,fun id v o h=>⟨v,o,h,zac _,fun _=>⟨rfl,y7.refl o,fun b cs e fr _ h=>⟨cs,e,fr,h,rfl⟩⟩⟩⟩;unfold jb at h;split at h
 ·split at h
  ·rename_i hr;cases h;exact .r (a32 hG hr hx hR hb)
  ·cases h
 ·cases h; cases hx;exact .r (.sl _ [] none 0 (by simp) (by simp) 0 0 (fun _ _=>undef) (by simp) (by simp) (by simp) (by simp))
 ·rename_i xs;split at h
  ·rename_i ys l' hrv;cases h;cases hx;rename_i cs hl hrel;refine .r (.agg _ _ (by rw [pu hrv]; exact hl) fun i y c hy hc=>?_);have hlt:i<xs.length:=by have:=(zaa.1 hy).1; have:=pu hrv; omega
   have hxi:xs[i]?=some xs[i]:=by simp [hlt]
   exact ay6 hG hR hrv hb i _ y c hxi hy (hrel i _ c hxi hc)
  ·cases h
 ·cases h
 ·cases h
 ·cases h;exact keep _ hx
theorem axv (hG:Gam X s ρ a w) (hR:∀b,g8 X.B s.ob ρ w b→R b):∀{xs ys:List AV} {l:List Nat},n6 s.ob xs=some (ys,l)→(∀i,i∈l→∀b,ρ i=some b→b<w.heap.size→R b) →
  ys.length=xs.length∧∀(i:Nat) (x y:AV) (c:Value),xs[i]?=some x→ys[i]?=some y→RA X s ρ w x c→RelA w R s.ob ρ y c
 | [],ys,l,h,hs=>by simp [n6] at h; obtain ⟨rfl,rfl⟩:=h; simp
 | z::xs,ys,l,h,hs=>by
  simp only [n6] at h;split at h
  ·rename_i y' k zs j h1 h2;cases h;obtain ⟨g1,g2⟩:=axv hG hR h2 (fun p hp=>hs p (by simp [hp]));refine ⟨by simp [g1],fun i x y c hx hy hr=>?_⟩;cases i with
   | zero=>
    simp at hx hy;subst hx; subst hy;exact a9x hG hR h1 (fun p hp=>hs p (by simp [hp])) hr
   | succ i=>
    simp at hx hy;exact g2 i x y c hx hy hr
  ·cases h
theorem a33 {x:AV} {y:RV} {l:List Nat} (h:x.rv ob=some (y,l)):∀i,i∈l→∃q,ob i=some q:=by
 unfold AV.rv at h;split at h
 ·cases h; simp
 ·cases h; simp
 ·split at h
  ·rename_i hr;cases h;intro i hi;simp at hi;subst hi;exact ⟨_,p6 hr⟩
  ·cases h
 ·cases h
theorem ay7:∀{xs:List AV} {ys:List RV} {l:List Nat},rvs ob xs=some (ys,l)→∀i,i∈l→∃q,ob i=some q
 | [],ys,l,h=>by simp [rvs] at h; simp [h.2]
 | z::xs,ys,l,h=>by
  simp only [rvs] at h;split at h
  ·rename_i y' k zs j h1 h2;cases h;intro i hi;rcases List.mem_append.1 hi with hi | hi
   ·exact a33 h1 i hi
   ·exact ay7 h2 i hi
  ·cases h
theorem axw:∀{xs ys:List AV} {l:List Nat},n6 ob xs=some (ys,l)→∀i,i∈l→∃q,ob i=some q
 | [],ys,l,h=>by simp [n6] at h; simp [h.2]
 | z::xs,ys,l,h=>by
  simp only [n6] at h;split at h
  ·rename_i y' k zs j h1 h2;cases h;intro i hi;rcases List.mem_append.1 hi with hi | hi
   ·unfold jb at h1;split at h1
    ·split at h1
     ·rename_i hr;cases h1;exact a33 hr i hi
     ·cases h1
    ·cases h1; simp at hi
    ·split at h1
     ·rename_i hr;cases h1;exact ay7 hr i hi
     ·cases h1
    ·cases h1
    ·cases h1
    ·cases h1; simp at hi
   ·exact axw h2 i hi
  ·cases h
theorem bda (i:Nat) {x:AV} {c:Value} (h:RelA w (g8 X.B ob ρ w) ob ρ x c):RelA w (g8 X.B (frz ob i (ob i)) ρ w) (frz ob i (ob i)) ρ x c:=by
 rcases hi:ob i with _ | ⟨v,cells | ⟨sz,z,app,wr,xs⟩ | T | _ | _⟩
 ·exact h
 ·exact h
 ·exact h.stays (Stays.freeze1 (X:=X) (s:=⟨fun _=>.undef,ob⟩) hi)
 ·exact h
 ·exact h
 ·exact h
theorem ai5:∀(l:List Nat) {ob:Obs} {x:AV} {c:Value},RelA w (g8 X.B ob ρ w) ob ρ x c→RelA w (g8 X.B (freeze ob l) ρ w) (freeze ob l) ρ x c
 | [],_,_,_,h=>h
 | i::is,_,_,_,h=>ai5 is (bda i h)
theorem a9y (hG:Gam X s ρ a w) {ob:Obs} {lall:List Nat} (hob:s.ob=Ev.freeze ob lall) {x y:AV} {l:List Nat} {c:Value} (h:jb ob x=some (y,l)) (hsub:∀i,i∈l→i∈lall) (hx:RA X s ρ w x c):RA X s ρ w y c:=by
 unfold jb at h;split at h
 ·split at h
  ·rename_i hr;cases h;exact .r (aqf hG hr hsub hob hx)
  ·cases h
 ·cases h; cases hx;exact .r (.sl _ [] none 0 (by simp) (by simp) 0 0 (fun _ _=>undef) (by simp) (by simp) (by simp) (by simp))
 ·rename_i xs;split at h
  ·rename_i ys l' hrv;cases h;cases hx;rename_i cs hl hrel;refine .r (.agg _ _ (by rw [pu hrv]; exact hl) fun i y c hy hc=>?_);have hlt:i<xs.length:=by have:=(zaa.1 hy).1; have:=pu hrv; omega
   have hxi:xs[i]?=some xs[i]:=by simp [hlt]
   exact ahj hG hob hrv hsub i _ y c hxi hy (hrel i _ c hxi hc)
  ·cases h
 ·cases h
 ·cases h
 ·cases h; exact hx
theorem axx (hG:Gam X s ρ a w) {ob:Obs} {lall:List Nat} (hob:s.ob=Ev.freeze ob lall):∀{xs ys:List AV} {l:List Nat},n6 ob xs=some (ys,l)→(∀i,i∈l→i∈lall) →
  ys.length=xs.length∧∀(i:Nat) (x y:AV) (c:Value),xs[i]?=some x→ys[i]?=some y→RA X s ρ w x c→RA X s ρ w y c
 | [],ys,l,h,hs=>by simp [n6] at h; obtain ⟨rfl,rfl⟩:=h; simp
 | z::xs,ys,l,h,hs=>by
  simp only [n6] at h;split at h
  ·rename_i y' k zs j h1 h2;cases h;obtain ⟨g1,g2⟩:=axx hG hob h2 (fun p hp=>hs p (by simp [hp]));refine ⟨by simp [g1],fun i x y c hx hy hr=>?_⟩;cases i with
   | zero=>
    simp at hx hy;subst hx; subst hy;exact a9y hG hob h1 (fun p hp=>hs p (by simp [hp])) hr
   | succ i=>
    simp at hx hy;exact g2 i x y c hx hy hr
  ·cases h
theorem ao0 {u m:Nat} {ids l:List Nat} {fz:Bool} (h:okC u ids m l fz=true):ids.length≤m∧(∀i j,i<m→j<m→j8 u ids i=j8 u ids j→i=j)∧100000+1000*u+m≤1000000∧(fz=false→∀i,i∈l→i∉ids):=by
 simp only [okC,Bool.and_eq_true,decide_eq_true_eq,Bool.or_eq_true] at h;obtain ⟨⟨⟨h1,h2⟩,h3⟩,h4⟩:=h;refine ⟨h1,fun i j hi hj e=>?_,h3,fun hf i hi hm=>?_⟩
 ·have g1:((zah m).map (j8 u ids))[i]?=some (j8 u ids i):=by simp [hi]
  have g2:((zah m).map (j8 u ids))[j]?=some (j8 u ids i):=by simp [hj,e]
  exact ak0 h2 g1 g2
 ·rw [hf] at h4;simp at h4;exact h4 i hi hm
theorem adv:∀{xs ys:List Ob},y9 xs ys→∀(k:Nat) (o o':Ob),xs[k]?=some o→ys[k]?=some o'→a0n o o'
 | [],_,_,k,c,c',h,_=>by simp at h
 | _::_,[],_,k,c,c',_,h=>by simp at h
 | x::xs,y::ys,hs,0,c,c',h,h'=>by
  simp at h h';subst h; subst h';cases x with
  | row sz z app wr l=>
   cases app with
   | true=>exact .inl rfl
   | false=>
    cases y with
    | row sz' z' app' wr' l'=>
     cases app' with
     | true=>exact hs.elim
     | false=>obtain ⟨⟨rfl,h⟩,_⟩:=hs; exact .inr ⟨_,_,_,rfl,h⟩
    | _=>exact hs.elim
  | _=>cases y<;>first | exact hs.1 | exact hs.elim | trivial
 | x::xs,y::ys,hs,k+1,c,c',h,h'=>by
  simp at h h'
  have:y9 xs ys:=by
   cases x with
   | row sz z app wr l=>
    cases app with
    | true=>cases y<;>exact hs
    | false=>
     cases y with
     | row sz' z' app' wr' l'=>
      cases app' with
      | true=>exact hs.elim
      | false=>exact hs.2
     | _=>exact hs.elim
   | _=>cases y<;>first | exact hs.2 | exact hs.elim | exact hs
  exact adv this k c c' h h'
theorem af0 {f:FuncId} {u:Nat} {K:AV→Obs→Prop} {vs:List AV} {cargs:Array Value} (hG:Gam X s ρ a w) (hq:li P f u s.ob vs [] true K) (hl:cargs.size=vs.length) (hr:∀(i:Nat) (x:AV) (c:Value),vs[i]?=some x→cargs[i]?=some c→RA X s ρ w x c) :
  Calls P f cargs w fun e w'=>∃c v ob' ρ',e=.returned c∧K v ob'∧Gam X ⟨s.e,ob'⟩ ρ' a w'∧RA X ⟨s.e,ob'⟩ ρ' w' v c:=by
 unfold li at hq;generalize x9:n9 s.ob 64 (m5 vs) []=ids at hq;unfold aeg at hq;split at hq
 ·cases hq
 ·rename_i po hpo;obtain ⟨res,ro,hT,hok,hsl,hfl,hK⟩:=hq;obtain ⟨k1,k2,k3,k4⟩:=ao0 hok
  have hRf:∀b,g8 X.B s.ob ρ w b→∀i,i∈ids→¬sq s.ob ρ i b:=fun b hb i hi hib=>by
   obtain ⟨hpl,hpa⟩:=aa9 hpo;obtain ⟨k,hk⟩:=zab.1 hi;have hlt:=(zaa.1 hk).1;obtain ⟨v,x,g1,g2,g3⟩:=hpa k i (po[k]'(by omega)) hk (by simp [show k<po.length by omega]);obtain ⟨y,q1,q2⟩:=hib;rw [g1] at q1;cases q1;exact hb.2.1 ⟨i,v,x,g1,g2,q2⟩
  refine (Gam.call (s:=s) (Bc:=fun b=>g8 X.B s.ob ρ w b∨(∃i,i∈ids∧sq s.ob ρ i b)∨w.heap.size≤b) (Ra:=g8 X.B s.ob ρ w) hG hpo hT k1 k2 k3 hl (fun i x c hx hc=>hr i x c hx hc)
   (fun b hb=>⟨hb.1,.inl hb,hRf b hb⟩) (fun _ h=>.inl h) (fun _ h=>.inr h) (adv hsl) (.inr fun _ h=>h)).mono ?_
  rintro e w' ⟨c,ρ',rfl,h1,h2⟩;exact ⟨c,_,_,ρ',rfl,hK,h1,h2⟩
theorem Gam.boxify (hG:Gam X s ρ a w) {id v:Nat} {z:RV} {vs:List Value} (hid:s.ob id=some (v,.row 1 z true true (vs.map RV.v))) (hne:vs≠[]) :
  ∃m,Gam X ⟨s.e,upd id (v,.box (vs.map (fun x=>AV.r (.v x))++zai m .undef)) s.ob⟩ ρ a w ∧
   Stays w w (g8 X.B s.ob ρ w) (g8 X.B (upd id (v,.box (vs.map (fun x=>AV.r (.v x))++zai m .undef)) s.ob) ρ w) s.ob (upd id (v,.box (vs.map (fun x=>AV.r (.v x))++zai m .undef)) s.ob) ρ ρ:=by
 rcases hG.obj id v _ hid with ⟨h0,_⟩ | ⟨b,cs,e,fr,h1,h2,h3,h4,h5,h6⟩
 ·simp at h0; exact absurd h0 hne
 ·obtain rfl:fr=(0,0):=h4 rfl;have hlen:vs.length≤cs.size:=by simpa using h5
  refine ⟨cs.size-vs.length,?_⟩;generalize hbx:vs.map (fun x=>AV.r (.v x))++zai (cs.size-vs.length) AV.undef=bx;have hbl:bx.length=cs.size:=by rw [← hbx]; simp; omega
  have hfr:∀c,g8 X.B s.ob ρ w c→g8 X.B (upd id (v,.box bx) s.ob) ρ w c:=fun c hc=>⟨hc.1,fun ⟨j,v',o,g1,g2,g3⟩=>by
   by_cases hj:j=id
   ·subst hj;simp [upd] at g1;obtain ⟨rfl,rfl⟩:=g1;rw [fm rfl] at g3;exact hc.2.1 ⟨j,v,_,hid,rfl,by rw [fm rfl]; exact g3⟩
   ·simp only [upd,hj,if_false] at g1
    exact hc.2.1 ⟨j,v',o,g1,g2,g3⟩,hc.2.2⟩
  have hs:Stays w w (g8 X.B s.ob ρ w) (g8 X.B (upd id (v,.box bx) s.ob) ρ w) s.ob (upd id (v,.box bx) s.ob) ρ ρ:=by
   refine ⟨fun c hc=>⟨hfr c hc,rfl⟩,fun j v' o hj=>?_⟩;by_cases hji:j=id
   ·subst hji;rw [hid] at hj;cases hj;exact ⟨v,.box bx,by simp [upd],zac _,fun _=>⟨rfl,rfl,fun b cs e fr _ h=>⟨cs,e,fr,h,rfl⟩⟩⟩
   ·exact ⟨v',o,by simp [upd,hji,hj],zac _,fun _=>⟨rfl,y7.refl o,fun b cs e fr _ h=>⟨cs,e,fr,h,rfl⟩⟩⟩
  have hold:∀j x c,upd id (v,Ob.box bx) s.ob j=some x→foot ρ j x.2 c→∃y,s.ob j=some y∧foot ρ j y.2 c:=fun j x c hx hf=>by
   by_cases hji:j=id
   ·subst hji;simp [upd] at hx;subst hx;rw [fm rfl] at hf;exact ⟨_,hid,by rw [fm rfl]; exact hf⟩
   ·simp only [upd,hji,if_false] at hx;exact ⟨x,hx,hf⟩
  refine ⟨hG.step hs (fun j v' o h=>?_) (fun i j x x' c hx hx' hf hf'=>?_) hG.keeps (fun j v' o c h hf=>?_) (fun j c o h hc hp hb=>?_),hs⟩
  ·by_cases hji:j=id
   ·subst hji;simp [upd] at h;obtain ⟨rfl,rfl⟩:=h;refine .inr ⟨b,cs,e,h1,h2,hbl.symm,fun i x c hx hc=>?_⟩;rw [← hbx] at hx;by_cases hi:i<vs.length
    ·rw [List.getElem?_append_left (by simpa using hi)] at hx;have hvi:(vs.map RV.v)[i]?=some (.v vs[i]):=by simp [hi]
     obtain ⟨_,g⟩:=h6 i _ hvi;obtain ⟨c',g1,g2,g3⟩:=g 0 (.v vs[i]) rfl;rw [Nat.mul_one,Nat.add_zero,hc] at g1;cases g1;simp [hi] at hx;subst hx;exact .r (g3.mono fun b hb=>⟨hfr b hb,rfl⟩)
    ·rw [List.getElem?_append_right (by simpa using hi)] at hx;have:=zae hx;rw [List.mem_replicate] at this;rw [this.2];exact .undef _
   ·simp only [upd,hji,if_false] at h;exact .inl ⟨h,rfl,fun _=>rfl,fun _ _=>rfl⟩
  ·obtain ⟨y,g1,g2⟩:=hold i x c hx hf;obtain ⟨y',g1',g2'⟩:=hold j x' c hx' hf';exact hG.inj i j y y' c g1 g1' g2 g2'
  ·obtain ⟨y,g1,g2⟩:=hold j _ c h hf;exact hG.own j y.1 y.2 c g1 g2
  ·by_cases hji:j=id
   ·subst hji;rw [hG.unpinned hid rfl] at h;cases h
   ·exact ⟨hb,o,by simp [upd,hji,hc],hp⟩
theorem ajd {f:FuncId} {u:Nat} {K:AV→Obs→Prop} {vs:List AV} {cargs:Array Value} (hG:Gam X s ρ a w) (h:agk P f u s.ob K vs (n6 s.ob vs)) (hl:cargs.size=vs.length) (hr:∀(i:Nat) (x:AV) (c:Value),vs[i]?=some x→cargs[i]?=some c→RA X s ρ w x c) :
  Calls P f cargs w fun e w'=>∃c v ob' ρ',e=.returned c∧K v ob'∧Gam X ⟨s.e,ob'⟩ ρ' a w'∧RA X ⟨s.e,ob'⟩ ρ' w' v c:=by
 have frozen:∀(as:List AV) (l:List Nat),n6 s.ob vs=some (as,l)→li P f u (freeze s.ob l) as l true K→Calls P f cargs w fun e w'=>∃c v ob' ρ',e=.returned c∧K v ob'∧Gam X ⟨s.e,ob'⟩ ρ' a w'∧RA X ⟨s.e,ob'⟩ ρ' w' v c:=by
  intro as l ha hq;have hG':=Gam.freeze (s:=s) l (ob:=s.ob) hG;unfold li at hq;generalize x9:n9 (freeze s.ob l) 64 (m5 as) []=ids at hq;unfold aeg at hq;split at hq
  ·cases hq
  ·rename_i po hpo;obtain ⟨res,ro,hT,hok,hsl,hfl,hK⟩:=hq;obtain ⟨k1,k2,k3,k4⟩:=ao0 hok
   have hRf:∀b,g8 X.B (freeze s.ob l) ρ w b→∀i,i∈ids→¬sq (freeze s.ob l) ρ i b:=fun b hb i hi hib=>by
    obtain ⟨hpl,hpa⟩:=aa9 hpo;obtain ⟨k,hk⟩:=zab.1 hi;have hlt:=(zaa.1 hk).1;obtain ⟨v,x,g1,g2,g3⟩:=hpa k i (po[k]'(by omega)) hk (by simp [show k<po.length by omega]);obtain ⟨y,q1,q2⟩:=hib;rw [g1] at q1;cases q1;exact hb.2.1 ⟨i,v,x,g1,g2,q2⟩
   obtain ⟨g1,g2⟩:=axx (s:=⟨s.e,freeze s.ob l⟩) hG' rfl ha (fun _ h=>h)
   refine (Gam.call (s:=⟨s.e,freeze s.ob l⟩) (Bc:=fun b=>g8 X.B (freeze s.ob l) ρ w b∨(∃i,i∈ids∧sq (freeze s.ob l) ρ i b)∨w.heap.size≤b) (Ra:=g8 X.B (freeze s.ob l) ρ w) hG' hpo hT k1 k2 k3 (by rw [g1,hl]) (fun i x c hx hc=>?_)
    (fun b hb=>⟨hb.1,.inl hb,hRf b hb⟩) (fun _ h=>.inl h) (fun _ h=>.inr h) (adv hsl) (.inr fun _ h=>h)).mono ?_
   ·have hlt:=(zaa.1 hx).1;have hv:vs[i]?=some (vs[i]'(by omega)):=by simp [show i<vs.length by omega]
    exact g2 i _ x c hv hx (ai5 l (hr i _ c hv hc))
   ·rintro e w' ⟨c,ρ',rfl,h1,h2⟩;exact ⟨c,_,_,ρ',rfl,hK,h1,h2⟩
 have lent:∀(as:List AV) (l:List Nat),n6 s.ob vs=some (as,l)→li P f u s.ob as l false K→Calls P f cargs w fun e w'=>∃c v ob' ρ',e=.returned c∧K v ob'∧Gam X ⟨s.e,ob'⟩ ρ' a w'∧RA X ⟨s.e,ob'⟩ ρ' w' v c:=by
  intro as l ha hq;unfold li at hq;generalize x9:n9 s.ob 64 (m5 as) []=ids at hq;unfold aeg at hq;split at hq
  ·cases hq
  ·rename_i po hpo;obtain ⟨res,ro,hT,hok,hsl,hfl,hK⟩:=hq;obtain ⟨k1,k2,k3,k4⟩:=ao0 hok
   have hRf:∀b,g8 X.B s.ob ρ w b→b<w.heap.size∧∀i,i∈ids→¬sq s.ob ρ i b:=fun b hb=>⟨hb.1,fun i hi hib=>by
    obtain ⟨hpl,hpa⟩:=aa9 hpo;obtain ⟨k,hk⟩:=zab.1 hi;have hlt:=(zaa.1 hk).1;obtain ⟨v,x,g1,g2,g3⟩:=hpa k i (po[k]'(by omega)) hk (by simp [show k<po.length by omega]);obtain ⟨y,q1,q2⟩:=hib;rw [g1] at q1;cases q1
    exact hb.2.1 ⟨i,v,x,g1,g2,q2⟩⟩
   have hdis:∀i,i∈l→∀b,ρ i=some b→b<w.heap.size→b<w.heap.size∧∀j,j∈ids→¬sq s.ob ρ j b:=fun i hi b hb hlt=>⟨hlt,fun j hj hjb=>by
    obtain ⟨q,hq⟩:=axw ha i hi;obtain ⟨hpl,hpa⟩:=aa9 hpo;obtain ⟨k,hk⟩:=zab.1 hj;have hlt:=(zaa.1 hk).1;obtain ⟨v,x,g1,g2,g3⟩:=hpa k j (po[k]'(by omega)) hk (by simp [show k<po.length by omega]);obtain ⟨y,q1,q2⟩:=hjb;have:=hG.inj i j _ _ b hq q1 (.inl hb) q2;subst this
    exact k4 rfl i hi hj⟩
   obtain ⟨g1,g2⟩:=axv hG (R:=fun b=>b<w.heap.size∧∀i,i∈ids→¬sq s.ob ρ i b) hRf ha hdis;refine (Gam.call (Bc:=fun _=>True) (Ra:=fun b=>b<w.heap.size∧∀i,i∈ids→¬sq s.ob ρ i b) hG hpo hT k1 k2 k3 (by rw [g1,hl]) (fun i x c hx hc=>?_) (fun b hb=>⟨hb.1,trivial,hb.2⟩) (fun _ _=>trivial) (fun _ _=>trivial) (adv hsl) (.inl (hfl rfl))).mono ?_
   ·have hlt:=(zaa.1 hx).1;have hv:vs[i]?=some (vs[i]'(by omega)):=by simp [show i<vs.length by omega]
    exact g2 i _ x c hv hx (hr i _ c hv hc)
   ·rintro e w' ⟨c,ρ',rfl,h1,h2⟩;exact ⟨c,_,_,ρ',rfl,hK,h1,h2⟩
 rcases ha:n6 s.ob vs with _ | ⟨as,_ | ⟨i,l⟩⟩
 ·rw [ha] at h; exact af0 hG h hl hr
 ·rw [ha] at h; exact frozen as [] ha h
 ·rw [ha] at h;rcases h with h | h | h | h | h
  ·exact frozen as _ ha h
  ·exact lent as _ ha h
  ·exact af0 hG h hl hr
  ·obtain ⟨id,v,z,xs,h1,h2,h3⟩:=h;obtain ⟨m,g1,g2⟩:=hG.boxify h1 h2;exact af0 (s:=⟨s.e,upd id (v,.box (xs.map (fun x=>AV.r (.v x))++zai m .undef)) s.ob⟩) g1 (h3 m) hl fun i x c hx hc=>(hr i x c hx hc).stays g2
  ·obtain ⟨id,v,sz,z,xs,h1,h2,h3⟩:=h;exact af0 (s:=⟨s.e,upd id (v,.row sz z false true xs) s.ob⟩) (hG.shut1 h1 h2) h3 hl fun i x c hx hc=>(hr i x c hx hc).stays (Stays.shut1 (X:=X) (w:=w) (ρ:=ρ) h1)
end

structure Lg where
 us:List Nat
 d:List Nat
 rd:List Nat
 wr:List Nat
 ad:Bool
 st:Bool
instance:Inhabited Lg:=⟨⟨[],[],[],[],false,false⟩⟩
def PX.adr:PX→Bool
 | .see o=>o.adr
 | _=>false
def PX.sto:PX→Bool
 | .act (.st _ _ _)=>true
 | _=>false
structure Out where
 ok:Prop
 st:St
 lg:Lg
abbrev Ans:=AV×List Ob
def PX.us:PX→List Nat
 | .see o=>o.us
 | .act o=>o.us
 | .call _ xs=>usL xs
 | .callv x xs=>x.us++usL xs
 | .inv _ x xs=>x.us++usL xs
 | .nxt x=>x.us
def gus:Option (Nat×Bool)→List Nat
 | none=>[]
 | some (t,_)=>[t]
def PR.lg (r:PR) (rd wr:List Nat):Lg:=⟨gus r.g++(r.x.us++r.d.toList),r.d.toList,rd,wr,r.x.adr,r.x.sto⟩
def dw (u:Nat) (ids:List Nat) (m:Nat):List Nat:=(zah m).map (j8 u ids)
def ah4 (P:Program) (r:PR) (s:St) (f:FuncId) (p:Prop) (c:Ans) (as:List AV) (l:List Nat) (fz:Bool) (ids:List Nat):Option (List Ob)→Out
 | none=>⟨False,s,r.lg [] []⟩
 | some po=>⟨p∧a8 P f (imL (fwd s.ob ids) as) po c.1 c.2∧okC r.u ids c.2.length l fz=true∧y9 po c.2∧(fz=false→v9 c.1∧∀o∈c.2,ea o),
   ⟨o5 r.d (imV (back s.ob r.u ids c.2.length) c.1) s.e,cw s.ob r.u ids (back s.ob r.u ids c.2.length) 0 c.2⟩,r.lg (l++(ids++dw r.u ids c.2.length)) (dw r.u ids c.2.length)⟩
def bz (vs:List AV):Option (List AV×List Nat)→List AV×List Nat×Bool
 | none=>(vs,m5 vs,true)
 | some (as,[])=>(as,[],true)
 | some (as,i::l)=>(as,i::l,false)
def az (P:Program) (r:PR) (s:St) (f:FuncId) (p:Prop) (c:Ans) (a:List AV×List Nat×Bool):Out:=
 ah4 P r s f p c a.1 a.2.1 a.2.2 (n9 s.ob 64 (m5 a.1) []) (u3 (fwd s.ob (n9 s.ob 64 (m5 a.1) [])) s.ob (n9 s.ob 64 (m5 a.1) []))
def aap (P:Program) (r:PR) (s:St) (p:Prop) (c:Ans) (vs:List AV):AV→Out
 | .fn (.func f) cap k=>az P r s f (p∧xm P f=true) c (bz (cap.take k++(vs++cap.drop k)) (n6 s.ob (cap.take k++(vs++cap.drop k))))
 | _=>⟨False,s,r.lg [] []⟩
def ur (P:Program) (r:PR) (s:St) (tbl:List (TypeId×FuncId)) (p:Prop) (c:Ans) (vs:List AV):AV→Out
 | .ifc t x=>match dz t tbl with
  | some f=>az P r s f p c (bz (x::vs) (n6 s.ob (x::vs)))
  | none=>⟨False,s,r.lg [] []⟩
 | _=>⟨False,s,r.lg [] []⟩
def PX.out (P:Program) (r:PR) (s:St) (c:Ans):PX→Option Bool→Out
 | _,none=>⟨False,s,r.lg [] []⟩
 | .see o,some b=>⟨(o.see b s.e s.ob).ok,⟨o5 r.d (gdv r.g b (o.see b s.e s.ob).v) s.e,s.ob⟩,r.lg (o.see b s.e s.ob).rd []⟩
 | .act o,some true=>⟨(o.act (r.d.getD 0) s.e s.ob).ok,⟨o5 r.d (o.act (r.d.getD 0) s.e s.ob).v s.e,(o.act (r.d.getD 0) s.e s.ob).ob⟩,r.lg (o.act (r.d.getD 0) s.e s.ob).rd (o.act (r.d.getD 0) s.e s.ob).wr⟩
 | .call f xs,some true=>az P r s f (bw true s.e xs) c (bz (l8 s.e xs) (n6 s.ob (l8 s.e xs)))
 | .callv x xs,some true=>aap P r s ((x.ev s.e).may true∧bw true s.e xs) c (l8 s.e xs) (x.ev s.e).bare
 | .inv tbl x xs,some true=>ur P r s tbl ((x.ev s.e).may true∧bw true s.e xs) c (l8 s.e xs) (x.ev s.e).bare
 | .nxt _,some true=>⟨False,s,r.lg [] []⟩
 | _,some false=>⟨True,⟨o5 r.d .undef s.e,s.ob⟩,r.lg [] []⟩
def PR.out (P:Program) (r:PR) (s:St) (c:Ans):Out:=r.x.out P r s c (yes s.e r.g)
section
variable {P:Program} {s s':St} {ob ob':Obs} {c:Ans} {r:PR}
theorem aps {f:FuncId} {p:Prop} {K:St→Prop} {vs:List AV} {a:Option (List AV×List Nat)} (h:(az P r s f p c (bz vs a)).ok) (hK:K (az P r s f p c (bz vs a)).st):p∧agk P f r.u s.ob (fun v ob=>K ⟨o5 r.d v s.e,ob⟩) vs a:=by
 have key:∀(as:List AV) (l:List Nat) (fz:Bool),(az P r s f p c (as,l,fz)).ok→K (az P r s f p c (as,l,fz)).st→p∧li P f r.u s.ob as l fz (fun v ob=>K ⟨o5 r.d v s.e,ob⟩):=fun as l fz h hK=>by
  simp only [az] at h hK;generalize x9:n9 s.ob 64 (m5 as) []=ids at h hK;rcases hpo:u3 (fwd s.ob ids) s.ob ids with _ | po
  ·rw [hpo] at h; exact h.elim
  ·rw [hpo] at h hK;obtain ⟨h0,h1,h2,h3,h4⟩:=h;refine ⟨h0,?_⟩;unfold li;rw [x9,hpo];exact ⟨_,_,h1,h2,h3,h4,hK⟩
 rcases a with _ | ⟨as,_ | ⟨i,l⟩⟩
 ·obtain ⟨h0,h1⟩:=key vs (m5 vs) true h hK;refine ⟨h0,?_⟩;show li P f r.u s.ob vs [] true _;unfold li aeg at h1 ⊢;split at h1
  ·exact h1.elim
  ·obtain ⟨r1,o1,q1,q2,q3⟩:=h1;refine ⟨r1,o1,q1,?_,q3⟩;unfold okC at q2 ⊢;simpa using q2
 ·exact key as [] true h hK
 ·obtain ⟨h0,h1⟩:=key as (i::l) false h hK;exact ⟨h0,Or.inr (Or.inl h1)⟩
theorem bft {K:St→Prop} (h:(r.out P s c).ok) (hK:K (r.out P s c).st):r.wp P s K (yes s.e r.g):=by
 rcases r with ⟨d,g,u,x⟩
 unfold PR.out at h hK;simp only at h hK ⊢;generalize yes s.e g=y at h hK ⊢;rcases y with _ | b
 ·have h:False:=by cases x<;>exact h
  exact h.elim
 ·simp only [PR.wp];cases x with
  | see o=>exact ⟨h,hK⟩
  | act o=>cases b with
   | true=>exact ⟨fun _=>⟨h,hK⟩,by simp⟩
   | false=>exact ⟨by simp,fun _=>hK⟩
  | call f xs=>cases b with
   | true=>exact ⟨fun _=>aps h hK,by simp⟩
   | false=>exact ⟨by simp,fun _=>hK⟩
  | callv x xs=>cases b with
   | true=>
    refine ⟨fun _=>?_,by simp⟩;simp only [PX.out] at h hK;generalize (x.ev s.e).bare=y at h hK ⊢;cases y with
    | fn f cap k=>cases f with
     | func f=>
      have:=aps (vs:=cap.take k++(l8 s.e xs++cap.drop k)) h hK;exact ⟨this.1.1.1,this.1.1.2,this.1.2,this.2⟩
     | _=>exact (show False from h).elim
    | _=>exact (show False from h).elim
   | false=>exact ⟨by simp,fun _=>hK⟩
  | inv tbl x xs=>cases b with
   | true=>
    refine ⟨fun _=>?_,by simp⟩;simp only [PX.out] at h hK;generalize (x.ev s.e).bare=y at h hK ⊢;cases y with
    | ifc t y=>
     simp only [ur,amw] at h hK ⊢;generalize dz t tbl=q at h hK ⊢;cases q with
     | some f=>
      have:=aps (vs:=y::l8 s.e xs) h hK;exact ⟨this.1.1,this.1.2,this.2⟩
     | none=>exact (show False from h).elim
    | _=>exact (show False from h).elim
   | false=>exact ⟨by simp,fun _=>hK⟩
  | nxt x=>cases b with
   | true=>exact (show False from h).elim
   | false=>exact ⟨by simp,fun _=>hK⟩
theorem a2y {x y:AV} {l:List Nat} (h:jb ob x=some (y,l)) (hs:dr ob ob' l):jb ob' x=some (y,l):=by
 cases x with
 | own id ver lo len=>
  simp only [jb] at h ⊢;split at h
  ·rename_i y' fz hr;cases h;rw [aor hr hs]
  ·cases h
 | agg xs=>
  simp only [jb] at h ⊢;split at h
  ·rename_i y' fz hr;cases h;rw [afy hr hs]
  ·cases h
 | _=>exact h
theorem aje:∀{xs ys:List AV} {l:List Nat},n6 ob xs=some (ys,l)→dr ob ob' l→n6 ob' xs=some (ys,l)
 | [],ys,l,h,hs=>h
 | x::xs,ys,l,h,hs=>by
  simp only [n6] at h ⊢;split at h
  ·rename_i y k zs j h1 h2;cases h;obtain ⟨g1,g2⟩:=aet hs;rw [a2y h1 g1,aje h2 g2]
  ·cases h
theorem aiq:∀(n:Nat) (todo acc:List Nat) (i:Nat),i∈acc→i∈n9 ob n todo acc
 | 0,todo,acc,i,h=>h
 | n+1,[],acc,i,h=>h
 | n+1,j::todo,acc,i,h=>by
  unfold n9;split
  ·exact aiq n todo acc i h
  ·exact aiq n _ _ i (by simp [h])
theorem agq:∀(n:Nat) (todo acc:List Nat),dr ob ob' (n9 ob n todo acc)→n9 ob' n todo acc=n9 ob n todo acc
 | 0,todo,acc,hs=>rfl
 | n+1,[],acc,hs=>rfl
 | n+1,j::todo,acc,hs=>by
  unfold n9 at hs ⊢;split
  ·rename_i hc;rw [if_pos hc] at hs;exact agq n todo acc hs
  ·rename_i hc;rw [if_neg hc] at hs;rw [hs j (aiq n _ _ j (by simp))];exact agq n _ _ hs
theorem bc4 {i k:Nat} {l:List Nat} (h:idx i l=some k):i∈l:=zae (aiz h)
theorem auj {ids:List Nat} (hs:dr ob ob' ids):fwd ob' ids=fwd ob ids:=by
 funext id ver;unfold fwd;split
 ·rename_i k hk;rw [hs id (bc4 hk)]
 ·rfl
theorem ank {F:Ren}:∀{ids:List Nat},dr ob ob' ids→u3 F ob' ids=u3 F ob ids
 | [],hs=>rfl
 | i::ids,hs=>by
  simp only [u3];rw [hs i (by simp),ank (fun j hj=>hs j (by simp [hj]))]
theorem a5a {u m k:Nat} {ids:List Nat} (h:k<m):j8 u ids k∈dw u ids m:=by
 simp only [dw,List.mem_map,List.mem_range];exact ⟨k,h,rfl⟩
theorem ar8 {u m k:Nat} {ids:List Nat} (hs:dr ob ob' (dw u ids m)) (h:k<m):ij ob' u ids k=ij ob u ids k:=by
 have:=hs _ (a5a (u:=u) (ids:=ids) h);unfold ij;unfold j8 at this;split
 ·rename_i i hi;rw [hi] at this;simp only at this;rw [this];rcases ob i with _ | ⟨v,_ | _⟩<;>rfl
 ·rename_i hi;rw [hi] at this;exact aex this
theorem a2x {u m:Nat} {ids:List Nat} (hs:dr ob ob' (dw u ids m)):back ob' u ids m=back ob u ids m:=by
 funext id ver;unfold back;split
 ·rename_i h;rw [ar8 hs h.2.2]
 ·rfl
theorem aql {u m:Nat} {ids:List Nat} {F:Ren} (hs:dr ob ob' (dw u ids m)):∀{os:List Ob} {k:Nat},k+os.length≤m →
  (∀j,k≤j→j<k+os.length→cw ob' u ids F k os (j8 u ids j)=cw ob u ids F k os (j8 u ids j))∧(∀i,(∀j,k≤j→j<k+os.length→i≠j8 u ids j)→cw ob' u ids F k os i=ob' i)
 | [],k,h=>⟨fun j h1 h2=>by simp at h2; omega,fun i h=>rfl⟩
 | o::os,k,h=>by
  simp at h;obtain ⟨g1,g2⟩:=aql (F:=F) hs (os:=os) (k:=k+1) (by omega);refine ⟨fun j h1 h2=>?_,fun i hi=>?_⟩
  ·simp at h2;simp only [cw,upd,ar8 hs (show k<m by omega)];split
   ·rfl
   ·rename_i hne;refine g1 j ?_ (by omega);rcases Nat.lt_or_ge k j with h | h
    ·omega
    ·have:j=k:=by omega
     subst this; exact (hne rfl).elim
  ·simp only [cw,upd];rw [if_neg (hi k (zac _) (by simp))];exact g2 i fun j h1 h2=>hi j (by omega) (by simp; omega)
theorem yi {d:Option Nat} {x:AV} {e e':Env} {t:Nat} (h:t∈d.toList):o5 d x e' t=o5 d x e t:=by
 cases d with
 | none=>simp at h
 | some d=>simp at h; subst h; simp [o5,put]
theorem ke {d:Option Nat} {x:AV} {e:Env} {t:Nat} (h:t∉d.toList):o5 d x e t=e t:=by
 cases d with
 | none=>rfl
 | some d=>simp at h; simp [o5,put,h]
theorem a26 {g:Option (Nat×Bool)} {e e':Env} (h:∀t,t∈gus g→e' t=e t):yes e' g=yes e g:=by
 cases g with
 | none=>rfl
 | some p=>simp only [yes,h p.1 (by simp [gus])]
def ax4 (r:PR) (s s':St) (o o':Out):Prop:=
 o'.ok∧(∀t,t∈r.d.toList→o'.st.e t=o.st.e t)∧(∀t,t∉r.d.toList→o'.st.e t=s'.e t) ∧
 (∀i,i∈o.lg.wr→i∈o.lg.rd∧o'.st.ob i=o.st.ob i)∧(∀i,i∉o.lg.wr→o'.st.ob i=s'.ob i)
theorem baa {x:AV} (h:∀i,i∈x9 x→ob' i=ob i):x.rv ob'=x.rv ob:=by
 cases x with
 | own id ver lo len=>simp only [AV.rv,i9,h id (by simp [x9])]
 | _=>rfl
theorem a31:∀{xs:List AV},(∀i,i∈m5 xs→ob' i=ob i)→rvs ob' xs=rvs ob xs
 | [],_=>rfl
 | x::xs,h=>by
  simp only [rvs];rw [baa (fun i hi=>h i (by simp [m5,hi])),a31 (fun i hi=>h i (by simp [m5,hi]))]
theorem bd6 {x:AV} (h:∀i,i∈x9 x→ob' i=ob i):jb ob' x=jb ob x:=by
 cases x with
 | own id ver lo len=>simp only [jb]; rw [baa h]
 | agg xs=>simp only [jb]; rw [a31 (fun i hi=>h i (by simpa [x9] using hi))]
 | _=>rfl
theorem a0j:∀{xs:List AV},(∀i,i∈m5 xs→ob' i=ob i)→n6 ob' xs=n6 ob xs
 | [],_=>rfl
 | x::xs,h=>by
  simp only [n6];rw [bd6 (fun i hi=>h i (by simp [m5,hi])),a0j (fun i hi=>h i (by simp [m5,hi]))]
theorem al4 {f:FuncId} {p:Prop} {as:List AV} (h:(az P r s f p c (bz as (n6 s.ob as))).ok) (hs:dr s.ob s'.ob (az P r s f p c (bz as (n6 s.ob as))).lg.rd) :
  ax4 r s s' (az P r s f p c (bz as (n6 s.ob as))) (az P r s' f p c (bz as (n6 s'.ob as))):=by
 have key:∀(a:List AV×List Nat×Bool),(az P r s f p c a).ok→dr s.ob s'.ob (az P r s f p c a).lg.rd→(dr s.ob s'.ob a.2.1→bz as (n6 s'.ob as)=a)→ax4 r s s' (az P r s f p c a) (az P r s' f p c (bz as (n6 s'.ob as))):=fun a h hs ha=>by
  obtain ⟨bs,l,fz⟩:=a;simp only [az] at h hs ⊢;rcases hpo:u3 (fwd s.ob (n9 s.ob 64 (m5 bs) [])) s.ob (n9 s.ob 64 (m5 bs) []) with _ | po
  ·rw [hpo] at h; exact (show False from h).elim
  ·rw [hpo] at h hs;simp only [ah4,PR.lg] at hs;obtain ⟨s1,s2⟩:=aet hs;obtain ⟨s2,s3⟩:=aet s2;rw [ha s1];simp only;rw [agq 64 (m5 bs) [] s2];generalize n9 s.ob 64 (m5 bs) []=ids at *;rw [auj s2,ank s2,hpo];simp only [ah4,PR.lg] at h ⊢;rw [auj s2,a2x s3];have hp:=aql (F:=back s.ob r.u ids c.2.length) s3 (os:=c.2) (k:=0) (by simp);have hn:∀i,i∈dw r.u ids c.2.length↔∃j,j<c.2.length∧j8 r.u ids j=i:=fun i=>by simp [dw]
   refine ⟨h,fun t ht=>yi ht,fun t ht=>ke ht,fun i hi=>⟨by simp [hi],?_⟩,fun i hi=>?_⟩
   ·obtain ⟨j,hj,rfl⟩:=(hn i).1 hi;exact hp.1 j (Nat.zero_le _) (by simpa using hj)
   ·refine hp.2 i fun j h1 h2 hij=>hi ((hn i).2 ⟨j,by simpa using h2,hij.symm⟩)
 refine key _ h hs fun h1=>?_;rcases ha:n6 s.ob as with _ | ⟨bs,_ | ⟨i,l⟩⟩
 ·rw [ha] at h1;rw [a0j (ob:=s.ob) (fun i hi=>h1 i hi),ha]
 ·rw [aje ha (fun i hi=>by simp at hi)]
 ·rw [ha] at h1;rw [aje ha h1]
theorem a6h {p:Prop} {vs:List AV} {y:AV} (h:(aap P r s p c vs y).ok) (hs:dr s.ob s'.ob (aap P r s p c vs y).lg.rd):ax4 r s s' (aap P r s p c vs y) (aap P r s' p c vs y):=by
 cases y with
 | fn f cap k=>cases f with
  | func f=>exact al4 h hs
  | _=>exact (show False from h).elim
 | _=>exact (show False from h).elim
theorem a6i {tbl:List (TypeId×FuncId)} {p:Prop} {vs:List AV} {y:AV} (h:(ur P r s tbl p c vs y).ok) (hs:dr s.ob s'.ob (ur P r s tbl p c vs y).lg.rd):ax4 r s s' (ur P r s tbl p c vs y) (ur P r s' tbl p c vs y):=by
 cases y with
 | ifc t y=>
  simp only [ur] at h hs ⊢;generalize dz t tbl=q at h hs ⊢;cases q with
  | some f=>exact al4 h hs
  | none=>exact (show False from h).elim
 | _=>exact (show False from h).elim
theorem apt {tbl:List (TypeId×FuncId)} {p:Prop} {vs:List AV} {y:AV}:∃rd wr,(ur P r s tbl p c vs y).lg=r.lg rd wr:=by
 cases y with
 | ifc t y=>
  simp only [ur];generalize dz t tbl=q;cases q with
  | some f=>
   simp only;generalize bz (y::vs) (n6 s.ob (y::vs))=q;simp only [az];generalize u3 _ _ _=po;cases po<;>exact ⟨_,_,rfl⟩
  | none=>exact ⟨_,_,rfl⟩
 | _=>exact ⟨_,_,rfl⟩
theorem asr (h:(r.out P s c).ok) (he:∀t,t∈(r.out P s c).lg.us→s'.e t=s.e t) (hs:r.x.adr=false→dr s.ob s'.ob (r.out P s c).lg.rd) (hpn:a6z s.ob s'.ob (r.out P s c).lg.rd):ax4 r s s' (r.out P s c) (r.out P s' c):=by
 rcases r with ⟨d,g,u,x⟩
 have hus:(PR.out P ⟨d,g,u,x⟩ s c).lg.us=gus g++(x.us++d.toList):=by
  unfold PR.out;simp only;generalize yes s.e g=y;rcases y with _ | b
  ·cases x<;>rfl
  ·cases x with
   | see o=>rfl
   | act o=>cases b<;>rfl
   | call f xs=>cases b with
    | false=>rfl
    | true=>
     simp only [PX.out];generalize bz (l8 s.e xs) (n6 s.ob (l8 s.e xs))=q;simp only [az];generalize u3 _ _ _=po;cases po<;>rfl
   | callv x xs=>cases b with
    | false=>rfl
    | true=>
     simp only [PX.out];generalize (x.ev s.e).bare=y;cases y with
     | fn f cap k=>cases f with
      | func f=>
       simp only [aap];generalize bz (cap.take k++(l8 s.e xs++cap.drop k)) (n6 s.ob (cap.take k++(l8 s.e xs++cap.drop k)))=q;simp only [az];generalize u3 _ _ _=po;cases po<;>rfl
      | _=>rfl
     | _=>rfl
   | inv tbl x xs=>cases b with
    | false=>rfl
    | true=>
     simp only [PX.out];obtain ⟨rd,wr,e⟩:=apt (P:=P) (r:=⟨d,g,u,.inv tbl x xs⟩) (s:=s) (c:=c) (tbl:=tbl) (p:=(x.ev s.e).may true∧bw true s.e xs) (vs:=l8 s.e xs) (y:=(x.ev s.e).bare);rw [e]
     rfl
   | nxt x=>cases b<;>rfl
 rw [hus] at he;obtain ⟨he1,he2⟩:=cd he;obtain ⟨he2,_⟩:=cd he2;unfold PR.out at h hs hpn ⊢;simp only at h hs hpn he1 he2 ⊢;rw [a26 he1];generalize yes s.e g=y at h hs hpn ⊢;rcases y with _ | b
 ·have h:False:=by cases x<;>exact h
  exact h.elim
 ·cases x with
  | see o=>
   simp only [PX.out] at h hs hpn ⊢;rw [bb6 (show ∀t,t∈o.us→s'.e t=s.e t from he2)]
   obtain ⟨g1,g2⟩:(o.see b s.e s'.ob).ok∧(o.see b s.e s'.ob).v=(o.see b s.e s.ob).v:=by
    cases hadr:o.adr with
    | true=>exact bhs hadr h hpn
    | false=>exact be8 h (hs hadr)
   rw [g2];exact ⟨g1,fun t ht=>yi ht,fun t ht=>ke ht,fun i hi=>by simp [PR.lg] at hi,fun i hi=>rfl⟩
  | act o=>replace hs:=hs rfl; cases b with
   | true=>
    simp only [PX.out] at h hs ⊢;rw [bed (show ∀t,t∈o.us→s'.e t=s.e t from he2)];obtain ⟨g1,g2,g3,g4⟩:=bhu h hs;simp only at g1 g2 g3 g4;rw [g2];exact ⟨g1,fun t ht=>yi ht,fun t ht=>ke ht,g3,g4⟩
   | false=>exact ⟨trivial,fun t ht=>yi ht,fun t ht=>ke ht,fun i hi=>by simp [PX.out,PR.lg] at hi,fun i hi=>rfl⟩
  | call f xs=>replace hs:=hs rfl; cases b with
   | true=>
    simp only [PX.out] at h hs ⊢;rw [qe (show ∀t,t∈usL xs→s'.e t=s.e t from he2),uh (show ∀t,t∈usL xs→s'.e t=s.e t from he2)];exact al4 h hs
   | false=>exact ⟨trivial,fun t ht=>yi ht,fun t ht=>ke ht,fun i hi=>by simp [PX.out,PR.lg] at hi,fun i hi=>rfl⟩
  | callv x xs=>replace hs:=hs rfl; cases b with
   | true=>
    obtain ⟨he2,he3⟩:=cd he2;simp only [PX.out] at h hs ⊢;rw [qe he3,uh he3,t5 he2];exact a6h h hs
   | false=>exact ⟨trivial,fun t ht=>yi ht,fun t ht=>ke ht,fun i hi=>by simp [PX.out,PR.lg] at hi,fun i hi=>rfl⟩
  | inv tbl x xs=>replace hs:=hs rfl; cases b with
   | true=>
    obtain ⟨he2,he3⟩:=cd he2;simp only [PX.out] at h hs ⊢;rw [qe he3,uh he3,t5 he2];exact a6i h hs
   | false=>exact ⟨trivial,fun t ht=>yi ht,fun t ht=>ke ht,fun i hi=>by simp [PX.out,PR.lg] at hi,fun i hi=>rfl⟩
  | nxt x=>cases b with
   | true=>exact (show False from h).elim
   | false=>exact ⟨trivial,fun t ht=>yi ht,fun t ht=>ke ht,fun i hi=>by simp [PX.out,PR.lg] at hi,fun i hi=>rfl⟩
theorem azi (h:r.x.sto=true) (i:Nat):pin ((r.out P s c).st.ob i)=pin (s.ob i):=by
  rcases r with ⟨d,g,u,x⟩
  unfold PR.out;simp only;generalize yes s.e g=y;cases x with
  | act o=>cases o with
    | st n x1 x2 => rcases y with _ | b
                    · rfl
                    · cases b with
                      | true=>exact be0
                      | false=>rfl
    | _=>cases h
  | _=>cases h
theorem a40:(r.out P s c).lg.ad=r.x.adr∧(r.out P s c).lg.st=r.x.sto:=by
 rcases r with ⟨d,g,u,x⟩
 unfold PR.out;simp only;generalize yes s.e g=y;rcases y with _ | b
 ·cases x<;>exact ⟨rfl,rfl⟩
 ·cases x with
  | see o=>exact ⟨rfl,rfl⟩
  | act o=>cases b<;>exact ⟨rfl,rfl⟩
  | call f xs=>cases b with
   | false=>exact ⟨rfl,rfl⟩
   | true=>
    simp only [PX.out];generalize bz (l8 s.e xs) (n6 s.ob (l8 s.e xs))=q;simp only [az];generalize u3 _ _ _=po;cases po<;>exact ⟨rfl,rfl⟩
  | callv x xs=>cases b with
   | false=>exact ⟨rfl,rfl⟩
   | true=>
    simp only [PX.out];generalize (x.ev s.e).bare=y;cases y with
    | fn f cap k=>cases f with
     | func f=>
      simp only [aap];generalize bz (cap.take k++(l8 s.e xs++cap.drop k)) (n6 s.ob (cap.take k++(l8 s.e xs++cap.drop k)))=q;simp only [az];generalize u3 _ _ _=po;cases po<;>exact ⟨rfl,rfl⟩
     | _=>exact ⟨rfl,rfl⟩
    | _=>exact ⟨rfl,rfl⟩
  | inv tbl x xs=>cases b with
   | false=>exact ⟨rfl,rfl⟩
   | true=>
    simp only [PX.out];obtain ⟨rd,wr,e⟩:=apt (P:=P) (r:=⟨d,g,u,.inv tbl x xs⟩) (s:=s) (c:=c) (tbl:=tbl) (p:=(x.ev s.e).may true∧bw true s.e xs) (vs:=l8 s.e xs) (y:=(x.ev s.e).bare);rw [e];exact ⟨rfl,rfl⟩
  | nxt x=>cases b<;>exact ⟨rfl,rfl⟩
end

end Go.Ev

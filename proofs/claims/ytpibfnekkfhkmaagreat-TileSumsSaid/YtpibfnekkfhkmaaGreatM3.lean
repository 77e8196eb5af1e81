import Derived.Lib.DecodeN
import Derived.Test.YtpibfnekkfhkmaaGreatM2
open List renaming getElem?_eq_some_iff → zaa, mem_iff_getElem? → zab, mem_of_getElem? → zae, range → zah, replicate → zai
open Nat renaming le_refl → zac
open Option renaming map_eq_some_iff → zad, some → zaf
namespace Go.Ev
set_option maxRecDepth 100000
open Go
set_option linter.unusedSectionVars false
set_option linter.unnecessarySimpa false
set_option linter.unusedSimpArgs false
set_option linter.unusedVariables false
abbrev Ren:=Nat→Nat→Option (Nat×Nat)
mutual
def imV (F:Ren):AV→AV
 | .r x=>.r x
 | .agg xs=>.agg (imL F xs)
 | .tup xs=>.tup (imL F xs)
 | .nils sz z=>.nils sz z
 | .own id ver lo len=>match F id ver with | some (i,v)=>.own i v lo len | none=>.undef
 | .ptr id ver off=>match F id ver with | some (i,v)=>.ptr i v off | none=>.undef
 | .oel id ver idx off=>match F id ver with | some (i,v)=>.oel i v idx off | none=>.undef
 | .rp ys=>.rp ys
 | .fn f xs k=>.fn f (imL F xs) k
 | .mp id ver=>match F id ver with | some (i,v)=>.mp i v | none=>.undef
 | .ifc t x=>.ifc t (imV F x)
 | .gd b x=>.gd b (imV F x)
 | .undef=>.undef
def imL (F:Ren):List AV→List AV
 | []=>[]
 | x::xs=>imV F x::imL F xs
end
def imO (F:Ren):Ob→Ob
 | .box cells=>.box (imL F cells)
 | .row sz z app wr xs=>.row sz z app wr xs
 | .abs T=>.abs T
 | .map es c=>.map es c
 | .iter m since seen st=>.iter (imV F m) since seen st
theorem yg (F:Ren):∀(xs:List AV) (i:Nat),(imL F xs)[i]?=(xs[i]?).map (imV F)
 | [],i=>by simp [imL]
 | x::xs,0=>by simp [imL]
 | x::xs,i+1=>by simp [imL,yg F xs i]
theorem gf (F:Ren):∀(xs:List AV),(imL F xs).length=xs.length
 | []=>by simp [imL]
 | x::xs=>by simp [imL,gf F xs]
section
variable {P:Program} {X Y:Cx} {w w':World} {s:St} {ρ ρ':Pl→Option Nat} {a:Act} {ob ob':Obs} {R R':Nat→Prop} {F:Ren}
def adm (ob ob':Obs) (ρ ρ':Pl→Option Nat) (F:Ren):Prop:=∀id ver i v,F id ver=some (i,v)→∃o o',ob id=some (ver,o)∧ob' i=some (v,o')∧ρ' i=ρ id∧x7 o o'
theorem x7.own {lo len id id':Nat} {c:Value} {o o':Ob} (h:ai1 w ρ id lo len c o) (hk:x7 o o') (hρ:ρ' id'=ρ id):ai1 w ρ' id' lo len c o':=by
 cases o with
 | box _=>
  cases o' with
  | box _=>
   obtain ⟨A,cap,e1,e2,e3,e5⟩:=h;refine ⟨A,cap,e1,e2,e3,fun h0=>?_⟩;obtain ⟨b,cs,e,fr,f1,f2,f3,f4⟩:=e5 h0;exact ⟨b,cs,e,fr,by rw [hρ,f1],f2,f3,f4⟩
  | _=>exact hk.elim
 | abs _=>exact h.elim
 | map _ _=>exact h.elim
 | iter _ _ _ _=>exact h.elim
 | row sz z1 a1 w1 xs=>
  cases o' with
  | box _=>
   obtain rfl:sz=1:=hk;obtain ⟨A,cap,e1,e2,e3,e4,e5⟩:=h;refine ⟨A,cap,e1,e2,e3,fun h0=>?_⟩;obtain ⟨b,cs,e,fr,f1,f2,f3,f4⟩:=e5 h0;exact ⟨b,cs,e,fr,by rw [hρ,f1],by rw [f2,Nat.mul_one],f3,by simpa using f4⟩
  | abs _=>exact hk.elim
  | map _ _=>exact hk.elim
  | iter _ _ _ _=>exact hk.elim
  | row sz' z2 a2 w2 xs'=>
   obtain ⟨rfl,hk⟩:=hk;obtain ⟨A,cap,e1,e2,e3,e4,e5⟩:=h;refine ⟨A,cap,e1,e2,e3,by omega,fun h0=>?_⟩;obtain ⟨b,cs,e,fr,f1,f2,f3,f4⟩:=e5 h0;exact ⟨b,cs,e,fr,by rw [hρ,f1],f2,f3,f4⟩
theorem RelA.im (hR:∀b,R b→R' b) (hF:adm ob ob' ρ ρ' F) {x:AV} {c:Value} (h:RelA w R ob ρ x c):RelA w R' ob' ρ' (imV F x) c:=by
 induction h with
 | r h0=>rw [imV]; exact .r (h0.mono fun b hb=>⟨hR b hb,rfl⟩)
 | agg xs cs hl _ ih=>
  rw [imV];refine .agg _ cs (by rw [gf]; exact hl) fun i x c hx hc=>?_;rw [yg,zad] at hx;obtain ⟨y,hy,rfl⟩:=hx;exact ih i y c hy hc
 | tup xs cs hl _ ih=>
  rw [imV];refine .tup _ cs (by rw [gf]; exact hl) fun i x c hx hc=>?_;rw [yg,zad] at hx;obtain ⟨y,hy,rfl⟩:=hx;exact ih i y c hy hc
 | nils sz z=>rw [imV]; exact .nils sz z
 | own id ver lo len c hc ha=>
  rw [imV];split
  ·rename_i i v hf;obtain ⟨o,o',h1,h2,h3,h4⟩:=hF _ _ _ _ hf;exact .own _ _ _ _ _ hc ⟨v,o',h2,zac _,fun _=>x7.own (ha.live h1) h4 h3⟩
  ·exact .undef _
 | ptr id ver off c hc ha=>
  rw [imV];split
  ·rename_i i v hf;obtain ⟨o,o',h1,h2,h3,h4⟩:=hF _ _ _ _ hf;exact .ptr _ _ _ _ hc ⟨v,o',h2,zac _,fun _=>by rw [h3]; exact ha.live h1⟩
  ·exact .undef _
 | oel id ver idx off c hc ha=>
  rw [imV];split
  ·rename_i i v hf;obtain ⟨o,o',h1,h2,h3,h4⟩:=hF _ _ _ _ hf;refine .oel _ _ _ _ _ hc ⟨v,o',h2,zac _,fun _=>?_⟩;have hr:=ha.live h1;cases o with
   | box _=>
    cases o' with
    | box _=>
     obtain ⟨b,e1,e2⟩:=hr;exact ⟨b,by rw [h3]; exact e1,e2⟩
    | _=>exact h4.elim
   | abs _=>exact hr.elim
   | map _ _=>exact hr.elim
   | iter _ _ _ _=>exact hr.elim
   | row sz z1 a1 w1 xs=>
    cases o' with
    | box _=>
     obtain rfl:sz=1:=h4;obtain ⟨e1,e2,b,e3,e4⟩:=hr;exact ⟨b,by rw [h3]; exact e3,by rw [e4,Nat.mul_one]⟩
    | abs _=>exact h4.elim
    | map _ _=>exact h4.elim
    | iter _ _ _ _=>exact h4.elim
    | row sz' z2 a2 w2 xs'=>
     obtain ⟨rfl,h4⟩:=h4;obtain ⟨e1,e2,e3⟩:=hr;exact ⟨by omega,e2,by rw [h3]; exact e3⟩
  ·exact .undef _
 | rp ys b o g hRb hg=>
  rw [imV];exact .rp ys b o g (hR b hRb) fun j y hj=>⟨(hg j y hj).1,(hg j y hj).2.1,(hg j y hj).2.2.mono fun b hb=>⟨hR b hb,rfl⟩⟩
 | fn f xs k fs cs hk hl _ ih=>
  rw [imV];refine .fn f _ k fs cs hk (by rw [gf]; exact hl) fun i x c hx hc=>?_;rw [yg,zad] at hx;obtain ⟨y,hy,rfl⟩:=hx;exact ih i y c hy hc
 | mp id ver c hc ha=>
  rw [imV];split
  ·rename_i i v hf;obtain ⟨o,o',h1,h2,h3,h4⟩:=hF _ _ _ _ hf;exact .mp _ _ _ hc ⟨v,o',h2,zac _,fun _=>by rw [h3]; exact ha.live h1⟩
  ·exact .undef _
 | ifc t _ ih=>rw [imV]; exact .ifc t ih
 | gd b _ hf ih=>rw [imV]; exact .gd b ih hf
 | undef c=>rw [imV]; exact .undef c
theorem dk.im (hR:∀b,R b→R' b) (hF:adm ob ob' ρ ρ' F) {id i:Nat} {x:Ob} (h:dk w R ob ρ id x) (hρ:ρ' i=ρ id) (hρs:∀j,ρ' (.s i j)=ρ (.s id j)):dk w R' ob' ρ' i (imO F x):=by
 cases x with
 | abs T=>
  obtain ⟨b,h1,h2⟩:=h;exact ⟨b,by rw [hρ,h1],by simp only [hρs]; exact h2⟩
 | map es clock=>
  obtain ⟨b,h1,h2⟩:=h;exact ⟨b,by rw [hρ,h1],h2⟩
 | iter m since seen st=>
  obtain ⟨b,m',h1,h2,h3⟩:=h;exact ⟨b,m',by rw [hρ,h1],h2,h3.im hR hF⟩
 | box cells=>
  obtain ⟨b,cs,e,h1,h2,h3,h4⟩:=h;refine ⟨b,cs,e,by rw [hρ,h1],h2,by rw [gf]; exact h3,fun i x c hx hc=>?_⟩;rw [yg,zad] at hx;obtain ⟨y,hy,rfl⟩:=hx;exact (h4 i y c hy hc).im hR hF
 | row sz z app wr xs=>
  rcases h with ⟨h1,h2,h3⟩ | ⟨b,cs,e,fr,h1,h2,h3,h4,h5,h6⟩
  ·exact .inl ⟨h1,by rw [hρ,h2],h3⟩
  ·refine .inr ⟨b,cs,e,fr,by rw [hρ,h1],h2,h3,h4,h5,fun i x hi=>⟨(h6 i x hi).1,fun j y hj=>?_⟩⟩;obtain ⟨c,g1,g2,g3⟩:=(h6 i x hi).2 j y hj;exact ⟨c,g1,g2,g3.mono fun b hb=>⟨hR b hb,rfl⟩⟩
theorem x7.im (F:Ren) (x:Ob):x7 x (imO F x):=by cases x<;>simp [x7,imO]
theorem dh (F:Ren) (x:Ob):(imO F x).isAbs=x.isAbs:=by cases x<;>rfl
theorem agl (F:Ren) (x:Ob):(imO F x).pinned=x.pinned:=by cases x<;>rfl
theorem apw (F:Ren) (x:Ob):(imO F x).isRow=x.isRow:=by cases x<;>rfl
theorem a5o (F:Ren) (x:Ob):(imO F x).own=x.own:=by cases x<;>rfl
def idx:Nat→List Nat→Option Nat
  | _,[]=>none
  | i,j::l=>if i=j then some 0 else (idx i l).map (· + 1)
theorem ajs {i:Nat}:∀{l:List Nat} {k:Nat},idx i l=some k→l[k]?=some i
 | [],k,h=>by cases h
 | j::l,k,h=>by
  unfold idx at h;split at h
  ·rename_i hij; cases h; simp [hij]
  ·rw [zad] at h;obtain ⟨m,hm,rfl⟩:=h;simpa using ajs hm
def obs:Nat→List Ob→Obs
 | _,[]=>fun _=>none
 | k,o::os=>upd k (0,o) (obs (k+1) os)
theorem a5u:∀{os:List Ob} {k id:Nat},id<k→obs k os id=none
 | [],k,id,h=>rfl
 | o::os,k,id,h=>by
  unfold obs upd;rw [if_neg (by omega)];exact a5u (by omega)
theorem axb:∀{os:List Ob} {k id:Nat},k≤id→obs k os id=(os[id-k]?).map fun o=>(0,o)
 | [],k,id,h=>by simp [obs]
 | o::os,k,id,h=>by
  unfold obs upd;by_cases hk:id=k
  ·subst hk; simp
  ·rw [if_neg hk,axb (by omega),show id-k=(id-(k+1))+1 by omega];simp
abbrev ob0 (po:List Ob):Obs:=obs 1000000 po
theorem xc {po:List Ob} {id:Nat} {x:Nat×Ob} (h:ob0 po id=some x):1000000≤id∧po[id-1000000]?=some x.2∧x.1=0:=by
 by_cases hid:1000000≤id
 ·rw [ob0,axb hid,zad] at h;obtain ⟨o,ho,rfl⟩:=h;exact ⟨hid,ho,rfl⟩
 ·rw [ob0,a5u (by omega)] at h;cases h
def sn (ob:Obs) (ρ:Pl→Option Nat) (i b:Nat):Prop:=∃x,ob i=some x∧foot ρ i x.2 b
def ji (ob:Obs) (ρ:Pl→Option Nat) (b:Nat):Prop:=∃id x,ob id=some x∧foot ρ id x.2 b
def lu (po:List Ob) (ρ:Pl→Option Nat):Nat→Option Nat:=fun id=>match ob0 po id with
 | some (_,o)=>if o.pinned=true then ρ id else none
 | none=>none
def amx (P:Program) (w:World) (I:Nat→Prop) (name:String) (ok:Array Value→Prop):Prop:=
 ∀g,P.globalNamed name=some g→¬I g∧∃cs e fr,w.heap[g]?=some (.cells cs e fr)∧ok cs
def bf8:Array Value:=((zah 20).map fun k=>Value.int .u64 (10^k:Nat)).toArray
abbrev qi:Bool:=false
structure Gl (P:Program) (w:World) (I:Nat→Prop):Prop where
 pow : amx P w I "internal/strconv.uint64pow10" fun cs => cs = bf8
 syn : qi = true → amx P w I "strconv.ErrSyntax" fun cs => ∃ t p, cs = #[.iface t p]
 rng : qi = true → amx P w I "strconv.ErrRange" fun cs => ∃ t p, cs = #[.iface t p]
 fst : qi = true → amx P w I "unicode/utf8.first" fun cs => ∀ i : Nat, i < 256 → cs[i]? = some (.int .u8 (Lib.firstT i))
 acc : qi = true → amx P w I "unicode/utf8.acceptRanges" fun cs => ∀ i : Nat, i < 16 → cs[2 * i]? = some (.int .u8 (Lib.accLo i)) ∧ cs[2 * i + 1]? = some (.int .u8 (Lib.accHi i))
theorem amx.keep {P:Program} {w w':World} {I I':Nat→Prop} {name:String} {ok:Array Value→Prop} (h:amx P w I name ok)
  (hw:∀g,g<w.heap.size→¬I g→w'.heap[g]?=w.heap[g]?∧¬I' g):amx P w' I' name ok:=fun g hg=>by
 obtain ⟨h1,cs,e,fr,h2,h3⟩:=h g hg;obtain ⟨k1,k2⟩:=hw g (Array.getElem?_eq_some_iff.1 h2).1 h1;exact ⟨k2,cs,e,fr,by rw [k1,h2],h3⟩
theorem Gl.keep {P:Program} {w w':World} {I I':Nat→Prop} (h:Gl P w I) (hw:∀g,g<w.heap.size→¬I g→w'.heap[g]?=w.heap[g]?∧¬I' g):Gl P w' I':=
 ⟨h.pow.keep hw,fun he=>(h.syn he).keep hw,fun he=>(h.rng he).keep hw,fun he=>(h.fst he).keep hw,fun he=>(h.acc he).keep hw⟩
class GlC (P:Program) (X:Cx):Prop where
 gl:Gl P X.w0 X.I
def a8 (P:Program) (f:FuncId) (args:List AV) (po:List Ob) (res:AV) (ro:List Ob):Prop:=
 ∀(w:World) (cargs:Array Value) (ρ:Pl→Option Nat) (B:Nat→Prop),Gl P w (ji (ob0 po) ρ)→(∀b,ji (ob0 po) ρ b∨w.heap.size≤b→B b) →
  Mem ⟨0,ji (ob0 po) ρ,fun _=>none,B,w⟩ (ob0 po) ρ w→cargs.size=args.length →
  (∀(i:Nat) (x:AV) (c:Value),args[i]?=some x→cargs[i]?=some c→RelA w (g8 B (ob0 po) ρ w) (ob0 po) ρ x c) →
  Calls P f cargs w fun e w'=>∃c ρ',e=.returned c∧Mem ⟨0,ji (ob0 po) ρ,lu po ρ,B,w⟩ (ob0 ro) ρ' w'∧RelA w' (g8 B (ob0 ro) ρ' w') (ob0 ro) ρ' res c
end

mutual
def jc:RV→Prop
 | .v _=>True
 | .agg xs=>pj xs
 | .sl _ _=>False
def pj:List RV→Prop
 | []=>True
 | x::xs=>jc x∧pj xs
end
mutual
def bn:AV→Prop
 | .r x=>jc x
 | .agg xs=>ku xs
 | .tup xs=>ku xs
 | .rp _=>False
 | .fn _ xs _=>ku xs
 | .gd _ x=>bn x
 | .ifc _ x=>bn x
 | _=>True
def ku:List AV→Prop
 | []=>True
 | x::xs=>bn x∧ku xs
end
def mc:Ob→Prop
 | .box cells=>ku cells
 | .row _ _ _ _ xs=>∀x,x∈xs→jc x
 | .abs _=>True
 | .map _ _=>True
 | .iter m _ _ _=>bn m
theorem pj.at_:∀{xs:List RV},pj xs→∀{i:Nat} {x:RV},xs[i]?=some x→jc x
 | [],_,i,x,hx=>by simp at hx
 | y::ys,h,0,x,hx=>by simp at hx; subst hx; exact h.1
 | y::ys,h,i+1,x,hx=>by simp at hx; exact pj.at_ h.2 hx
theorem ku.at_:∀{xs:List AV},ku xs→∀{i:Nat} {x:AV},xs[i]?=some x→bn x
 | [],_,i,x,hx=>by simp at hx
 | y::ys,h,0,x,hx=>by simp at hx; subst hx; exact h.1
 | y::ys,h,i+1,x,hx=>by simp at hx; exact ku.at_ h.2 hx
section
variable {P:Program} {X:Cx} [GlC P X] {w w':World} {s:St} {ρ ρ':Pl→Option Nat} {a:Act} {ob ob':Obs} {R R':Nat→Prop}
theorem RelV.flat {x:RV} {c:Value} (h:RelV w R x c) (hf:jc x):RelV w R' x c:=by
 induction h with
 | v x=>exact .v x
 | agg xs cs hl _ ih=>exact .agg xs cs hl fun i x c hx hc=>ih i x c hx hc (pj.at_ (by simpa [jc] using hf) hx)
 | sl sz xs A cap hc hm b o g hA hz hg hr ih=>simp [jc] at hf
theorem RelA.flat {x:AV} {c:Value} (h:RelA w R ob ρ x c) (hf:bn x):RelA w R' ob ρ x c:=by
 induction h with
 | r h0=>exact .r (h0.flat (by simpa [bn] using hf))
 | agg xs cs hl _ ih=>exact .agg xs cs hl fun i x c hx hc=>ih i x c hx hc (ku.at_ (by simpa [bn] using hf) hx)
 | tup xs cs hl _ ih=>exact .tup xs cs hl fun i x c hx hc=>ih i x c hx hc (ku.at_ (by simpa [bn] using hf) hx)
 | nils sz z=>exact .nils sz z
 | own id ver lo len c hc ha=>exact .own id ver lo len c hc ha
 | ptr id ver off c hc ha=>exact .ptr id ver off c hc ha
 | oel id ver i off c hc ha=>exact .oel id ver i off c hc ha
 | rp ys b o g hR hg=>simp [bn] at hf
 | fn f xs k fs cs hk hl _ ih=>exact .fn f xs k fs cs hk hl fun i x c hx hc=>ih i x c hx hc (ku.at_ (by simpa [bn] using hf) hx)
 | mp id ver c hc ha=>exact .mp id ver c hc ha
 | ifc t _ ih=>exact .ifc t (ih (by simpa [bn] using hf))
 | gd b _ hf' ih=>exact .gd b (fun hb=>ih hb (by simpa [bn] using hf)) hf'
 | undef c=>exact .undef c
theorem pj.cells {x:RV} (h:jc x) {j:Nat} {y:RV} (hj:x.cells[j]?=some y):jc y:=by
 cases x with
 | v v=>cases j<;>simp [RV.cells] at hj; subst hj; trivial
 | agg xs=>simp only [RV.cells] at hj; exact pj.at_ (by simpa [jc] using h) hj
 | sl k xs=>simp [jc] at h
theorem dk.flat {id:Nat} {x:Ob} (h:dk w R ob ρ id x) (hf:mc x):dk w R' ob ρ id x:=by
 cases x with
 | abs T=>exact h
 | map es c=>exact h
 | iter m since seen st=>
  obtain ⟨b,m',h1,h2,h3⟩:=h;exact ⟨b,m',h1,h2,h3.flat hf⟩
 | box cells=>
  obtain ⟨b,cs,e,h1,h2,h3,h4⟩:=h;exact ⟨b,cs,e,h1,h2,h3,fun i x c hx hc=>(h4 i x c hx hc).flat (ku.at_ hf hx)⟩
 | row sz z app wr xs=>
  rcases h with h | ⟨b,cs,e,fr,h1,h2,h3,h4,h5,h6⟩
  ·exact .inl h
  ·refine .inr ⟨b,cs,e,fr,h1,h2,h3,h4,h5,fun i x hi=>⟨(h6 i x hi).1,fun j y hj=>?_⟩⟩;obtain ⟨c,g1,g2,g3⟩:=(h6 i x hi).2 j y hj;exact ⟨c,g1,g2,g3.flat (pj.cells (hf x (zae hi)) hj)⟩
def ix (ob:Obs):AV→Option (AV×List Nat)
 | .own id ver lo len=>match AV.rv ob (.own id ver lo len) with
  | some (y,fz)=>some (.r y,fz)
  | none=>none
 | .nils sz _=>some (.r (.sl sz []),[])
 | .agg xs=>match rvs ob xs with
  | some (ys,fz)=>some (.r (.agg ys),fz)
  | none=>none
 | .gd _ _=>none
 | .oel _ _ _ _=>none
 | x=>some (x,[])
def m9 (ob:Obs):List AV→Option (List AV×List Nat)
 | []=>some ([],[])
 | x::xs=>match ix ob x,m9 ob xs with
  | some (y,i),some (ys,j)=>some (y::ys,i++j)
  | _,_=>none
mutual
def v9:AV→List Nat
 | .own id _ _ _=>[id]
 | .ptr id _ _=>[id]
 | .oel id _ _ _=>[id]
 | .agg xs=>m0 xs
 | .tup xs=>m0 xs
 | .fn _ xs _=>m0 xs
 | .gd _ x=>v9 x
 | .mp id _=>[id]
 | .ifc _ x=>v9 x
 | _=>[]
def m0:List AV→List Nat
 | []=>[]
 | x::xs=>v9 x++m0 xs
end
def ahe:Option (Nat×Ob)→List Nat
 | some (_,.box cells)=>m0 cells
 | some (_,.iter m _ _ _)=>v9 m
 | _=>[]
def n7 (ob:Obs):Nat→List Nat→List Nat→List Nat
 | 0,_,acc=>acc
 | _+1,[],acc=>acc
 | n+1,i::todo,acc=>if acc.contains i then n7 ob n todo acc else n7 ob n (ahe (ob i)++todo) (acc++[i])
def afb (ver k:Nat):Option (Nat×Ob)→Option (Nat×Nat)
 | some (v,_)=>if ver=v then some (1000000+k,0) else none
 | none=>none
def fwd (ob:Obs) (ids:List Nat):Ren:=fun id ver=>match idx id ids with
 | some k=>afb ver k (ob id)
 | none=>none
def yr (F:Ren):Option (Nat×Ob)→Option Ob
 | some (_,o)=>if o.own then some (imO F o) else none
 | none=>none
def u4 (F:Ren) (ob:Obs):List Nat→Option (List Ob)
 | []=>some []
 | i::is=>match yr F (ob i),u4 F ob is with
  | some o,some os=>some (o::os)
  | _,_=>none
theorem abb {F:Ren} {ob:Obs}:∀{ids:List Nat} {po:List Ob},u4 F ob ids=some po→po.length=ids.length∧∀(k i:Nat) (o:Ob),ids[k]?=some i→po[k]?=some o→∃v x,ob i=some (v,x)∧x.own=true∧o=imO F x
 | [],po,h=>by simp [u4] at h; subst h; simp
 | j::ids,po,h=>by
  simp only [u4] at h;split at h
  ·rename_i o os h1 h2;cases h;obtain ⟨g1,g2⟩:=abb h2;refine ⟨by simp [g1],fun k i q hk ho=>?_⟩;cases k with
   | zero=>
    simp at hk ho;subst hk; subst ho;unfold yr at h1;split at h1
    ·rename_i v x hx;split at h1
     ·rename_i hown;cases h1;exact ⟨v,x,hx,hown,rfl⟩
     ·cases h1
    ·cases h1
   | succ k=>simp at hk ho; exact g2 k i q hk ho
  ·cases h
def j7 (u:Nat) (ids:List Nat) (k:Nat):Nat:=match ids[k]? with
 | some i=>i
 | none=>100000+1000*u+k
def jb (ob:Obs) (i:Nat):Option (Nat×Ob)→Nat
 | some (v,.box _)=>v
 | some (v,.row _ _ app _ _)=>bif app then v+1 else v
 | some (v,.abs _)=>v
 | some (v,.map _ _)=>v
 | some (v,.iter _ _ _ _)=>v
 | none=>0
def gt (ob:Obs) (u:Nat) (ids:List Nat) (k:Nat):Nat:=match ids[k]? with
 | some i=>jb ob i (ob i)
 | none=>nv ob (100000+1000*u+k)
def back (ob:Obs) (u:Nat) (ids:List Nat) (m:Nat):Ren:=fun id ver=>
 if ver=0∧1000000≤id∧id-1000000<m then some (j7 u ids (id-1000000),gt ob u ids (id-1000000)) else none
def cw (ob:Obs) (u:Nat) (ids:List Nat) (F:Ren):Nat→List Ob→Obs
 | _,[]=>ob
 | k,o::os=>upd (j7 u ids k) (gt ob u ids k,imO F o) (cw ob u ids F (k+1) os)
theorem aq7 {u:Nat} {ids:List Nat} {F:Ren} {i:Nat}:∀{os:List Ob} {k:Nat},(∀j,k≤j→j<k+os.length→j7 u ids j≠i)→cw ob u ids F k os i=ob i
 | [],k,h=>rfl
 | o::os,k,h=>by
  unfold cw upd;rw [if_neg (fun e=>h k (zac _) (by simp) e.symm)];exact aq7 fun j h1 h2=>h j (by omega) (by simp; omega)
theorem az4 {u:Nat} {ids:List Nat} {F:Ren} {m:Nat} (hinj:∀i j,i<m→j<m→j7 u ids i=j7 u ids j→i=j):∀{os:List Ob} {k j:Nat} {o:Ob},k+os.length≤m→os[j]?=some o→cw ob u ids F k os (j7 u ids (k+j))=some (gt ob u ids (k+j),imO F o)
 | [],k,j,o,h,hj=>by simp at hj
 | q::os,k,0,o,h,hj=>by simp at hj; subst hj; simp [cw,upd]
 | q::os,k,j+1,o,h,hj=>by
  simp at hj h;have hjl:=(zaa.1 hj).1;unfold cw upd;rw [if_neg (fun e=>by have:=hinj _ _ (by omega) (by omega) e; omega),show k+(j+1)=k+1+j by omega];exact az4 hinj (by omega) hj
theorem i8 {po:List Ob} {k:Nat} {o:Ob} (h:po[k]?=some o):ob0 po (1000000+k)=some (0,o):=by
 rw [ob0,axb (by omega),show 1000000+k-1000000=k by omega,h]
 rfl
def a1g:Ob→Ob→Prop
 | .row sz _ app _ xs,o'=>app=true∨∃z' wr' xs',o'=.row sz z' false wr' xs'∧xs.length≤xs'.length
 | .box cells,.box cells'=>cells'.length=cells.length
 | .abs T,.abs T'=>T'.size=T.size
 | .map _ _,.map _ _=>True
 | .iter _ _ _ _,.iter _ _ _ _=>True
 | _,_=>False
set_option maxHeartbeats 1000000 in
theorem Gam.call {f:FuncId} {as:List AV} {ids:List Nat} {po ro:List Ob} {res:AV} {u:Nat} {cargs:Array Value} {Bc Ra:Nat→Prop} (hG:Gam X s ρ a w) (hpo:u4 (fwd s.ob ids) s.ob ids=some po)
  (hT:a8 P f (imL (fwd s.ob ids) as) po res ro) (hlen:ids.length≤ro.length) (hinj:∀i j,i<ro.length→j<ro.length→j7 u ids i=j7 u ids j→i=j) (hsm:100000+1000*u+ro.length≤1000000)
  (hcs:cargs.size=as.length) (hargs:∀(i:Nat) (x:AV) (c:Value),as[i]?=some x→cargs[i]?=some c→RelA w Ra s.ob ρ x c)
  (hRa:∀b,Ra b→b<w.heap.size∧Bc b∧∀(i:Nat),i∈ids→¬sn s.ob ρ i b) (hB1:∀b,g8 X.B s.ob ρ w b→Bc b) (hB2:∀b,(∃i,i∈ids∧sn s.ob ρ i b)∨w.heap.size≤b→Bc b)
  (hbox:∀(k:Nat) (o o':Ob),po[k]?=some o→ro[k]?=some o'→a1g o o')
  (hfin:(bn res∧∀o∈ro,mc o)∨∀b,Bc b→g8 X.B s.ob ρ w b∨(∃i,i∈ids∧sn s.ob ρ i b)∨w.heap.size≤b) :
  Calls P f cargs w fun e w'=>∃c ρ',e=.returned c∧Gam X ⟨s.e,cw s.ob u ids (back s.ob u ids ro.length) 0 ro⟩ ρ' a w'∧RA X ⟨s.e,cw s.ob u ids (back s.ob u ids ro.length) 0 ro⟩ ρ' w' (imV (back s.ob u ids ro.length) res) c:=by
 obtain ⟨hpl,hpa⟩:=abb hpo
 let ρc:Pl→Option Nat:=fun p=>match p with
  | .o i=>if 1000000≤i then (ids[i-1000000]?).bind fun i=>ρ (.o i) else none
  | .s i j=>if 1000000≤i then (ids[i-1000000]?).bind fun i=>ρ (.s i j) else none
 have hρc:∀(k i:Nat),ids[k]?=some i→aca ρ ρc i (1000000+k):=fun k i hk=>by
  simp [aca,ρc,hk]
 have hidl:∀(k i:Nat),ids[k]?=some i→∃v x o,s.ob i=some (v,x)∧x.own=true∧po[k]?=some o∧o=imO (fwd s.ob ids) x:=fun k i hk=>by
  have hlt:=(zaa.1 hk).1;have hp:po[k]?=some po[k]:=by simp [show k<po.length by omega]
  obtain ⟨v,x,h1,h2,h3⟩:=hpa k i _ hk hp;exact ⟨v,x,_,h1,h2,hp,h3⟩
 have hoc:∀(id:Nat) (x:Nat×Ob),ob0 po id=some x→∃k i,id=1000000+k∧ids[k]?=some i∧po[k]?=some x.2∧x.1=0∧aca ρ ρc i id:=fun id x hx=>by
  obtain ⟨h1,h2,h3⟩:=xc hx;have hlt:=(zaa.1 h2).1;have hi:ids[id-1000000]?=some (ids[id-1000000]'(by omega)):=by simp [show id-1000000<ids.length by omega]
  refine ⟨id-1000000,_,by omega,hi,h2,h3,?_⟩;have:=hρc _ _ hi;rw [show 1000000+(id-1000000)=id by omega] at this;exact this
 have hnd:∀(k l i:Nat),ids[k]?=some i→ids[l]?=some i→k=l:=fun k l i hk hl=>by
  have h1:=(zaa.1 hk).1;have h2:=(zaa.1 hl).1;exact hinj k l (by omega) (by omega) (by simp [j7,hk,hl])
 have hheld:∀b,ji (ob0 po) ρc b↔∃i,i∈ids∧sn s.ob ρ i b:=fun b=>by
  constructor
  ·rintro ⟨id,x,h1,h2⟩;obtain ⟨k,i,rfl,hk,hp0,_,hρ⟩:=hoc id x h1;obtain ⟨v,y,o,g1,_,hp,ho⟩:=hidl k i hk;rw [hp0] at hp;refine ⟨i,zae hk,_,g1,(hρ.foot ?_).1 h2⟩;rw [zaf.inj hp,ho,dh]
  ·rintro ⟨i,hi,⟨y,g1,hb⟩⟩;obtain ⟨k,hk⟩:=zab.1 hi;obtain ⟨v,x,o,g2,_,hp,ho⟩:=hidl k i hk;rw [g1] at g2;refine ⟨1000000+k,(0,o),i8 hp,((hρc k i hk).foot ?_).2 hb⟩;rw [ho,dh,zaf.inj g2]
 have hownc:∀b,Own (ob0 po) ρc b→∃i,i∈ids∧sn s.ob ρ i b:=fun b ⟨id,v,o,h1,h2,h3⟩=>(hheld b).1 ⟨id,_,h1,h3⟩
 have hidown:∀i,i∈ids→∀b,sn s.ob ρ i b→Own s.ob ρ b:=fun i hi b ⟨y,g1,hb⟩=>by
  obtain ⟨k,hk⟩:=zab.1 hi;obtain ⟨v,x,o,h1,h2,_,_⟩:=hidl k i hk;rw [g1] at h1;cases h1;exact ⟨i,v,x,g1,h2,hb⟩
 have hfits:adm s.ob (ob0 po) ρ ρc (fwd s.ob ids):=fun id ver i v hF=>by
  unfold fwd at hF;split at hF
  ·rename_i k hk;have hik:=ajs hk;obtain ⟨v0,x,o,h1,h2,h3,h4⟩:=hidl k id hik;rw [h1] at hF;simp only [afb] at hF;split at hF
   ·rename_i hv;cases hF;subst hv;exact ⟨x,o,h1,i8 h3,(hρc k id hik).1,by rw [h4]; exact x7.im _ x⟩
   ·cases hF
  ·cases hF
 have hRc:∀b,g8 X.B s.ob ρ w b→g8 Bc (ob0 po) ρc w b:=fun b hb=>⟨hb.1,fun ho=>by
   obtain ⟨i,hi,hb'⟩:=hownc b ho
   exact hb.2.1 (hidown i hi b hb'),hB1 b hb⟩
 have hmem:Mem ⟨0,ji (ob0 po) ρc,fun _=>none,Bc,w⟩ (ob0 po) ρc w:=by
  refine ⟨fun id v o h=>?_,fun id id' x x' b h1 h2 h3 h4=>?_,Keeps.refl _ _,fun id v o b h1 h2=>.inl ⟨id,_,h1,h2⟩,fun id b h=>by cases h⟩
  ·obtain ⟨k,i,rfl,hk,hp,_,hρ⟩:=hoc id _ h;obtain ⟨v0,x,o',h1,h2,h3,h4⟩:=hidl k i hk;simp only at hp;rw [hp] at h3;cases h3;rw [h4];exact (hG.obj i v0 x h1).im hRc hfits hρ.1 hρ.2
  ·obtain ⟨k,i,rfl,hk,hp0,_,hρ⟩:=hoc id _ h1;obtain ⟨k',i',rfl,hk',hp0',_,hρ'⟩:=hoc id' _ h2;obtain ⟨v0,y,o',g1,_,hp,ho⟩:=hidl k i hk;obtain ⟨v1,y',o'',g1',_,hp',ho'⟩:=hidl k' i' hk';rw [hp0] at hp;rw [hp0'] at hp';have:=hG.inj i i' _ _ b g1 g1' ((hρ.foot (by rw [zaf.inj hp,ho,dh])).1 h3) ((hρ'.foot (by rw [zaf.inj hp',ho',dh])).1 h4);subst this;rw [hnd k k' i hk hk']
 have hgl:Gl P w (ji (ob0 po) ρc):=(GlC.gl (P:=P) (X:=X)).keep fun g h1 h2=>⟨hG.keeps.block g h1 h2,fun hh=>by
  obtain ⟨i,hi,⟨⟨v,x⟩,g1,hb⟩⟩:=(hheld g).1 hh;rcases hG.own i v x g g1 hb with h | h
  ·exact h2 h
  ·omega⟩
 refine (hT w cargs ρc Bc hgl (fun b hb=>hB2 b (hb.imp_left (hheld b).1)) hmem (by rw [gf,hcs]) (fun i x c hx hc=>?_)).mono ?_
 ·rw [yg,zad] at hx;obtain ⟨y,hy,rfl⟩:=hx
  exact (hargs i y c hy hc).im (fun b hb=>⟨(hRa b hb).1,fun ho=>by
   obtain ⟨j,hj,hbj⟩:=hownc b ho
   exact (hRa b hb).2.2 j hj hbj,(hRa b hb).2.1⟩) hfits
 rintro e w' ⟨c,ρ',rfl,hM,hres⟩;generalize hFb:back s.ob u ids ro.length=Fb;generalize hOb:cw s.ob u ids Fb 0 ro=ob2
 let ρ2:Pl→Option Nat:=fun p=>match p with
  | .o i=>open Classical in if h:∃k,k<ro.length∧j7 u ids k=i then ρ' (1000000+h.choose:Nat) else ρ i
  | .s i j=>open Classical in if h:∃k,k<ro.length∧j7 u ids k=i then ρ' (.s (1000000+h.choose) j) else ρ (.s i j)
 have A:∀k,k<ro.length→aca ρ' ρ2 (1000000+k) (j7 u ids k):=fun k hk=>by
  have hex:∃l,l<ro.length∧j7 u ids l=j7 u ids k:=⟨k,hk,rfl⟩
  have:=hinj _ _ hex.choose_spec.1 hk hex.choose_spec.2;refine ⟨?_,fun j=>?_⟩
  ·simp only [ρ2,dif_pos hex,this]
  ·simp only [ρ2,dif_pos hex,this]
 have hN:∀i,(¬∃k,k<ro.length∧j7 u ids k=i)→aca ρ ρ2 i i∧ob2 i=s.ob i:=fun i hi=>by
  refine ⟨⟨by simp only [ρ2,dif_neg hi],fun j=>by simp only [ρ2,dif_neg hi]⟩,?_⟩;rw [← hOb];exact aq7 fun j _ h2 e=>hi ⟨j,by omega,e⟩
 have hC:∀k o,ro[k]?=some o→ob2 (j7 u ids k)=some (gt s.ob u ids k,imO Fb o):=fun k o hk=>by
  have:=az4 (ob:=s.ob) (F:=Fb) hinj (os:=ro) (k:=0) (j:=k) (o:=o) (by omega) hk;rw [Nat.zero_add] at this;rw [← hOb];exact this
 have hname:∀i x,ob2 i=some x→(∃k o,ro[k]?=some o∧i=j7 u ids k∧x=(gt s.ob u ids k,imO Fb o))∨((¬∃k,k<ro.length∧j7 u ids k=i)∧s.ob i=some x):=fun i x hx=>by
  by_cases hi:∃k,k<ro.length∧j7 u ids k=i
  ·obtain ⟨k,hk,rfl⟩:=hi;have hr:ro[k]?=some ro[k]:=by simp [hk]
   rw [hC k _ hr] at hx;exact .inl ⟨k,_,hr,rfl,(zaf.inj hx).symm⟩
  ·rw [(hN i hi).2] at hx;exact .inr ⟨hi,hx⟩
 have hidn:∀i,i∈ids→∃k,k<ro.length∧j7 u ids k=i:=fun i hi=>by
  obtain ⟨k,hk⟩:=zab.1 hi;have:=(zaa.1 hk).1;exact ⟨k,by omega,by simp [j7,hk]⟩
 have hlt:∀i x b,s.ob i=some x→foot ρ i x.2 b→b<w.heap.size:=fun i x b hi hb=>hG.foot_lt hi hb;have hrb:∀k o b,ro[k]?=some o→foot ρ' (1000000+k) o b→(∃i,i∈ids∧sn s.ob ρ i b)∨w.heap.size≤b:=fun k o b hk hb=>(hM.own _ _ _ b (i8 hk) hb).imp_left (hheld b).1
 have hown2:∀b,Own ob2 ρ2 b→Own (ob0 ro) ρ' b∨∃i v x,(¬∃k,k<ro.length∧j7 u ids k=i)∧s.ob i=some (v,x)∧x.own=true∧foot ρ i x b:=fun b ⟨i,v,x,h1,h2,h3⟩=>by
  rcases hname i _ h1 with ⟨k,o,hk,rfl,hx⟩ | ⟨hi,hx⟩
  ·cases hx;have:=(zaa.1 hk).1;rw [(A k this).foot (dh Fb o)] at h3;exact .inl ⟨_,0,o,i8 hk,by rw [← a5o Fb]; exact h2,h3⟩
  ·rw [(hN i hi).1.foot rfl] at h3;exact .inr ⟨i,v,x,hi,hx,h2,h3⟩
 have hfitb:adm (ob0 ro) ob2 ρ' ρ2 Fb:=fun id ver i v hF=>by
  rw [← hFb] at hF;unfold back at hF;split at hF
  ·rename_i hc;obtain ⟨rfl,h1,h2⟩:=hc;cases hF;have hr:ro[id-1000000]?=some ro[id-1000000]:=by simp [h2]
   have hg:=i8 hr;rw [show 1000000+(id-1000000)=id by omega] at hg;refine ⟨_,_,hg,hC _ _ hr,?_,x7.im Fb _⟩;rw [(A _ h2).1,show 1000000+(id-1000000)=id by omega]
  ·cases hF
 have hheldfree:∀b,g8 X.B s.ob ρ w b→¬∃i,i∈ids∧sn s.ob ρ i b:=fun b hb ⟨i,hi,hib⟩=>hb.2.1 (hidown i hi b hib);have hsame:∀b,b<w.heap.size→(¬∃i,i∈ids∧sn s.ob ρ i b)→w'.heap[b]?=w.heap[b]?:=fun b h1 h2=>hM.keeps.block b h1 fun hh=>h2 ((hheld b).1 hh)
 have hRR:∀b,g8 X.B s.ob ρ w b→g8 X.B ob2 ρ2 w' b:=fun b hb=>by
  refine ⟨Nat.lt_of_lt_of_le hb.1 hM.keeps.size,fun ho=>?_,hb.2.2⟩;rcases hown2 b ho with ⟨id,v,o,h1,h2,h3⟩ | ⟨i,v,x,_,h1,h2,h3⟩
  ·rcases hM.own id v o b h1 h3 with h | h
   ·exact hheldfree b hb ((hheld b).1 h)
   ·have:=hb.1; simp only at h; omega
  ·exact hb.2.1 ⟨i,v,x,h1,h2,h3⟩
 have hfin2:(bn res∧∀o∈ro,mc o)∨∀b,g8 Bc (ob0 ro) ρ' w' b→g8 X.B ob2 ρ2 w' b:=by
  refine hfin.imp_right fun hf b hb=>⟨hb.1,fun ho=>?_,?_⟩
  ·rcases hown2 b ho with h | ⟨i,v,x,hi,h1,h2,h3⟩
   ·exact hb.2.1 h
   ·rcases hf b hb.2.2 with h | ⟨j,hj,hjb⟩ | h
    ·exact h.2.1 ⟨i,v,x,h1,h2,h3⟩
    ·obtain ⟨k,hk⟩:=zab.1 hj;obtain ⟨⟨v0,y⟩,g1,hjb⟩:=hjb;have:=hG.inj i j _ _ b h1 g1 h3 hjb;subst this;exact hi (hidn i hj)
    ·have:=hlt i _ b h1 h3; omega
  ·rcases hf b hb.2.2 with h | ⟨j,hj,hjb⟩ | h
   ·exact h.2.2
   ·obtain ⟨k,hk⟩:=zab.1 hj;obtain ⟨⟨v0,y⟩,g1,hjb⟩:=hjb;exact hG.base b (hG.own j _ _ b g1 hjb)
   ·exact hG.base b (.inr (Nat.le_trans hG.keeps.size h))
 have hst:Stays w w' (g8 X.B s.ob ρ w) (g8 X.B ob2 ρ2 w') s.ob ob2 ρ ρ2:=by
  refine ⟨fun b hb=>⟨hRR b hb,hsame b hb.1 (hheldfree b hb)⟩,fun i v x hx=>?_⟩;by_cases hi:∃k,k<ro.length∧j7 u ids k=i
  ·obtain ⟨k,hk,rfl⟩:=hi;have hr:ro[k]?=some ro[k]:=by simp [hk]
   refine ⟨_,_,hC k _ hr,?_,?_⟩
   ·unfold gt;rcases hki:ids[k]? with _ | j
    ·have:j7 u ids k=100000+1000*u+k:=by simp [j7,hki]
     rw [this] at hx;exact Nat.le_of_lt (zh hx)
    ·have:j7 u ids k=j:=by simp [j7,hki]
     rw [this] at hx;simp only [hx];cases x with
     | row sz z app wr xs=>cases app<;>simp [jb]
     | _=>simp [jb]
   ·intro hv;unfold gt at hv;rcases hki:ids[k]? with _ | j
    ·have:j7 u ids k=100000+1000*u+k:=by simp [j7,hki]
     rw [this] at hx;simp only [hki] at hv;have:=zh hx;omega
    ·have hbn:j7 u ids k=j:=by simp [j7,hki]
     rw [hbn] at hx ⊢;simp only [hki,hx] at hv;obtain ⟨v0,y,po',g1,g2,g3,g4⟩:=hidl k j hki;rw [hx] at g1;cases g1
     have hnr:x.pinned=true:=by
      cases x with
      | row sz z app wr xs=>cases app<;>first | rfl | (simp [jb] at hv)
      | _=>rfl
     obtain ⟨b,hρj⟩:∃b,ρ j=some b:=by
      have hob:=hG.obj j v _ hx;cases x with
      | row sz z app wr xs=>
       rcases hob with ⟨_,_,h3⟩ | ⟨b,cs,e,fr,h,_⟩
       ·subst h3; cases hnr
       ·exact ⟨b,h⟩
      | box cells=>obtain ⟨b,cs,e,h,_⟩:=hob; exact ⟨b,h⟩
      | abs T=>obtain ⟨b,h,_⟩:=hob; exact ⟨b,h⟩
      | map _ _=>obtain ⟨b,h,_⟩:=hob; exact ⟨b,h⟩
      | iter _ _ _ _=>obtain ⟨b,m',h,_⟩:=hob; exact ⟨b,h⟩
     have hpin:=hM.pin (1000000+k) b (by
      simp only [lu,i8 g3,g4]
      rw [if_pos (by rw [agl]; exact hnr),(hρc k j hki).1,hρj])
     obtain ⟨hp1,o',hp2,hp3,hp4⟩:=hpin;rw [i8 hr] at hp2;have hro:ro[k]=o':=by have:=zaf.inj hp2; exact (Prod.mk.inj this).2
     have hA:=A k hk;rw [hbn] at hA;refine ⟨by rw [hA.1,hp1,hρj],?_,fun b' cs' e' fr' hb' hh'=>?_⟩
     ·have hkp:=hbox k po' ro[k] g3 hr;rw [g4] at hkp
      revert hkp
      generalize ro[k]=q;intro hkp;cases x with
      | row sz z app wr xs=>
       rcases hkp with h | ⟨z',wr',xs',rfl,h⟩
       ·subst h; cases hnr
       ·exact ⟨rfl,h⟩
      | box _=>cases q<;>first | exact hkp.elim | trivial
      | abs _=>cases q<;>first | exact hkp.elim | exact hkp
      | map _ _=>cases q<;>first | exact hkp.elim | trivial
      | iter _ _ _ _=>cases q<;>first | exact hkp.elim | trivial
     rw [hρj] at hb';cases hb';have hkp:=hbox k po' ro[k] g3 hr;rw [g4,hro] at hkp;have hob':=hM.obj (1000000+k) 0 o' (by rw [i8 hr,hro]);have hob:=hG.obj j v _ hx;cases x with
     | row sz z app wr xs=>
      rcases hkp with h | ⟨z',wr',xs',rfl,h⟩
      ·subst h; cases hnr
      ·exact hp4 rfl cs' e' fr' hh'
     | box cells=>
      cases o' with
      | row _ _ _ _ _=>exact hkp.elim
      | abs _=>exact hkp.elim
      | map _ _=>exact hkp.elim
      | iter _ _ _ _=>exact hkp.elim
      | box cells'=>
       obtain ⟨b1,cs,e,k1,k2,k3,_⟩:=hob;rw [hρj] at k1; cases k1;rw [hh'] at k2; cases k2;obtain ⟨b2,cs2,e2,f1,f2,f3,_⟩:=hob';rw [hp1] at f1; cases f1;refine ⟨cs2,e2,_,f2,?_⟩;have hkp:cells'.length=(imL (fwd s.ob ids) cells).length:=hkp;rw [f3,k3,hkp,gf]
     | abs T=>
      cases o' with
      | row _ _ _ _ _=>exact hkp.elim
      | box _=>exact hkp.elim
      | map _ _=>exact hkp.elim
      | iter _ _ _ _=>exact hkp.elim
      | abs T'=>
       obtain ⟨b1,k1,k2⟩:=hob;rw [hρj] at k1; cases k1;obtain ⟨cs,e,k3,k4⟩:=T.root k2;rw [hh'] at k3; cases k3;obtain ⟨b2,f1,f2⟩:=hob';rw [hp1] at f1; cases f1;obtain ⟨cs2,e2,f3,f4⟩:=T'.root f2;have hkp:T'.size=T.size:=hkp;exact ⟨cs2,e2,_,f3,by rw [f4,k4,hkp]⟩
     | map es c=>
      obtain ⟨b1,k1,k2⟩:=hob;rw [hρj] at k1; cases k1;rw [hh'] at k2; cases k2
     | iter m since seen st=>
      obtain ⟨b1,m',k1,k2,_⟩:=hob;rw [hρj] at k1; cases k1;rw [hh'] at k2; cases k2
  ·refine ⟨v,x,by rw [(hN i hi).2,hx],zac _,fun _=>⟨(hN i hi).1.1,x7.refl x,fun b cs e fr hb hh=>⟨cs,e,fr,?_,rfl⟩⟩⟩;have hb:foot ρ i x b:=.inl hb;rw [hsame b (hlt i _ b hx hb),hh];rintro ⟨j,hj,hjb⟩;obtain ⟨k,hk⟩:=zab.1 hj;obtain ⟨⟨v0,y⟩,g1,hjb⟩:=hjb;have:=hG.inj i j _ _ b hx g1 hb hjb;subst this;exact hi (hidn i hj)
 have hobr:∀k o,ro[k]?=some o→dk w' (g8 X.B ob2 ρ2 w') ob2 ρ2 (j7 u ids k) (imO Fb o):=fun k o hk=>by
  have hkl:=(zaa.1 hk).1;have h0:=hM.obj _ _ _ (i8 hk);rcases hfin2 with ⟨_,hf⟩ | hf
  ·exact (h0.flat (R':=g8 X.B ob2 ρ2 w') (hf o (zae hk))).im (fun _ h=>h) hfitb (A k hkl).1 (A k hkl).2
  ·exact h0.im hf hfitb (A k hkl).1 (A k hkl).2
 refine ⟨c,ρ2,rfl,⟨⟨fun i v x hx=>?_,fun i j x y b hx hy hb hb'=>?_,?_,fun i v x b hx hb=>?_,fun i b hp=>?_⟩,hG.sz,hG.df,fun t=>(hG.env t).stays hst,hG.pnn,hG.small,hG.base⟩,?_⟩
 ·rcases hname i _ hx with ⟨k,o,hk,rfl,hxx⟩ | ⟨hi,hxx⟩
  ·cases hxx;exact hobr k o hk
  ·refine (hG.obj i v x hxx).stays hst (hN i hi).1.1 (hN i hi).1.2 fun b hb=>hsame b (hlt i _ b hxx hb) ?_;rintro ⟨j,hj,hjb⟩;obtain ⟨k,hk⟩:=zab.1 hj;obtain ⟨⟨v0,y⟩,g1,hjb⟩:=hjb;have:=hG.inj i j _ _ b hxx g1 hb hjb;subst this;exact hi (hidn i hj)
 ·have mixed:∀k o i x b,ro[k]?=some o→(¬∃l,l<ro.length∧j7 u ids l=i)→s.ob i=some x→foot ρ' (1000000+k) o b→foot ρ i x.2 b→False:=fun k o i x b hk hi hx h1 h2=>by
   rcases hrb k o b hk h1 with ⟨j,hj,hjb⟩ | h
   ·obtain ⟨l,hl⟩:=zab.1 hj;obtain ⟨⟨v0,y⟩,g1,hjb⟩:=hjb;have:=hG.inj i j _ _ b hx g1 h2 hjb;subst this;exact hi (hidn i hj)
   ·have:=hlt i _ b hx h2; omega
  rcases hname i _ hx with ⟨k,o,hk,rfl,rfl⟩ | ⟨hi,hxx⟩<;>rcases hname j _ hy with ⟨l,q,hl,rfl,rfl⟩ | ⟨hj,hyy⟩
  ·have h1:=(zaa.1 hk).1;have h2:=(zaa.1 hl).1;rw [(A k h1).foot (dh Fb _)] at hb;rw [(A l h2).foot (dh Fb _)] at hb';have:=hM.inj _ _ _ _ b (i8 hk) (i8 hl) hb hb';rw [show k=l by omega]
  ·have h1:=(zaa.1 hk).1;rw [(A k h1).foot (dh Fb _)] at hb;rw [(hN j hj).1.foot rfl] at hb';exact (mixed k o j _ b hk hj hyy hb hb').elim
  ·have h2:=(zaa.1 hl).1;rw [(A l h2).foot (dh Fb _)] at hb';rw [(hN i hi).1.foot rfl] at hb;exact (mixed l q i _ b hl hi hxx hb' hb).elim
  ·rw [(hN i hi).1.foot rfl] at hb;rw [(hN j hj).1.foot rfl] at hb';exact hG.inj i j _ _ b hxx hyy hb hb'
 ·have hk:=hG.keeps;refine ⟨hM.keeps.os.trans hk.os,hM.keeps.tape.trans hk.tape,hM.keeps.output.trans hk.output,Nat.le_trans hk.size hM.keeps.size,fun b hb hI=>?_⟩;rw [hsame b (Nat.lt_of_lt_of_le hb hk.size),hk.block b hb hI];rintro ⟨j,hj,hjb⟩;obtain ⟨k,hk'⟩:=zab.1 hj;obtain ⟨⟨v0,y⟩,g1,hjb⟩:=hjb;rcases hG.own j _ _ b g1 hjb with h | h
  ·exact hI h
  ·omega
 ·rcases hname i _ hx with ⟨k,o,hk,rfl,hxe⟩ | ⟨hi,hxx⟩
  ·cases hxe;rw [(A k (zaa.1 hk).1).foot (dh Fb _)] at hb;rcases hrb k o b hk hb with ⟨j,hj,hjb⟩ | h
   ·obtain ⟨l,hl⟩:=zab.1 hj;obtain ⟨⟨v0,y⟩,g1,hjb⟩:=hjb;exact hG.own j _ _ b g1 hjb
   ·exact .inr (Nat.le_trans hG.keeps.size h)
  ·rw [(hN i hi).1.foot rfl] at hb;exact hG.own i v x b hxx hb
 ·show ρ2 i=some b∧∃o,ob2 i=some (0,o)∧o.pinned=true∧(o.isRow=true→wg X.w0 w' b);obtain ⟨h1,x,h2,hnr,hsz⟩:=hG.pin i b hp;by_cases hi:∃k,k<ro.length∧j7 u ids k=i
  ·obtain ⟨k,hk,rfl⟩:=hi;have hr:ro[k]?=some ro[k]:=by simp [hk]
   rcases hki:ids[k]? with _ | j
   ·have hbn:j7 u ids k=100000+1000*u+k:=by simp [j7,hki]
    rw [hbn,hG.pnn _ (arm (by omega))] at hp;cases hp
   ·have hbn:j7 u ids k=j:=by simp [j7,hki]
    rw [hbn] at h1 h2 ⊢;obtain ⟨v0,y,po',g1,g2,g3,g4⟩:=hidl k j hki;rw [h2] at g1;cases g1
    have hpin:=hM.pin (1000000+k) b (by
     simp only [lu,i8 g3,g4]
     rw [if_pos (by rw [agl]; exact hnr),(hρc k j hki).1,h1])
    obtain ⟨hp1,o',hp2,hp3,hp4⟩:=hpin;rw [i8 hr] at hp2;have hro:ro[k]=o':=by have:=zaf.inj hp2; exact (Prod.mk.inj this).2
    have hA:=A k hk;have hCk:=hC k _ hr;rw [hbn] at hA hCk;refine ⟨by rw [hA.1,hp1],imO Fb o',?_,by rw [agl]; exact hp3,fun hrr=>?_⟩
    rotate_left
    ·rw [apw] at hrr;have hkp:=hbox k po' ro[k] g3 hr;rw [g4,hro] at hkp
     have hxr:x.isRow=true:=by
      cases x with
      | row _ _ _ _ _=>rfl
      | box _=>cases o'<;>first | exact hkp.elim | cases hrr
      | abs _=>cases o'<;>first | exact hkp.elim | cases hrr
      | map _ _=>cases o'<;>first | exact hkp.elim | cases hrr
      | iter _ _ _ _=>cases o'<;>first | exact hkp.elim | cases hrr
     exact (hsz hxr).trans (hp4 hrr)
    rw [hCk,hro];cases x with
    | row sz z app wr xs=>cases app<;>first | (cases hnr; done) | simp [gt,hki,h2,jb]
    | box cells=>simp [gt,hki,h2,jb]
    | abs T=>simp [gt,hki,h2,jb]
    | map es c=>simp [gt,hki,h2,jb]
    | iter m since seen st=>simp [gt,hki,h2,jb]
  ·rw [(hN i hi).1.1,(hN i hi).2];refine ⟨h1,x,h2,hnr,fun hrr=>(hsz hrr).trans ?_⟩;have hb:foot ρ i x b:=.inl h1
   have he:w'.heap[b]?=w.heap[b]?:=hsame b (hlt i _ b h2 hb) (by
    rintro ⟨j,hj,hjb⟩;obtain ⟨k,hk⟩:=zab.1 hj;obtain ⟨⟨v0,y⟩,g1,hjb⟩:=hjb;have:=hG.inj i j _ _ b h2 g1 hb hjb;subst this
    exact hi (hidn i hj))
   intro cs e fr hc;exact ⟨cs,e,fr,by rw [he]; exact hc,rfl⟩
 ·rcases hfin2 with ⟨hf,_⟩ | hf
  ·exact (hres.flat (R':=g8 X.B ob2 ρ2 w') hf).im (fun _ h=>h) hfitb
  ·exact hres.im hf hfitb
end

def ue (ver new:Nat):Option (Nat×Ob)→Option (Nat×Nat)
 | some (v,_)=>if ver=v then some (new,0) else none
 | none=>none
def xd (np lb:Nat) (ob:Obs) (ids:List Nat):Ren:=fun id ver=>
 if 1000000≤id∧id<1000000+np then ue ver id (ob id)
 else match idx id ids with
  | some k=>ue ver (lb+k) (ob id)
  | none=>none
def ab3 (F:Ren):Option (Nat×Ob)→Option Ob
 | some (_,o)=>some (imO F o)
 | none=>none
def rn (F:Ren) (ob:Obs):List Nat→Option (List Ob)
 | []=>some []
 | i::is=>match ab3 F (ob i),rn F ob is with
  | some o,some os=>some (o::os)
  | _,_=>none
theorem at0 {F:Ren} {ob:Obs}:∀{ids:List Nat} {po:List Ob},rn F ob ids=some po→po.length=ids.length∧∀(k i:Nat) (o:Ob),ids[k]?=some i→po[k]?=some o→∃v x,ob i=some (v,x)∧o=imO F x
 | [],po,h=>by simp [rn] at h; subst h; simp
 | j::ids,po,h=>by
  simp only [rn] at h;split at h
  ·rename_i o os h1 h2;cases h;obtain ⟨g1,g2⟩:=at0 h2;refine ⟨by simp [g1],fun k i q hk ho=>?_⟩;cases k with
   | zero=>
    simp at hk ho;subst hk; subst ho;rcases hj:ob j with _ | ⟨v,x⟩
    ·rw [hj] at h1; cases h1
    ·rw [hj] at h1;cases h1;exact ⟨v,x,rfl,rfl⟩
   | succ k=>simp at hk ho; exact g2 k i q hk ho
  ·cases h
def bz (np:Nat):Nat→List Nat
 | 0=>[]
 | n+1=>(1000000+(np-(n+1)))::bz np n
theorem au3 {np:Nat}:∀{n k:Nat},n≤np→k<n→(bz np n)[k]?=some (1000000+(np-n+k))
 | 0,k,_,h=>by omega
 | n+1,0,h,_=>by simp [bz]
 | n+1,k+1,h,hk=>by
  simp only [bz,List.getElem?_cons_succ];rw [au3 (by omega) (by omega)];congr 1;omega
theorem arl {np:Nat}:∀{n:Nat},(bz np n).length=n
 | 0=>rfl
 | n+1=>by simp [bz,arl]
def zo (np i:Nat):Bool:=decide (1000000≤i∧i<1000000+np)
def mn (np:Nat) (l:List Nat):List Nat:=l.filter fun i=>!zo np i
def nrm (fuel np lb:Nat) (vs:List AV) (ob:Obs):Option (List AV×List Ob×List Ob):=
 let ids:=mn np (n7 ob fuel (m0 vs++bz np np) [])
 let F:=xd np lb ob ids
 match rn F ob (bz np np),rn F ob ids with
 | some pos,some los=>some (imL F vs,pos,los)
 | _,_=>none
def bg:Nat→List Ob→Obs→Obs
 | _,[],ob=>ob
 | k,o::os,ob=>upd k (0,o) (bg (k+1) os ob)
theorem am7:∀{os:List Ob} {k id:Nat} {ob:Obs},(id<k∨k+os.length≤id)→bg k os ob id=ob id
 | [],k,id,ob,h=>rfl
 | o::os,k,id,ob,h=>by
  simp at h;unfold bg upd;rw [if_neg (by omega)];exact am7 (by omega)
theorem aij:∀{os:List Ob} {k j:Nat} {o:Ob} {ob:Obs},os[j]?=some o→bg k os ob (k+j)=some (0,o)
 | [],k,j,o,ob,h=>by simp at h
 | q::os,k,0,o,ob,h=>by simp at h; subst h; simp [bg,upd]
 | q::os,k,j+1,o,ob,h=>by
  simp at h;unfold bg upd;rw [if_neg (by omega),show k+(j+1)=k+1+j by omega];exact aij h
theorem ahb (ob:Obs):∀(fuel:Nat) (todo acc:List Nat),acc.Nodup→(n7 ob fuel todo acc).Nodup
 | 0,_,acc,h=>h
 | _+1,[],acc,h=>h
 | n+1,i::todo,acc,h=>by
  unfold n7;split
  ·exact ahb ob n todo acc h
  ·rename_i hc;refine ahb ob n _ _ ?_;rw [List.nodup_append];refine ⟨h,by simp,fun a ha b hb=>?_⟩;simp at hb;subst hb;intro e;subst e;simp at hc;exact hc ha
theorem alv {l:List Nat} (h:l.Nodup) {i j x:Nat} (hi:l[i]?=some x) (hj:l[j]?=some x):i=j:=by
 have h1:=(zaa.1 hi)
 have h2:=(zaa.1 hj)
 obtain ⟨a1,b1⟩:=h1;obtain ⟨a2,b2⟩:=h2;rcases Nat.lt_trichotomy i j with hlt | rfl | hlt
 ·exact absurd (by rw [b1,b2]) (List.pairwise_iff_getElem.1 h i j a1 a2 hlt)
 ·rfl
 ·exact absurd (by rw [b1,b2]) (List.pairwise_iff_getElem.1 h j i a2 a1 hlt)
section
variable {P:Program} {X:Cx} {w w':World} {s:St} {ρ ρ':Pl→Option Nat} {a:Act} {ob ob':Obs} {R R':Nat→Prop}
theorem Mem.nrm (hM:Mem X ob ρ w) {fuel np lb:Nat} {vs vs':List AV} {pos los:List Ob} (h:nrm fuel np lb vs ob=some (vs',pos,los)) (hlb:1000000+np≤lb) (hpn:∀id b,X.pn id=some b→1000000≤id∧id<1000000+np) :
  ∃ρ',Mem X (bg 1000000 pos (bg lb los fun _=>none)) ρ' w∧vs'.length=vs.length∧pos.length=np ∧
   ∀(i:Nat) (x y:AV) (c:Value),vs[i]?=some x→vs'[i]?=some y→RelA w (g8 X.B ob ρ w) ob ρ x c→RelA w (g8 X.B (bg 1000000 pos (bg lb los fun _=>none)) ρ' w) (bg 1000000 pos (bg lb los fun _=>none)) ρ' y c:=by
 unfold Ev.nrm at h;generalize v9:mn np (n7 ob fuel (m0 vs++bz np np) [])=ids at h;simp only at h;generalize hF:xd np lb ob ids=F at h;split at h
 ·rename_i pos' los' hp hl;cases h;obtain ⟨p1,p2⟩:=at0 hp;obtain ⟨l1,l2⟩:=at0 hl;rw [arl] at p1
  have hnd:ids.Nodup:=by
   rw [← v9];exact (ahb ob fuel _ [] (by simp)).filter _
  have hnp:∀i,i∈ids→¬(1000000≤i∧i<1000000+np):=fun i hi=>by
   rw [← v9] at hi;simp [mn,zo] at hi;intro hc;have:=hi.2;omega
  generalize hob2:bg 1000000 pos (bg lb los fun _=>none)=ob2
  let ρ2:Pl→Option Nat:=fun p=>match p with
   | .o i=>if 1000000≤i∧i<1000000+np then ρ i else if lb≤i then (ids[i-lb]?).bind fun i=>ρ (.o i) else none
   | .s i j=>if 1000000≤i∧i<1000000+np then ρ (.s i j) else if lb≤i then (ids[i-lb]?).bind fun i=>ρ (.s i j) else none
  have hP:∀k o,pos[k]?=some o→ob2 (1000000+k)=some (0,o)∧aca ρ ρ2 (1000000+k) (1000000+k)∧∃v x,ob (1000000+k)=some (v,x)∧o=imO F x:=fun k o hk=>by
   have hlt:=(zaa.1 hk).1;refine ⟨by rw [← hob2]; exact aij hk,⟨by simp only [ρ2]; rw [if_pos (by omega)],fun j=>by simp only [ρ2]; rw [if_pos (by omega)]⟩,?_⟩;have:=au3 (np:=np) (n:=np) (k:=k) (zac _) (by omega);rw [Nat.sub_self,Nat.zero_add] at this;exact p2 k _ o this hk
  have hL:∀k o,los[k]?=some o→ob2 (lb+k)=some (0,o)∧∃i v x,ids[k]?=some i∧aca ρ ρ2 i (lb+k)∧ob i=some (v,x)∧o=imO F x:=fun k o hk=>by
   have hlt:=(zaa.1 hk).1;have hi:ids[k]?=some (ids[k]'(by omega)):=by simp [show k<ids.length by omega]
   obtain ⟨v,x,g1,g2⟩:=l2 k _ o hi hk;refine ⟨?_,_,v,x,hi,?_,g1,g2⟩
   ·rw [← hob2,am7 (by omega)];exact aij hk
   ·refine ⟨?_,fun j=>?_⟩
    ·simp only [ρ2];rw [if_neg (by omega),if_pos (by omega),show lb+k-lb=k by omega,hi]
     rfl
    ·simp only [ρ2];rw [if_neg (by omega),if_pos (by omega),show lb+k-lb=k by omega,hi]
     rfl
  have hcase:∀id x,ob2 id=some x→(∃k,pos[k]?=some x.2∧id=1000000+k∧x.1=0)∨(∃k,los[k]?=some x.2∧id=lb+k∧x.1=0):=fun id x hx=>by
   rw [← hob2] at hx;by_cases h1:1000000≤id∧id<1000000+np
   ·have hk:pos[id-1000000]?=some (pos[id-1000000]'(by omega)):=by simp [show id-1000000<pos.length by omega]
    have:=aij (k:=1000000) (ob:=bg lb los fun _=>none) hk;rw [show 1000000+(id-1000000)=id by omega,hx] at this;cases this;exact .inl ⟨_,hk,by omega,rfl⟩
   ·rw [am7 (by omega)] at hx;by_cases h2:lb≤id∧id<lb+los.length
    ·have hk:los[id-lb]?=some (los[id-lb]'(by omega)):=by simp [show id-lb<los.length by omega]
     have:=aij (k:=lb) (ob:=fun _=>none) hk;rw [show lb+(id-lb)=id by omega,hx] at this;cases this;exact .inr ⟨_,hk,by omega,rfl⟩
    ·rw [am7 (by omega)] at hx;cases hx
  have hold:∀id x,ob2 id=some x→∃i v y,ob i=some (v,y)∧x=(0,imO F y)∧aca ρ ρ2 i id∧((id=i∧1000000≤i∧i<1000000+np)∨(∃k,ids[k]?=some i∧id=lb+k)):=fun id x hx=>by
   rcases hcase id x hx with ⟨k,h1,rfl,h3⟩ | ⟨k,h1,rfl,h3⟩
   ·obtain ⟨g1,g2,v,y,g3,g4⟩:=hP k _ h1;have hlt:=(zaa.1 h1).1;exact ⟨_,v,y,g3,Prod.ext h3 g4,g2,.inl ⟨rfl,by omega,by omega⟩⟩
   ·obtain ⟨g1,i,v,y,g2,g3,g4,g5⟩:=hL k _ h1;exact ⟨i,v,y,g4,Prod.ext h3 g5,g3,.inr ⟨k,g2,rfl⟩⟩
  have hfit:adm ob ob2 ρ ρ2 F:=fun id ver i v hFv=>by
   rw [← hF] at hFv;unfold xd at hFv;split at hFv
   ·rename_i hc;rcases ho:ob id with _ | ⟨v0,y⟩
    ·rw [ho] at hFv; cases hFv
    ·rw [ho] at hFv;simp only [ue] at hFv;split at hFv
     ·rename_i hv;cases hFv;subst hv;have hk:pos[id-1000000]?=some (pos[id-1000000]'(by omega)):=by simp [show id-1000000<pos.length by omega]
      obtain ⟨g1,g2,v1,y1,g3,g4⟩:=hP _ _ hk;rw [show 1000000+(id-1000000)=id by omega] at g1 g2 g3;rw [ho] at g3;cases g3;exact ⟨_,_,rfl,g1,g2.1,by rw [g4]; exact x7.im F _⟩
     ·cases hFv
   ·split at hFv
    ·rename_i k hk;have hik:=ajs hk;rcases ho:ob id with _ | ⟨v0,y⟩
     ·rw [ho] at hFv; cases hFv
     ·rw [ho] at hFv;simp only [ue] at hFv;split at hFv
      ·rename_i hv;cases hFv;subst hv;have hlt:=(zaa.1 hik).1;have hlk:los[k]?=some (los[k]'(by omega)):=by simp [show k<los.length by omega]
       obtain ⟨g1,i,v1,y1,g2,g3,g4,g5⟩:=hL k _ hlk;rw [hik] at g2;cases g2;rw [ho] at g4;cases g4;exact ⟨_,_,rfl,g1,g3.1,by rw [g5]; exact x7.im F _⟩
      ·cases hFv
    ·cases hFv
  have hR:∀b,g8 X.B ob ρ w b→g8 X.B ob2 ρ2 w b:=fun b hb=>⟨hb.1,fun ⟨id,v,o,h1,h2,h3⟩=>by
   obtain ⟨i,v',y,g1,g2,g3,_⟩:=hold id _ h1;cases g2;rw [a5o] at h2
   exact hb.2.1 ⟨i,v',y,g1,h2,(g3.foot (dh F y)).1 h3⟩,hb.2.2⟩
  refine ⟨ρ2,⟨fun id v o hx=>?_,fun id id' x x' b h1 h2 h3 h4=>?_,hM.keeps,fun id v o b h1 h2=>?_,fun id b h1=>?_⟩,by rw [gf],p1,fun i x y c hx hy hr=>?_⟩
  ·obtain ⟨i,v',y,g1,g2,g3,_⟩:=hold id _ hx;cases g2;exact (hM.obj i v' y g1).im hR hfit g3.1 g3.2
  ·obtain ⟨i,v,y,g1,g2,g3,g4⟩:=hold id _ h1;obtain ⟨i',v',y',g1',g2',g3',g4'⟩:=hold id' _ h2;have:=hM.inj i i' _ _ b g1 g1' ((g3.foot (by rw [g2]; exact dh F y)).1 h3) ((g3'.foot (by rw [g2']; exact dh F y')).1 h4);subst this;rcases g4 with ⟨rfl,q1,q2⟩ | ⟨k,q1,rfl⟩<;>rcases g4' with ⟨rfl,q1',q2'⟩ | ⟨k',q1',rfl⟩
   ·rfl
   ·exact absurd ⟨q1,q2⟩ (hnp _ (zae q1'))
   ·exact absurd ⟨q1',q2'⟩ (hnp _ (zae q1))
   ·rw [alv hnd q1 q1']
  ·obtain ⟨i,v',y,g1,g2,g3,_⟩:=hold id _ h1;exact hM.own i v' y b g1 ((g3.foot (by rw [show o=imO F y from congrArg Prod.snd g2]; exact dh F y)).1 h2)
  ·obtain ⟨q1,q2⟩:=hpn id b h1;obtain ⟨e1,cells,e2,e3⟩:=hM.pin id b h1;have hk:pos[id-1000000]?=some (pos[id-1000000]'(by omega)):=by simp [show id-1000000<pos.length by omega]
   obtain ⟨g1,g2,v1,y1,g3,g4⟩:=hP _ _ hk;rw [show 1000000+(id-1000000)=id by omega] at g1 g2 g3;rw [e2] at g3;cases g3;exact ⟨by rw [g2.1,e1],imO F cells,by rw [g1,g4],by rw [agl]; exact e3.1,by rw [apw]; exact e3.2⟩
  ·rw [yg,hx] at hy;cases hy;exact hr.im hR hfit
 ·cases h
end

inductive PX where
 | see (o:PO)
 | act (o:PO)
 | call (f:FuncId) (args:List Opd)
 | callv (x:Opd) (args:List Opd)
 | inv (tbl:List (TypeId×FuncId)) (x:Opd) (args:List Opd)
 | nxt (x:Opd)
structure PR where
 d:Option Nat
 g:Option (Nat×Bool)
 u:Nat
 x:PX
inductive PC where
 | skip
 | reg (ops:List PR)
 | seq (a b:PC)
 | cond (x:Opd) (a b:PC)
 | block (id:Nat) (c:PC)
 | loop (c:PC)
 | exit (id:Nat)
 | ret
 | drw (ops:List PR) (pre:List (List Nat))
inductive Ex where
 | nor
 | ex (id:Nat)
 | rt
def o3 (d:Option Nat) (x:AV) (e:Env):Env:=match d with
 | some d=>put d x e
 | none=>e
def aez (b:Bool):AV→Option Bool
 | .r (.v (.bool x))=>some (bif b then x else !x)
 | .gd h (.r (.v (.bool x)))=>some (h&&(bif b then x else !x))
 | _=>none
def yes (e:Env):Option (Nat×Bool)→Option Bool
 | none=>some true
 | some (t,b)=>aez b (e t)
def gdv (g:Option (Nat×Bool)) (b:Bool) (x:AV):AV:=match g with
 | none=>x
 | some _=>.gd b x
def okC (u:Nat) (ids:List Nat) (m:Nat) (l:List Nat) (fz:Bool):Bool:=
 decide (ids.length≤m)&&decide (((zah m).map (j7 u ids)).Nodup)&&decide (100000+1000*u+m≤1000000)&&(fz||l.all fun i=>!ids.contains i)
def al:List Ob→List Ob→Prop
 | .box a::xs,.box b::ys=>b.length=a.length∧al xs ys
 | .abs T::xs,.abs T'::ys=>T'.size=T.size∧al xs ys
 | .map _ _::xs,.map _ _::ys=>True∧al xs ys
 | .iter _ _ _ _::xs,.iter _ _ _ _::ys=>True∧al xs ys
 | .box _::_,_::_=>False
 | .abs _::_,_::_=>False
 | .map _ _::_,_::_=>False
 | .iter _ _ _ _::_,_::_=>False
 | .row sz _ false _ l::xs,.row sz' _ false _ l'::ys=>(sz'=sz∧l.length≤l'.length)∧al xs ys
 | .row _ _ false _ _::_,_::_=>False
 | _::xs,_::ys=>al xs ys
 | _,_=>True
def aeq (P:Program) (f:FuncId) (u:Nat) (ob:Obs) (ids:List Nat) (as:List AV) (l:List Nat) (fz:Bool) (K:AV→Obs→Prop):Option (List Ob)→Prop
 | none=>False
 | some po=>∃res ro,a8 P f as po res ro∧okC u ids ro.length l fz=true∧al po ro∧(fz=false→bn res∧∀o∈ro,mc o)∧K (imV (back ob u ids ro.length) res) (cw ob u ids (back ob u ids ro.length) 0 ro)
def kw (P:Program) (f:FuncId) (u:Nat) (ob:Obs) (as:List AV) (l:List Nat) (fz:Bool) (K:AV→Obs→Prop):Prop:=
 aeq P f u ob (n7 ob 64 (m0 as) []) (imL (fwd ob (n7 ob 64 (m0 as) [])) as) l fz K (u4 (fwd ob (n7 ob 64 (m0 as) [])) ob (n7 ob 64 (m0 as) []))
def bj2 (P:Program) (f:FuncId) (u:Nat) (ob:Obs) (vs:List AV) (K:AV→Obs→Prop):Prop:=
 ∃id v z xs,ob id=some (v,.row 1 z true true (xs.map RV.v))∧xs≠[]∧∀m,kw P f u (upd id (v,.box (xs.map (fun x=>AV.r (.v x))++zai m .undef)) ob) vs [] true K
def bj3 (P:Program) (f:FuncId) (u:Nat) (ob:Obs) (vs:List AV) (K:AV→Obs→Prop):Prop:=
 ∃id v sz z xs,ob id=some (v,.row sz z true true xs)∧xs≠[]∧kw P f u (upd id (v,.row sz z false true xs) ob) vs [] true K
def ag6 (P:Program) (f:FuncId) (u:Nat) (ob:Obs) (K:AV→Obs→Prop) (vs:List AV):Option (List AV×List Nat)→Prop
 | none=>kw P f u ob vs [] true K
 | some (as,[])=>kw P f u ob as [] true K
 | some (as,i::l)=>kw P f u (freeze ob (i::l)) as (i::l) true K∨kw P f u ob as (i::l) false K∨kw P f u ob vs [] true K∨bj2 P f u ob vs K∨bj3 P f u ob vs K
def zp (P:Program) (f:FuncId):Bool:=match P.funcs[f]? with
 | some fn => fn.body.isSome && !(fn.name == "runtime.NumGoroutine")
 | none=>false
def a3q (P:Program) (u:Nat) (ob:Obs) (vs:List AV) (K:AV→Obs→Prop):AV→Prop
 | .fn (.func f) cap k=>zp P f=true∧ag6 P f u ob K (cap.take k++(vs++cap.drop k)) (m9 ob (cap.take k++(vs++cap.drop k)))
 | _=>False
def du (t:TypeId):List (TypeId×FuncId)→Option FuncId
 | []=>none
 | (t',f)::r=>if t'=t then some f else du t r
def anl (P:Program) (tbl:List (TypeId×FuncId)) (u:Nat) (ob:Obs) (vs:List AV) (K:AV→Obs→Prop):AV→Prop
 | .ifc t x=>match du t tbl with
  | some f=>ag6 P f u ob K (x::vs) (m9 ob (x::vs))
  | none=>False
 | _=>False
def db (es:List MapEntry) (seen:List Nat):List MapEntry:=es.filter fun e=>!seen.contains e.born
def a9d (id ver:Nat) (ob:Obs) (m:AV) (since:Nat) (seen:List Nat) (st:Nat) (K:AV→Obs→Prop):Option (List MapEntry×Nat)→Prop
 | some (es,c)=>(∀e,e∈es→e.born<since)∧since≤st∧(db es seen=[]→K (.tup [bl false]) ob) ∧
   ∀e,e∈db es seen→K (.tup [bl true,.r (lc e.key),.r (lc e.val)]) (upd id (ver,.iter m since (seen++[e.born]) c) ob)
 | none=>False
def a2f (id ver:Nat) (ob:Obs) (K:AV→Obs→Prop):Option (AV×Nat×List Nat×Nat)→Prop
 | some (.mp mid mver,since,seen,st)=>a9d id ver ob (.mp mid mver) since seen st K (t7 ob mid mver)
 | _=>False
def axd (ob:Obs) (K:AV→Obs→Prop):AV→Prop
 | .ptr id ver 0=>a2f id ver ob K (de ob id ver)
 | _=>False
def PX.wp (P:Program) (r:PR) (s:St) (K:St→Prop) (b:Bool):PX→Prop
 | .see o=>(o.see b s.e s.ob).ok∧K ⟨o3 r.d (gdv r.g b (o.see b s.e s.ob).v) s.e,s.ob⟩
 | .act o=>(b=true→(o.act (r.d.getD 0) s.e s.ob).ok∧K ⟨o3 r.d (o.act (r.d.getD 0) s.e s.ob).v s.e,(o.act (r.d.getD 0) s.e s.ob).ob⟩)∧(b=false→K ⟨o3 r.d .undef s.e,s.ob⟩)
 | .call f args=>(b=true→bt true s.e args∧ag6 P f r.u s.ob (fun v ob=>K ⟨o3 r.d v s.e,ob⟩) (l8 s.e args) (m9 s.ob (l8 s.e args)))∧(b=false→K ⟨o3 r.d .undef s.e,s.ob⟩)
 | .callv x args=>(b=true→(x.ev s.e).may true∧bt true s.e args∧a3q P r.u s.ob (l8 s.e args) (fun v ob=>K ⟨o3 r.d v s.e,ob⟩) (x.ev s.e).bare)∧(b=false→K ⟨o3 r.d .undef s.e,s.ob⟩)
 | .inv tbl x args=>(b=true→(x.ev s.e).may true∧bt true s.e args∧anl P tbl r.u s.ob (l8 s.e args) (fun v ob=>K ⟨o3 r.d v s.e,ob⟩) (x.ev s.e).bare)∧(b=false→K ⟨o3 r.d .undef s.e,s.ob⟩)
 | .nxt x=>(b=true→(x.ev s.e).may true∧axd s.ob (fun v ob=>K ⟨o3 r.d v s.e,ob⟩) (x.ev s.e).bare)∧(b=false→K ⟨o3 r.d .undef s.e,s.ob⟩)
def PR.wp (P:Program) (r:PR) (s:St) (K:St→Prop):Option Bool→Prop
 | some b=>r.x.wp P r s K b
 | none=>False
def wpR (P:Program):List PR→(St→Prop)→St→Prop
 | [],K,s=>K s
 | r::rs,K,s=>r.wp P s (wpR P rs K) (yes s.e r.g)
def avz (P:Program) (m:String) (p:TypeId×FuncId):Bool:=zp P p.2&&(match P.info? p.1 with
 | some i=>match i.methods.find? (·.name == m) with
  | some q=>q.path.isEmpty&&(match q.func with | some (f,b)=>f == p.2&&b | none=>false)
  | none=>false
 | none=>false)&&ai P p.1 (fun d=>match d with | .pointer _=>true | _=>false)
def aei (P:Program) (o:Oper):PX→Bool
 | .see po=>ayl P o po
 | .act po=>ams P o po
 | .call f args=>match o.op with
  | .call c=>match c.callee with
   | .value (.func f')=>f == f'&&u7 opd c.args.toList args&&zp P f
   | _=>false
  | _=>false
 | .callv x args=>match o.op with
  | .call c=>match c.callee with
   | .value x'=>opd x' x&&u7 opd c.args.toList args
   | _=>false
  | _=>false
 | .inv tbl x args=>match o.op with
  | .call c=>match c.callee with
   | .invoke r m=>opd r x&&u7 opd c.args.toList args&&tbl.all (avz P m)
   | _=>false
  | _=>false
 | .nxt x=>match o.op with
  | .next it str=>opd it x && !str
  | _=>false
def baf (ops:Array Oper):Option (Nat×Bool)→Option (Nat×Bool)→Bool
 | none,none=>true
 | some (j,b),some (t,b')=>b == b'&&((ops[j]?).bind (·.dst)) == some t
 | _,_=>false
def a2v:PX→Bool
 | .see _=>true
 | _=>false
def a59:PX→Bool
 | .act o=>!o.nod
 | _=>false
def aj5 (P:Program) (n:Nat) (ops:Array Oper) (o:Oper) (r:PR):Bool:=
 o.dst == r.d&&(match r.d with | some d=>decide (d<n) | none=>!a2v r.x && !a59 r.x)&&baf ops o.guard r.g&&aei P o r.x
def asq (ops:Array Oper) (pre:List (List Nat)):Bool:=
 pre.length == ops.size&&(zah ops.size).all fun j=>match ops[j]?,pre[j]? with
  | some o,some p=>o.after.all (fun e=>!Region.binds .any e||decide (e.on<j)) &&
    p.all (fun k=>decide (k<j)&&o.after.any fun e=>Region.binds .any e&&(e.on == k||(pre.getD e.on []).contains k))
  | _,_=>false
def mt (P:Program) (n:Nat):Code→PC→Bool
 | .skip,.skip=>true
 | .region _ ops d,.reg rs=>!d&&u7 (aj5 P n ops) ops.toList rs
 | .region _ ops d,.drw rs pre=>d&&P.follows .mixedOrders&&u7 (aj5 P n ops) ops.toList rs&&asq ops pre
 | .seq a b,.seq a' b'=>mt P n a a'&&mt P n b b'
 | .cond x a b,.cond x' a' b'=>opd x x'&&mt P n a a'&&mt P n b b'
 | .block i c,.block j c'=>i == j&&mt P n c c'
 | .loop c,.loop c'=>mt P n c c'
 | .exit i,.exit j=>i == j
 | .ret,.ret=>true
 | _,_=>false
section
variable {P:Program} {X:Cx} [GlC P X] {w w':World} {s:St} {ρ ρ':Pl→Option Nat} {a:Act} {o:Oper} {ob ob':Obs} {R R':Nat→Prop}
theorem bf4 (hG:Gam X s ρ a w) {id ver lo len sz:Nat} {z:RV} {app wr:Bool} {xs:List RV} {c:Value} (hid:s.ob id=some (ver,.row sz z app wr xs)) (h:RA X s ρ w (.own id ver lo len) c) (hR:∀b,g8 X.B s.ob ρ w b→R b)
  (hb:∀b,ρ id=some b→b<w.heap.size→R b):RelV w R (.sl sz ((xs.drop lo).take len)) c:=by
 cases h;rename_i h;obtain ⟨A,cap,rfl,e2,e3,e4,e5⟩:=h.live hid;have hlen:((xs.drop lo).take len).length=len:=by simp; omega
 have key:=RelV.sl (w:=w) (R:=R) sz ((xs.drop lo).take len) A cap (by omega) e3;rw [hlen] at key
 have hget:∀(i:Nat) (x:RV),((xs.drop lo).take len)[i]?=some x→xs[lo+i]?=some x:=fun i x hi=>by
  rw [List.getElem?_take] at hi;split at hi
  ·rwa [List.getElem?_drop] at hi
  ·cases hi
 rcases hG.obj id ver _ hid with ⟨h1,h2⟩ | ⟨b,cs,e,fr,h1,h2,h3,h4,h5,h6⟩
 ·subst h1;have:len=0:=by have:lo+len≤0:=e4; omega
  subst this;exact key 0 0 (fun _ _=>undef) (by simp) (by simp) (by simp) (by simp)
 ·refine key b (lo*sz) (fun i j=>(cs[(lo+i)*sz+j]?).getD undef) (fun h0=>?_) (fun i x hi=>(h6 _ x (hget i x hi)).1) (fun i x j y hi hj=>?_) (fun i x j y hi hj=>?_)
  ·obtain ⟨b',cs',e',fr',f1,f2,f3,f4⟩:=e5 (by omega);rw [h1] at f1;cases f1;exact ⟨f2,hb b h1 (Array.getElem?_eq_some_iff.1 h2).1⟩
  ·obtain ⟨c,g1,g2,g3⟩:=(h6 _ x (hget i x hi)).2 j y hj;rw [g1];refine ⟨?_,g2⟩;simp only [World.cell?,h2,Option.isSome_none,Bool.false_eq_true,if_false,Option.getD_some];rw [← g1,Nat.add_mul]
  ·obtain ⟨c,g1,g2,g3⟩:=(h6 _ x (hget i x hi)).2 j y hj;rw [g1];exact g3.mono fun b hb'=>⟨hR b hb',rfl⟩
theorem a4s (hG:Gam X s ρ a w) {x:AV} {y:RV} {l:List Nat} {c:Value} (h:x.rv s.ob=some (y,l)) (hx:RA X s ρ w x c) (hR:∀b,g8 X.B s.ob ρ w b→R b) (hb:∀i,i∈l→∀b,ρ i=some b→b<w.heap.size→R b):RelV w R y c:=by
 unfold AV.rv at h;split at h
 ·cases h; cases hx; rename_i h; exact h.mono fun b hb'=>⟨hR b hb',rfl⟩
 ·cases h; cases hx;exact .sl _ [] none 0 (by simp) (by simp) 0 0 (fun _ _=>undef) (by simp) (by simp) (by simp) (by simp)
 ·split at h
  ·rename_i hr;cases h;exact bf4 hG (o9 hr) hx hR (hb _ (by simp))
  ·cases h
 ·cases h
theorem azy (hG:Gam X s ρ a w) (hR:∀b,g8 X.B s.ob ρ w b→R b):∀{xs:List AV} {ys:List RV} {l:List Nat},rvs s.ob xs=some (ys,l)→(∀i,i∈l→∀b,ρ i=some b→b<w.heap.size→R b) →
  ∀(i:Nat) (x:AV) (y:RV) (c:Value),xs[i]?=some x→ys[i]?=some y→RA X s ρ w x c→RelV w R y c
 | [],ys,l,h,hs,i,x,y,c,hx,hy,hr=>by simp at hx
 | z::xs,ys,l,h,hs,i,x,y,c,hx,hy,hr=>by
  simp only [rvs] at h;split at h
  ·rename_i y' k zs j h1 h2;cases h;cases i with
   | zero=>
    simp at hx hy;subst hx; subst hy;exact a4s hG h1 hr hR (fun p hp=>hs p (by simp [hp]))
   | succ i=>
    simp at hx hy;exact azy hG hR h2 (fun p hp=>hs p (by simp [hp])) i x y c hx hy hr
  ·cases h
theorem baq (hG:Gam X s ρ a w) (hR:∀b,g8 X.B s.ob ρ w b→R b) {x y:AV} {l:List Nat} {c:Value} (h:ix s.ob x=some (y,l)) (hb:∀i,i∈l→∀b,ρ i=some b→b<w.heap.size→R b) (hx:RA X s ρ w x c):RelA w R s.ob ρ y c:=by
 have keep:∀z:AV,RA X s ρ w z c→RelA w R s.ob ρ z c:=fun z hz=>hz.stays ⟨fun b hb'=>⟨hR b hb',rfl⟩,fun id v o h=>⟨v,o,h,zac _,fun _=>⟨rfl,x7.refl o,fun b cs e fr _ h=>⟨cs,e,fr,h,rfl⟩⟩⟩⟩;unfold ix at h;split at h
 ·split at h
  ·rename_i hr;cases h;exact .r (a4s hG hr hx hR hb)
  ·cases h
 ·cases h; cases hx;exact .r (.sl _ [] none 0 (by simp) (by simp) 0 0 (fun _ _=>undef) (by simp) (by simp) (by simp) (by simp))
 ·rename_i xs;split at h
  ·rename_i ys l' hrv;cases h;cases hx;rename_i cs hl hrel;refine .r (.agg _ _ (by rw [pq hrv]; exact hl) fun i y c hy hc=>?_);have hlt:i<xs.length:=by have:=(zaa.1 hy).1; have:=pq hrv; omega
   have hxi:xs[i]?=some xs[i]:=by simp [hlt]
   exact azy hG hR hrv hb i _ y c hxi hy (hrel i _ c hxi hc)
  ·cases h
 ·cases h
 ·cases h
 ·cases h;exact keep _ hx
theorem ayq (hG:Gam X s ρ a w) (hR:∀b,g8 X.B s.ob ρ w b→R b):∀{xs ys:List AV} {l:List Nat},m9 s.ob xs=some (ys,l)→(∀i,i∈l→∀b,ρ i=some b→b<w.heap.size→R b) →
  ys.length=xs.length∧∀(i:Nat) (x y:AV) (c:Value),xs[i]?=some x→ys[i]?=some y→RA X s ρ w x c→RelA w R s.ob ρ y c
 | [],ys,l,h,hs=>by simp [m9] at h; obtain ⟨rfl,rfl⟩:=h; simp
 | z::xs,ys,l,h,hs=>by
  simp only [m9] at h;split at h
  ·rename_i y' k zs j h1 h2;cases h;obtain ⟨g1,g2⟩:=ayq hG hR h2 (fun p hp=>hs p (by simp [hp]));refine ⟨by simp [g1],fun i x y c hx hy hr=>?_⟩;cases i with
   | zero=>
    simp at hx hy;subst hx; subst hy;exact baq hG hR h1 (fun p hp=>hs p (by simp [hp])) hr
   | succ i=>
    simp at hx hy;exact g2 i x y c hx hy hr
  ·cases h
theorem a4t {x:AV} {y:RV} {l:List Nat} (h:x.rv ob=some (y,l)):∀i,i∈l→∃q,ob i=some q:=by
 unfold AV.rv at h;split at h
 ·cases h; simp
 ·cases h; simp
 ·split at h
  ·rename_i hr;cases h;intro i hi;simp at hi;subst hi;exact ⟨_,o9 hr⟩
  ·cases h
 ·cases h
theorem azz:∀{xs:List AV} {ys:List RV} {l:List Nat},rvs ob xs=some (ys,l)→∀i,i∈l→∃q,ob i=some q
 | [],ys,l,h=>by simp [rvs] at h; simp [h.2]
 | z::xs,ys,l,h=>by
  simp only [rvs] at h;split at h
  ·rename_i y' k zs j h1 h2;cases h;intro i hi;rcases List.mem_append.1 hi with hi | hi
   ·exact a4t h1 i hi
   ·exact azz h2 i hi
  ·cases h
theorem ayr:∀{xs ys:List AV} {l:List Nat},m9 ob xs=some (ys,l)→∀i,i∈l→∃q,ob i=some q
 | [],ys,l,h=>by simp [m9] at h; simp [h.2]
 | z::xs,ys,l,h=>by
  simp only [m9] at h;split at h
  ·rename_i y' k zs j h1 h2;cases h;intro i hi;rcases List.mem_append.1 hi with hi | hi
   ·unfold ix at h1;split at h1
    ·split at h1
     ·rename_i hr;cases h1;exact a4t hr i hi
     ·cases h1
    ·cases h1; simp at hi
    ·split at h1
     ·rename_i hr;cases h1;exact azz hr i hi
     ·cases h1
    ·cases h1
    ·cases h1
    ·cases h1; simp at hi
   ·exact ayr h2 i hi
  ·cases h
theorem bd4 (i:Nat) {x:AV} {c:Value} (h:RelA w (g8 X.B ob ρ w) ob ρ x c):RelA w (g8 X.B (frz ob i (ob i)) ρ w) (frz ob i (ob i)) ρ x c:=by
 rcases hi:ob i with _ | ⟨v,cells | ⟨sz,z,app,wr,xs⟩ | T | _ | _⟩
 ·exact h
 ·exact h
 ·exact h.stays (Stays.freeze1 (X:=X) (s:=⟨fun _=>.undef,ob⟩) hi)
 ·exact h
 ·exact h
 ·exact h
theorem ajz:∀(l:List Nat) {ob:Obs} {x:AV} {c:Value},RelA w (g8 X.B ob ρ w) ob ρ x c→RelA w (g8 X.B (freeze ob l) ρ w) (freeze ob l) ρ x c
 | [],_,_,_,h=>h
 | i::is,_,_,_,h=>ajz is (bd4 i h)
theorem bar (hG:Gam X s ρ a w) {ob:Obs} {lall:List Nat} (hob:s.ob=Ev.freeze ob lall) {x y:AV} {l:List Nat} {c:Value} (h:ix ob x=some (y,l)) (hsub:∀i,i∈l→i∈lall) (hx:RA X s ρ w x c):RA X s ρ w y c:=by
 unfold ix at h;split at h
 ·split at h
  ·rename_i hr;cases h;exact .r (aq2 hG hr hsub hob hx)
  ·cases h
 ·cases h; cases hx;exact .r (.sl _ [] none 0 (by simp) (by simp) 0 0 (fun _ _=>undef) (by simp) (by simp) (by simp) (by simp))
 ·rename_i xs;split at h
  ·rename_i ys l' hrv;cases h;cases hx;rename_i cs hl hrel;refine .r (.agg _ _ (by rw [pq hrv]; exact hl) fun i y c hy hc=>?_);have hlt:i<xs.length:=by have:=(zaa.1 hy).1; have:=pq hrv; omega
   have hxi:xs[i]?=some xs[i]:=by simp [hlt]
   exact aid hG hob hrv hsub i _ y c hxi hy (hrel i _ c hxi hc)
  ·cases h
 ·cases h
 ·cases h
 ·cases h; exact hx
theorem ays (hG:Gam X s ρ a w) {ob:Obs} {lall:List Nat} (hob:s.ob=Ev.freeze ob lall):∀{xs ys:List AV} {l:List Nat},m9 ob xs=some (ys,l)→(∀i,i∈l→i∈lall) →
  ys.length=xs.length∧∀(i:Nat) (x y:AV) (c:Value),xs[i]?=some x→ys[i]?=some y→RA X s ρ w x c→RA X s ρ w y c
 | [],ys,l,h,hs=>by simp [m9] at h; obtain ⟨rfl,rfl⟩:=h; simp
 | z::xs,ys,l,h,hs=>by
  simp only [m9] at h;split at h
  ·rename_i y' k zs j h1 h2;cases h;obtain ⟨g1,g2⟩:=ays hG hob h2 (fun p hp=>hs p (by simp [hp]));refine ⟨by simp [g1],fun i x y c hx hy hr=>?_⟩;cases i with
   | zero=>
    simp at hx hy;subst hx; subst hy;exact bar hG hob h1 (fun p hp=>hs p (by simp [hp])) hr
   | succ i=>
    simp at hx hy;exact g2 i x y c hx hy hr
  ·cases h
theorem apo {u m:Nat} {ids l:List Nat} {fz:Bool} (h:okC u ids m l fz=true):ids.length≤m∧(∀i j,i<m→j<m→j7 u ids i=j7 u ids j→i=j)∧100000+1000*u+m≤1000000∧(fz=false→∀i,i∈l→i∉ids):=by
 simp only [okC,Bool.and_eq_true,decide_eq_true_eq,Bool.or_eq_true] at h;obtain ⟨⟨⟨h1,h2⟩,h3⟩,h4⟩:=h;refine ⟨h1,fun i j hi hj e=>?_,h3,fun hf i hi hm=>?_⟩
 ·have g1:((zah m).map (j7 u ids))[i]?=some (j7 u ids i):=by simp [hi]
  have g2:((zah m).map (j7 u ids))[j]?=some (j7 u ids i):=by simp [hj,e]
  exact alv h2 g1 g2
 ·rw [hf] at h4;simp at h4;exact h4 i hi hm
theorem ad6:∀{xs ys:List Ob},al xs ys→∀(k:Nat) (o o':Ob),xs[k]?=some o→ys[k]?=some o'→a1g o o'
 | [],_,_,k,c,c',h,_=>by simp at h
 | _::_,[],_,k,c,c',_,h=>by simp at h
 | x::xs,y::ys,hs,0,c,c',h,h'=>by
  simp at h h';subst h; subst h';cases x with
  | row sz z app wr l=>
   cases app with
   | true=>exact .inl rfl
   | false=>
    cases y with
    | row sz' z' app' wr' l'=>
     cases app' with
     | true=>exact hs.elim
     | false=>obtain ⟨⟨rfl,h⟩,_⟩:=hs; exact .inr ⟨_,_,_,rfl,h⟩
    | _=>exact hs.elim
  | _=>cases y<;>first | exact hs.1 | exact hs.elim | trivial
 | x::xs,y::ys,hs,k+1,c,c',h,h'=>by
  simp at h h'
  have:al xs ys:=by
   cases x with
   | row sz z app wr l=>
    cases app with
    | true=>cases y<;>exact hs
    | false=>
     cases y with
     | row sz' z' app' wr' l'=>
      cases app' with
      | true=>exact hs.elim
      | false=>exact hs.2
     | _=>exact hs.elim
   | _=>cases y<;>first | exact hs.2 | exact hs.elim | exact hs
  exact ad6 this k c c' h h'
theorem agk {f:FuncId} {u:Nat} {K:AV→Obs→Prop} {vs:List AV} {cargs:Array Value} (hG:Gam X s ρ a w) (hq:kw P f u s.ob vs [] true K) (hl:cargs.size=vs.length) (hr:∀(i:Nat) (x:AV) (c:Value),vs[i]?=some x→cargs[i]?=some c→RA X s ρ w x c) :
  Calls P f cargs w fun e w'=>∃c v ob' ρ',e=.returned c∧K v ob'∧Gam X ⟨s.e,ob'⟩ ρ' a w'∧RA X ⟨s.e,ob'⟩ ρ' w' v c:=by
 unfold kw at hq;generalize v9:n7 s.ob 64 (m0 vs) []=ids at hq;unfold aeq at hq;split at hq
 ·cases hq
 ·rename_i po hpo;obtain ⟨res,ro,hT,hok,hsl,hfl,hK⟩:=hq;obtain ⟨k1,k2,k3,k4⟩:=apo hok
  have hRf:∀b,g8 X.B s.ob ρ w b→∀i,i∈ids→¬sn s.ob ρ i b:=fun b hb i hi hib=>by
   obtain ⟨hpl,hpa⟩:=abb hpo;obtain ⟨k,hk⟩:=zab.1 hi;have hlt:=(zaa.1 hk).1;obtain ⟨v,x,g1,g2,g3⟩:=hpa k i (po[k]'(by omega)) hk (by simp [show k<po.length by omega]);obtain ⟨y,q1,q2⟩:=hib;rw [g1] at q1;cases q1;exact hb.2.1 ⟨i,v,x,g1,g2,q2⟩
  refine (Gam.call (s:=s) (Bc:=fun b=>g8 X.B s.ob ρ w b∨(∃i,i∈ids∧sn s.ob ρ i b)∨w.heap.size≤b) (Ra:=g8 X.B s.ob ρ w) hG hpo hT k1 k2 k3 hl (fun i x c hx hc=>hr i x c hx hc)
   (fun b hb=>⟨hb.1,.inl hb,hRf b hb⟩) (fun _ h=>.inl h) (fun _ h=>.inr h) (ad6 hsl) (.inr fun _ h=>h)).mono ?_
  rintro e w' ⟨c,ρ',rfl,h1,h2⟩;exact ⟨c,_,_,ρ',rfl,hK,h1,h2⟩
theorem Gam.boxify (hG:Gam X s ρ a w) {id v:Nat} {z:RV} {vs:List Value} (hid:s.ob id=some (v,.row 1 z true true (vs.map RV.v))) (hne:vs≠[]) :
  ∃m,Gam X ⟨s.e,upd id (v,.box (vs.map (fun x=>AV.r (.v x))++zai m .undef)) s.ob⟩ ρ a w ∧
   Stays w w (g8 X.B s.ob ρ w) (g8 X.B (upd id (v,.box (vs.map (fun x=>AV.r (.v x))++zai m .undef)) s.ob) ρ w) s.ob (upd id (v,.box (vs.map (fun x=>AV.r (.v x))++zai m .undef)) s.ob) ρ ρ:=by
 rcases hG.obj id v _ hid with ⟨h0,_⟩ | ⟨b,cs,e,fr,h1,h2,h3,h4,h5,h6⟩
 ·simp at h0; exact absurd h0 hne
 ·obtain rfl:fr=(0,0):=h4 rfl;have hlen:vs.length≤cs.size:=by simpa using h5
  refine ⟨cs.size-vs.length,?_⟩;generalize hbx:vs.map (fun x=>AV.r (.v x))++zai (cs.size-vs.length) AV.undef=bx;have hbl:bx.length=cs.size:=by rw [← hbx]; simp; omega
  have hfr:∀c,g8 X.B s.ob ρ w c→g8 X.B (upd id (v,.box bx) s.ob) ρ w c:=fun c hc=>⟨hc.1,fun ⟨j,v',o,g1,g2,g3⟩=>by
   by_cases hj:j=id
   ·subst hj;simp [upd] at g1;obtain ⟨rfl,rfl⟩:=g1;rw [fg rfl] at g3;exact hc.2.1 ⟨j,v,_,hid,rfl,by rw [fg rfl]; exact g3⟩
   ·simp only [upd,hj,if_false] at g1
    exact hc.2.1 ⟨j,v',o,g1,g2,g3⟩,hc.2.2⟩
  have hs:Stays w w (g8 X.B s.ob ρ w) (g8 X.B (upd id (v,.box bx) s.ob) ρ w) s.ob (upd id (v,.box bx) s.ob) ρ ρ:=by
   refine ⟨fun c hc=>⟨hfr c hc,rfl⟩,fun j v' o hj=>?_⟩;by_cases hji:j=id
   ·subst hji;rw [hid] at hj;cases hj;exact ⟨v,.box bx,by simp [upd],zac _,fun _=>⟨rfl,rfl,fun b cs e fr _ h=>⟨cs,e,fr,h,rfl⟩⟩⟩
   ·exact ⟨v',o,by simp [upd,hji,hj],zac _,fun _=>⟨rfl,x7.refl o,fun b cs e fr _ h=>⟨cs,e,fr,h,rfl⟩⟩⟩
  have hold:∀j x c,upd id (v,Ob.box bx) s.ob j=some x→foot ρ j x.2 c→∃y,s.ob j=some y∧foot ρ j y.2 c:=fun j x c hx hf=>by
   by_cases hji:j=id
   ·subst hji;simp [upd] at hx;subst hx;rw [fg rfl] at hf;exact ⟨_,hid,by rw [fg rfl]; exact hf⟩
   ·simp only [upd,hji,if_false] at hx;exact ⟨x,hx,hf⟩
  refine ⟨hG.step hs (fun j v' o h=>?_) (fun i j x x' c hx hx' hf hf'=>?_) hG.keeps (fun j v' o c h hf=>?_) (fun j c o h hc hp hb=>?_),hs⟩
  ·by_cases hji:j=id
   ·subst hji;simp [upd] at h;obtain ⟨rfl,rfl⟩:=h;refine .inr ⟨b,cs,e,h1,h2,hbl.symm,fun i x c hx hc=>?_⟩;rw [← hbx] at hx;by_cases hi:i<vs.length
    ·rw [List.getElem?_append_left (by simpa using hi)] at hx;have hvi:(vs.map RV.v)[i]?=some (.v vs[i]):=by simp [hi]
     obtain ⟨_,g⟩:=h6 i _ hvi;obtain ⟨c',g1,g2,g3⟩:=g 0 (.v vs[i]) rfl;rw [Nat.mul_one,Nat.add_zero,hc] at g1;cases g1;simp [hi] at hx;subst hx;exact .r (g3.mono fun b hb=>⟨hfr b hb,rfl⟩)
    ·rw [List.getElem?_append_right (by simpa using hi)] at hx;have:=zae hx;rw [List.mem_replicate] at this;rw [this.2];exact .undef _
   ·simp only [upd,hji,if_false] at h;exact .inl ⟨h,rfl,fun _=>rfl,fun _ _=>rfl⟩
  ·obtain ⟨y,g1,g2⟩:=hold i x c hx hf;obtain ⟨y',g1',g2'⟩:=hold j x' c hx' hf';exact hG.inj i j y y' c g1 g1' g2 g2'
  ·obtain ⟨y,g1,g2⟩:=hold j _ c h hf;exact hG.own j y.1 y.2 c g1 g2
  ·by_cases hji:j=id
   ·subst hji;rw [hG.unpinned hid rfl] at h;cases h
   ·exact ⟨hb,o,by simp [upd,hji,hc],hp⟩
theorem aj6 {f:FuncId} {u:Nat} {K:AV→Obs→Prop} {vs:List AV} {cargs:Array Value} (hG:Gam X s ρ a w) (h:ag6 P f u s.ob K vs (m9 s.ob vs)) (hl:cargs.size=vs.length) (hr:∀(i:Nat) (x:AV) (c:Value),vs[i]?=some x→cargs[i]?=some c→RA X s ρ w x c) :
  Calls P f cargs w fun e w'=>∃c v ob' ρ',e=.returned c∧K v ob'∧Gam X ⟨s.e,ob'⟩ ρ' a w'∧RA X ⟨s.e,ob'⟩ ρ' w' v c:=by
 have frozen:∀(as:List AV) (l:List Nat),m9 s.ob vs=some (as,l)→kw P f u (freeze s.ob l) as l true K→Calls P f cargs w fun e w'=>∃c v ob' ρ',e=.returned c∧K v ob'∧Gam X ⟨s.e,ob'⟩ ρ' a w'∧RA X ⟨s.e,ob'⟩ ρ' w' v c:=by
  intro as l ha hq;have hG':=Gam.freeze (s:=s) l (ob:=s.ob) hG;unfold kw at hq;generalize v9:n7 (freeze s.ob l) 64 (m0 as) []=ids at hq;unfold aeq at hq;split at hq
  ·cases hq
  ·rename_i po hpo;obtain ⟨res,ro,hT,hok,hsl,hfl,hK⟩:=hq;obtain ⟨k1,k2,k3,k4⟩:=apo hok
   have hRf:∀b,g8 X.B (freeze s.ob l) ρ w b→∀i,i∈ids→¬sn (freeze s.ob l) ρ i b:=fun b hb i hi hib=>by
    obtain ⟨hpl,hpa⟩:=abb hpo;obtain ⟨k,hk⟩:=zab.1 hi;have hlt:=(zaa.1 hk).1;obtain ⟨v,x,g1,g2,g3⟩:=hpa k i (po[k]'(by omega)) hk (by simp [show k<po.length by omega]);obtain ⟨y,q1,q2⟩:=hib;rw [g1] at q1;cases q1;exact hb.2.1 ⟨i,v,x,g1,g2,q2⟩
   obtain ⟨g1,g2⟩:=ays (s:=⟨s.e,freeze s.ob l⟩) hG' rfl ha (fun _ h=>h)
   refine (Gam.call (s:=⟨s.e,freeze s.ob l⟩) (Bc:=fun b=>g8 X.B (freeze s.ob l) ρ w b∨(∃i,i∈ids∧sn (freeze s.ob l) ρ i b)∨w.heap.size≤b) (Ra:=g8 X.B (freeze s.ob l) ρ w) hG' hpo hT k1 k2 k3 (by rw [g1,hl]) (fun i x c hx hc=>?_)
    (fun b hb=>⟨hb.1,.inl hb,hRf b hb⟩) (fun _ h=>.inl h) (fun _ h=>.inr h) (ad6 hsl) (.inr fun _ h=>h)).mono ?_
   ·have hlt:=(zaa.1 hx).1;have hv:vs[i]?=some (vs[i]'(by omega)):=by simp [show i<vs.length by omega]
    exact g2 i _ x c hv hx (ajz l (hr i _ c hv hc))
   ·rintro e w' ⟨c,ρ',rfl,h1,h2⟩;exact ⟨c,_,_,ρ',rfl,hK,h1,h2⟩
 have lent:∀(as:List AV) (l:List Nat),m9 s.ob vs=some (as,l)→kw P f u s.ob as l false K→Calls P f cargs w fun e w'=>∃c v ob' ρ',e=.returned c∧K v ob'∧Gam X ⟨s.e,ob'⟩ ρ' a w'∧RA X ⟨s.e,ob'⟩ ρ' w' v c:=by
  intro as l ha hq;unfold kw at hq;generalize v9:n7 s.ob 64 (m0 as) []=ids at hq;unfold aeq at hq;split at hq
  ·cases hq
  ·rename_i po hpo;obtain ⟨res,ro,hT,hok,hsl,hfl,hK⟩:=hq;obtain ⟨k1,k2,k3,k4⟩:=apo hok
   have hRf:∀b,g8 X.B s.ob ρ w b→b<w.heap.size∧∀i,i∈ids→¬sn s.ob ρ i b:=fun b hb=>⟨hb.1,fun i hi hib=>by
    obtain ⟨hpl,hpa⟩:=abb hpo;obtain ⟨k,hk⟩:=zab.1 hi;have hlt:=(zaa.1 hk).1;obtain ⟨v,x,g1,g2,g3⟩:=hpa k i (po[k]'(by omega)) hk (by simp [show k<po.length by omega]);obtain ⟨y,q1,q2⟩:=hib;rw [g1] at q1;cases q1
    exact hb.2.1 ⟨i,v,x,g1,g2,q2⟩⟩
   have hdis:∀i,i∈l→∀b,ρ i=some b→b<w.heap.size→b<w.heap.size∧∀j,j∈ids→¬sn s.ob ρ j b:=fun i hi b hb hlt=>⟨hlt,fun j hj hjb=>by
    obtain ⟨q,hq⟩:=ayr ha i hi;obtain ⟨hpl,hpa⟩:=abb hpo;obtain ⟨k,hk⟩:=zab.1 hj;have hlt:=(zaa.1 hk).1;obtain ⟨v,x,g1,g2,g3⟩:=hpa k j (po[k]'(by omega)) hk (by simp [show k<po.length by omega]);obtain ⟨y,q1,q2⟩:=hjb;have:=hG.inj i j _ _ b hq q1 (.inl hb) q2;subst this
    exact k4 rfl i hi hj⟩
   obtain ⟨g1,g2⟩:=ayq hG (R:=fun b=>b<w.heap.size∧∀i,i∈ids→¬sn s.ob ρ i b) hRf ha hdis;refine (Gam.call (Bc:=fun _=>True) (Ra:=fun b=>b<w.heap.size∧∀i,i∈ids→¬sn s.ob ρ i b) hG hpo hT k1 k2 k3 (by rw [g1,hl]) (fun i x c hx hc=>?_) (fun b hb=>⟨hb.1,trivial,hb.2⟩) (fun _ _=>trivial) (fun _ _=>trivial) (ad6 hsl) (.inl (hfl rfl))).mono ?_
   ·have hlt:=(zaa.1 hx).1;have hv:vs[i]?=some (vs[i]'(by omega)):=by simp [show i<vs.length by omega]
    exact g2 i _ x c hv hx (hr i _ c hv hc)
   ·rintro e w' ⟨c,ρ',rfl,h1,h2⟩;exact ⟨c,_,_,ρ',rfl,hK,h1,h2⟩
 rcases ha:m9 s.ob vs with _ | ⟨as,_ | ⟨i,l⟩⟩
 ·rw [ha] at h; exact agk hG h hl hr
 ·rw [ha] at h; exact frozen as [] ha h
 ·rw [ha] at h;rcases h with h | h | h | h | h
  ·exact frozen as _ ha h
  ·exact lent as _ ha h
  ·exact agk hG h hl hr
  ·obtain ⟨id,v,z,xs,h1,h2,h3⟩:=h;obtain ⟨m,g1,g2⟩:=hG.boxify h1 h2;exact agk (s:=⟨s.e,upd id (v,.box (xs.map (fun x=>AV.r (.v x))++zai m .undef)) s.ob⟩) g1 (h3 m) hl fun i x c hx hc=>(hr i x c hx hc).stays g2
  ·obtain ⟨id,v,sz,z,xs,h1,h2,h3⟩:=h;exact agk (s:=⟨s.e,upd id (v,.row sz z false true xs) s.ob⟩) (hG.shut1 h1 h2) h3 hl fun i x c hx hc=>(hr i x c hx hc).stays (Stays.shut1 (X:=X) (w:=w) (ρ:=ρ) h1)
end

structure Lg where
 us:List Nat
 d:List Nat
 rd:List Nat
 wr:List Nat
 ad:Bool
 st:Bool
instance:Inhabited Lg:=⟨⟨[],[],[],[],false,false⟩⟩
def PX.adr:PX→Bool
 | .see o=>o.adr
 | _=>false
def PX.sto:PX→Bool
 | .act (.st _ _ _)=>true
 | _=>false
structure Out where
 ok:Prop
 st:St
 lg:Lg
abbrev Ans:=AV×List Ob
def PX.us:PX→List Nat
 | .see o=>o.us
 | .act o=>o.us
 | .call _ xs=>usL xs
 | .callv x xs=>x.us++usL xs
 | .inv _ x xs=>x.us++usL xs
 | .nxt x=>x.us
def gus:Option (Nat×Bool)→List Nat
 | none=>[]
 | some (t,_)=>[t]
def PR.lg (r:PR) (rd wr:List Nat):Lg:=⟨gus r.g++(r.x.us++r.d.toList),r.d.toList,rd,wr,r.x.adr,r.x.sto⟩
def dt (u:Nat) (ids:List Nat) (m:Nat):List Nat:=(zah m).map (j7 u ids)
def aiw (P:Program) (r:PR) (s:St) (f:FuncId) (p:Prop) (c:Ans) (as:List AV) (l:List Nat) (fz:Bool) (ids:List Nat):Option (List Ob)→Out
 | none=>⟨False,s,r.lg [] []⟩
 | some po=>⟨p∧a8 P f (imL (fwd s.ob ids) as) po c.1 c.2∧okC r.u ids c.2.length l fz=true∧al po c.2∧(fz=false→bn c.1∧∀o∈c.2,mc o),
   ⟨o3 r.d (imV (back s.ob r.u ids c.2.length) c.1) s.e,cw s.ob r.u ids (back s.ob r.u ids c.2.length) 0 c.2⟩,r.lg (l++(ids++dt r.u ids c.2.length)) (dt r.u ids c.2.length)⟩
def bv (vs:List AV):Option (List AV×List Nat)→List AV×List Nat×Bool
 | none=>(vs,m0 vs,true)
 | some (as,[])=>(as,[],true)
 | some (as,i::l)=>(as,i::l,false)
def aq (P:Program) (r:PR) (s:St) (f:FuncId) (p:Prop) (c:Ans) (a:List AV×List Nat×Bool):Out:=
 aiw P r s f p c a.1 a.2.1 a.2.2 (n7 s.ob 64 (m0 a.1) []) (u4 (fwd s.ob (n7 s.ob 64 (m0 a.1) [])) s.ob (n7 s.ob 64 (m0 a.1) []))
def aai (P:Program) (r:PR) (s:St) (p:Prop) (c:Ans) (vs:List AV):AV→Out
 | .fn (.func f) cap k=>aq P r s f (p∧zp P f=true) c (bv (cap.take k++(vs++cap.drop k)) (m9 s.ob (cap.take k++(vs++cap.drop k))))
 | _=>⟨False,s,r.lg [] []⟩
def uq (P:Program) (r:PR) (s:St) (tbl:List (TypeId×FuncId)) (p:Prop) (c:Ans) (vs:List AV):AV→Out
 | .ifc t x=>match du t tbl with
  | some f=>aq P r s f p c (bv (x::vs) (m9 s.ob (x::vs)))
  | none=>⟨False,s,r.lg [] []⟩
 | _=>⟨False,s,r.lg [] []⟩
def PX.out (P:Program) (r:PR) (s:St) (c:Ans):PX→Option Bool→Out
 | _,none=>⟨False,s,r.lg [] []⟩
 | .see o,some b=>⟨(o.see b s.e s.ob).ok,⟨o3 r.d (gdv r.g b (o.see b s.e s.ob).v) s.e,s.ob⟩,r.lg (o.see b s.e s.ob).rd []⟩
 | .act o,some true=>⟨(o.act (r.d.getD 0) s.e s.ob).ok,⟨o3 r.d (o.act (r.d.getD 0) s.e s.ob).v s.e,(o.act (r.d.getD 0) s.e s.ob).ob⟩,r.lg (o.act (r.d.getD 0) s.e s.ob).rd (o.act (r.d.getD 0) s.e s.ob).wr⟩
 | .call f xs,some true=>aq P r s f (bt true s.e xs) c (bv (l8 s.e xs) (m9 s.ob (l8 s.e xs)))
 | .callv x xs,some true=>aai P r s ((x.ev s.e).may true∧bt true s.e xs) c (l8 s.e xs) (x.ev s.e).bare
 | .inv tbl x xs,some true=>uq P r s tbl ((x.ev s.e).may true∧bt true s.e xs) c (l8 s.e xs) (x.ev s.e).bare
 | .nxt _,some true=>⟨False,s,r.lg [] []⟩
 | _,some false=>⟨True,⟨o3 r.d .undef s.e,s.ob⟩,r.lg [] []⟩
def PR.out (P:Program) (r:PR) (s:St) (c:Ans):Out:=r.x.out P r s c (yes s.e r.g)
section
variable {P:Program} {s s':St} {ob ob':Obs} {c:Ans} {r:PR}
theorem aqg {f:FuncId} {p:Prop} {K:St→Prop} {vs:List AV} {a:Option (List AV×List Nat)} (h:(aq P r s f p c (bv vs a)).ok) (hK:K (aq P r s f p c (bv vs a)).st):p∧ag6 P f r.u s.ob (fun v ob=>K ⟨o3 r.d v s.e,ob⟩) vs a:=by
 have key:∀(as:List AV) (l:List Nat) (fz:Bool),(aq P r s f p c (as,l,fz)).ok→K (aq P r s f p c (as,l,fz)).st→p∧kw P f r.u s.ob as l fz (fun v ob=>K ⟨o3 r.d v s.e,ob⟩):=fun as l fz h hK=>by
  simp only [aq] at h hK;generalize v9:n7 s.ob 64 (m0 as) []=ids at h hK;rcases hpo:u4 (fwd s.ob ids) s.ob ids with _ | po
  ·rw [hpo] at h; exact h.elim
  ·rw [hpo] at h hK;obtain ⟨h0,h1,h2,h3,h4⟩:=h;refine ⟨h0,?_⟩;unfold kw;rw [v9,hpo];exact ⟨_,_,h1,h2,h3,h4,hK⟩
 rcases a with _ | ⟨as,_ | ⟨i,l⟩⟩
 ·obtain ⟨h0,h1⟩:=key vs (m0 vs) true h hK;refine ⟨h0,?_⟩;show kw P f r.u s.ob vs [] true _;unfold kw aeq at h1 ⊢;split at h1
  ·exact h1.elim
  ·obtain ⟨r1,o1,q1,q2,q3⟩:=h1;refine ⟨r1,o1,q1,?_,q3⟩;unfold okC at q2 ⊢;simpa using q2
 ·exact key as [] true h hK
 ·obtain ⟨h0,h1⟩:=key as (i::l) false h hK;exact ⟨h0,Or.inr (Or.inl h1)⟩
theorem bgi {K:St→Prop} (h:(r.out P s c).ok) (hK:K (r.out P s c).st):r.wp P s K (yes s.e r.g):=by
 rcases r with ⟨d,g,u,x⟩
 unfold PR.out at h hK;simp only at h hK ⊢;generalize yes s.e g=y at h hK ⊢;rcases y with _ | b
 ·have h:False:=by cases x<;>exact h
  exact h.elim
 ·simp only [PR.wp];cases x with
  | see o=>exact ⟨h,hK⟩
  | act o=>cases b with
   | true=>exact ⟨fun _=>⟨h,hK⟩,by simp⟩
   | false=>exact ⟨by simp,fun _=>hK⟩
  | call f xs=>cases b with
   | true=>exact ⟨fun _=>aqg h hK,by simp⟩
   | false=>exact ⟨by simp,fun _=>hK⟩
  | callv x xs=>cases b with
   | true=>
    refine ⟨fun _=>?_,by simp⟩;simp only [PX.out] at h hK;generalize (x.ev s.e).bare=y at h hK ⊢;cases y with
    | fn f cap k=>cases f with
     | func f=>
      have:=aqg (vs:=cap.take k++(l8 s.e xs++cap.drop k)) h hK;exact ⟨this.1.1.1,this.1.1.2,this.1.2,this.2⟩
     | _=>exact (show False from h).elim
    | _=>exact (show False from h).elim
   | false=>exact ⟨by simp,fun _=>hK⟩
  | inv tbl x xs=>cases b with
   | true=>
    refine ⟨fun _=>?_,by simp⟩;simp only [PX.out] at h hK;generalize (x.ev s.e).bare=y at h hK ⊢;cases y with
    | ifc t y=>
     simp only [uq,anl] at h hK ⊢;generalize du t tbl=q at h hK ⊢;cases q with
     | some f=>
      have:=aqg (vs:=y::l8 s.e xs) h hK;exact ⟨this.1.1,this.1.2,this.2⟩
     | none=>exact (show False from h).elim
    | _=>exact (show False from h).elim
   | false=>exact ⟨by simp,fun _=>hK⟩
  | nxt x=>cases b with
   | true=>exact (show False from h).elim
   | false=>exact ⟨by simp,fun _=>hK⟩
theorem a3m {x y:AV} {l:List Nat} (h:ix ob x=some (y,l)) (hs:dn ob ob' l):ix ob' x=some (y,l):=by
 cases x with
 | own id ver lo len=>
  simp only [ix] at h ⊢;split at h
  ·rename_i y' fz hr;cases h;rw [apf hr hs]
  ·cases h
 | agg xs=>
  simp only [ix] at h ⊢;split at h
  ·rename_i y' fz hr;cases h;rw [agi hr hs]
  ·cases h
 | _=>exact h
theorem aj7:∀{xs ys:List AV} {l:List Nat},m9 ob xs=some (ys,l)→dn ob ob' l→m9 ob' xs=some (ys,l)
 | [],ys,l,h,hs=>h
 | x::xs,ys,l,h,hs=>by
  simp only [m9] at h ⊢;split at h
  ·rename_i y k zs j h1 h2;cases h;obtain ⟨g1,g2⟩:=ae2 hs;rw [a3m h1 g1,aj7 h2 g2]
  ·cases h
theorem ajh:∀(n:Nat) (todo acc:List Nat) (i:Nat),i∈acc→i∈n7 ob n todo acc
 | 0,todo,acc,i,h=>h
 | n+1,[],acc,i,h=>h
 | n+1,j::todo,acc,i,h=>by
  unfold n7;split
  ·exact ajh n todo acc i h
  ·exact ajh n _ _ i (by simp [h])
theorem ahc:∀(n:Nat) (todo acc:List Nat),dn ob ob' (n7 ob n todo acc)→n7 ob' n todo acc=n7 ob n todo acc
 | 0,todo,acc,hs=>rfl
 | n+1,[],acc,hs=>rfl
 | n+1,j::todo,acc,hs=>by
  unfold n7 at hs ⊢;split
  ·rename_i hc;rw [if_pos hc] at hs;exact ahc n todo acc hs
  ·rename_i hc;rw [if_neg hc] at hs;rw [hs j (ajh n _ _ j (by simp))];exact ahc n _ _ hs
theorem bdz {i k:Nat} {l:List Nat} (h:idx i l=some k):i∈l:=zae (ajs h)
theorem ave {ids:List Nat} (hs:dn ob ob' ids):fwd ob' ids=fwd ob ids:=by
 funext id ver;unfold fwd;split
 ·rename_i k hk;rw [hs id (bdz hk)]
 ·rfl
theorem an8 {F:Ren}:∀{ids:List Nat},dn ob ob' ids→u4 F ob' ids=u4 F ob ids
 | [],hs=>rfl
 | i::ids,hs=>by
  simp only [u4];rw [hs i (by simp),an8 (fun j hj=>hs j (by simp [hj]))]
theorem a52 {u m k:Nat} {ids:List Nat} (h:k<m):j7 u ids k∈dt u ids m:=by
 simp only [dt,List.mem_map,List.mem_range];exact ⟨k,h,rfl⟩
theorem asy {u m k:Nat} {ids:List Nat} (hs:dn ob ob' (dt u ids m)) (h:k<m):gt ob' u ids k=gt ob u ids k:=by
 have:=hs _ (a52 (u:=u) (ids:=ids) h);unfold gt;unfold j7 at this;split
 ·rename_i i hi;rw [hi] at this;simp only at this;rw [this];rcases ob i with _ | ⟨v,_ | _⟩<;>rfl
 ·rename_i hi;rw [hi] at this;exact ae7 this
theorem a3k {u m:Nat} {ids:List Nat} (hs:dn ob ob' (dt u ids m)):back ob' u ids m=back ob u ids m:=by
 funext id ver;unfold back;split
 ·rename_i h;rw [asy hs h.2.2]
 ·rfl
theorem aq8 {u m:Nat} {ids:List Nat} {F:Ren} (hs:dn ob ob' (dt u ids m)):∀{os:List Ob} {k:Nat},k+os.length≤m →
  (∀j,k≤j→j<k+os.length→cw ob' u ids F k os (j7 u ids j)=cw ob u ids F k os (j7 u ids j))∧(∀i,(∀j,k≤j→j<k+os.length→i≠j7 u ids j)→cw ob' u ids F k os i=ob' i)
 | [],k,h=>⟨fun j h1 h2=>by simp at h2; omega,fun i h=>rfl⟩
 | o::os,k,h=>by
  simp at h;obtain ⟨g1,g2⟩:=aq8 (F:=F) hs (os:=os) (k:=k+1) (by omega);refine ⟨fun j h1 h2=>?_,fun i hi=>?_⟩
  ·simp at h2;simp only [cw,upd,asy hs (show k<m by omega)];split
   ·rfl
   ·rename_i hne;refine g1 j ?_ (by omega);rcases Nat.lt_or_ge k j with h | h
    ·omega
    ·have:j=k:=by omega
     subst this; exact (hne rfl).elim
  ·simp only [cw,upd];rw [if_neg (hi k (zac _) (by simp))];exact g2 i fun j h1 h2=>hi j (by omega) (by simp; omega)
theorem ya {d:Option Nat} {x:AV} {e e':Env} {t:Nat} (h:t∈d.toList):o3 d x e' t=o3 d x e t:=by
 cases d with
 | none=>simp at h
 | some d=>simp at h; subst h; simp [o3,put]
theorem jx {d:Option Nat} {x:AV} {e:Env} {t:Nat} (h:t∉d.toList):o3 d x e t=e t:=by
 cases d with
 | none=>rfl
 | some d=>simp at h; simp [o3,put,h]
theorem a3s {g:Option (Nat×Bool)} {e e':Env} (h:∀t,t∈gus g→e' t=e t):yes e' g=yes e g:=by
 cases g with
 | none=>rfl
 | some p=>simp only [yes,h p.1 (by simp [gus])]
def ayy (r:PR) (s s':St) (o o':Out):Prop:=
 o'.ok∧(∀t,t∈r.d.toList→o'.st.e t=o.st.e t)∧(∀t,t∉r.d.toList→o'.st.e t=s'.e t) ∧
 (∀i,i∈o.lg.wr→i∈o.lg.rd∧o'.st.ob i=o.st.ob i)∧(∀i,i∉o.lg.wr→o'.st.ob i=s'.ob i)
theorem ba9 {x:AV} (h:∀i,i∈v9 x→ob' i=ob i):x.rv ob'=x.rv ob:=by
 cases x with
 | own id ver lo len=>simp only [AV.rv,i9,h id (by simp [v9])]
 | _=>rfl
theorem a4r:∀{xs:List AV},(∀i,i∈m0 xs→ob' i=ob i)→rvs ob' xs=rvs ob xs
 | [],_=>rfl
 | x::xs,h=>by
  simp only [rvs];rw [ba9 (fun i hi=>h i (by simp [m0,hi])),a4r (fun i hi=>h i (by simp [m0,hi]))]
theorem bez {x:AV} (h:∀i,i∈v9 x→ob' i=ob i):ix ob' x=ix ob x:=by
 cases x with
 | own id ver lo len=>simp only [ix]; rw [ba9 h]
 | agg xs=>simp only [ix]; rw [a4r (fun i hi=>h i (by simpa [v9] using hi))]
 | _=>rfl
theorem a1c:∀{xs:List AV},(∀i,i∈m0 xs→ob' i=ob i)→m9 ob' xs=m9 ob xs
 | [],_=>rfl
 | x::xs,h=>by
  simp only [m9];rw [bez (fun i hi=>h i (by simp [m0,hi])),a1c (fun i hi=>h i (by simp [m0,hi]))]
theorem amt {f:FuncId} {p:Prop} {as:List AV} (h:(aq P r s f p c (bv as (m9 s.ob as))).ok) (hs:dn s.ob s'.ob (aq P r s f p c (bv as (m9 s.ob as))).lg.rd) :
  ayy r s s' (aq P r s f p c (bv as (m9 s.ob as))) (aq P r s' f p c (bv as (m9 s'.ob as))):=by
 have key:∀(a:List AV×List Nat×Bool),(aq P r s f p c a).ok→dn s.ob s'.ob (aq P r s f p c a).lg.rd→(dn s.ob s'.ob a.2.1→bv as (m9 s'.ob as)=a)→ayy r s s' (aq P r s f p c a) (aq P r s' f p c (bv as (m9 s'.ob as))):=fun a h hs ha=>by
  obtain ⟨bs,l,fz⟩:=a;simp only [aq] at h hs ⊢;rcases hpo:u4 (fwd s.ob (n7 s.ob 64 (m0 bs) [])) s.ob (n7 s.ob 64 (m0 bs) []) with _ | po
  ·rw [hpo] at h; exact (show False from h).elim
  ·rw [hpo] at h hs;simp only [aiw,PR.lg] at hs;obtain ⟨s1,s2⟩:=ae2 hs;obtain ⟨s2,s3⟩:=ae2 s2;rw [ha s1];simp only;rw [ahc 64 (m0 bs) [] s2];generalize n7 s.ob 64 (m0 bs) []=ids at *;rw [ave s2,an8 s2,hpo];simp only [aiw,PR.lg] at h ⊢;rw [ave s2,a3k s3];have hp:=aq8 (F:=back s.ob r.u ids c.2.length) s3 (os:=c.2) (k:=0) (by simp);have hn:∀i,i∈dt r.u ids c.2.length↔∃j,j<c.2.length∧j7 r.u ids j=i:=fun i=>by simp [dt]
   refine ⟨h,fun t ht=>ya ht,fun t ht=>jx ht,fun i hi=>⟨by simp [hi],?_⟩,fun i hi=>?_⟩
   ·obtain ⟨j,hj,rfl⟩:=(hn i).1 hi;exact hp.1 j (Nat.zero_le _) (by simpa using hj)
   ·refine hp.2 i fun j h1 h2 hij=>hi ((hn i).2 ⟨j,by simpa using h2,hij.symm⟩)
 refine key _ h hs fun h1=>?_;rcases ha:m9 s.ob as with _ | ⟨bs,_ | ⟨i,l⟩⟩
 ·rw [ha] at h1;rw [a1c (ob:=s.ob) (fun i hi=>h1 i hi),ha]
 ·rw [aj7 ha (fun i hi=>by simp at hi)]
 ·rw [ha] at h1;rw [aj7 ha h1]
theorem a68 {p:Prop} {vs:List AV} {y:AV} (h:(aai P r s p c vs y).ok) (hs:dn s.ob s'.ob (aai P r s p c vs y).lg.rd):ayy r s s' (aai P r s p c vs y) (aai P r s' p c vs y):=by
 cases y with
 | fn f cap k=>cases f with
  | func f=>exact amt h hs
  | _=>exact (show False from h).elim
 | _=>exact (show False from h).elim
theorem a69 {tbl:List (TypeId×FuncId)} {p:Prop} {vs:List AV} {y:AV} (h:(uq P r s tbl p c vs y).ok) (hs:dn s.ob s'.ob (uq P r s tbl p c vs y).lg.rd):ayy r s s' (uq P r s tbl p c vs y) (uq P r s' tbl p c vs y):=by
 cases y with
 | ifc t y=>
  simp only [uq] at h hs ⊢;generalize du t tbl=q at h hs ⊢;cases q with
  | some f=>exact amt h hs
  | none=>exact (show False from h).elim
 | _=>exact (show False from h).elim
theorem aqh {tbl:List (TypeId×FuncId)} {p:Prop} {vs:List AV} {y:AV}:∃rd wr,(uq P r s tbl p c vs y).lg=r.lg rd wr:=by
 cases y with
 | ifc t y=>
  simp only [uq];generalize du t tbl=q;cases q with
  | some f=>
   simp only;generalize bv (y::vs) (m9 s.ob (y::vs))=q;simp only [aq];generalize u4 _ _ _=po;cases po<;>exact ⟨_,_,rfl⟩
  | none=>exact ⟨_,_,rfl⟩
 | _=>exact ⟨_,_,rfl⟩
theorem atj (h:(r.out P s c).ok) (he:∀t,t∈(r.out P s c).lg.us→s'.e t=s.e t) (hs:r.x.adr=false→dn s.ob s'.ob (r.out P s c).lg.rd) (hpn:a7r s.ob s'.ob (r.out P s c).lg.rd):ayy r s s' (r.out P s c) (r.out P s' c):=by
 rcases r with ⟨d,g,u,x⟩
 have hus:(PR.out P ⟨d,g,u,x⟩ s c).lg.us=gus g++(x.us++d.toList):=by
  unfold PR.out;simp only;generalize yes s.e g=y;rcases y with _ | b
  ·cases x<;>rfl
  ·cases x with
   | see o=>rfl
   | act o=>cases b<;>rfl
   | call f xs=>cases b with
    | false=>rfl
    | true=>
     simp only [PX.out];generalize bv (l8 s.e xs) (m9 s.ob (l8 s.e xs))=q;simp only [aq];generalize u4 _ _ _=po;cases po<;>rfl
   | callv x xs=>cases b with
    | false=>rfl
    | true=>
     simp only [PX.out];generalize (x.ev s.e).bare=y;cases y with
     | fn f cap k=>cases f with
      | func f=>
       simp only [aai];generalize bv (cap.take k++(l8 s.e xs++cap.drop k)) (m9 s.ob (cap.take k++(l8 s.e xs++cap.drop k)))=q;simp only [aq];generalize u4 _ _ _=po;cases po<;>rfl
      | _=>rfl
     | _=>rfl
   | inv tbl x xs=>cases b with
    | false=>rfl
    | true=>
     simp only [PX.out];obtain ⟨rd,wr,e⟩:=aqh (P:=P) (r:=⟨d,g,u,.inv tbl x xs⟩) (s:=s) (c:=c) (tbl:=tbl) (p:=(x.ev s.e).may true∧bt true s.e xs) (vs:=l8 s.e xs) (y:=(x.ev s.e).bare);rw [e]
     rfl
   | nxt x=>cases b<;>rfl
 rw [hus] at he;obtain ⟨he1,he2⟩:=ca he;obtain ⟨he2,_⟩:=ca he2;unfold PR.out at h hs hpn ⊢;simp only at h hs hpn he1 he2 ⊢;rw [a3s he1];generalize yes s.e g=y at h hs hpn ⊢;rcases y with _ | b
 ·have h:False:=by cases x<;>exact h
  exact h.elim
 ·cases x with
  | see o=>
   simp only [PX.out] at h hs hpn ⊢;rw [bc5 (show ∀t,t∈o.us→s'.e t=s.e t from he2)]
   obtain ⟨g1,g2⟩:(o.see b s.e s'.ob).ok∧(o.see b s.e s'.ob).v=(o.see b s.e s.ob).v:=by
    cases hadr:o.adr with
    | true=>exact bih hadr h hpn
    | false=>exact bfx h (hs hadr)
   rw [g2];exact ⟨g1,fun t ht=>ya ht,fun t ht=>jx ht,fun i hi=>by simp [PR.lg] at hi,fun i hi=>rfl⟩
  | act o=>replace hs:=hs rfl; cases b with
   | true=>
    simp only [PX.out] at h hs ⊢;rw [be6 (show ∀t,t∈o.us→s'.e t=s.e t from he2)];obtain ⟨g1,g2,g3,g4⟩:=bij h hs;simp only at g1 g2 g3 g4;rw [g2];exact ⟨g1,fun t ht=>ya ht,fun t ht=>jx ht,g3,g4⟩
   | false=>exact ⟨trivial,fun t ht=>ya ht,fun t ht=>jx ht,fun i hi=>by simp [PX.out,PR.lg] at hi,fun i hi=>rfl⟩
  | call f xs=>replace hs:=hs rfl; cases b with
   | true=>
    simp only [PX.out] at h hs ⊢;rw [qc (show ∀t,t∈usL xs→s'.e t=s.e t from he2),uf (show ∀t,t∈usL xs→s'.e t=s.e t from he2)];exact amt h hs
   | false=>exact ⟨trivial,fun t ht=>ya ht,fun t ht=>jx ht,fun i hi=>by simp [PX.out,PR.lg] at hi,fun i hi=>rfl⟩
  | callv x xs=>replace hs:=hs rfl; cases b with
   | true=>
    obtain ⟨he2,he3⟩:=ca he2;simp only [PX.out] at h hs ⊢;rw [qc he3,uf he3,t5 he2];exact a68 h hs
   | false=>exact ⟨trivial,fun t ht=>ya ht,fun t ht=>jx ht,fun i hi=>by simp [PX.out,PR.lg] at hi,fun i hi=>rfl⟩
  | inv tbl x xs=>replace hs:=hs rfl; cases b with
   | true=>
    obtain ⟨he2,he3⟩:=ca he2;simp only [PX.out] at h hs ⊢;rw [qc he3,uf he3,t5 he2];exact a69 h hs
   | false=>exact ⟨trivial,fun t ht=>ya ht,fun t ht=>jx ht,fun i hi=>by simp [PX.out,PR.lg] at hi,fun i hi=>rfl⟩
  | nxt x=>cases b with
   | true=>exact (show False from h).elim
   | false=>exact ⟨trivial,fun t ht=>ya ht,fun t ht=>jx ht,fun i hi=>by simp [PX.out,PR.lg] at hi,fun i hi=>rfl⟩
theorem a0c (h:r.x.sto=true) (i:Nat):pin ((r.out P s c).st.ob i)=pin (s.ob i):=by
  rcases r with ⟨d,g,u,x⟩
  unfold PR.out;simp only;generalize yes s.e g=y;cases x with
  | act o=>cases o with
    | st n x1 x2 => rcases y with _ | b
                    · rfl
                    · cases b with
                      | true=>exact bfp
                      | false=>rfl
    | _=>cases h
  | _=>cases h
theorem a5s:(r.out P s c).lg.ad=r.x.adr∧(r.out P s c).lg.st=r.x.sto:=by
 rcases r with ⟨d,g,u,x⟩
 unfold PR.out;simp only;generalize yes s.e g=y;rcases y with _ | b
 ·cases x<;>exact ⟨rfl,rfl⟩
 ·cases x with
  | see o=>exact ⟨rfl,rfl⟩
  | act o=>cases b<;>exact ⟨rfl,rfl⟩
  | call f xs=>cases b with
   | false=>exact ⟨rfl,rfl⟩
   | true=>
    simp only [PX.out];generalize bv (l8 s.e xs) (m9 s.ob (l8 s.e xs))=q;simp only [aq];generalize u4 _ _ _=po;cases po<;>exact ⟨rfl,rfl⟩
  | callv x xs=>cases b with
   | false=>exact ⟨rfl,rfl⟩
   | true=>
    simp only [PX.out];generalize (x.ev s.e).bare=y;cases y with
    | fn f cap k=>cases f with
     | func f=>
      simp only [aai];generalize bv (cap.take k++(l8 s.e xs++cap.drop k)) (m9 s.ob (cap.take k++(l8 s.e xs++cap.drop k)))=q;simp only [aq];generalize u4 _ _ _=po;cases po<;>exact ⟨rfl,rfl⟩
     | _=>exact ⟨rfl,rfl⟩
    | _=>exact ⟨rfl,rfl⟩
  | inv tbl x xs=>cases b with
   | false=>exact ⟨rfl,rfl⟩
   | true=>
    simp only [PX.out];obtain ⟨rd,wr,e⟩:=aqh (P:=P) (r:=⟨d,g,u,.inv tbl x xs⟩) (s:=s) (c:=c) (tbl:=tbl) (p:=(x.ev s.e).may true∧bt true s.e xs) (vs:=l8 s.e xs) (y:=(x.ev s.e).bare);rw [e];exact ⟨rfl,rfl⟩
  | nxt x=>cases b<;>exact ⟨rfl,rfl⟩
end

end Go.Ev

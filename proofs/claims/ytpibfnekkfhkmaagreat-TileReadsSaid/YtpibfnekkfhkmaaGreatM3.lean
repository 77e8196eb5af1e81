import Derived.Lib.DecodeN
import Derived.Test.YtpibfnekkfhkmaaGreatM2
open List renaming getElem?_eq_some_iff → zaa, mem_iff_getElem? → zab, mem_of_getElem? → zae, range → zah, replicate → zai
open Nat renaming le_refl → zac
open Option renaming map_eq_some_iff → zad, some → zaf
namespace Go.Ev
set_option maxRecDepth 100000
open Go
set_option linter.unusedSectionVars false
set_option linter.unnecessarySimpa false
set_option linter.unusedVariables false
abbrev Ren:=Nat→Nat→Option (Nat×Nat)
mutual
def imV (F:Ren):AV→AV
 | .r x=>.r x
 | .agg xs=>.agg (imL F xs)
 | .tup xs=>.tup (imL F xs)
 | .nils sz z=>.nils sz z
 | .own id ver lo len=>match F id ver with | some (i,v)=>.own i v lo len | none=>.undef
 | .ptr id ver off=>match F id ver with | some (i,v)=>.ptr i v off | none=>.undef
 | .oel id ver idx off=>match F id ver with | some (i,v)=>.oel i v idx off | none=>.undef
 | .rp ys=>.rp ys
 | .fn f xs k=>.fn f (imL F xs) k
 | .mp id ver=>match F id ver with | some (i,v)=>.mp i v | none=>.undef
 | .ifc t x=>.ifc t (imV F x)
 | .gd b x=>.gd b (imV F x)
 | .undef=>.undef
def imL (F:Ren):List AV→List AV
 | []=>[]
 | x::xs=>imV F x::imL F xs
end
def imO (F:Ren):Ob→Ob
 | .box cells=>.box (imL F cells)
 | .row sz z app wr xs=>.row sz z app wr xs
 | .abs T=>.abs T
 | .map es c=>.map es c
 | .iter m since seen st=>.iter (imV F m) since seen st
theorem za (F:Ren):∀(xs:List AV) (i:Nat),(imL F xs)[i]?=(xs[i]?).map (imV F)
 | [],i=>by simp [imL]
 | x::xs,0=>by simp [imL]
 | x::xs,i+1=>by simp [imL,za F xs i]
theorem iu (F:Ren):∀(xs:List AV),(imL F xs).length=xs.length
 | []=>by simp [imL]
 | x::xs=>by simp [imL,iu F xs]
section
variable {P:Program} {X Y:Cx} {w w':World} {s:St} {ρ ρ':Pl→Option Nat} {a:Act} {ob ob':Obs} {R R':Nat→Prop} {F:Ren}
def ae8 (ob ob':Obs) (ρ ρ':Pl→Option Nat) (F:Ren):Prop:=∀id ver i v,F id ver=some (i,v)→∃o o',ob id=some (ver,o)∧ob' i=some (v,o')∧ρ' i=ρ id∧ag o o'
theorem ag.own {lo len id id':Nat} {c:Value} {o o':Ob} (h:alz w ρ id lo len c o) (hk:ag o o') (hρ:ρ' id'=ρ id):alz w ρ' id' lo len c o':=by
 cases o with
 | box _=>
  cases o' with
  | box _=>
   obtain ⟨A,cap,e1,e2,e3,e5⟩:=h;refine ⟨A,cap,e1,e2,e3,fun h0=>?_⟩;obtain ⟨b,cs,e,fr,f1,f2,f3,f4⟩:=e5 h0;exact ⟨b,cs,e,fr,by rw [hρ,f1],f2,f3,f4⟩
  | _=>exact hk.elim
 | abs _=>exact h.elim
 | map _ _=>exact h.elim
 | iter _ _ _ _=>exact h.elim
 | row sz z1 a1 w1 xs=>
  cases o' with
  | box _=>
   obtain rfl:sz=1:=hk;obtain ⟨A,cap,e1,e2,e3,e4,e5⟩:=h;refine ⟨A,cap,e1,e2,e3,fun h0=>?_⟩;obtain ⟨b,cs,e,fr,f1,f2,f3,f4⟩:=e5 h0;exact ⟨b,cs,e,fr,by rw [hρ,f1],by rw [f2,Nat.mul_one],f3,by simpa using f4⟩
  | abs _=>exact hk.elim
  | map _ _=>exact hk.elim
  | iter _ _ _ _=>exact hk.elim
  | row sz' z2 a2 w2 xs'=>
   obtain ⟨rfl,hk⟩:=hk;obtain ⟨A,cap,e1,e2,e3,e4,e5⟩:=h;refine ⟨A,cap,e1,e2,e3,by omega,fun h0=>?_⟩;obtain ⟨b,cs,e,fr,f1,f2,f3,f4⟩:=e5 h0;exact ⟨b,cs,e,fr,by rw [hρ,f1],f2,f3,f4⟩
theorem RelA.im (hR:∀b,R b→R' b) (hF:ae8 ob ob' ρ ρ' F) {x:AV} {c:Value} (h:RelA w R ob ρ x c):RelA w R' ob' ρ' (imV F x) c:=by
 induction h with
 | r h0=>rw [imV]; exact .r (h0.mono fun b hb=>⟨hR b hb,rfl⟩)
 | agg xs cs hl _ ih=>
  rw [imV];refine .agg _ cs (by rw [iu]; exact hl) fun i x c hx hc=>?_;rw [za,zad] at hx;obtain ⟨y,hy,rfl⟩:=hx;exact ih i y c hy hc
 | tup xs cs hl _ ih=>
  rw [imV];refine .tup _ cs (by rw [iu]; exact hl) fun i x c hx hc=>?_;rw [za,zad] at hx;obtain ⟨y,hy,rfl⟩:=hx;exact ih i y c hy hc
 | nils sz z=>rw [imV]; exact .nils sz z
 | own id ver lo len c hc ha=>
  rw [imV];split
  ·rename_i i v hf;obtain ⟨o,o',h1,h2,h3,h4⟩:=hF _ _ _ _ hf;exact .own _ _ _ _ _ hc ⟨v,o',h2,zac _,fun _=>ag.own (ha.live h1) h4 h3⟩
  ·exact .undef _
 | ptr id ver off c hc ha=>
  rw [imV];split
  ·rename_i i v hf;obtain ⟨o,o',h1,h2,h3,h4⟩:=hF _ _ _ _ hf;exact .ptr _ _ _ _ hc ⟨v,o',h2,zac _,fun _=>by rw [h3]; exact ha.live h1⟩
  ·exact .undef _
 | oel id ver idx off c hc ha=>
  rw [imV];split
  ·rename_i i v hf;obtain ⟨o,o',h1,h2,h3,h4⟩:=hF _ _ _ _ hf;refine .oel _ _ _ _ _ hc ⟨v,o',h2,zac _,fun _=>?_⟩;have hr:=ha.live h1;cases o with
   | box _=>
    cases o' with
    | box _=>
     obtain ⟨b,e1,e2⟩:=hr;exact ⟨b,by rw [h3]; exact e1,e2⟩
    | _=>exact h4.elim
   | abs _=>exact hr.elim
   | map _ _=>exact hr.elim
   | iter _ _ _ _=>exact hr.elim
   | row sz z1 a1 w1 xs=>
    cases o' with
    | box _=>
     obtain rfl:sz=1:=h4;obtain ⟨e1,e2,b,e3,e4⟩:=hr;exact ⟨b,by rw [h3]; exact e3,by rw [e4,Nat.mul_one]⟩
    | abs _=>exact h4.elim
    | map _ _=>exact h4.elim
    | iter _ _ _ _=>exact h4.elim
    | row sz' z2 a2 w2 xs'=>
     obtain ⟨rfl,h4⟩:=h4;obtain ⟨e1,e2,e3⟩:=hr;exact ⟨by omega,e2,by rw [h3]; exact e3⟩
  ·exact .undef _
 | rp ys b o g hRb hg=>
  rw [imV];exact .rp ys b o g (hR b hRb) fun j y hj=>⟨(hg j y hj).1,(hg j y hj).2.1,(hg j y hj).2.2.mono fun b hb=>⟨hR b hb,rfl⟩⟩
 | fn f xs k fs cs hk hl _ ih=>
  rw [imV];refine .fn f _ k fs cs hk (by rw [iu]; exact hl) fun i x c hx hc=>?_;rw [za,zad] at hx;obtain ⟨y,hy,rfl⟩:=hx;exact ih i y c hy hc
 | mp id ver c hc ha=>
  rw [imV];split
  ·rename_i i v hf;obtain ⟨o,o',h1,h2,h3,h4⟩:=hF _ _ _ _ hf;exact .mp _ _ _ hc ⟨v,o',h2,zac _,fun _=>by rw [h3]; exact ha.live h1⟩
  ·exact .undef _
 | ifc t _ ih=>rw [imV]; exact .ifc t ih
 | gd b _ hf ih=>rw [imV]; exact .gd b ih hf
 | undef c=>rw [imV]; exact .undef c
theorem el.im (hR:∀b,R b→R' b) (hF:ae8 ob ob' ρ ρ' F) {id i:Nat} {x:Ob} (h:el w R ob ρ id x) (hρ:ρ' i=ρ id) (hρs:∀j,ρ' (.s i j)=ρ (.s id j)):el w R' ob' ρ' i (imO F x):=by
 cases x with
 | abs T=>
  obtain ⟨b,h1,h2⟩:=h;exact ⟨b,by rw [hρ,h1],by simp only [hρs]; exact h2⟩
 | map es clock=>
  obtain ⟨b,h1,h2⟩:=h;exact ⟨b,by rw [hρ,h1],h2⟩
 | iter m since seen st=>
  obtain ⟨b,m',h1,h2,h3⟩:=h;exact ⟨b,m',by rw [hρ,h1],h2,h3.im hR hF⟩
 | box cells=>
  obtain ⟨b,cs,e,h1,h2,h3,h4⟩:=h;refine ⟨b,cs,e,by rw [hρ,h1],h2,by rw [iu]; exact h3,fun i x c hx hc=>?_⟩;rw [za,zad] at hx;obtain ⟨y,hy,rfl⟩:=hx;exact (h4 i y c hy hc).im hR hF
 | row sz z app wr xs=>
  rcases h with ⟨h1,h2,h3⟩ | ⟨b,cs,e,fr,h1,h2,h3,h4,h5,h6⟩
  ·exact .inl ⟨h1,by rw [hρ,h2],h3⟩
  ·refine .inr ⟨b,cs,e,fr,by rw [hρ,h1],h2,h3,h4,h5,fun i x hi=>⟨(h6 i x hi).1,fun j y hj=>?_⟩⟩;obtain ⟨c,g1,g2,g3⟩:=(h6 i x hi).2 j y hj;exact ⟨c,g1,g2,g3.mono fun b hb=>⟨hR b hb,rfl⟩⟩
theorem ag.im (F:Ren) (x:Ob):ag x (imO F x):=by cases x<;>simp [ag,imO]
theorem ef (F:Ren) (x:Ob):(imO F x).isAbs=x.isAbs:=by cases x<;>rfl
theorem ai1 (F:Ren) (x:Ob):(imO F x).pinned=x.pinned:=by cases x<;>rfl
theorem as2 (F:Ren) (x:Ob):(imO F x).isRow=x.isRow:=by cases x<;>rfl
theorem a8b (F:Ren) (x:Ob):(imO F x).own=x.own:=by cases x<;>rfl
def idx:Nat→List Nat→Option Nat
  | _,[]=>none
  | i,j::l=>if i=j then some 0 else (idx i l).map (· + 1)
theorem amt {i:Nat}:∀{l:List Nat} {k:Nat},idx i l=some k→l[k]?=some i
 | [],k,h=>by cases h
 | j::l,k,h=>by
  unfold idx at h;split at h
  ·rename_i hij; cases h; simp [hij]
  ·rw [zad] at h;obtain ⟨m,hm,rfl⟩:=h;simpa using amt hm
def obs:Nat→List Ob→Obs
 | _,[]=>fun _=>none
 | k,o::os=>upd k (0,o) (obs (k+1) os)
theorem a8g:∀{os:List Ob} {k id:Nat},id<k→obs k os id=none
 | [],k,id,h=>rfl
 | o::os,k,id,h=>by
  unfold obs upd;rw [if_neg (by omega)];exact a8g (by omega)
theorem a0q:∀{os:List Ob} {k id:Nat},k≤id→obs k os id=(os[id-k]?).map fun o=>(0,o)
 | [],k,id,h=>by simp [obs]
 | o::os,k,id,h=>by
  unfold obs upd;by_cases hk:id=k
  ·subst hk; simp
  ·rw [if_neg hk,a0q (by omega),show id-k=(id-(k+1))+1 by omega];simp
abbrev ob0 (po:List Ob):Obs:=obs 1000000 po
theorem xu {po:List Ob} {id:Nat} {x:Nat×Ob} (h:ob0 po id=some x):1000000≤id∧po[id-1000000]?=some x.2∧x.1=0:=by
 by_cases hid:1000000≤id
 ·rw [ob0,a0q hid,zad] at h;obtain ⟨o,ho,rfl⟩:=h;exact ⟨hid,ho,rfl⟩
 ·rw [ob0,a8g (by omega)] at h;cases h
def tj (ob:Obs) (ρ:Pl→Option Nat) (i b:Nat):Prop:=∃x,ob i=some x∧foot ρ i x.2 b
def kh (ob:Obs) (ρ:Pl→Option Nat) (b:Nat):Prop:=∃id x,ob id=some x∧foot ρ id x.2 b
def mu (po:List Ob) (ρ:Pl→Option Nat):Nat→Option Nat:=fun id=>match ob0 po id with
 | some (_,o)=>if o.pinned=true then ρ id else none
 | none=>none
def ap1 (P:Program) (w:World) (I:Nat→Prop) (name:String) (ok:Array Value→Prop):Prop:=
 ∀g,P.globalNamed name=some g→¬I g∧∃cs e fr,w.heap[g]?=some (.cells cs e fr)∧ok cs
def bik:Array Value:=((zah 20).map fun k=>Value.int .u64 (10^k:Nat)).toArray
abbrev qu:Bool:=false
structure Gl (P:Program) (w:World) (I:Nat→Prop):Prop where
 pow : ap1 P w I "internal/strconv.uint64pow10" fun cs => cs = bik
 syn : qu = true → ap1 P w I "strconv.ErrSyntax" fun cs => ∃ t p, cs = #[.iface t p]
 rng : qu = true → ap1 P w I "strconv.ErrRange" fun cs => ∃ t p, cs = #[.iface t p]
 fst : qu = true → ap1 P w I "unicode/utf8.first" fun cs => ∀ i : Nat, i < 256 → cs[i]? = some (.int .u8 (Lib.firstT i))
 acc : qu = true → ap1 P w I "unicode/utf8.acceptRanges" fun cs => ∀ i : Nat, i < 16 → cs[2 * i]? = some (.int .u8 (Lib.accLo i)) ∧ cs[2 * i + 1]? = some (.int .u8 (Lib.accHi i))
theorem ap1.keep {P:Program} {w w':World} {I I':Nat→Prop} {name:String} {ok:Array Value→Prop} (h:ap1 P w I name ok)
  (hw:∀g,g<w.heap.size→¬I g→w'.heap[g]?=w.heap[g]?∧¬I' g):ap1 P w' I' name ok:=fun g hg=>by
 obtain ⟨h1,cs,e,fr,h2,h3⟩:=h g hg;obtain ⟨k1,k2⟩:=hw g (Array.getElem?_eq_some_iff.1 h2).1 h1;exact ⟨k2,cs,e,fr,by rw [k1,h2],h3⟩
theorem Gl.keep {P:Program} {w w':World} {I I':Nat→Prop} (h:Gl P w I) (hw:∀g,g<w.heap.size→¬I g→w'.heap[g]?=w.heap[g]?∧¬I' g):Gl P w' I':=
 ⟨h.pow.keep hw,fun he=>(h.syn he).keep hw,fun he=>(h.rng he).keep hw,fun he=>(h.fst he).keep hw,fun he=>(h.acc he).keep hw⟩
class GlC (P:Program) (X:Cx):Prop where
 gl:Gl P X.w0 X.I
def a8 (P:Program) (f:FuncId) (args:List AV) (po:List Ob) (res:AV) (ro:List Ob):Prop:=
 ∀(w:World) (cargs:Array Value) (ρ:Pl→Option Nat) (B:Nat→Prop),Gl P w (kh (ob0 po) ρ)→(∀b,kh (ob0 po) ρ b∨w.heap.size≤b→B b) →
  Mem ⟨0,kh (ob0 po) ρ,fun _=>none,B,w⟩ (ob0 po) ρ w→cargs.size=args.length →
  (∀(i:Nat) (x:AV) (c:Value),args[i]?=some x→cargs[i]?=some c→RelA w (g8 B (ob0 po) ρ w) (ob0 po) ρ x c) →
  Calls P f cargs w fun e w'=>∃c ρ',e=.returned c∧Mem ⟨0,kh (ob0 po) ρ,mu po ρ,B,w⟩ (ob0 ro) ρ' w'∧RelA w' (g8 B (ob0 ro) ρ' w') (ob0 ro) ρ' res c
end

mutual
def ka:RV→Prop
 | .v _=>True
 | .agg xs=>qg xs
 | .sl _ _=>False
def qg:List RV→Prop
 | []=>True
 | x::xs=>ka x∧qg xs
end
mutual
def ba:AV→Prop
 | .r x=>ka x
 | .agg xs=>lz xs
 | .tup xs=>lz xs
 | .rp _=>False
 | .fn _ xs _=>lz xs
 | .gd _ x=>ba x
 | .ifc _ x=>ba x
 | _=>True
def lz:List AV→Prop
 | []=>True
 | x::xs=>ba x∧lz xs
end
def nc:Ob→Prop
 | .box cells=>lz cells
 | .row _ _ _ _ xs=>∀x,x∈xs→ka x
 | .abs _=>True
 | .map _ _=>True
 | .iter m _ _ _=>ba m
theorem qg.at_:∀{xs:List RV},qg xs→∀{i:Nat} {x:RV},xs[i]?=some x→ka x
 | [],_,i,x,hx=>by simp at hx
 | y::ys,h,0,x,hx=>by simp at hx; subst hx; exact h.1
 | y::ys,h,i+1,x,hx=>by simp at hx; exact qg.at_ h.2 hx
theorem lz.at_:∀{xs:List AV},lz xs→∀{i:Nat} {x:AV},xs[i]?=some x→ba x
 | [],_,i,x,hx=>by simp at hx
 | y::ys,h,0,x,hx=>by simp at hx; subst hx; exact h.1
 | y::ys,h,i+1,x,hx=>by simp at hx; exact lz.at_ h.2 hx
section
variable {P:Program} {X:Cx} [GlC P X] {w w':World} {s:St} {ρ ρ':Pl→Option Nat} {a:Act} {ob ob':Obs} {R R':Nat→Prop}
theorem RelV.flat {x:RV} {c:Value} (h:RelV w R x c) (hf:ka x):RelV w R' x c:=by
 induction h with
 | v x=>exact .v x
 | agg xs cs hl _ ih=>exact .agg xs cs hl fun i x c hx hc=>ih i x c hx hc (qg.at_ (by simpa [ka] using hf) hx)
 | sl sz xs A cap hc hm b o g hA hz hg hr ih=>simp [ka] at hf
theorem RelA.flat {x:AV} {c:Value} (h:RelA w R ob ρ x c) (hf:ba x):RelA w R' ob ρ x c:=by
 induction h with
 | r h0=>exact .r (h0.flat (by simpa [ba] using hf))
 | agg xs cs hl _ ih=>exact .agg xs cs hl fun i x c hx hc=>ih i x c hx hc (lz.at_ (by simpa [ba] using hf) hx)
 | tup xs cs hl _ ih=>exact .tup xs cs hl fun i x c hx hc=>ih i x c hx hc (lz.at_ (by simpa [ba] using hf) hx)
 | nils sz z=>exact .nils sz z
 | own id ver lo len c hc ha=>exact .own id ver lo len c hc ha
 | ptr id ver off c hc ha=>exact .ptr id ver off c hc ha
 | oel id ver i off c hc ha=>exact .oel id ver i off c hc ha
 | rp ys b o g hR hg=>simp [ba] at hf
 | fn f xs k fs cs hk hl _ ih=>exact .fn f xs k fs cs hk hl fun i x c hx hc=>ih i x c hx hc (lz.at_ (by simpa [ba] using hf) hx)
 | mp id ver c hc ha=>exact .mp id ver c hc ha
 | ifc t _ ih=>exact .ifc t (ih (by simpa [ba] using hf))
 | gd b _ hf' ih=>exact .gd b (fun hb=>ih hb (by simpa [ba] using hf)) hf'
 | undef c=>exact .undef c
theorem qg.cells {x:RV} (h:ka x) {j:Nat} {y:RV} (hj:x.cells[j]?=some y):ka y:=by
 cases x with
 | v v=>cases j<;>simp [RV.cells] at hj; subst hj; trivial
 | agg xs=>simp only [RV.cells] at hj; exact qg.at_ (by simpa [ka] using h) hj
 | sl k xs=>simp [ka] at h
theorem el.flat {id:Nat} {x:Ob} (h:el w R ob ρ id x) (hf:nc x):el w R' ob ρ id x:=by
 cases x with
 | abs T=>exact h
 | map es c=>exact h
 | iter m since seen st=>
  obtain ⟨b,m',h1,h2,h3⟩:=h;exact ⟨b,m',h1,h2,h3.flat hf⟩
 | box cells=>
  obtain ⟨b,cs,e,h1,h2,h3,h4⟩:=h;exact ⟨b,cs,e,h1,h2,h3,fun i x c hx hc=>(h4 i x c hx hc).flat (lz.at_ hf hx)⟩
 | row sz z app wr xs=>
  rcases h with h | ⟨b,cs,e,fr,h1,h2,h3,h4,h5,h6⟩
  ·exact .inl h
  ·refine .inr ⟨b,cs,e,fr,h1,h2,h3,h4,h5,fun i x hi=>⟨(h6 i x hi).1,fun j y hj=>?_⟩⟩;obtain ⟨c,g1,g2,g3⟩:=(h6 i x hi).2 j y hj;exact ⟨c,g1,g2,g3.flat (qg.cells (hf x (zae hi)) hj)⟩
def ju (ob:Obs):AV→Option (AV×List Nat)
 | .own id ver lo len=>match AV.rv ob (.own id ver lo len) with
  | some (y,fz)=>some (.r y,fz)
  | none=>none
 | .nils sz _=>some (.r (.sl sz []),[])
 | .agg xs=>match rvs ob xs with
  | some (ys,fz)=>some (.r (.agg ys),fz)
  | none=>none
 | .gd _ _=>none
 | .oel _ _ _ _=>none
 | x=>some (x,[])
def o4 (ob:Obs):List AV→Option (List AV×List Nat)
 | []=>some ([],[])
 | x::xs=>match ju ob x,o4 ob xs with
  | some (y,i),some (ys,j)=>some (y::ys,i++j)
  | _,_=>none
mutual
def af:AV→List Nat
 | .own id _ _ _=>[id]
 | .ptr id _ _=>[id]
 | .oel id _ _ _=>[id]
 | .agg xs=>n7 xs
 | .tup xs=>n7 xs
 | .fn _ xs _=>n7 xs
 | .gd _ x=>af x
 | .mp id _=>[id]
 | .ifc _ x=>af x
 | _=>[]
def n7:List AV→List Nat
 | []=>[]
 | x::xs=>af x++n7 xs
end
def aju:Option (Nat×Ob)→List Nat
 | some (_,.box cells)=>n7 cells
 | some (_,.iter m _ _ _)=>af m
 | _=>[]
def o9 (ob:Obs):Nat→List Nat→List Nat→List Nat
 | 0,_,acc=>acc
 | _+1,[],acc=>acc
 | n+1,i::todo,acc=>if acc.contains i then o9 ob n todo acc else o9 ob n (aju (ob i)++todo) (acc++[i])
def ahb (ver k:Nat):Option (Nat×Ob)→Option (Nat×Nat)
 | some (v,_)=>if ver=v then some (1000000+k,0) else none
 | none=>none
def fwd (ob:Obs) (ids:List Nat):Ren:=fun id ver=>match idx id ids with
 | some k=>ahb ver k (ob id)
 | none=>none
def zx (F:Ren):Option (Nat×Ob)→Option Ob
 | some (_,o)=>if o.own then some (imO F o) else none
 | none=>none
def x8 (F:Ren) (ob:Obs):List Nat→Option (List Ob)
 | []=>some []
 | i::is=>match zx F (ob i),x8 F ob is with
  | some o,some os=>some (o::os)
  | _,_=>none
theorem aci {F:Ren} {ob:Obs}:∀{ids:List Nat} {po:List Ob},x8 F ob ids=some po→po.length=ids.length∧∀(k i:Nat) (o:Ob),ids[k]?=some i→po[k]?=some o→∃v x,ob i=some (v,x)∧x.own=true∧o=imO F x
 | [],po,h=>by simp [x8] at h; subst h; simp
 | j::ids,po,h=>by
  simp only [x8] at h;split at h
  ·rename_i o os h1 h2;cases h;obtain ⟨g1,g2⟩:=aci h2;refine ⟨by simp [g1],fun k i q hk ho=>?_⟩;cases k with
   | zero=>
    simp at hk ho;subst hk; subst ho;unfold zx at h1;split at h1
    ·rename_i v x hx;split at h1
     ·rename_i hown;cases h1;exact ⟨v,x,hx,hown,rfl⟩
     ·cases h1
    ·cases h1
   | succ k=>simp at hk ho; exact g2 k i q hk ho
  ·cases h
def k9 (u:Nat) (ids:List Nat) (k:Nat):Nat:=match ids[k]? with
 | some i=>i
 | none=>100000+1000*u+k
def jy (ob:Obs) (i:Nat):Option (Nat×Ob)→Nat
 | some (v,.box _)=>v
 | some (v,.row _ _ app _ _)=>bif app then v+1 else v
 | some (v,.abs _)=>v
 | some (v,.map _ _)=>v
 | some (v,.iter _ _ _ _)=>v
 | none=>0
def jc (ob:Obs) (u:Nat) (ids:List Nat) (k:Nat):Nat:=match ids[k]? with
 | some i=>jy ob i (ob i)
 | none=>nv ob (100000+1000*u+k)
def back (ob:Obs) (u:Nat) (ids:List Nat) (m:Nat):Ren:=fun id ver=>
 if ver=0∧1000000≤id∧id-1000000<m then some (k9 u ids (id-1000000),jc ob u ids (id-1000000)) else none
def dy (ob:Obs) (u:Nat) (ids:List Nat) (F:Ren):Nat→List Ob→Obs
 | _,[]=>ob
 | k,o::os=>upd (k9 u ids k) (jc ob u ids k,imO F o) (dy ob u ids F (k+1) os)
theorem aub {u:Nat} {ids:List Nat} {F:Ren} {i:Nat}:∀{os:List Ob} {k:Nat},(∀j,k≤j→j<k+os.length→k9 u ids j≠i)→dy ob u ids F k os i=ob i
 | [],k,h=>rfl
 | o::os,k,h=>by
  unfold dy upd;rw [if_neg (fun e=>h k (zac _) (by simp) e.symm)];exact aub fun j h1 h2=>h j (by omega) (by simp; omega)
theorem a29 {u:Nat} {ids:List Nat} {F:Ren} {m:Nat} (hinj:∀i j,i<m→j<m→k9 u ids i=k9 u ids j→i=j):∀{os:List Ob} {k j:Nat} {o:Ob},k+os.length≤m→os[j]?=some o→dy ob u ids F k os (k9 u ids (k+j))=some (jc ob u ids (k+j),imO F o)
 | [],k,j,o,h,hj=>by simp at hj
 | q::os,k,0,o,h,hj=>by simp at hj; subst hj; simp [dy,upd]
 | q::os,k,j+1,o,h,hj=>by
  simp at hj h;have hjl:=(zaa.1 hj).1;unfold dy upd;rw [if_neg (fun e=>by have:=hinj _ _ (by omega) (by omega) e; omega),show k+(j+1)=k+1+j by omega];exact a29 hinj (by omega) hj
theorem j9 {po:List Ob} {k:Nat} {o:Ob} (h:po[k]?=some o):ob0 po (1000000+k)=some (0,o):=by
 rw [ob0,a0q (by omega),show 1000000+k-1000000=k by omega,h]
 rfl
def a4h:Ob→Ob→Prop
 | .row sz _ app _ xs,o'=>app=true∨∃z' wr' xs',o'=.row sz z' false wr' xs'∧xs.length≤xs'.length
 | .box cells,.box cells'=>cells'.length=cells.length
 | .abs T,.abs T'=>T'.size=T.size
 | .map _ _,.map _ _=>True
 | .iter _ _ _ _,.iter _ _ _ _=>True
 | _,_=>False
set_option maxHeartbeats 1000000 in
theorem Gam.call {f:FuncId} {as:List AV} {ids:List Nat} {po ro:List Ob} {res:AV} {u:Nat} {cargs:Array Value} {Bc Ra:Nat→Prop} (hG:Gam X s ρ a w) (hpo:x8 (fwd s.ob ids) s.ob ids=some po)
  (hT:a8 P f (imL (fwd s.ob ids) as) po res ro) (hlen:ids.length≤ro.length) (hinj:∀i j,i<ro.length→j<ro.length→k9 u ids i=k9 u ids j→i=j) (hsm:100000+1000*u+ro.length≤1000000)
  (hcs:cargs.size=as.length) (hargs:∀(i:Nat) (x:AV) (c:Value),as[i]?=some x→cargs[i]?=some c→RelA w Ra s.ob ρ x c)
  (hRa:∀b,Ra b→b<w.heap.size∧Bc b∧∀(i:Nat),i∈ids→¬tj s.ob ρ i b) (hB1:∀b,g8 X.B s.ob ρ w b→Bc b) (hB2:∀b,(∃i,i∈ids∧tj s.ob ρ i b)∨w.heap.size≤b→Bc b)
  (hbox:∀(k:Nat) (o o':Ob),po[k]?=some o→ro[k]?=some o'→a4h o o')
  (hfin:(ba res∧∀o∈ro,nc o)∨∀b,Bc b→g8 X.B s.ob ρ w b∨(∃i,i∈ids∧tj s.ob ρ i b)∨w.heap.size≤b) :
  Calls P f cargs w fun e w'=>∃c ρ',e=.returned c∧Gam X ⟨s.e,dy s.ob u ids (back s.ob u ids ro.length) 0 ro⟩ ρ' a w'∧RA X ⟨s.e,dy s.ob u ids (back s.ob u ids ro.length) 0 ro⟩ ρ' w' (imV (back s.ob u ids ro.length) res) c:=by
 obtain ⟨hpl,hpa⟩:=aci hpo
 let ρc:Pl→Option Nat:=fun p=>match p with
  | .o i=>if 1000000≤i then (ids[i-1000000]?).bind fun i=>ρ (.o i) else none
  | .s i j=>if 1000000≤i then (ids[i-1000000]?).bind fun i=>ρ (.s i j) else none
 have hρc:∀(k i:Nat),ids[k]?=some i→adn ρ ρc i (1000000+k):=fun k i hk=>by
  simp [adn,ρc,hk]
 have hidl:∀(k i:Nat),ids[k]?=some i→∃v x o,s.ob i=some (v,x)∧x.own=true∧po[k]?=some o∧o=imO (fwd s.ob ids) x:=fun k i hk=>by
  have hlt:=(zaa.1 hk).1;have hp:po[k]?=some po[k]:=by simp [show k<po.length by omega]
  obtain ⟨v,x,h1,h2,h3⟩:=hpa k i _ hk hp;exact ⟨v,x,_,h1,h2,hp,h3⟩
 have hoc:∀(id:Nat) (x:Nat×Ob),ob0 po id=some x→∃k i,id=1000000+k∧ids[k]?=some i∧po[k]?=some x.2∧x.1=0∧adn ρ ρc i id:=fun id x hx=>by
  obtain ⟨h1,h2,h3⟩:=xu hx;have hlt:=(zaa.1 h2).1;have hi:ids[id-1000000]?=some (ids[id-1000000]'(by omega)):=by simp [show id-1000000<ids.length by omega]
  refine ⟨id-1000000,_,by omega,hi,h2,h3,?_⟩;have:=hρc _ _ hi;rw [show 1000000+(id-1000000)=id by omega] at this;exact this
 have hnd:∀(k l i:Nat),ids[k]?=some i→ids[l]?=some i→k=l:=fun k l i hk hl=>by
  have h1:=(zaa.1 hk).1;have h2:=(zaa.1 hl).1;exact hinj k l (by omega) (by omega) (by simp [k9,hk,hl])
 have hheld:∀b,kh (ob0 po) ρc b↔∃i,i∈ids∧tj s.ob ρ i b:=fun b=>by
  constructor
  ·rintro ⟨id,x,h1,h2⟩;obtain ⟨k,i,rfl,hk,hp0,_,hρ⟩:=hoc id x h1;obtain ⟨v,y,o,g1,_,hp,ho⟩:=hidl k i hk;rw [hp0] at hp;refine ⟨i,zae hk,_,g1,(hρ.foot ?_).1 h2⟩;rw [zaf.inj hp,ho,ef]
  ·rintro ⟨i,hi,⟨y,g1,hb⟩⟩;obtain ⟨k,hk⟩:=zab.1 hi;obtain ⟨v,x,o,g2,_,hp,ho⟩:=hidl k i hk;rw [g1] at g2;refine ⟨1000000+k,(0,o),j9 hp,((hρc k i hk).foot ?_).2 hb⟩;rw [ho,ef,zaf.inj g2]
 have hownc:∀b,Own (ob0 po) ρc b→∃i,i∈ids∧tj s.ob ρ i b:=fun b ⟨id,v,o,h1,h2,h3⟩=>(hheld b).1 ⟨id,_,h1,h3⟩
 have hidown:∀i,i∈ids→∀b,tj s.ob ρ i b→Own s.ob ρ b:=fun i hi b ⟨y,g1,hb⟩=>by
  obtain ⟨k,hk⟩:=zab.1 hi;obtain ⟨v,x,o,h1,h2,_,_⟩:=hidl k i hk;rw [g1] at h1;cases h1;exact ⟨i,v,x,g1,h2,hb⟩
 have hfits:ae8 s.ob (ob0 po) ρ ρc (fwd s.ob ids):=fun id ver i v hF=>by
  unfold fwd at hF;split at hF
  ·rename_i k hk;have hik:=amt hk;obtain ⟨v0,x,o,h1,h2,h3,h4⟩:=hidl k id hik;rw [h1] at hF;simp only [ahb] at hF;split at hF
   ·rename_i hv;cases hF;subst hv;exact ⟨x,o,h1,j9 h3,(hρc k id hik).1,by rw [h4]; exact ag.im _ x⟩
   ·cases hF
  ·cases hF
 have hRc:∀b,g8 X.B s.ob ρ w b→g8 Bc (ob0 po) ρc w b:=fun b hb=>⟨hb.1,fun ho=>by
   obtain ⟨i,hi,hb'⟩:=hownc b ho
   exact hb.2.1 (hidown i hi b hb'),hB1 b hb⟩
 have hmem:Mem ⟨0,kh (ob0 po) ρc,fun _=>none,Bc,w⟩ (ob0 po) ρc w:=by
  refine ⟨fun id v o h=>?_,fun id id' x x' b h1 h2 h3 h4=>?_,Keeps.refl _ _,fun id v o b h1 h2=>.inl ⟨id,_,h1,h2⟩,fun id b h=>by cases h⟩
  ·obtain ⟨k,i,rfl,hk,hp,_,hρ⟩:=hoc id _ h;obtain ⟨v0,x,o',h1,h2,h3,h4⟩:=hidl k i hk;simp only at hp;rw [hp] at h3;cases h3;rw [h4];exact (hG.obj i v0 x h1).im hRc hfits hρ.1 hρ.2
  ·obtain ⟨k,i,rfl,hk,hp0,_,hρ⟩:=hoc id _ h1;obtain ⟨k',i',rfl,hk',hp0',_,hρ'⟩:=hoc id' _ h2;obtain ⟨v0,y,o',g1,_,hp,ho⟩:=hidl k i hk;obtain ⟨v1,y',o'',g1',_,hp',ho'⟩:=hidl k' i' hk';rw [hp0] at hp;rw [hp0'] at hp';have:=hG.inj i i' _ _ b g1 g1' ((hρ.foot (by rw [zaf.inj hp,ho,ef])).1 h3) ((hρ'.foot (by rw [zaf.inj hp',ho',ef])).1 h4);subst this;rw [hnd k k' i hk hk']
 have hgl:Gl P w (kh (ob0 po) ρc):=(GlC.gl (P:=P) (X:=X)).keep fun g h1 h2=>⟨hG.keeps.block g h1 h2,fun hh=>by
  obtain ⟨i,hi,⟨⟨v,x⟩,g1,hb⟩⟩:=(hheld g).1 hh;rcases hG.own i v x g g1 hb with h | h
  ·exact h2 h
  ·omega⟩
 refine (hT w cargs ρc Bc hgl (fun b hb=>hB2 b (hb.imp_left (hheld b).1)) hmem (by rw [iu,hcs]) (fun i x c hx hc=>?_)).mono ?_
 ·rw [za,zad] at hx;obtain ⟨y,hy,rfl⟩:=hx
  exact (hargs i y c hy hc).im (fun b hb=>⟨(hRa b hb).1,fun ho=>by
   obtain ⟨j,hj,hbj⟩:=hownc b ho
   exact (hRa b hb).2.2 j hj hbj,(hRa b hb).2.1⟩) hfits
 rintro e w' ⟨c,ρ',rfl,hM,hres⟩;generalize hFb:back s.ob u ids ro.length=Fb;generalize hOb:dy s.ob u ids Fb 0 ro=ob2
 let ρ2:Pl→Option Nat:=fun p=>match p with
  | .o i=>open Classical in if h:∃k,k<ro.length∧k9 u ids k=i then ρ' (1000000+h.choose:Nat) else ρ i
  | .s i j=>open Classical in if h:∃k,k<ro.length∧k9 u ids k=i then ρ' (.s (1000000+h.choose) j) else ρ (.s i j)
 have A:∀k,k<ro.length→adn ρ' ρ2 (1000000+k) (k9 u ids k):=fun k hk=>by
  have hex:∃l,l<ro.length∧k9 u ids l=k9 u ids k:=⟨k,hk,rfl⟩
  have:=hinj _ _ hex.choose_spec.1 hk hex.choose_spec.2;refine ⟨?_,fun j=>?_⟩
  ·simp only [ρ2,dif_pos hex,this]
  ·simp only [ρ2,dif_pos hex,this]
 have hN:∀i,(¬∃k,k<ro.length∧k9 u ids k=i)→adn ρ ρ2 i i∧ob2 i=s.ob i:=fun i hi=>by
  refine ⟨⟨by simp only [ρ2,dif_neg hi],fun j=>by simp only [ρ2,dif_neg hi]⟩,?_⟩;rw [← hOb];exact aub fun j _ h2 e=>hi ⟨j,by omega,e⟩
 have hC:∀k o,ro[k]?=some o→ob2 (k9 u ids k)=some (jc s.ob u ids k,imO Fb o):=fun k o hk=>by
  have:=a29 (ob:=s.ob) (F:=Fb) hinj (os:=ro) (k:=0) (j:=k) (o:=o) (by omega) hk;rw [Nat.zero_add] at this;rw [← hOb];exact this
 have hname:∀i x,ob2 i=some x→(∃k o,ro[k]?=some o∧i=k9 u ids k∧x=(jc s.ob u ids k,imO Fb o))∨((¬∃k,k<ro.length∧k9 u ids k=i)∧s.ob i=some x):=fun i x hx=>by
  by_cases hi:∃k,k<ro.length∧k9 u ids k=i
  ·obtain ⟨k,hk,rfl⟩:=hi;have hr:ro[k]?=some ro[k]:=by simp [hk]
   rw [hC k _ hr] at hx;exact .inl ⟨k,_,hr,rfl,(zaf.inj hx).symm⟩
  ·rw [(hN i hi).2] at hx;exact .inr ⟨hi,hx⟩
 have hidn:∀i,i∈ids→∃k,k<ro.length∧k9 u ids k=i:=fun i hi=>by
  obtain ⟨k,hk⟩:=zab.1 hi;have:=(zaa.1 hk).1;exact ⟨k,by omega,by simp [k9,hk]⟩
 have hlt:∀i x b,s.ob i=some x→foot ρ i x.2 b→b<w.heap.size:=fun i x b hi hb=>hG.foot_lt hi hb;have hrb:∀k o b,ro[k]?=some o→foot ρ' (1000000+k) o b→(∃i,i∈ids∧tj s.ob ρ i b)∨w.heap.size≤b:=fun k o b hk hb=>(hM.own _ _ _ b (j9 hk) hb).imp_left (hheld b).1
 have hown2:∀b,Own ob2 ρ2 b→Own (ob0 ro) ρ' b∨∃i v x,(¬∃k,k<ro.length∧k9 u ids k=i)∧s.ob i=some (v,x)∧x.own=true∧foot ρ i x b:=fun b ⟨i,v,x,h1,h2,h3⟩=>by
  rcases hname i _ h1 with ⟨k,o,hk,rfl,hx⟩ | ⟨hi,hx⟩
  ·cases hx;have:=(zaa.1 hk).1;rw [(A k this).foot (ef Fb o)] at h3;exact .inl ⟨_,0,o,j9 hk,by rw [← a8b Fb]; exact h2,h3⟩
  ·rw [(hN i hi).1.foot rfl] at h3;exact .inr ⟨i,v,x,hi,hx,h2,h3⟩
 have hfitb:ae8 (ob0 ro) ob2 ρ' ρ2 Fb:=fun id ver i v hF=>by
  rw [← hFb] at hF;unfold back at hF;split at hF
  ·rename_i hc;obtain ⟨rfl,h1,h2⟩:=hc;cases hF;have hr:ro[id-1000000]?=some ro[id-1000000]:=by simp [h2]
   have hg:=j9 hr;rw [show 1000000+(id-1000000)=id by omega] at hg;refine ⟨_,_,hg,hC _ _ hr,?_,ag.im Fb _⟩;rw [(A _ h2).1,show 1000000+(id-1000000)=id by omega]
  ·cases hF
 have hheldfree:∀b,g8 X.B s.ob ρ w b→¬∃i,i∈ids∧tj s.ob ρ i b:=fun b hb ⟨i,hi,hib⟩=>hb.2.1 (hidown i hi b hib);have hsame:∀b,b<w.heap.size→(¬∃i,i∈ids∧tj s.ob ρ i b)→w'.heap[b]?=w.heap[b]?:=fun b h1 h2=>hM.keeps.block b h1 fun hh=>h2 ((hheld b).1 hh)
 have hRR:∀b,g8 X.B s.ob ρ w b→g8 X.B ob2 ρ2 w' b:=fun b hb=>by
  refine ⟨Nat.lt_of_lt_of_le hb.1 hM.keeps.size,fun ho=>?_,hb.2.2⟩;rcases hown2 b ho with ⟨id,v,o,h1,h2,h3⟩ | ⟨i,v,x,_,h1,h2,h3⟩
  ·rcases hM.own id v o b h1 h3 with h | h
   ·exact hheldfree b hb ((hheld b).1 h)
   ·have:=hb.1; simp only at h; omega
  ·exact hb.2.1 ⟨i,v,x,h1,h2,h3⟩
 have hfin2:(ba res∧∀o∈ro,nc o)∨∀b,g8 Bc (ob0 ro) ρ' w' b→g8 X.B ob2 ρ2 w' b:=by
  refine hfin.imp_right fun hf b hb=>⟨hb.1,fun ho=>?_,?_⟩
  ·rcases hown2 b ho with h | ⟨i,v,x,hi,h1,h2,h3⟩
   ·exact hb.2.1 h
   ·rcases hf b hb.2.2 with h | ⟨j,hj,hjb⟩ | h
    ·exact h.2.1 ⟨i,v,x,h1,h2,h3⟩
    ·obtain ⟨k,hk⟩:=zab.1 hj;obtain ⟨⟨v0,y⟩,g1,hjb⟩:=hjb;have:=hG.inj i j _ _ b h1 g1 h3 hjb;subst this;exact hi (hidn i hj)
    ·have:=hlt i _ b h1 h3; omega
  ·rcases hf b hb.2.2 with h | ⟨j,hj,hjb⟩ | h
   ·exact h.2.2
   ·obtain ⟨k,hk⟩:=zab.1 hj;obtain ⟨⟨v0,y⟩,g1,hjb⟩:=hjb;exact hG.base b (hG.own j _ _ b g1 hjb)
   ·exact hG.base b (.inr (Nat.le_trans hG.keeps.size h))
 have hst:Stays w w' (g8 X.B s.ob ρ w) (g8 X.B ob2 ρ2 w') s.ob ob2 ρ ρ2:=by
  refine ⟨fun b hb=>⟨hRR b hb,hsame b hb.1 (hheldfree b hb)⟩,fun i v x hx=>?_⟩;by_cases hi:∃k,k<ro.length∧k9 u ids k=i
  ·obtain ⟨k,hk,rfl⟩:=hi;have hr:ro[k]?=some ro[k]:=by simp [hk]
   refine ⟨_,_,hC k _ hr,?_,?_⟩
   ·unfold jc;rcases hki:ids[k]? with _ | j
    ·have:k9 u ids k=100000+1000*u+k:=by simp [k9,hki]
     rw [this] at hx;exact Nat.le_of_lt (aal hx)
    ·have:k9 u ids k=j:=by simp [k9,hki]
     rw [this] at hx;simp only [hx];cases x with
     | row sz z app wr xs=>cases app<;>simp [jy]
     | _=>simp [jy]
   ·intro hv;unfold jc at hv;rcases hki:ids[k]? with _ | j
    ·have:k9 u ids k=100000+1000*u+k:=by simp [k9,hki]
     rw [this] at hx;simp only [hki] at hv;have:=aal hx;omega
    ·have hbn:k9 u ids k=j:=by simp [k9,hki]
     rw [hbn] at hx ⊢;simp only [hki,hx] at hv;obtain ⟨v0,y,po',g1,g2,g3,g4⟩:=hidl k j hki;rw [hx] at g1;cases g1
     have hnr:x.pinned=true:=by
      cases x with
      | row sz z app wr xs=>cases app<;>first | rfl | (simp [jy] at hv)
      | _=>rfl
     obtain ⟨b,hρj⟩:∃b,ρ j=some b:=by
      have hob:=hG.obj j v _ hx;cases x with
      | row sz z app wr xs=>
       rcases hob with ⟨_,_,h3⟩ | ⟨b,cs,e,fr,h,_⟩
       ·subst h3; cases hnr
       ·exact ⟨b,h⟩
      | box cells=>obtain ⟨b,cs,e,h,_⟩:=hob; exact ⟨b,h⟩
      | abs T=>obtain ⟨b,h,_⟩:=hob; exact ⟨b,h⟩
      | map _ _=>obtain ⟨b,h,_⟩:=hob; exact ⟨b,h⟩
      | iter _ _ _ _=>obtain ⟨b,m',h,_⟩:=hob; exact ⟨b,h⟩
     have hpin:=hM.pin (1000000+k) b (by
      simp only [mu,j9 g3,g4]
      rw [if_pos (by rw [ai1]; exact hnr),(hρc k j hki).1,hρj])
     obtain ⟨hp1,o',hp2,hp3,hp4⟩:=hpin;rw [j9 hr] at hp2;have hro:ro[k]=o':=by have:=zaf.inj hp2; exact (Prod.mk.inj this).2
     have hA:=A k hk;rw [hbn] at hA;refine ⟨by rw [hA.1,hp1,hρj],?_,fun b' cs' e' fr' hb' hh'=>?_⟩
     ·have hkp:=hbox k po' ro[k] g3 hr;rw [g4] at hkp
      revert hkp
      generalize ro[k]=q;intro hkp;cases x with
      | row sz z app wr xs=>
       rcases hkp with h | ⟨z',wr',xs',rfl,h⟩
       ·subst h; cases hnr
       ·exact ⟨rfl,h⟩
      | box _=>cases q<;>first | exact hkp.elim | trivial
      | abs _=>cases q<;>first | exact hkp.elim | exact hkp
      | map _ _=>cases q<;>first | exact hkp.elim | trivial
      | iter _ _ _ _=>cases q<;>first | exact hkp.elim | trivial
     rw [hρj] at hb';cases hb';have hkp:=hbox k po' ro[k] g3 hr;rw [g4,hro] at hkp;have hob':=hM.obj (1000000+k) 0 o' (by rw [j9 hr,hro]);have hob:=hG.obj j v _ hx;cases x with
     | row sz z app wr xs=>
      rcases hkp with h | ⟨z',wr',xs',rfl,h⟩
      ·subst h; cases hnr
      ·exact hp4 rfl cs' e' fr' hh'
     | box cells=>
      cases o' with
      | row _ _ _ _ _=>exact hkp.elim
      | abs _=>exact hkp.elim
      | map _ _=>exact hkp.elim
      | iter _ _ _ _=>exact hkp.elim
      | box cells'=>
       obtain ⟨b1,cs,e,k1,k2,k3,_⟩:=hob;rw [hρj] at k1; cases k1;rw [hh'] at k2; cases k2;obtain ⟨b2,cs2,e2,f1,f2,f3,_⟩:=hob';rw [hp1] at f1; cases f1;refine ⟨cs2,e2,_,f2,?_⟩;have hkp:cells'.length=(imL (fwd s.ob ids) cells).length:=hkp;rw [f3,k3,hkp,iu]
     | abs T=>
      cases o' with
      | row _ _ _ _ _=>exact hkp.elim
      | box _=>exact hkp.elim
      | map _ _=>exact hkp.elim
      | iter _ _ _ _=>exact hkp.elim
      | abs T'=>
       obtain ⟨b1,k1,k2⟩:=hob;rw [hρj] at k1; cases k1;obtain ⟨cs,e,k3,k4⟩:=T.root k2;rw [hh'] at k3; cases k3;obtain ⟨b2,f1,f2⟩:=hob';rw [hp1] at f1; cases f1;obtain ⟨cs2,e2,f3,f4⟩:=T'.root f2;have hkp:T'.size=T.size:=hkp;exact ⟨cs2,e2,_,f3,by rw [f4,k4,hkp]⟩
     | map es c=>
      obtain ⟨b1,k1,k2⟩:=hob;rw [hρj] at k1; cases k1;rw [hh'] at k2; cases k2
     | iter m since seen st=>
      obtain ⟨b1,m',k1,k2,_⟩:=hob;rw [hρj] at k1; cases k1;rw [hh'] at k2; cases k2
  ·refine ⟨v,x,by rw [(hN i hi).2,hx],zac _,fun _=>⟨(hN i hi).1.1,ag.refl x,fun b cs e fr hb hh=>⟨cs,e,fr,?_,rfl⟩⟩⟩;have hb:foot ρ i x b:=.inl hb;rw [hsame b (hlt i _ b hx hb),hh];rintro ⟨j,hj,hjb⟩;obtain ⟨k,hk⟩:=zab.1 hj;obtain ⟨⟨v0,y⟩,g1,hjb⟩:=hjb;have:=hG.inj i j _ _ b hx g1 hb hjb;subst this;exact hi (hidn i hj)
 have hobr:∀k o,ro[k]?=some o→el w' (g8 X.B ob2 ρ2 w') ob2 ρ2 (k9 u ids k) (imO Fb o):=fun k o hk=>by
  have hkl:=(zaa.1 hk).1;have h0:=hM.obj _ _ _ (j9 hk);rcases hfin2 with ⟨_,hf⟩ | hf
  ·exact (h0.flat (R':=g8 X.B ob2 ρ2 w') (hf o (zae hk))).im (fun _ h=>h) hfitb (A k hkl).1 (A k hkl).2
  ·exact h0.im hf hfitb (A k hkl).1 (A k hkl).2
 refine ⟨c,ρ2,rfl,⟨⟨fun i v x hx=>?_,fun i j x y b hx hy hb hb'=>?_,?_,fun i v x b hx hb=>?_,fun i b hp=>?_⟩,hG.sz,hG.df,fun t=>(hG.env t).stays hst,hG.pnn,hG.small,hG.base⟩,?_⟩
 ·rcases hname i _ hx with ⟨k,o,hk,rfl,hxx⟩ | ⟨hi,hxx⟩
  ·cases hxx;exact hobr k o hk
  ·refine (hG.obj i v x hxx).stays hst (hN i hi).1.1 (hN i hi).1.2 fun b hb=>hsame b (hlt i _ b hxx hb) ?_;rintro ⟨j,hj,hjb⟩;obtain ⟨k,hk⟩:=zab.1 hj;obtain ⟨⟨v0,y⟩,g1,hjb⟩:=hjb;have:=hG.inj i j _ _ b hxx g1 hb hjb;subst this;exact hi (hidn i hj)
 ·have mixed:∀k o i x b,ro[k]?=some o→(¬∃l,l<ro.length∧k9 u ids l=i)→s.ob i=some x→foot ρ' (1000000+k) o b→foot ρ i x.2 b→False:=fun k o i x b hk hi hx h1 h2=>by
   rcases hrb k o b hk h1 with ⟨j,hj,hjb⟩ | h
   ·obtain ⟨l,hl⟩:=zab.1 hj;obtain ⟨⟨v0,y⟩,g1,hjb⟩:=hjb;have:=hG.inj i j _ _ b hx g1 h2 hjb;subst this;exact hi (hidn i hj)
   ·have:=hlt i _ b hx h2; omega
  rcases hname i _ hx with ⟨k,o,hk,rfl,rfl⟩ | ⟨hi,hxx⟩<;>rcases hname j _ hy with ⟨l,q,hl,rfl,rfl⟩ | ⟨hj,hyy⟩
  ·have h1:=(zaa.1 hk).1;have h2:=(zaa.1 hl).1;rw [(A k h1).foot (ef Fb _)] at hb;rw [(A l h2).foot (ef Fb _)] at hb';have:=hM.inj _ _ _ _ b (j9 hk) (j9 hl) hb hb';rw [show k=l by omega]
  ·have h1:=(zaa.1 hk).1;rw [(A k h1).foot (ef Fb _)] at hb;rw [(hN j hj).1.foot rfl] at hb';exact (mixed k o j _ b hk hj hyy hb hb').elim
  ·have h2:=(zaa.1 hl).1;rw [(A l h2).foot (ef Fb _)] at hb';rw [(hN i hi).1.foot rfl] at hb;exact (mixed l q i _ b hl hi hxx hb' hb).elim
  ·rw [(hN i hi).1.foot rfl] at hb;rw [(hN j hj).1.foot rfl] at hb';exact hG.inj i j _ _ b hxx hyy hb hb'
 ·have hk:=hG.keeps;refine ⟨hM.keeps.os.trans hk.os,hM.keeps.tape.trans hk.tape,hM.keeps.output.trans hk.output,Nat.le_trans hk.size hM.keeps.size,fun b hb hI=>?_⟩;rw [hsame b (Nat.lt_of_lt_of_le hb hk.size),hk.block b hb hI];rintro ⟨j,hj,hjb⟩;obtain ⟨k,hk'⟩:=zab.1 hj;obtain ⟨⟨v0,y⟩,g1,hjb⟩:=hjb;rcases hG.own j _ _ b g1 hjb with h | h
  ·exact hI h
  ·omega
 ·rcases hname i _ hx with ⟨k,o,hk,rfl,hxe⟩ | ⟨hi,hxx⟩
  ·cases hxe;rw [(A k (zaa.1 hk).1).foot (ef Fb _)] at hb;rcases hrb k o b hk hb with ⟨j,hj,hjb⟩ | h
   ·obtain ⟨l,hl⟩:=zab.1 hj;obtain ⟨⟨v0,y⟩,g1,hjb⟩:=hjb;exact hG.own j _ _ b g1 hjb
   ·exact .inr (Nat.le_trans hG.keeps.size h)
  ·rw [(hN i hi).1.foot rfl] at hb;exact hG.own i v x b hxx hb
 ·show ρ2 i=some b∧∃o,ob2 i=some (0,o)∧o.pinned=true∧(o.isRow=true→xi X.w0 w' b);obtain ⟨h1,x,h2,hnr,hsz⟩:=hG.pin i b hp;by_cases hi:∃k,k<ro.length∧k9 u ids k=i
  ·obtain ⟨k,hk,rfl⟩:=hi;have hr:ro[k]?=some ro[k]:=by simp [hk]
   rcases hki:ids[k]? with _ | j
   ·have hbn:k9 u ids k=100000+1000*u+k:=by simp [k9,hki]
    rw [hbn,hG.pnn _ (aup (by omega))] at hp;cases hp
   ·have hbn:k9 u ids k=j:=by simp [k9,hki]
    rw [hbn] at h1 h2 ⊢;obtain ⟨v0,y,po',g1,g2,g3,g4⟩:=hidl k j hki;rw [h2] at g1;cases g1
    have hpin:=hM.pin (1000000+k) b (by
     simp only [mu,j9 g3,g4]
     rw [if_pos (by rw [ai1]; exact hnr),(hρc k j hki).1,h1])
    obtain ⟨hp1,o',hp2,hp3,hp4⟩:=hpin;rw [j9 hr] at hp2;have hro:ro[k]=o':=by have:=zaf.inj hp2; exact (Prod.mk.inj this).2
    have hA:=A k hk;have hCk:=hC k _ hr;rw [hbn] at hA hCk;refine ⟨by rw [hA.1,hp1],imO Fb o',?_,by rw [ai1]; exact hp3,fun hrr=>?_⟩
    rotate_left
    ·rw [as2] at hrr;have hkp:=hbox k po' ro[k] g3 hr;rw [g4,hro] at hkp
     have hxr:x.isRow=true:=by
      cases x with
      | row _ _ _ _ _=>rfl
      | box _=>cases o'<;>first | exact hkp.elim | cases hrr
      | abs _=>cases o'<;>first | exact hkp.elim | cases hrr
      | map _ _=>cases o'<;>first | exact hkp.elim | cases hrr
      | iter _ _ _ _=>cases o'<;>first | exact hkp.elim | cases hrr
     exact (hsz hxr).trans (hp4 hrr)
    rw [hCk,hro];cases x with
    | row sz z app wr xs=>cases app<;>first | (cases hnr; done) | simp [jc,hki,h2,jy]
    | box cells=>simp [jc,hki,h2,jy]
    | abs T=>simp [jc,hki,h2,jy]
    | map es c=>simp [jc,hki,h2,jy]
    | iter m since seen st=>simp [jc,hki,h2,jy]
  ·rw [(hN i hi).1.1,(hN i hi).2];refine ⟨h1,x,h2,hnr,fun hrr=>(hsz hrr).trans ?_⟩;have hb:foot ρ i x b:=.inl h1
   have he:w'.heap[b]?=w.heap[b]?:=hsame b (hlt i _ b h2 hb) (by
    rintro ⟨j,hj,hjb⟩;obtain ⟨k,hk⟩:=zab.1 hj;obtain ⟨⟨v0,y⟩,g1,hjb⟩:=hjb;have:=hG.inj i j _ _ b h2 g1 hb hjb;subst this
    exact hi (hidn i hj))
   intro cs e fr hc;exact ⟨cs,e,fr,by rw [he]; exact hc,rfl⟩
 ·rcases hfin2 with ⟨hf,_⟩ | hf
  ·exact (hres.flat (R':=g8 X.B ob2 ρ2 w') hf).im (fun _ h=>h) hfitb
  ·exact hres.im hf hfitb
end

def uu (ver new:Nat):Option (Nat×Ob)→Option (Nat×Nat)
 | some (v,_)=>if ver=v then some (new,0) else none
 | none=>none
def xw (np lb:Nat) (ob:Obs) (ids:List Nat):Ren:=fun id ver=>
 if 1000000≤id∧id<1000000+np then uu ver id (ob id)
 else match idx id ids with
  | some k=>uu ver (lb+k) (ob id)
  | none=>none
def adh (F:Ren):Option (Nat×Ob)→Option Ob
 | some (_,o)=>some (imO F o)
 | none=>none
def si (F:Ren) (ob:Obs):List Nat→Option (List Ob)
 | []=>some []
 | i::is=>match adh F (ob i),si F ob is with
  | some o,some os=>some (o::os)
  | _,_=>none
theorem aw7 {F:Ren} {ob:Obs}:∀{ids:List Nat} {po:List Ob},si F ob ids=some po→po.length=ids.length∧∀(k i:Nat) (o:Ob),ids[k]?=some i→po[k]?=some o→∃v x,ob i=some (v,x)∧o=imO F x
 | [],po,h=>by simp [si] at h; subst h; simp
 | j::ids,po,h=>by
  simp only [si] at h;split at h
  ·rename_i o os h1 h2;cases h;obtain ⟨g1,g2⟩:=aw7 h2;refine ⟨by simp [g1],fun k i q hk ho=>?_⟩;cases k with
   | zero=>
    simp at hk ho;subst hk; subst ho;rcases hj:ob j with _ | ⟨v,x⟩
    ·rw [hj] at h1; cases h1
    ·rw [hj] at h1;cases h1;exact ⟨v,x,rfl,rfl⟩
   | succ k=>simp at hk ho; exact g2 k i q hk ho
  ·cases h
def cz (np:Nat):Nat→List Nat
 | 0=>[]
 | n+1=>(1000000+(np-(n+1)))::cz np n
theorem ayh {np:Nat}:∀{n k:Nat},n≤np→k<n→(cz np n)[k]?=some (1000000+(np-n+k))
 | 0,k,_,h=>by omega
 | n+1,0,h,_=>by simp [cz]
 | n+1,k+1,h,hk=>by
  simp only [cz,List.getElem?_cons_succ];rw [ayh (by omega) (by omega)];congr 1;omega
theorem auo {np:Nat}:∀{n:Nat},(cz np n).length=n
 | 0=>rfl
 | n+1=>by simp [cz,auo]
def aaq (np i:Nat):Bool:=decide (1000000≤i∧i<1000000+np)
def nn (np:Nat) (l:List Nat):List Nat:=l.filter fun i=>!aaq np i
def nrm (fuel np lb:Nat) (vs:List AV) (ob:Obs):Option (List AV×List Ob×List Ob):=
 let ids:=nn np (o9 ob fuel (n7 vs++cz np np) [])
 let F:=xw np lb ob ids
 match si F ob (cz np np),si F ob ids with
 | some pos,some los=>some (imL F vs,pos,los)
 | _,_=>none
def br:Nat→List Ob→Obs→Obs
 | _,[],ob=>ob
 | k,o::os,ob=>upd k (0,o) (br (k+1) os ob)
theorem ap8:∀{os:List Ob} {k id:Nat} {ob:Obs},(id<k∨k+os.length≤id)→br k os ob id=ob id
 | [],k,id,ob,h=>rfl
 | o::os,k,id,ob,h=>by
  simp at h;unfold br upd;rw [if_neg (by omega)];exact ap8 (by omega)
theorem ak8:∀{os:List Ob} {k j:Nat} {o:Ob} {ob:Obs},os[j]?=some o→br k os ob (k+j)=some (0,o)
 | [],k,j,o,ob,h=>by simp at h
 | q::os,k,0,o,ob,h=>by simp at h; subst h; simp [br,upd]
 | q::os,k,j+1,o,ob,h=>by
  simp at h;unfold br upd;rw [if_neg (by omega),show k+(j+1)=k+1+j by omega];exact ak8 h
theorem ajp (ob:Obs):∀(fuel:Nat) (todo acc:List Nat),acc.Nodup→(o9 ob fuel todo acc).Nodup
 | 0,_,acc,h=>h
 | _+1,[],acc,h=>h
 | n+1,i::todo,acc,h=>by
  unfold o9;split
  ·exact ajp ob n todo acc h
  ·rename_i hc;refine ajp ob n _ _ ?_;rw [List.nodup_append];refine ⟨h,by simp,fun a ha b hb=>?_⟩;simp at hb;subst hb;intro e;subst e;simp at hc;exact hc ha
theorem ao2 {l:List Nat} (h:l.Nodup) {i j x:Nat} (hi:l[i]?=some x) (hj:l[j]?=some x):i=j:=by
 have h1:=(zaa.1 hi)
 have h2:=(zaa.1 hj)
 obtain ⟨a1,b1⟩:=h1;obtain ⟨a2,b2⟩:=h2;rcases Nat.lt_trichotomy i j with hlt | rfl | hlt
 ·exact absurd (by rw [b1,b2]) (List.pairwise_iff_getElem.1 h i j a1 a2 hlt)
 ·rfl
 ·exact absurd (by rw [b1,b2]) (List.pairwise_iff_getElem.1 h j i a2 a1 hlt)
section
variable {P:Program} {X:Cx} {w w':World} {s:St} {ρ ρ':Pl→Option Nat} {a:Act} {ob ob':Obs} {R R':Nat→Prop}
theorem Mem.nrm (hM:Mem X ob ρ w) {fuel np lb:Nat} {vs vs':List AV} {pos los:List Ob} (h:nrm fuel np lb vs ob=some (vs',pos,los)) (hlb:1000000+np≤lb) (hpn:∀id b,X.pn id=some b→1000000≤id∧id<1000000+np) :
  ∃ρ',Mem X (br 1000000 pos (br lb los fun _=>none)) ρ' w∧vs'.length=vs.length∧pos.length=np ∧
   ∀(i:Nat) (x y:AV) (c:Value),vs[i]?=some x→vs'[i]?=some y→RelA w (g8 X.B ob ρ w) ob ρ x c→RelA w (g8 X.B (br 1000000 pos (br lb los fun _=>none)) ρ' w) (br 1000000 pos (br lb los fun _=>none)) ρ' y c:=by
 unfold Ev.nrm at h;generalize af:nn np (o9 ob fuel (n7 vs++cz np np) [])=ids at h;simp only at h;generalize hF:xw np lb ob ids=F at h;split at h
 ·rename_i pos' los' hp hl;cases h;obtain ⟨p1,p2⟩:=aw7 hp;obtain ⟨l1,l2⟩:=aw7 hl;rw [auo] at p1
  have hnd:ids.Nodup:=by
   rw [← af];exact (ajp ob fuel _ [] (by simp)).filter _
  have hnp:∀i,i∈ids→¬(1000000≤i∧i<1000000+np):=fun i hi=>by
   rw [← af] at hi;simp [nn,aaq] at hi;intro hc;have:=hi.2;omega
  generalize hob2:br 1000000 pos (br lb los fun _=>none)=ob2
  let ρ2:Pl→Option Nat:=fun p=>match p with
   | .o i=>if 1000000≤i∧i<1000000+np then ρ i else if lb≤i then (ids[i-lb]?).bind fun i=>ρ (.o i) else none
   | .s i j=>if 1000000≤i∧i<1000000+np then ρ (.s i j) else if lb≤i then (ids[i-lb]?).bind fun i=>ρ (.s i j) else none
  have hP:∀k o,pos[k]?=some o→ob2 (1000000+k)=some (0,o)∧adn ρ ρ2 (1000000+k) (1000000+k)∧∃v x,ob (1000000+k)=some (v,x)∧o=imO F x:=fun k o hk=>by
   have hlt:=(zaa.1 hk).1;refine ⟨by rw [← hob2]; exact ak8 hk,⟨by simp only [ρ2]; rw [if_pos (by omega)],fun j=>by simp only [ρ2]; rw [if_pos (by omega)]⟩,?_⟩;have:=ayh (np:=np) (n:=np) (k:=k) (zac _) (by omega);rw [Nat.sub_self,Nat.zero_add] at this;exact p2 k _ o this hk
  have hL:∀k o,los[k]?=some o→ob2 (lb+k)=some (0,o)∧∃i v x,ids[k]?=some i∧adn ρ ρ2 i (lb+k)∧ob i=some (v,x)∧o=imO F x:=fun k o hk=>by
   have hlt:=(zaa.1 hk).1;have hi:ids[k]?=some (ids[k]'(by omega)):=by simp [show k<ids.length by omega]
   obtain ⟨v,x,g1,g2⟩:=l2 k _ o hi hk;refine ⟨?_,_,v,x,hi,?_,g1,g2⟩
   ·rw [← hob2,ap8 (by omega)];exact ak8 hk
   ·refine ⟨?_,fun j=>?_⟩
    ·simp only [ρ2];rw [if_neg (by omega),if_pos (by omega),show lb+k-lb=k by omega,hi]
     rfl
    ·simp only [ρ2];rw [if_neg (by omega),if_pos (by omega),show lb+k-lb=k by omega,hi]
     rfl
  have hcase:∀id x,ob2 id=some x→(∃k,pos[k]?=some x.2∧id=1000000+k∧x.1=0)∨(∃k,los[k]?=some x.2∧id=lb+k∧x.1=0):=fun id x hx=>by
   rw [← hob2] at hx;by_cases h1:1000000≤id∧id<1000000+np
   ·have hk:pos[id-1000000]?=some (pos[id-1000000]'(by omega)):=by simp [show id-1000000<pos.length by omega]
    have:=ak8 (k:=1000000) (ob:=br lb los fun _=>none) hk;rw [show 1000000+(id-1000000)=id by omega,hx] at this;cases this;exact .inl ⟨_,hk,by omega,rfl⟩
   ·rw [ap8 (by omega)] at hx;by_cases h2:lb≤id∧id<lb+los.length
    ·have hk:los[id-lb]?=some (los[id-lb]'(by omega)):=by simp [show id-lb<los.length by omega]
     have:=ak8 (k:=lb) (ob:=fun _=>none) hk;rw [show lb+(id-lb)=id by omega,hx] at this;cases this;exact .inr ⟨_,hk,by omega,rfl⟩
    ·rw [ap8 (by omega)] at hx;cases hx
  have hold:∀id x,ob2 id=some x→∃i v y,ob i=some (v,y)∧x=(0,imO F y)∧adn ρ ρ2 i id∧((id=i∧1000000≤i∧i<1000000+np)∨(∃k,ids[k]?=some i∧id=lb+k)):=fun id x hx=>by
   rcases hcase id x hx with ⟨k,h1,rfl,h3⟩ | ⟨k,h1,rfl,h3⟩
   ·obtain ⟨g1,g2,v,y,g3,g4⟩:=hP k _ h1;have hlt:=(zaa.1 h1).1;exact ⟨_,v,y,g3,Prod.ext h3 g4,g2,.inl ⟨rfl,by omega,by omega⟩⟩
   ·obtain ⟨g1,i,v,y,g2,g3,g4,g5⟩:=hL k _ h1;exact ⟨i,v,y,g4,Prod.ext h3 g5,g3,.inr ⟨k,g2,rfl⟩⟩
  have hfit:ae8 ob ob2 ρ ρ2 F:=fun id ver i v hFv=>by
   rw [← hF] at hFv;unfold xw at hFv;split at hFv
   ·rename_i hc;rcases ho:ob id with _ | ⟨v0,y⟩
    ·rw [ho] at hFv; cases hFv
    ·rw [ho] at hFv;simp only [uu] at hFv;split at hFv
     ·rename_i hv;cases hFv;subst hv;have hk:pos[id-1000000]?=some (pos[id-1000000]'(by omega)):=by simp [show id-1000000<pos.length by omega]
      obtain ⟨g1,g2,v1,y1,g3,g4⟩:=hP _ _ hk;rw [show 1000000+(id-1000000)=id by omega] at g1 g2 g3;rw [ho] at g3;cases g3;exact ⟨_,_,rfl,g1,g2.1,by rw [g4]; exact ag.im F _⟩
     ·cases hFv
   ·split at hFv
    ·rename_i k hk;have hik:=amt hk;rcases ho:ob id with _ | ⟨v0,y⟩
     ·rw [ho] at hFv; cases hFv
     ·rw [ho] at hFv;simp only [uu] at hFv;split at hFv
      ·rename_i hv;cases hFv;subst hv;have hlt:=(zaa.1 hik).1;have hlk:los[k]?=some (los[k]'(by omega)):=by simp [show k<los.length by omega]
       obtain ⟨g1,i,v1,y1,g2,g3,g4,g5⟩:=hL k _ hlk;rw [hik] at g2;cases g2;rw [ho] at g4;cases g4;exact ⟨_,_,rfl,g1,g3.1,by rw [g5]; exact ag.im F _⟩
      ·cases hFv
    ·cases hFv
  have hR:∀b,g8 X.B ob ρ w b→g8 X.B ob2 ρ2 w b:=fun b hb=>⟨hb.1,fun ⟨id,v,o,h1,h2,h3⟩=>by
   obtain ⟨i,v',y,g1,g2,g3,_⟩:=hold id _ h1;cases g2;rw [a8b] at h2
   exact hb.2.1 ⟨i,v',y,g1,h2,(g3.foot (ef F y)).1 h3⟩,hb.2.2⟩
  refine ⟨ρ2,⟨fun id v o hx=>?_,fun id id' x x' b h1 h2 h3 h4=>?_,hM.keeps,fun id v o b h1 h2=>?_,fun id b h1=>?_⟩,by rw [iu],p1,fun i x y c hx hy hr=>?_⟩
  ·obtain ⟨i,v',y,g1,g2,g3,_⟩:=hold id _ hx;cases g2;exact (hM.obj i v' y g1).im hR hfit g3.1 g3.2
  ·obtain ⟨i,v,y,g1,g2,g3,g4⟩:=hold id _ h1;obtain ⟨i',v',y',g1',g2',g3',g4'⟩:=hold id' _ h2;have:=hM.inj i i' _ _ b g1 g1' ((g3.foot (by rw [g2]; exact ef F y)).1 h3) ((g3'.foot (by rw [g2']; exact ef F y')).1 h4);subst this;rcases g4 with ⟨rfl,q1,q2⟩ | ⟨k,q1,rfl⟩<;>rcases g4' with ⟨rfl,q1',q2'⟩ | ⟨k',q1',rfl⟩
   ·rfl
   ·exact absurd ⟨q1,q2⟩ (hnp _ (zae q1'))
   ·exact absurd ⟨q1',q2'⟩ (hnp _ (zae q1))
   ·rw [ao2 hnd q1 q1']
  ·obtain ⟨i,v',y,g1,g2,g3,_⟩:=hold id _ h1;exact hM.own i v' y b g1 ((g3.foot (by rw [show o=imO F y from congrArg Prod.snd g2]; exact ef F y)).1 h2)
  ·obtain ⟨q1,q2⟩:=hpn id b h1;obtain ⟨e1,cells,e2,e3⟩:=hM.pin id b h1;have hk:pos[id-1000000]?=some (pos[id-1000000]'(by omega)):=by simp [show id-1000000<pos.length by omega]
   obtain ⟨g1,g2,v1,y1,g3,g4⟩:=hP _ _ hk;rw [show 1000000+(id-1000000)=id by omega] at g1 g2 g3;rw [e2] at g3;cases g3;exact ⟨by rw [g2.1,e1],imO F cells,by rw [g1,g4],by rw [ai1]; exact e3.1,by rw [as2]; exact e3.2⟩
  ·rw [za,hx] at hy;cases hy;exact hr.im hR hfit
 ·cases h
end

inductive PX where
 | see (o:PO)
 | act (o:PO)
 | call (f:FuncId) (args:List Opd)
 | callv (x:Opd) (args:List Opd)
 | inv (tbl:List (TypeId×FuncId)) (x:Opd) (args:List Opd)
 | nxt (x:Opd)
structure PR where
 d:Option Nat
 g:Option (Nat×Bool)
 u:Nat
 x:PX
inductive PC where
 | skip
 | reg (ops:List PR)
 | seq (a b:PC)
 | cond (x:Opd) (a b:PC)
 | block (id:Nat) (c:PC)
 | loop (c:PC)
 | exit (id:Nat)
 | ret
 | drw (ops:List PR) (pre:List (List Nat))
inductive Ex where
 | nor
 | ex (id:Nat)
 | rt
def p6 (d:Option Nat) (x:AV) (e:Env):Env:=match d with
 | some d=>put d x e
 | none=>e
def agu (b:Bool):AV→Option Bool
 | .r (.v (.bool x))=>some (bif b then x else !x)
 | .gd h (.r (.v (.bool x)))=>some (h&&(bif b then x else !x))
 | _=>none
def yes (e:Env):Option (Nat×Bool)→Option Bool
 | none=>some true
 | some (t,b)=>agu b (e t)
def gdv (g:Option (Nat×Bool)) (b:Bool) (x:AV):AV:=match g with
 | none=>x
 | some _=>.gd b x
def okC (u:Nat) (ids:List Nat) (m:Nat) (l:List Nat) (fz:Bool):Bool:=
 decide (ids.length≤m)&&decide (((zah m).map (k9 u ids)).Nodup)&&decide (100000+1000*u+m≤1000000)&&(fz||l.all fun i=>!ids.contains i)
def ct:List Ob→List Ob→Prop
 | .box a::xs,.box b::ys=>b.length=a.length∧ct xs ys
 | .abs T::xs,.abs T'::ys=>T'.size=T.size∧ct xs ys
 | .map _ _::xs,.map _ _::ys=>True∧ct xs ys
 | .iter _ _ _ _::xs,.iter _ _ _ _::ys=>True∧ct xs ys
 | .box _::_,_::_=>False
 | .abs _::_,_::_=>False
 | .map _ _::_,_::_=>False
 | .iter _ _ _ _::_,_::_=>False
 | .row sz _ false _ l::xs,.row sz' _ false _ l'::ys=>(sz'=sz∧l.length≤l'.length)∧ct xs ys
 | .row _ _ false _ _::_,_::_=>False
 | _::xs,_::ys=>ct xs ys
 | _,_=>True
def agm (P:Program) (f:FuncId) (u:Nat) (ob:Obs) (ids:List Nat) (as:List AV) (l:List Nat) (fz:Bool) (K:AV→Obs→Prop):Option (List Ob)→Prop
 | none=>False
 | some po=>∃res ro,a8 P f as po res ro∧okC u ids ro.length l fz=true∧ct po ro∧(fz=false→ba res∧∀o∈ro,nc o)∧K (imV (back ob u ids ro.length) res) (dy ob u ids (back ob u ids ro.length) 0 ro)
def ma (P:Program) (f:FuncId) (u:Nat) (ob:Obs) (as:List AV) (l:List Nat) (fz:Bool) (K:AV→Obs→Prop):Prop:=
 agm P f u ob (o9 ob 64 (n7 as) []) (imL (fwd ob (o9 ob 64 (n7 as) [])) as) l fz K (x8 (fwd ob (o9 ob 64 (n7 as) [])) ob (o9 ob 64 (n7 as) []))
def bma (P:Program) (f:FuncId) (u:Nat) (ob:Obs) (vs:List AV) (K:AV→Obs→Prop):Prop:=
 ∃id v z xs,ob id=some (v,.row 1 z true true (xs.map RV.v))∧xs≠[]∧∀m,ma P f u (upd id (v,.box (xs.map (fun x=>AV.r (.v x))++zai m .undef)) ob) vs [] true K
def bmb (P:Program) (f:FuncId) (u:Nat) (ob:Obs) (vs:List AV) (K:AV→Obs→Prop):Prop:=
 ∃id v sz z xs,ob id=some (v,.row sz z true true xs)∧xs≠[]∧ma P f u (upd id (v,.row sz z false true xs) ob) vs [] true K
def ajj (P:Program) (f:FuncId) (u:Nat) (ob:Obs) (K:AV→Obs→Prop) (vs:List AV):Option (List AV×List Nat)→Prop
 | none=>ma P f u ob vs [] true K
 | some (as,[])=>ma P f u ob as [] true K
 | some (as,i::l)=>ma P f u (freeze ob (i::l)) as (i::l) true K∨ma P f u ob as (i::l) false K∨ma P f u ob vs [] true K∨bma P f u ob vs K∨bmb P f u ob vs K
def aar (P:Program) (f:FuncId):Bool:=match P.funcs[f]? with
 | some fn => fn.body.isSome && !(fn.name == "runtime.NumGoroutine")
 | none=>false
def a6f (P:Program) (u:Nat) (ob:Obs) (vs:List AV) (K:AV→Obs→Prop):AV→Prop
 | .fn (.func f) cap k=>aar P f=true∧ajj P f u ob K (cap.take k++(vs++cap.drop k)) (o4 ob (cap.take k++(vs++cap.drop k)))
 | _=>False
def fh (t:TypeId):List (TypeId×FuncId)→Option FuncId
 | []=>none
 | (t',f)::r=>if t'=t then some f else fh t r
def aqn (P:Program) (tbl:List (TypeId×FuncId)) (u:Nat) (ob:Obs) (vs:List AV) (K:AV→Obs→Prop):AV→Prop
 | .ifc t x=>match fh t tbl with
  | some f=>ajj P f u ob K (x::vs) (o4 ob (x::vs))
  | none=>False
 | _=>False
def dz (es:List MapEntry) (seen:List Nat):List MapEntry:=es.filter fun e=>!seen.contains e.born
def bbj (id ver:Nat) (ob:Obs) (m:AV) (since:Nat) (seen:List Nat) (st:Nat) (K:AV→Obs→Prop):Option (List MapEntry×Nat)→Prop
 | some (es,c)=>(∀e,e∈es→e.born<since)∧since≤st∧(dz es seen=[]→K (.tup [bl false]) ob) ∧
   ∀e,e∈dz es seen→K (.tup [bl true,.r (me e.key),.r (me e.val)]) (upd id (ver,.iter m since (seen++[e.born]) c) ob)
 | none=>False
def a5a (id ver:Nat) (ob:Obs) (K:AV→Obs→Prop):Option (AV×Nat×List Nat×Nat)→Prop
 | some (.mp mid mver,since,seen,st)=>bbj id ver ob (.mp mid mver) since seen st K (u3 ob mid mver)
 | _=>False
def a0s (ob:Obs) (K:AV→Obs→Prop):AV→Prop
 | .ptr id ver 0=>a5a id ver ob K (ec ob id ver)
 | _=>False
def PX.wp (P:Program) (r:PR) (s:St) (K:St→Prop) (b:Bool):PX→Prop
 | .see o=>(o.see b s.e s.ob).ok∧K ⟨p6 r.d (gdv r.g b (o.see b s.e s.ob).v) s.e,s.ob⟩
 | .act o=>(b=true→(o.act (r.d.getD 0) s.e s.ob).ok∧K ⟨p6 r.d (o.act (r.d.getD 0) s.e s.ob).v s.e,(o.act (r.d.getD 0) s.e s.ob).ob⟩)∧(b=false→K ⟨p6 r.d .undef s.e,s.ob⟩)
 | .call f args=>(b=true→cn true s.e args∧ajj P f r.u s.ob (fun v ob=>K ⟨p6 r.d v s.e,ob⟩) (m7 s.e args) (o4 s.ob (m7 s.e args)))∧(b=false→K ⟨p6 r.d .undef s.e,s.ob⟩)
 | .callv x args=>(b=true→(x.ev s.e).may true∧cn true s.e args∧a6f P r.u s.ob (m7 s.e args) (fun v ob=>K ⟨p6 r.d v s.e,ob⟩) (x.ev s.e).bare)∧(b=false→K ⟨p6 r.d .undef s.e,s.ob⟩)
 | .inv tbl x args=>(b=true→(x.ev s.e).may true∧cn true s.e args∧aqn P tbl r.u s.ob (m7 s.e args) (fun v ob=>K ⟨p6 r.d v s.e,ob⟩) (x.ev s.e).bare)∧(b=false→K ⟨p6 r.d .undef s.e,s.ob⟩)
 | .nxt x=>(b=true→(x.ev s.e).may true∧a0s s.ob (fun v ob=>K ⟨p6 r.d v s.e,ob⟩) (x.ev s.e).bare)∧(b=false→K ⟨p6 r.d .undef s.e,s.ob⟩)
def PR.wp (P:Program) (r:PR) (s:St) (K:St→Prop):Option Bool→Prop
 | some b=>r.x.wp P r s K b
 | none=>False
def wpR (P:Program):List PR→(St→Prop)→St→Prop
 | [],K,s=>K s
 | r::rs,K,s=>r.wp P s (wpR P rs K) (yes s.e r.g)
def azg (P:Program) (m:String) (p:TypeId×FuncId):Bool:=aar P p.2&&(match P.info? p.1 with
 | some i=>match i.methods.find? (·.name == m) with
  | some q=>q.path.isEmpty&&(match q.func with | some (f,b)=>f == p.2&&b | none=>false)
  | none=>false
 | none=>false)&&ay P p.1 (fun d=>match d with | .pointer _=>true | _=>false)
def af7 (P:Program) (o:Oper):PX→Bool
 | .see po=>a1r P o po
 | .act po=>apt P o po
 | .call f args=>match o.op with
  | .call c=>match c.callee with
   | .value (.func f')=>f == f'&&y7 opd c.args.toList args&&aar P f
   | _=>false
  | _=>false
 | .callv x args=>match o.op with
  | .call c=>match c.callee with
   | .value x'=>opd x' x&&y7 opd c.args.toList args
   | _=>false
  | _=>false
 | .inv tbl x args=>match o.op with
  | .call c=>match c.callee with
   | .invoke r m=>opd r x&&y7 opd c.args.toList args&&tbl.all (azg P m)
   | _=>false
  | _=>false
 | .nxt x=>match o.op with
  | .next it str=>opd it x && !str
  | _=>false
def bci (ops:Array Oper):Option (Nat×Bool)→Option (Nat×Bool)→Bool
 | none,none=>true
 | some (j,b),some (t,b')=>b == b'&&((ops[j]?).bind (·.dst)) == some t
 | _,_=>false
def a5p:PX→Bool
 | .see _=>true
 | _=>false
def a8t:PX→Bool
 | .act o=>!o.nod
 | _=>false
def am6 (P:Program) (n:Nat) (ops:Array Oper) (o:Oper) (r:PR):Bool:=
 o.dst == r.d&&(match r.d with | some d=>decide (d<n) | none=>!a5p r.x && !a8t r.x)&&bci ops o.guard r.g&&af7 P o r.x
def avt (ops:Array Oper) (pre:List (List Nat)):Bool:=
 pre.length == ops.size&&(zah ops.size).all fun j=>match ops[j]?,pre[j]? with
  | some o,some p=>o.after.all (fun e=>!Region.binds .any e||decide (e.on<j)) &&
    p.all (fun k=>decide (k<j)&&o.after.any fun e=>Region.binds .any e&&(e.on == k||(pre.getD e.on []).contains k))
  | _,_=>false
def nr (P:Program) (n:Nat):Code→PC→Bool
 | .skip,.skip=>true
 | .region _ ops d,.reg rs=>!d&&y7 (am6 P n ops) ops.toList rs
 | .region _ ops d,.drw rs pre=>d&&P.follows .mixedOrders&&y7 (am6 P n ops) ops.toList rs&&avt ops pre
 | .seq a b,.seq a' b'=>nr P n a a'&&nr P n b b'
 | .cond x a b,.cond x' a' b'=>opd x x'&&nr P n a a'&&nr P n b b'
 | .block i c,.block j c'=>i == j&&nr P n c c'
 | .loop c,.loop c'=>nr P n c c'
 | .exit i,.exit j=>i == j
 | .ret,.ret=>true
 | _,_=>false
section
variable {P:Program} {X:Cx} [GlC P X] {w w':World} {s:St} {ρ ρ':Pl→Option Nat} {a:Act} {o:Oper} {ob ob':Obs} {R R':Nat→Prop}
theorem bih (hG:Gam X s ρ a w) {id ver lo len sz:Nat} {z:RV} {app wr:Bool} {xs:List RV} {c:Value} (hid:s.ob id=some (ver,.row sz z app wr xs)) (h:RA X s ρ w (.own id ver lo len) c) (hR:∀b,g8 X.B s.ob ρ w b→R b)
  (hb:∀b,ρ id=some b→b<w.heap.size→R b):RelV w R (.sl sz ((xs.drop lo).take len)) c:=by
 cases h;rename_i h;obtain ⟨A,cap,rfl,e2,e3,e4,e5⟩:=h.live hid;have hlen:((xs.drop lo).take len).length=len:=by simp; omega
 have key:=RelV.sl (w:=w) (R:=R) sz ((xs.drop lo).take len) A cap (by omega) e3;rw [hlen] at key
 have hget:∀(i:Nat) (x:RV),((xs.drop lo).take len)[i]?=some x→xs[lo+i]?=some x:=fun i x hi=>by
  rw [List.getElem?_take] at hi;split at hi
  ·rwa [List.getElem?_drop] at hi
  ·cases hi
 rcases hG.obj id ver _ hid with ⟨h1,h2⟩ | ⟨b,cs,e,fr,h1,h2,h3,h4,h5,h6⟩
 ·subst h1;have:len=0:=by have:lo+len≤0:=e4; omega
  subst this;exact key 0 0 (fun _ _=>undef) (by simp) (by simp) (by simp) (by simp)
 ·refine key b (lo*sz) (fun i j=>(cs[(lo+i)*sz+j]?).getD undef) (fun h0=>?_) (fun i x hi=>(h6 _ x (hget i x hi)).1) (fun i x j y hi hj=>?_) (fun i x j y hi hj=>?_)
  ·obtain ⟨b',cs',e',fr',f1,f2,f3,f4⟩:=e5 (by omega);rw [h1] at f1;cases f1;exact ⟨f2,hb b h1 (Array.getElem?_eq_some_iff.1 h2).1⟩
  ·obtain ⟨c,g1,g2,g3⟩:=(h6 _ x (hget i x hi)).2 j y hj;rw [g1];refine ⟨?_,g2⟩;simp only [World.cell?,h2,Option.isSome_none,Bool.false_eq_true,if_false,Option.getD_some];rw [← g1,Nat.add_mul]
  ·obtain ⟨c,g1,g2,g3⟩:=(h6 _ x (hget i x hi)).2 j y hj;rw [g1];exact g3.mono fun b hb'=>⟨hR b hb',rfl⟩
theorem a7c (hG:Gam X s ρ a w) {x:AV} {y:RV} {l:List Nat} {c:Value} (h:x.rv s.ob=some (y,l)) (hx:RA X s ρ w x c) (hR:∀b,g8 X.B s.ob ρ w b→R b) (hb:∀i,i∈l→∀b,ρ i=some b→b<w.heap.size→R b):RelV w R y c:=by
 unfold AV.rv at h;split at h
 ·cases h; cases hx; rename_i h; exact h.mono fun b hb'=>⟨hR b hb',rfl⟩
 ·cases h; cases hx;exact .sl _ [] none 0 (by simp) (by simp) 0 0 (fun _ _=>undef) (by simp) (by simp) (by simp) (by simp)
 ·split at h
  ·rename_i hr;cases h;exact bih hG (s6 hr) hx hR (hb _ (by simp))
  ·cases h
 ·cases h
theorem a2z (hG:Gam X s ρ a w) (hR:∀b,g8 X.B s.ob ρ w b→R b):∀{xs:List AV} {ys:List RV} {l:List Nat},rvs s.ob xs=some (ys,l)→(∀i,i∈l→∀b,ρ i=some b→b<w.heap.size→R b) →
  ∀(i:Nat) (x:AV) (y:RV) (c:Value),xs[i]?=some x→ys[i]?=some y→RA X s ρ w x c→RelV w R y c
 | [],ys,l,h,hs,i,x,y,c,hx,hy,hr=>by simp at hx
 | z::xs,ys,l,h,hs,i,x,y,c,hx,hy,hr=>by
  simp only [rvs] at h;split at h
  ·rename_i y' k zs j h1 h2;cases h;cases i with
   | zero=>
    simp at hx hy;subst hx; subst hy;exact a7c hG h1 hr hR (fun p hp=>hs p (by simp [hp]))
   | succ i=>
    simp at hx hy;exact a2z hG hR h2 (fun p hp=>hs p (by simp [hp])) i x y c hx hy hr
  ·cases h
theorem bcr (hG:Gam X s ρ a w) (hR:∀b,g8 X.B s.ob ρ w b→R b) {x y:AV} {l:List Nat} {c:Value} (h:ju s.ob x=some (y,l)) (hb:∀i,i∈l→∀b,ρ i=some b→b<w.heap.size→R b) (hx:RA X s ρ w x c):RelA w R s.ob ρ y c:=by
 have keep:∀z:AV,RA X s ρ w z c→RelA w R s.ob ρ z c:=fun z hz=>hz.stays ⟨fun b hb'=>⟨hR b hb',rfl⟩,fun id v o h=>⟨v,o,h,zac _,fun _=>⟨rfl,ag.refl o,fun b cs e fr _ h=>⟨cs,e,fr,h,rfl⟩⟩⟩⟩;unfold ju at h;split at h
 ·split at h
  ·rename_i hr;cases h;exact .r (a7c hG hr hx hR hb)
  ·cases h
 ·cases h; cases hx;exact .r (.sl _ [] none 0 (by simp) (by simp) 0 0 (fun _ _=>undef) (by simp) (by simp) (by simp) (by simp))
 ·rename_i xs;split at h
  ·rename_i ys l' hrv;cases h;cases hx;rename_i cs hl hrel;refine .r (.agg _ _ (by rw [qk hrv]; exact hl) fun i y c hy hc=>?_);have hlt:i<xs.length:=by have:=(zaa.1 hy).1; have:=qk hrv; omega
   have hxi:xs[i]?=some xs[i]:=by simp [hlt]
   exact a2z hG hR hrv hb i _ y c hxi hy (hrel i _ c hxi hc)
  ·cases h
 ·cases h
 ·cases h
 ·cases h;exact keep _ hx
theorem a1x (hG:Gam X s ρ a w) (hR:∀b,g8 X.B s.ob ρ w b→R b):∀{xs ys:List AV} {l:List Nat},o4 s.ob xs=some (ys,l)→(∀i,i∈l→∀b,ρ i=some b→b<w.heap.size→R b) →
  ys.length=xs.length∧∀(i:Nat) (x y:AV) (c:Value),xs[i]?=some x→ys[i]?=some y→RA X s ρ w x c→RelA w R s.ob ρ y c
 | [],ys,l,h,hs=>by simp [o4] at h; obtain ⟨rfl,rfl⟩:=h; simp
 | z::xs,ys,l,h,hs=>by
  simp only [o4] at h;split at h
  ·rename_i y' k zs j h1 h2;cases h;obtain ⟨g1,g2⟩:=a1x hG hR h2 (fun p hp=>hs p (by simp [hp]));refine ⟨by simp [g1],fun i x y c hx hy hr=>?_⟩;cases i with
   | zero=>
    simp at hx hy;subst hx; subst hy;exact bcr hG hR h1 (fun p hp=>hs p (by simp [hp])) hr
   | succ i=>
    simp at hx hy;exact g2 i x y c hx hy hr
  ·cases h
theorem a7d {x:AV} {y:RV} {l:List Nat} (h:x.rv ob=some (y,l)):∀i,i∈l→∃q,ob i=some q:=by
 unfold AV.rv at h;split at h
 ·cases h; simp
 ·cases h; simp
 ·split at h
  ·rename_i hr;cases h;intro i hi;simp at hi;subst hi;exact ⟨_,s6 hr⟩
  ·cases h
 ·cases h
theorem a20:∀{xs:List AV} {ys:List RV} {l:List Nat},rvs ob xs=some (ys,l)→∀i,i∈l→∃q,ob i=some q
 | [],ys,l,h=>by simp [rvs] at h; simp [h.2]
 | z::xs,ys,l,h=>by
  simp only [rvs] at h;split at h
  ·rename_i y' k zs j h1 h2;cases h;intro i hi;rcases List.mem_append.1 hi with hi | hi
   ·exact a7d h1 i hi
   ·exact a20 h2 i hi
  ·cases h
theorem a1y:∀{xs ys:List AV} {l:List Nat},o4 ob xs=some (ys,l)→∀i,i∈l→∃q,ob i=some q
 | [],ys,l,h=>by simp [o4] at h; simp [h.2]
 | z::xs,ys,l,h=>by
  simp only [o4] at h;split at h
  ·rename_i y' k zs j h1 h2;cases h;intro i hi;rcases List.mem_append.1 hi with hi | hi
   ·unfold ju at h1;split at h1
    ·split at h1
     ·rename_i hr;cases h1;exact a7d hr i hi
     ·cases h1
    ·cases h1; simp at hi
    ·split at h1
     ·rename_i hr;cases h1;exact a20 hr i hi
     ·cases h1
    ·cases h1
    ·cases h1
    ·cases h1; simp at hi
   ·exact a1y h2 i hi
  ·cases h
theorem bgc (i:Nat) {x:AV} {c:Value} (h:RelA w (g8 X.B ob ρ w) ob ρ x c):RelA w (g8 X.B (frz ob i (ob i)) ρ w) (frz ob i (ob i)) ρ x c:=by
 rcases hi:ob i with _ | ⟨v,cells | ⟨sz,z,app,wr,xs⟩ | T | _ | _⟩
 ·exact h
 ·exact h
 ·exact h.stays (Stays.freeze1 (X:=X) (s:=⟨fun _=>.undef,ob⟩) hi)
 ·exact h
 ·exact h
 ·exact h
theorem am1:∀(l:List Nat) {ob:Obs} {x:AV} {c:Value},RelA w (g8 X.B ob ρ w) ob ρ x c→RelA w (g8 X.B (freeze ob l) ρ w) (freeze ob l) ρ x c
 | [],_,_,_,h=>h
 | i::is,_,_,_,h=>am1 is (bgc i h)
theorem bcs (hG:Gam X s ρ a w) {ob:Obs} {lall:List Nat} (hob:s.ob=Ev.freeze ob lall) {x y:AV} {l:List Nat} {c:Value} (h:ju ob x=some (y,l)) (hsub:∀i,i∈l→i∈lall) (hx:RA X s ρ w x c):RA X s ρ w y c:=by
 unfold ju at h;split at h
 ·split at h
  ·rename_i hr;cases h;exact .r (at7 hG hr hsub hob hx)
  ·cases h
 ·cases h; cases hx;exact .r (.sl _ [] none 0 (by simp) (by simp) 0 0 (fun _ _=>undef) (by simp) (by simp) (by simp) (by simp))
 ·rename_i xs;split at h
  ·rename_i ys l' hrv;cases h;cases hx;rename_i cs hl hrel;refine .r (.agg _ _ (by rw [qk hrv]; exact hl) fun i y c hy hc=>?_);have hlt:i<xs.length:=by have:=(zaa.1 hy).1; have:=qk hrv; omega
   have hxi:xs[i]?=some xs[i]:=by simp [hlt]
   exact ak1 hG hob hrv hsub i _ y c hxi hy (hrel i _ c hxi hc)
  ·cases h
 ·cases h
 ·cases h
 ·cases h; exact hx
theorem a1z (hG:Gam X s ρ a w) {ob:Obs} {lall:List Nat} (hob:s.ob=Ev.freeze ob lall):∀{xs ys:List AV} {l:List Nat},o4 ob xs=some (ys,l)→(∀i,i∈l→i∈lall) →
  ys.length=xs.length∧∀(i:Nat) (x y:AV) (c:Value),xs[i]?=some x→ys[i]?=some y→RA X s ρ w x c→RA X s ρ w y c
 | [],ys,l,h,hs=>by simp [o4] at h; obtain ⟨rfl,rfl⟩:=h; simp
 | z::xs,ys,l,h,hs=>by
  simp only [o4] at h;split at h
  ·rename_i y' k zs j h1 h2;cases h;obtain ⟨g1,g2⟩:=a1z hG hob h2 (fun p hp=>hs p (by simp [hp]));refine ⟨by simp [g1],fun i x y c hx hy hr=>?_⟩;cases i with
   | zero=>
    simp at hx hy;subst hx; subst hy;exact bcs hG hob h1 (fun p hp=>hs p (by simp [hp])) hr
   | succ i=>
    simp at hx hy;exact g2 i x y c hx hy hr
  ·cases h
theorem ast {u m:Nat} {ids l:List Nat} {fz:Bool} (h:okC u ids m l fz=true):ids.length≤m∧(∀i j,i<m→j<m→k9 u ids i=k9 u ids j→i=j)∧100000+1000*u+m≤1000000∧(fz=false→∀i,i∈l→i∉ids):=by
 simp only [okC,Bool.and_eq_true,decide_eq_true_eq,Bool.or_eq_true] at h;obtain ⟨⟨⟨h1,h2⟩,h3⟩,h4⟩:=h;refine ⟨h1,fun i j hi hj e=>?_,h3,fun hf i hi hm=>?_⟩
 ·have g1:((zah m).map (k9 u ids))[i]?=some (k9 u ids i):=by simp [hi]
  have g2:((zah m).map (k9 u ids))[j]?=some (k9 u ids i):=by simp [hj,e]
  exact ao2 h2 g1 g2
 ·rw [hf] at h4;simp at h4;exact h4 i hi hm
theorem afx:∀{xs ys:List Ob},ct xs ys→∀(k:Nat) (o o':Ob),xs[k]?=some o→ys[k]?=some o'→a4h o o'
 | [],_,_,k,c,c',h,_=>by simp at h
 | _::_,[],_,k,c,c',_,h=>by simp at h
 | x::xs,y::ys,hs,0,c,c',h,h'=>by
  simp at h h';subst h; subst h';cases x with
  | row sz z app wr l=>
   cases app with
   | true=>exact .inl rfl
   | false=>
    cases y with
    | row sz' z' app' wr' l'=>
     cases app' with
     | true=>exact hs.elim
     | false=>obtain ⟨⟨rfl,h⟩,_⟩:=hs; exact .inr ⟨_,_,_,rfl,h⟩
    | _=>exact hs.elim
  | _=>cases y<;>first | exact hs.1 | exact hs.elim | trivial
 | x::xs,y::ys,hs,k+1,c,c',h,h'=>by
  simp at h h'
  have:ct xs ys:=by
   cases x with
   | row sz z app wr l=>
    cases app with
    | true=>cases y<;>exact hs
    | false=>
     cases y with
     | row sz' z' app' wr' l'=>
      cases app' with
      | true=>exact hs.elim
      | false=>exact hs.2
     | _=>exact hs.elim
   | _=>cases y<;>first | exact hs.2 | exact hs.elim | exact hs
  exact afx this k c c' h h'
theorem ai0 {f:FuncId} {u:Nat} {K:AV→Obs→Prop} {vs:List AV} {cargs:Array Value} (hG:Gam X s ρ a w) (hq:ma P f u s.ob vs [] true K) (hl:cargs.size=vs.length) (hr:∀(i:Nat) (x:AV) (c:Value),vs[i]?=some x→cargs[i]?=some c→RA X s ρ w x c) :
  Calls P f cargs w fun e w'=>∃c v ob' ρ',e=.returned c∧K v ob'∧Gam X ⟨s.e,ob'⟩ ρ' a w'∧RA X ⟨s.e,ob'⟩ ρ' w' v c:=by
 unfold ma at hq;generalize af:o9 s.ob 64 (n7 vs) []=ids at hq;unfold agm at hq;split at hq
 ·cases hq
 ·rename_i po hpo;obtain ⟨res,ro,hT,hok,hsl,hfl,hK⟩:=hq;obtain ⟨k1,k2,k3,k4⟩:=ast hok
  have hRf:∀b,g8 X.B s.ob ρ w b→∀i,i∈ids→¬tj s.ob ρ i b:=fun b hb i hi hib=>by
   obtain ⟨hpl,hpa⟩:=aci hpo;obtain ⟨k,hk⟩:=zab.1 hi;have hlt:=(zaa.1 hk).1;obtain ⟨v,x,g1,g2,g3⟩:=hpa k i (po[k]'(by omega)) hk (by simp [show k<po.length by omega]);obtain ⟨y,q1,q2⟩:=hib;rw [g1] at q1;cases q1;exact hb.2.1 ⟨i,v,x,g1,g2,q2⟩
  refine (Gam.call (s:=s) (Bc:=fun b=>g8 X.B s.ob ρ w b∨(∃i,i∈ids∧tj s.ob ρ i b)∨w.heap.size≤b) (Ra:=g8 X.B s.ob ρ w) hG hpo hT k1 k2 k3 hl (fun i x c hx hc=>hr i x c hx hc)
   (fun b hb=>⟨hb.1,.inl hb,hRf b hb⟩) (fun _ h=>.inl h) (fun _ h=>.inr h) (afx hsl) (.inr fun _ h=>h)).mono ?_
  rintro e w' ⟨c,ρ',rfl,h1,h2⟩;exact ⟨c,_,_,ρ',rfl,hK,h1,h2⟩
theorem Gam.boxify (hG:Gam X s ρ a w) {id v:Nat} {z:RV} {vs:List Value} (hid:s.ob id=some (v,.row 1 z true true (vs.map RV.v))) (hne:vs≠[]) :
  ∃m,Gam X ⟨s.e,upd id (v,.box (vs.map (fun x=>AV.r (.v x))++zai m .undef)) s.ob⟩ ρ a w ∧
   Stays w w (g8 X.B s.ob ρ w) (g8 X.B (upd id (v,.box (vs.map (fun x=>AV.r (.v x))++zai m .undef)) s.ob) ρ w) s.ob (upd id (v,.box (vs.map (fun x=>AV.r (.v x))++zai m .undef)) s.ob) ρ ρ:=by
 rcases hG.obj id v _ hid with ⟨h0,_⟩ | ⟨b,cs,e,fr,h1,h2,h3,h4,h5,h6⟩
 ·simp at h0; exact absurd h0 hne
 ·obtain rfl:fr=(0,0):=h4 rfl;have hlen:vs.length≤cs.size:=by simpa using h5
  refine ⟨cs.size-vs.length,?_⟩;generalize hbx:vs.map (fun x=>AV.r (.v x))++zai (cs.size-vs.length) AV.undef=bx;have hbl:bx.length=cs.size:=by rw [← hbx]; simp; omega
  have hfr:∀c,g8 X.B s.ob ρ w c→g8 X.B (upd id (v,.box bx) s.ob) ρ w c:=fun c hc=>⟨hc.1,fun ⟨j,v',o,g1,g2,g3⟩=>by
   by_cases hj:j=id
   ·subst hj;simp [upd] at g1;obtain ⟨rfl,rfl⟩:=g1;rw [gz rfl] at g3;exact hc.2.1 ⟨j,v,_,hid,rfl,by rw [gz rfl]; exact g3⟩
   ·simp only [upd,hj,if_false] at g1
    exact hc.2.1 ⟨j,v',o,g1,g2,g3⟩,hc.2.2⟩
  have hs:Stays w w (g8 X.B s.ob ρ w) (g8 X.B (upd id (v,.box bx) s.ob) ρ w) s.ob (upd id (v,.box bx) s.ob) ρ ρ:=by
   refine ⟨fun c hc=>⟨hfr c hc,rfl⟩,fun j v' o hj=>?_⟩;by_cases hji:j=id
   ·subst hji;rw [hid] at hj;cases hj;exact ⟨v,.box bx,by simp [upd],zac _,fun _=>⟨rfl,rfl,fun b cs e fr _ h=>⟨cs,e,fr,h,rfl⟩⟩⟩
   ·exact ⟨v',o,by simp [upd,hji,hj],zac _,fun _=>⟨rfl,ag.refl o,fun b cs e fr _ h=>⟨cs,e,fr,h,rfl⟩⟩⟩
  have hold:∀j x c,upd id (v,Ob.box bx) s.ob j=some x→foot ρ j x.2 c→∃y,s.ob j=some y∧foot ρ j y.2 c:=fun j x c hx hf=>by
   by_cases hji:j=id
   ·subst hji;simp [upd] at hx;subst hx;rw [gz rfl] at hf;exact ⟨_,hid,by rw [gz rfl]; exact hf⟩
   ·simp only [upd,hji,if_false] at hx;exact ⟨x,hx,hf⟩
  refine ⟨hG.step hs (fun j v' o h=>?_) (fun i j x x' c hx hx' hf hf'=>?_) hG.keeps (fun j v' o c h hf=>?_) (fun j c o h hc hp hb=>?_),hs⟩
  ·by_cases hji:j=id
   ·subst hji;simp [upd] at h;obtain ⟨rfl,rfl⟩:=h;refine .inr ⟨b,cs,e,h1,h2,hbl.symm,fun i x c hx hc=>?_⟩;rw [← hbx] at hx;by_cases hi:i<vs.length
    ·rw [List.getElem?_append_left (by simpa using hi)] at hx;have hvi:(vs.map RV.v)[i]?=some (.v vs[i]):=by simp [hi]
     obtain ⟨_,g⟩:=h6 i _ hvi;obtain ⟨c',g1,g2,g3⟩:=g 0 (.v vs[i]) rfl;rw [Nat.mul_one,Nat.add_zero,hc] at g1;cases g1;simp [hi] at hx;subst hx;exact .r (g3.mono fun b hb=>⟨hfr b hb,rfl⟩)
    ·rw [List.getElem?_append_right (by simpa using hi)] at hx;have:=zae hx;rw [List.mem_replicate] at this;rw [this.2];exact .undef _
   ·simp only [upd,hji,if_false] at h;exact .inl ⟨h,rfl,fun _=>rfl,fun _ _=>rfl⟩
  ·obtain ⟨y,g1,g2⟩:=hold i x c hx hf;obtain ⟨y',g1',g2'⟩:=hold j x' c hx' hf';exact hG.inj i j y y' c g1 g1' g2 g2'
  ·obtain ⟨y,g1,g2⟩:=hold j _ c h hf;exact hG.own j y.1 y.2 c g1 g2
  ·by_cases hji:j=id
   ·subst hji;rw [hG.unpinned hid rfl] at h;cases h
   ·exact ⟨hb,o,by simp [upd,hji,hc],hp⟩
theorem am7 {f:FuncId} {u:Nat} {K:AV→Obs→Prop} {vs:List AV} {cargs:Array Value} (hG:Gam X s ρ a w) (h:ajj P f u s.ob K vs (o4 s.ob vs)) (hl:cargs.size=vs.length) (hr:∀(i:Nat) (x:AV) (c:Value),vs[i]?=some x→cargs[i]?=some c→RA X s ρ w x c) :
  Calls P f cargs w fun e w'=>∃c v ob' ρ',e=.returned c∧K v ob'∧Gam X ⟨s.e,ob'⟩ ρ' a w'∧RA X ⟨s.e,ob'⟩ ρ' w' v c:=by
 have frozen:∀(as:List AV) (l:List Nat),o4 s.ob vs=some (as,l)→ma P f u (freeze s.ob l) as l true K→Calls P f cargs w fun e w'=>∃c v ob' ρ',e=.returned c∧K v ob'∧Gam X ⟨s.e,ob'⟩ ρ' a w'∧RA X ⟨s.e,ob'⟩ ρ' w' v c:=by
  intro as l ha hq;have hG':=Gam.freeze (s:=s) l (ob:=s.ob) hG;unfold ma at hq;generalize af:o9 (freeze s.ob l) 64 (n7 as) []=ids at hq;unfold agm at hq;split at hq
  ·cases hq
  ·rename_i po hpo;obtain ⟨res,ro,hT,hok,hsl,hfl,hK⟩:=hq;obtain ⟨k1,k2,k3,k4⟩:=ast hok
   have hRf:∀b,g8 X.B (freeze s.ob l) ρ w b→∀i,i∈ids→¬tj (freeze s.ob l) ρ i b:=fun b hb i hi hib=>by
    obtain ⟨hpl,hpa⟩:=aci hpo;obtain ⟨k,hk⟩:=zab.1 hi;have hlt:=(zaa.1 hk).1;obtain ⟨v,x,g1,g2,g3⟩:=hpa k i (po[k]'(by omega)) hk (by simp [show k<po.length by omega]);obtain ⟨y,q1,q2⟩:=hib;rw [g1] at q1;cases q1;exact hb.2.1 ⟨i,v,x,g1,g2,q2⟩
   obtain ⟨g1,g2⟩:=a1z (s:=⟨s.e,freeze s.ob l⟩) hG' rfl ha (fun _ h=>h)
   refine (Gam.call (s:=⟨s.e,freeze s.ob l⟩) (Bc:=fun b=>g8 X.B (freeze s.ob l) ρ w b∨(∃i,i∈ids∧tj (freeze s.ob l) ρ i b)∨w.heap.size≤b) (Ra:=g8 X.B (freeze s.ob l) ρ w) hG' hpo hT k1 k2 k3 (by rw [g1,hl]) (fun i x c hx hc=>?_)
    (fun b hb=>⟨hb.1,.inl hb,hRf b hb⟩) (fun _ h=>.inl h) (fun _ h=>.inr h) (afx hsl) (.inr fun _ h=>h)).mono ?_
   ·have hlt:=(zaa.1 hx).1;have hv:vs[i]?=some (vs[i]'(by omega)):=by simp [show i<vs.length by omega]
    exact g2 i _ x c hv hx (am1 l (hr i _ c hv hc))
   ·rintro e w' ⟨c,ρ',rfl,h1,h2⟩;exact ⟨c,_,_,ρ',rfl,hK,h1,h2⟩
 have lent:∀(as:List AV) (l:List Nat),o4 s.ob vs=some (as,l)→ma P f u s.ob as l false K→Calls P f cargs w fun e w'=>∃c v ob' ρ',e=.returned c∧K v ob'∧Gam X ⟨s.e,ob'⟩ ρ' a w'∧RA X ⟨s.e,ob'⟩ ρ' w' v c:=by
  intro as l ha hq;unfold ma at hq;generalize af:o9 s.ob 64 (n7 as) []=ids at hq;unfold agm at hq;split at hq
  ·cases hq
  ·rename_i po hpo;obtain ⟨res,ro,hT,hok,hsl,hfl,hK⟩:=hq;obtain ⟨k1,k2,k3,k4⟩:=ast hok
   have hRf:∀b,g8 X.B s.ob ρ w b→b<w.heap.size∧∀i,i∈ids→¬tj s.ob ρ i b:=fun b hb=>⟨hb.1,fun i hi hib=>by
    obtain ⟨hpl,hpa⟩:=aci hpo;obtain ⟨k,hk⟩:=zab.1 hi;have hlt:=(zaa.1 hk).1;obtain ⟨v,x,g1,g2,g3⟩:=hpa k i (po[k]'(by omega)) hk (by simp [show k<po.length by omega]);obtain ⟨y,q1,q2⟩:=hib;rw [g1] at q1;cases q1
    exact hb.2.1 ⟨i,v,x,g1,g2,q2⟩⟩
   have hdis:∀i,i∈l→∀b,ρ i=some b→b<w.heap.size→b<w.heap.size∧∀j,j∈ids→¬tj s.ob ρ j b:=fun i hi b hb hlt=>⟨hlt,fun j hj hjb=>by
    obtain ⟨q,hq⟩:=a1y ha i hi;obtain ⟨hpl,hpa⟩:=aci hpo;obtain ⟨k,hk⟩:=zab.1 hj;have hlt:=(zaa.1 hk).1;obtain ⟨v,x,g1,g2,g3⟩:=hpa k j (po[k]'(by omega)) hk (by simp [show k<po.length by omega]);obtain ⟨y,q1,q2⟩:=hjb;have:=hG.inj i j _ _ b hq q1 (.inl hb) q2;subst this
    exact k4 rfl i hi hj⟩
   obtain ⟨g1,g2⟩:=a1x hG (R:=fun b=>b<w.heap.size∧∀i,i∈ids→¬tj s.ob ρ i b) hRf ha hdis;refine (Gam.call (Bc:=fun _=>True) (Ra:=fun b=>b<w.heap.size∧∀i,i∈ids→¬tj s.ob ρ i b) hG hpo hT k1 k2 k3 (by rw [g1,hl]) (fun i x c hx hc=>?_) (fun b hb=>⟨hb.1,trivial,hb.2⟩) (fun _ _=>trivial) (fun _ _=>trivial) (afx hsl) (.inl (hfl rfl))).mono ?_
   ·have hlt:=(zaa.1 hx).1;have hv:vs[i]?=some (vs[i]'(by omega)):=by simp [show i<vs.length by omega]
    exact g2 i _ x c hv hx (hr i _ c hv hc)
   ·rintro e w' ⟨c,ρ',rfl,h1,h2⟩;exact ⟨c,_,_,ρ',rfl,hK,h1,h2⟩
 rcases ha:o4 s.ob vs with _ | ⟨as,_ | ⟨i,l⟩⟩
 ·rw [ha] at h; exact ai0 hG h hl hr
 ·rw [ha] at h; exact frozen as [] ha h
 ·rw [ha] at h;rcases h with h | h | h | h | h
  ·exact frozen as _ ha h
  ·exact lent as _ ha h
  ·exact ai0 hG h hl hr
  ·obtain ⟨id,v,z,xs,h1,h2,h3⟩:=h;obtain ⟨m,g1,g2⟩:=hG.boxify h1 h2;exact ai0 (s:=⟨s.e,upd id (v,.box (xs.map (fun x=>AV.r (.v x))++zai m .undef)) s.ob⟩) g1 (h3 m) hl fun i x c hx hc=>(hr i x c hx hc).stays g2
  ·obtain ⟨id,v,sz,z,xs,h1,h2,h3⟩:=h;exact ai0 (s:=⟨s.e,upd id (v,.row sz z false true xs) s.ob⟩) (hG.shut1 h1 h2) h3 hl fun i x c hx hc=>(hr i x c hx hc).stays (Stays.shut1 (X:=X) (w:=w) (ρ:=ρ) h1)
end

structure Lg where
 us:List Nat
 d:List Nat
 rd:List Nat
 wr:List Nat
 ad:Bool
 st:Bool
instance:Inhabited Lg:=⟨⟨[],[],[],[],false,false⟩⟩
def PX.adr:PX→Bool
 | .see o=>o.adr
 | _=>false
def PX.sto:PX→Bool
 | .act (.st _ _ _)=>true
 | _=>false
structure Out where
 ok:Prop
 st:St
 lg:Lg
abbrev Ans:=AV×List Ob
def PX.us:PX→List Nat
 | .see o=>o.us
 | .act o=>o.us
 | .call _ xs=>usL xs
 | .callv x xs=>x.us++usL xs
 | .inv _ x xs=>x.us++usL xs
 | .nxt x=>x.us
def gus:Option (Nat×Bool)→List Nat
 | none=>[]
 | some (t,_)=>[t]
def PR.lg (r:PR) (rd wr:List Nat):Lg:=⟨gus r.g++(r.x.us++r.d.toList),r.d.toList,rd,wr,r.x.adr,r.x.sto⟩
def fg (u:Nat) (ids:List Nat) (m:Nat):List Nat:=(zah m).map (k9 u ids)
def alk (P:Program) (r:PR) (s:St) (f:FuncId) (p:Prop) (c:Ans) (as:List AV) (l:List Nat) (fz:Bool) (ids:List Nat):Option (List Ob)→Out
 | none=>⟨False,s,r.lg [] []⟩
 | some po=>⟨p∧a8 P f (imL (fwd s.ob ids) as) po c.1 c.2∧okC r.u ids c.2.length l fz=true∧ct po c.2∧(fz=false→ba c.1∧∀o∈c.2,nc o),
   ⟨p6 r.d (imV (back s.ob r.u ids c.2.length) c.1) s.e,dy s.ob r.u ids (back s.ob r.u ids c.2.length) 0 c.2⟩,r.lg (l++(ids++fg r.u ids c.2.length)) (fg r.u ids c.2.length)⟩
def cq (vs:List AV):Option (List AV×List Nat)→List AV×List Nat×Bool
 | none=>(vs,n7 vs,true)
 | some (as,[])=>(as,[],true)
 | some (as,i::l)=>(as,i::l,false)
def bd (P:Program) (r:PR) (s:St) (f:FuncId) (p:Prop) (c:Ans) (a:List AV×List Nat×Bool):Out:=
 alk P r s f p c a.1 a.2.1 a.2.2 (o9 s.ob 64 (n7 a.1) []) (x8 (fwd s.ob (o9 s.ob 64 (n7 a.1) [])) s.ob (o9 s.ob 64 (n7 a.1) []))
def aa7 (P:Program) (r:PR) (s:St) (p:Prop) (c:Ans) (vs:List AV):AV→Out
 | .fn (.func f) cap k=>bd P r s f (p∧aar P f=true) c (cq (cap.take k++(vs++cap.drop k)) (o4 s.ob (cap.take k++(vs++cap.drop k))))
 | _=>⟨False,s,r.lg [] []⟩
def vg (P:Program) (r:PR) (s:St) (tbl:List (TypeId×FuncId)) (p:Prop) (c:Ans) (vs:List AV):AV→Out
 | .ifc t x=>match fh t tbl with
  | some f=>bd P r s f p c (cq (x::vs) (o4 s.ob (x::vs)))
  | none=>⟨False,s,r.lg [] []⟩
 | _=>⟨False,s,r.lg [] []⟩
def PX.out (P:Program) (r:PR) (s:St) (c:Ans):PX→Option Bool→Out
 | _,none=>⟨False,s,r.lg [] []⟩
 | .see o,some b=>⟨(o.see b s.e s.ob).ok,⟨p6 r.d (gdv r.g b (o.see b s.e s.ob).v) s.e,s.ob⟩,r.lg (o.see b s.e s.ob).rd []⟩
 | .act o,some true=>⟨(o.act (r.d.getD 0) s.e s.ob).ok,⟨p6 r.d (o.act (r.d.getD 0) s.e s.ob).v s.e,(o.act (r.d.getD 0) s.e s.ob).ob⟩,r.lg (o.act (r.d.getD 0) s.e s.ob).rd (o.act (r.d.getD 0) s.e s.ob).wr⟩
 | .call f xs,some true=>bd P r s f (cn true s.e xs) c (cq (m7 s.e xs) (o4 s.ob (m7 s.e xs)))
 | .callv x xs,some true=>aa7 P r s ((x.ev s.e).may true∧cn true s.e xs) c (m7 s.e xs) (x.ev s.e).bare
 | .inv tbl x xs,some true=>vg P r s tbl ((x.ev s.e).may true∧cn true s.e xs) c (m7 s.e xs) (x.ev s.e).bare
 | .nxt _,some true=>⟨False,s,r.lg [] []⟩
 | _,some false=>⟨True,⟨p6 r.d .undef s.e,s.ob⟩,r.lg [] []⟩
def PR.out (P:Program) (r:PR) (s:St) (c:Ans):Out:=r.x.out P r s c (yes s.e r.g)
section
variable {P:Program} {s s':St} {ob ob':Obs} {c:Ans} {r:PR}
theorem atj {f:FuncId} {p:Prop} {K:St→Prop} {vs:List AV} {a:Option (List AV×List Nat)} (h:(bd P r s f p c (cq vs a)).ok) (hK:K (bd P r s f p c (cq vs a)).st):p∧ajj P f r.u s.ob (fun v ob=>K ⟨p6 r.d v s.e,ob⟩) vs a:=by
 have key:∀(as:List AV) (l:List Nat) (fz:Bool),(bd P r s f p c (as,l,fz)).ok→K (bd P r s f p c (as,l,fz)).st→p∧ma P f r.u s.ob as l fz (fun v ob=>K ⟨p6 r.d v s.e,ob⟩):=fun as l fz h hK=>by
  simp only [bd] at h hK;generalize af:o9 s.ob 64 (n7 as) []=ids at h hK;rcases hpo:x8 (fwd s.ob ids) s.ob ids with _ | po
  ·rw [hpo] at h; exact h.elim
  ·rw [hpo] at h hK;obtain ⟨h0,h1,h2,h3,h4⟩:=h;refine ⟨h0,?_⟩;unfold ma;rw [af,hpo];exact ⟨_,_,h1,h2,h3,h4,hK⟩
 rcases a with _ | ⟨as,_ | ⟨i,l⟩⟩
 ·obtain ⟨h0,h1⟩:=key vs (n7 vs) true h hK;refine ⟨h0,?_⟩;show ma P f r.u s.ob vs [] true _;unfold ma agm at h1 ⊢;split at h1
  ·exact h1.elim
  ·obtain ⟨r1,o1,q1,q2,q3⟩:=h1;refine ⟨r1,o1,q1,?_,q3⟩;unfold okC at q2 ⊢;simpa using q2
 ·exact key as [] true h hK
 ·obtain ⟨h0,h1⟩:=key as (i::l) false h hK;exact ⟨h0,Or.inr (Or.inl h1)⟩
theorem biu {K:St→Prop} (h:(r.out P s c).ok) (hK:K (r.out P s c).st):r.wp P s K (yes s.e r.g):=by
 rcases r with ⟨d,g,u,x⟩
 unfold PR.out at h hK;simp only at h hK ⊢;generalize yes s.e g=y at h hK ⊢;rcases y with _ | b
 ·have h:False:=by cases x<;>exact h
  exact h.elim
 ·simp only [PR.wp];cases x with
  | see o=>exact ⟨h,hK⟩
  | act o=>cases b with
   | true=>exact ⟨fun _=>⟨h,hK⟩,by simp⟩
   | false=>exact ⟨by simp,fun _=>hK⟩
  | call f xs=>cases b with
   | true=>exact ⟨fun _=>atj h hK,by simp⟩
   | false=>exact ⟨by simp,fun _=>hK⟩
  | callv x xs=>cases b with
   | true=>
    refine ⟨fun _=>?_,by simp⟩;simp only [PX.out] at h hK;generalize (x.ev s.e).bare=y at h hK ⊢;cases y with
    | fn f cap k=>cases f with
     | func f=>
      have:=atj (vs:=cap.take k++(m7 s.e xs++cap.drop k)) h hK;exact ⟨this.1.1.1,this.1.1.2,this.1.2,this.2⟩
     | _=>exact (show False from h).elim
    | _=>exact (show False from h).elim
   | false=>exact ⟨by simp,fun _=>hK⟩
  | inv tbl x xs=>cases b with
   | true=>
    refine ⟨fun _=>?_,by simp⟩;simp only [PX.out] at h hK;generalize (x.ev s.e).bare=y at h hK ⊢;cases y with
    | ifc t y=>
     simp only [vg,aqn] at h hK ⊢;generalize fh t tbl=q at h hK ⊢;cases q with
     | some f=>
      have:=atj (vs:=y::m7 s.e xs) h hK;exact ⟨this.1.1,this.1.2,this.2⟩
     | none=>exact (show False from h).elim
    | _=>exact (show False from h).elim
   | false=>exact ⟨by simp,fun _=>hK⟩
  | nxt x=>cases b with
   | true=>exact (show False from h).elim
   | false=>exact ⟨by simp,fun _=>hK⟩
theorem a6a {x y:AV} {l:List Nat} (h:ju ob x=some (y,l)) (hs:et ob ob' l):ju ob' x=some (y,l):=by
 cases x with
 | own id ver lo len=>
  simp only [ju] at h ⊢;split at h
  ·rename_i y' fz hr;cases h;rw [asj hr hs]
  ·cases h
 | agg xs=>
  simp only [ju] at h ⊢;split at h
  ·rename_i y' fz hr;cases h;rw [aiz hr hs]
  ·cases h
 | _=>exact h
theorem am8:∀{xs ys:List AV} {l:List Nat},o4 ob xs=some (ys,l)→et ob ob' l→o4 ob' xs=some (ys,l)
 | [],ys,l,h,hs=>h
 | x::xs,ys,l,h,hs=>by
  simp only [o4] at h ⊢;split at h
  ·rename_i y k zs j h1 h2;cases h;obtain ⟨g1,g2⟩:=ag2 hs;rw [a6a h1 g1,am8 h2 g2]
  ·cases h
theorem ami:∀(n:Nat) (todo acc:List Nat) (i:Nat),i∈acc→i∈o9 ob n todo acc
 | 0,todo,acc,i,h=>h
 | n+1,[],acc,i,h=>h
 | n+1,j::todo,acc,i,h=>by
  unfold o9;split
  ·exact ami n todo acc i h
  ·exact ami n _ _ i (by simp [h])
theorem ajq:∀(n:Nat) (todo acc:List Nat),et ob ob' (o9 ob n todo acc)→o9 ob' n todo acc=o9 ob n todo acc
 | 0,todo,acc,hs=>rfl
 | n+1,[],acc,hs=>rfl
 | n+1,j::todo,acc,hs=>by
  unfold o9 at hs ⊢;split
  ·rename_i hc;rw [if_pos hc] at hs;exact ajq n todo acc hs
  ·rename_i hc;rw [if_neg hc] at hs;rw [hs j (ami n _ _ j (by simp))];exact ajq n _ _ hs
theorem bga {i k:Nat} {l:List Nat} (h:idx i l=some k):i∈l:=zae (amt h)
theorem ayw {ids:List Nat} (hs:et ob ob' ids):fwd ob' ids=fwd ob ids:=by
 funext id ver;unfold fwd;split
 ·rename_i k hk;rw [hs id (bga hk)]
 ·rfl
theorem aq9 {F:Ren}:∀{ids:List Nat},et ob ob' ids→x8 F ob' ids=x8 F ob ids
 | [],hs=>rfl
 | i::ids,hs=>by
  simp only [x8];rw [hs i (by simp),aq9 (fun j hj=>hs j (by simp [hj]))]
theorem a8o {u m k:Nat} {ids:List Nat} (h:k<m):k9 u ids k∈fg u ids m:=by
 simp only [fg,List.mem_map,List.mem_range];exact ⟨k,h,rfl⟩
theorem av4 {u m k:Nat} {ids:List Nat} (hs:et ob ob' (fg u ids m)) (h:k<m):jc ob' u ids k=jc ob u ids k:=by
 have:=hs _ (a8o (u:=u) (ids:=ids) h);unfold jc;unfold k9 at this;split
 ·rename_i i hi;rw [hi] at this;simp only at this;rw [this];rcases ob i with _ | ⟨v,_ | _⟩<;>rfl
 ·rename_i hi;rw [hi] at this;exact ag6 this
theorem a58 {u m:Nat} {ids:List Nat} (hs:et ob ob' (fg u ids m)):back ob' u ids m=back ob u ids m:=by
 funext id ver;unfold back;split
 ·rename_i h;rw [av4 hs h.2.2]
 ·rfl
theorem auc {u m:Nat} {ids:List Nat} {F:Ren} (hs:et ob ob' (fg u ids m)):∀{os:List Ob} {k:Nat},k+os.length≤m →
  (∀j,k≤j→j<k+os.length→dy ob' u ids F k os (k9 u ids j)=dy ob u ids F k os (k9 u ids j))∧(∀i,(∀j,k≤j→j<k+os.length→i≠k9 u ids j)→dy ob' u ids F k os i=ob' i)
 | [],k,h=>⟨fun j h1 h2=>by simp at h2; omega,fun i h=>rfl⟩
 | o::os,k,h=>by
  simp at h;obtain ⟨g1,g2⟩:=auc (F:=F) hs (os:=os) (k:=k+1) (by omega);refine ⟨fun j h1 h2=>?_,fun i hi=>?_⟩
  ·simp at h2;simp only [dy,upd,av4 hs (show k<m by omega)];split
   ·rfl
   ·rename_i hne;refine g1 j ?_ (by omega);rcases Nat.lt_or_ge k j with h | h
    ·omega
    ·have:j=k:=by omega
     subst this; exact (hne rfl).elim
  ·simp only [dy,upd];rw [if_neg (hi k (zac _) (by simp))];exact g2 i fun j h1 h2=>hi j (by omega) (by simp; omega)
theorem yq {d:Option Nat} {x:AV} {e e':Env} {t:Nat} (h:t∈d.toList):p6 d x e' t=p6 d x e t:=by
 cases d with
 | none=>simp at h
 | some d=>simp at h; subst h; simp [p6,put]
theorem kw {d:Option Nat} {x:AV} {e:Env} {t:Nat} (h:t∉d.toList):p6 d x e t=e t:=by
 cases d with
 | none=>rfl
 | some d=>simp at h; simp [p6,put,h]
theorem a6h {g:Option (Nat×Bool)} {e e':Env} (h:∀t,t∈gus g→e' t=e t):yes e' g=yes e g:=by
 cases g with
 | none=>rfl
 | some p=>simp only [yes,h p.1 (by simp [gus])]
def a15 (r:PR) (s s':St) (o o':Out):Prop:=
 o'.ok∧(∀t,t∈r.d.toList→o'.st.e t=o.st.e t)∧(∀t,t∉r.d.toList→o'.st.e t=s'.e t) ∧
 (∀i,i∈o.lg.wr→i∈o.lg.rd∧o'.st.ob i=o.st.ob i)∧(∀i,i∉o.lg.wr→o'.st.ob i=s'.ob i)
theorem bda {x:AV} (h:∀i,i∈af x→ob' i=ob i):x.rv ob'=x.rv ob:=by
 cases x with
 | own id ver lo len=>simp only [AV.rv,k7,h id (by simp [af])]
 | _=>rfl
theorem a7b:∀{xs:List AV},(∀i,i∈n7 xs→ob' i=ob i)→rvs ob' xs=rvs ob xs
 | [],_=>rfl
 | x::xs,h=>by
  simp only [rvs];rw [bda (fun i hi=>h i (by simp [n7,hi])),a7b (fun i hi=>h i (by simp [n7,hi]))]
theorem bg6 {x:AV} (h:∀i,i∈af x→ob' i=ob i):ju ob' x=ju ob x:=by
 cases x with
 | own id ver lo len=>simp only [ju]; rw [bda h]
 | agg xs=>simp only [ju]; rw [a7b (fun i hi=>h i (by simpa [af] using hi))]
 | _=>rfl
theorem a4d:∀{xs:List AV},(∀i,i∈n7 xs→ob' i=ob i)→o4 ob' xs=o4 ob xs
 | [],_=>rfl
 | x::xs,h=>by
  simp only [o4];rw [bg6 (fun i hi=>h i (by simp [n7,hi])),a4d (fun i hi=>h i (by simp [n7,hi]))]
theorem apu {f:FuncId} {p:Prop} {as:List AV} (h:(bd P r s f p c (cq as (o4 s.ob as))).ok) (hs:et s.ob s'.ob (bd P r s f p c (cq as (o4 s.ob as))).lg.rd) :
  a15 r s s' (bd P r s f p c (cq as (o4 s.ob as))) (bd P r s' f p c (cq as (o4 s'.ob as))):=by
 have key:∀(a:List AV×List Nat×Bool),(bd P r s f p c a).ok→et s.ob s'.ob (bd P r s f p c a).lg.rd→(et s.ob s'.ob a.2.1→cq as (o4 s'.ob as)=a)→a15 r s s' (bd P r s f p c a) (bd P r s' f p c (cq as (o4 s'.ob as))):=fun a h hs ha=>by
  obtain ⟨bs,l,fz⟩:=a;simp only [bd] at h hs ⊢;rcases hpo:x8 (fwd s.ob (o9 s.ob 64 (n7 bs) [])) s.ob (o9 s.ob 64 (n7 bs) []) with _ | po
  ·rw [hpo] at h; exact (show False from h).elim
  ·rw [hpo] at h hs;simp only [alk,PR.lg] at hs;obtain ⟨s1,s2⟩:=ag2 hs;obtain ⟨s2,s3⟩:=ag2 s2;rw [ha s1];simp only;rw [ajq 64 (n7 bs) [] s2];generalize o9 s.ob 64 (n7 bs) []=ids at *;rw [ayw s2,aq9 s2,hpo];simp only [alk,PR.lg] at h ⊢;rw [ayw s2,a58 s3];have hp:=auc (F:=back s.ob r.u ids c.2.length) s3 (os:=c.2) (k:=0) (by simp);have hn:∀i,i∈fg r.u ids c.2.length↔∃j,j<c.2.length∧k9 r.u ids j=i:=fun i=>by simp [fg]
   refine ⟨h,fun t ht=>yq ht,fun t ht=>kw ht,fun i hi=>⟨by simp [hi],?_⟩,fun i hi=>?_⟩
   ·obtain ⟨j,hj,rfl⟩:=(hn i).1 hi;exact hp.1 j (Nat.zero_le _) (by simpa using hj)
   ·refine hp.2 i fun j h1 h2 hij=>hi ((hn i).2 ⟨j,by simpa using h2,hij.symm⟩)
 refine key _ h hs fun h1=>?_;rcases ha:o4 s.ob as with _ | ⟨bs,_ | ⟨i,l⟩⟩
 ·rw [ha] at h1;rw [a4d (ob:=s.ob) (fun i hi=>h1 i hi),ha]
 ·rw [am8 ha (fun i hi=>by simp at hi)]
 ·rw [ha] at h1;rw [am8 ha h1]
theorem a9p {p:Prop} {vs:List AV} {y:AV} (h:(aa7 P r s p c vs y).ok) (hs:et s.ob s'.ob (aa7 P r s p c vs y).lg.rd):a15 r s s' (aa7 P r s p c vs y) (aa7 P r s' p c vs y):=by
 cases y with
 | fn f cap k=>cases f with
  | func f=>exact apu h hs
  | _=>exact (show False from h).elim
 | _=>exact (show False from h).elim
theorem a9q {tbl:List (TypeId×FuncId)} {p:Prop} {vs:List AV} {y:AV} (h:(vg P r s tbl p c vs y).ok) (hs:et s.ob s'.ob (vg P r s tbl p c vs y).lg.rd):a15 r s s' (vg P r s tbl p c vs y) (vg P r s' tbl p c vs y):=by
 cases y with
 | ifc t y=>
  simp only [vg] at h hs ⊢;generalize fh t tbl=q at h hs ⊢;cases q with
  | some f=>exact apu h hs
  | none=>exact (show False from h).elim
 | _=>exact (show False from h).elim
theorem atk {tbl:List (TypeId×FuncId)} {p:Prop} {vs:List AV} {y:AV}:∃rd wr,(vg P r s tbl p c vs y).lg=r.lg rd wr:=by
 cases y with
 | ifc t y=>
  simp only [vg];generalize fh t tbl=q;cases q with
  | some f=>
   simp only;generalize cq (y::vs) (o4 s.ob (y::vs))=q;simp only [bd];generalize x8 _ _ _=po;cases po<;>exact ⟨_,_,rfl⟩
  | none=>exact ⟨_,_,rfl⟩
 | _=>exact ⟨_,_,rfl⟩
theorem awp (h:(r.out P s c).ok) (he:∀t,t∈(r.out P s c).lg.us→s'.e t=s.e t) (hs:r.x.adr=false→et s.ob s'.ob (r.out P s c).lg.rd) (hpn:a96 s.ob s'.ob (r.out P s c).lg.rd):a15 r s s' (r.out P s c) (r.out P s' c):=by
 rcases r with ⟨d,g,u,x⟩
 have hus:(PR.out P ⟨d,g,u,x⟩ s c).lg.us=gus g++(x.us++d.toList):=by
  unfold PR.out;simp only;generalize yes s.e g=y;rcases y with _ | b
  ·cases x<;>rfl
  ·cases x with
   | see o=>rfl
   | act o=>cases b<;>rfl
   | call f xs=>cases b with
    | false=>rfl
    | true=>
     simp only [PX.out];generalize cq (m7 s.e xs) (o4 s.ob (m7 s.e xs))=q;simp only [bd];generalize x8 _ _ _=po;cases po<;>rfl
   | callv x xs=>cases b with
    | false=>rfl
    | true=>
     simp only [PX.out];generalize (x.ev s.e).bare=y;cases y with
     | fn f cap k=>cases f with
      | func f=>
       simp only [aa7];generalize cq (cap.take k++(m7 s.e xs++cap.drop k)) (o4 s.ob (cap.take k++(m7 s.e xs++cap.drop k)))=q;simp only [bd];generalize x8 _ _ _=po;cases po<;>rfl
      | _=>rfl
     | _=>rfl
   | inv tbl x xs=>cases b with
    | false=>rfl
    | true=>
     simp only [PX.out];obtain ⟨rd,wr,e⟩:=atk (P:=P) (r:=⟨d,g,u,.inv tbl x xs⟩) (s:=s) (c:=c) (tbl:=tbl) (p:=(x.ev s.e).may true∧cn true s.e xs) (vs:=m7 s.e xs) (y:=(x.ev s.e).bare);rw [e]
     rfl
   | nxt x=>cases b<;>rfl
 rw [hus] at he;obtain ⟨he1,he2⟩:=db he;obtain ⟨he2,_⟩:=db he2;unfold PR.out at h hs hpn ⊢;simp only at h hs hpn he1 he2 ⊢;rw [a6h he1];generalize yes s.e g=y at h hs hpn ⊢;rcases y with _ | b
 ·have h:False:=by cases x<;>exact h
  exact h.elim
 ·cases x with
  | see o=>
   simp only [PX.out] at h hs hpn ⊢;rw [be8 (show ∀t,t∈o.us→s'.e t=s.e t from he2)]
   obtain ⟨g1,g2⟩:(o.see b s.e s'.ob).ok∧(o.see b s.e s'.ob).v=(o.see b s.e s.ob).v:=by
    cases hadr:o.adr with
    | true=>exact bkg hadr h hpn
    | false=>exact bh9 h (hs hadr)
   rw [g2];exact ⟨g1,fun t ht=>yq ht,fun t ht=>kw ht,fun i hi=>by simp [PR.lg] at hi,fun i hi=>rfl⟩
  | act o=>replace hs:=hs rfl; cases b with
   | true=>
    simp only [PX.out] at h hs ⊢;rw [bhd (show ∀t,t∈o.us→s'.e t=s.e t from he2)];obtain ⟨g1,g2,g3,g4⟩:=bki h hs;simp only at g1 g2 g3 g4;rw [g2];exact ⟨g1,fun t ht=>yq ht,fun t ht=>kw ht,g3,g4⟩
   | false=>exact ⟨trivial,fun t ht=>yq ht,fun t ht=>kw ht,fun i hi=>by simp [PX.out,PR.lg] at hi,fun i hi=>rfl⟩
  | call f xs=>replace hs:=hs rfl; cases b with
   | true=>
    simp only [PX.out] at h hs ⊢;rw [qp (show ∀t,t∈usL xs→s'.e t=s.e t from he2),uv (show ∀t,t∈usL xs→s'.e t=s.e t from he2)];exact apu h hs
   | false=>exact ⟨trivial,fun t ht=>yq ht,fun t ht=>kw ht,fun i hi=>by simp [PX.out,PR.lg] at hi,fun i hi=>rfl⟩
  | callv x xs=>replace hs:=hs rfl; cases b with
   | true=>
    obtain ⟨he2,he3⟩:=db he2;simp only [PX.out] at h hs ⊢;rw [qp he3,uv he3,t8 he2];exact a9p h hs
   | false=>exact ⟨trivial,fun t ht=>yq ht,fun t ht=>kw ht,fun i hi=>by simp [PX.out,PR.lg] at hi,fun i hi=>rfl⟩
  | inv tbl x xs=>replace hs:=hs rfl; cases b with
   | true=>
    obtain ⟨he2,he3⟩:=db he2;simp only [PX.out] at h hs ⊢;rw [qp he3,uv he3,t8 he2];exact a9q h hs
   | false=>exact ⟨trivial,fun t ht=>yq ht,fun t ht=>kw ht,fun i hi=>by simp [PX.out,PR.lg] at hi,fun i hi=>rfl⟩
  | nxt x=>cases b with
   | true=>exact (show False from h).elim
   | false=>exact ⟨trivial,fun t ht=>yq ht,fun t ht=>kw ht,fun i hi=>by simp [PX.out,PR.lg] at hi,fun i hi=>rfl⟩
theorem a3e (h:r.x.sto=true) (i:Nat):pin ((r.out P s c).st.ob i)=pin (s.ob i):=by
  rcases r with ⟨d,g,u,x⟩
  unfold PR.out;simp only;generalize yes s.e g=y;cases x with
  | act o=>cases o with
    | st n x1 x2 => rcases y with _ | b
                    · rfl
                    · cases b with
                      | true=>exact bhz
                      | false=>rfl
    | _=>cases h
  | _=>cases h
theorem a8e:(r.out P s c).lg.ad=r.x.adr∧(r.out P s c).lg.st=r.x.sto:=by
 rcases r with ⟨d,g,u,x⟩
 unfold PR.out;simp only;generalize yes s.e g=y;rcases y with _ | b
 ·cases x<;>exact ⟨rfl,rfl⟩
 ·cases x with
  | see o=>exact ⟨rfl,rfl⟩
  | act o=>cases b<;>exact ⟨rfl,rfl⟩
  | call f xs=>cases b with
   | false=>exact ⟨rfl,rfl⟩
   | true=>
    simp only [PX.out];generalize cq (m7 s.e xs) (o4 s.ob (m7 s.e xs))=q;simp only [bd];generalize x8 _ _ _=po;cases po<;>exact ⟨rfl,rfl⟩
  | callv x xs=>cases b with
   | false=>exact ⟨rfl,rfl⟩
   | true=>
    simp only [PX.out];generalize (x.ev s.e).bare=y;cases y with
    | fn f cap k=>cases f with
     | func f=>
      simp only [aa7];generalize cq (cap.take k++(m7 s.e xs++cap.drop k)) (o4 s.ob (cap.take k++(m7 s.e xs++cap.drop k)))=q;simp only [bd];generalize x8 _ _ _=po;cases po<;>exact ⟨rfl,rfl⟩
     | _=>exact ⟨rfl,rfl⟩
    | _=>exact ⟨rfl,rfl⟩
  | inv tbl x xs=>cases b with
   | false=>exact ⟨rfl,rfl⟩
   | true=>
    simp only [PX.out];obtain ⟨rd,wr,e⟩:=atk (P:=P) (r:=⟨d,g,u,.inv tbl x xs⟩) (s:=s) (c:=c) (tbl:=tbl) (p:=(x.ev s.e).may true∧cn true s.e xs) (vs:=m7 s.e xs) (y:=(x.ev s.e).bare);rw [e];exact ⟨rfl,rfl⟩
  | nxt x=>cases b<;>exact ⟨rfl,rfl⟩
end

end Go.Ev

import Derived.Lib.DecodeN
import Derived.Test.YtocfnfcflljooaaGreatM2
open List renaming getElem?_eq_some_iff → zaa, mem_iff_getElem? → zab, mem_of_getElem? → zae, range → zag, replicate → zah
open Nat renaming le_refl → zac
open Option renaming map_eq_some_iff → zad, some → zaf
namespace Go.Ev
set_option maxHeartbeats 8000000
set_option maxRecDepth 100000
open Go
set_option linter.unusedSectionVars false
set_option linter.unnecessarySimpa false
set_option linter.unusedSimpArgs false
set_option linter.unusedVariables false
abbrev Ren:=Nat->Nat->Option (Nat×Nat)
mutual
def imV (F:Ren):AV->AV
 | .r x=>.r x
 | .agg xs=>.agg (imL F xs)
 | .tup xs=>.tup (imL F xs)
 | .nils sz z=>.nils sz z
 | .own id ver lo len=>match F id ver with | some (i,v)=>.own i v lo len | none=>.undef
 | .ptr id ver off=>match F id ver with | some (i,v)=>.ptr i v off | none=>.undef
 | .oel id ver idx off=>match F id ver with | some (i,v)=>.oel i v idx off | none=>.undef
 | .rp ys=>.rp ys
 | .fn f xs k=>.fn f (imL F xs) k
 | .mp id ver=>match F id ver with | some (i,v)=>.mp i v | none=>.undef
 | .ifc t x=>.ifc t (imV F x)
 | .gd b x=>.gd b (imV F x)
 | .undef=>.undef
def imL (F:Ren):List AV->List AV
 | []=>[]
 | x::xs=>imV F x::imL F xs
end
def imO (F:Ren):Ob->Ob
 | .box cells=>.box (imL F cells)
 | .row sz z app wr xs=>.row sz z app wr xs
 | .abs T=>.abs T
 | .map es c=>.map es c
 | .iter m since seen st=>.iter (imV F m) since seen st
theorem tp (F:Ren):∀(xs:List AV) (i:Nat),(imL F xs)[i]?=(xs[i]?).map (imV F)
 | [],i=>by simp [imL]
 | x::xs,0=>by simp [imL]
 | x::xs,i+1=>by simp [imL,tp F xs i]
theorem ff (F:Ren):∀(xs:List AV),(imL F xs).length=xs.length
 | []=>by simp [imL]
 | x::xs=>by simp [imL,ff F xs]
section
variable {P:Program} {X Y:Cx} {w w':World} {s:St} {ρ ρ':Pl->Option Nat} {a:Act} {ob ob':Obs} {R R':Nat->Prop} {F:Ren}
def abm (ob ob':Obs) (ρ ρ':Pl->Option Nat) (F:Ren):Prop:=∀id ver i v,F id ver=some (i,v)->∃o o',ob id=some (ver,o)/\ob' i=some (v,o')/\ρ' i=ρ id/\z9 o o'
theorem z9.own {r len id g:Nat} {c:Value} {o o':Ob} (h:adh w ρ id r len c o) (d:z9 o o') (a:ρ' g=ρ id):adh w ρ' g r len c o':=by
 cases o with
 | box _=>
   cases o' with
   | box _=>
     obtain ⟨A,cap,l,i,n,q⟩:=h;refine ⟨A,cap,l,i,n,λ m=>?_⟩;obtain ⟨b,cs,e,fr,f,p,k,j⟩:=q m;exact ⟨b,cs,e,fr,by rw [a,f],p,k,j⟩
   | _=>exact d.elim
 | abs _=>exact h.elim
 | map _ _=>exact h.elim
 | iter _ _ _ _=>exact h.elim
 | row sz z1 a1 w1 xs=>
   cases o' with
   | box _=>
     obtain rfl:sz=1:=d;obtain ⟨A,cap,l,i,n,s,q⟩:=h;refine ⟨A,cap,l,i,n,λ m=>?_⟩;obtain ⟨b,cs,e,fr,f,p,k,j⟩:=q m;exact ⟨b,cs,e,fr,by rw [a,f],by rw [p,Nat.mul_one],k,by simpa using j⟩
   | abs _=>exact d.elim
   | map _ _=>exact d.elim
   | iter _ _ _ _=>exact d.elim
   | row sz' z2 a2 w2 xs'=>
     obtain ⟨rfl,d⟩:=d;obtain ⟨A,cap,l,i,n,s,q⟩:=h;refine ⟨A,cap,l,i,n,by omega,λ m=>?_⟩;obtain ⟨b,cs,e,fr,f,p,k,j⟩:=q m;exact ⟨b,cs,e,fr,by rw [a,f],p,k,j⟩
theorem RelA.im (s:∀b,R b->R' b) (q:abm ob ob' ρ ρ' F) {x:AV} {c:Value} (h:RelA w R ob ρ x c):RelA w R' ob' ρ' (imV F x) c:=by
 induction h with
 | r h0=>rw [imV]; exact .r (h0.mono λ b C=>⟨s b C,rfl⟩)
 | agg xs cs hl _ ih=>
   rw [imV];refine .agg _ cs (by rw [ff]; exact hl) λ i x c hx hc=>?_;rw [tp,zad] at hx;obtain ⟨y,hy,rfl⟩:=hx;exact ih i y c hy hc
 | tup xs cs hl _ ih=>
   rw [imV];refine .tup _ cs (by rw [ff]; exact hl) λ i x c hx hc=>?_;rw [tp,zad] at hx;obtain ⟨y,hy,rfl⟩:=hx;exact ih i y c hy hc
 | nils sz z=>rw [imV]; exact .nils sz z
 | own id ver lo len c hc ha=>
   rw [imV];split
   ·rename_i i v e;obtain ⟨o,o',l,m,d,a⟩:=q _ _ _ _ e;exact .own _ _ _ _ _ hc ⟨v,o',m,zac _,λ _=>z9.own (ha.live l) a d⟩
   exact .undef _
 | ptr id ver off c hc ha=>
   rw [imV];split
   ·rename_i i v e;obtain ⟨o,o',l,m,d,a⟩:=q _ _ _ _ e;exact .ptr _ _ _ _ hc ⟨v,o',m,zac _,λ _=>by rw [d]; exact ha.live l⟩
   exact .undef _
 | oel id ver idx off c hc ha=>
   rw [imV];split
   ·rename_i i v e;obtain ⟨o,o',l,m,d,a⟩:=q _ _ _ _ e;refine .oel _ _ _ _ _ hc ⟨v,o',m,zac _,λ _=>?_⟩;have n:=ha.live l;cases o with
    | box _=>
      cases o' with
      | box _=>
        obtain ⟨b,u,p⟩:=n;exact ⟨b,by rw [d]; exact u,p⟩
      | _=>exact a.elim
    | abs _=>exact n.elim
    | map _ _=>exact n.elim
    | iter _ _ _ _=>exact n.elim
    | row sz z1 a1 w1 xs=>
      cases o' with
      | box _=>
        obtain rfl:sz=1:=a;obtain ⟨u,p,b,A,D⟩:=n;exact ⟨b,by rw [d]; exact A,by rw [D,Nat.mul_one]⟩
      | abs _=>exact a.elim
      | map _ _=>exact a.elim
      | iter _ _ _ _=>exact a.elim
      | row sz' z2 a2 w2 xs'=>
        obtain ⟨rfl,a⟩:=a;obtain ⟨u,p,A⟩:=n;exact ⟨by omega,p,by rw [d]; exact A⟩
   exact .undef _
 | rp ys b o g hRb hg=>
   rw [imV];exact .rp ys b o g (s b hRb) λ j y B=>⟨(hg j y B).1,(hg j y B).2.1,(hg j y B).2.2.mono λ b C=>⟨s b C,rfl⟩⟩
 | fn f xs k fs cs hk hl _ ih=>
   rw [imV];refine .fn f _ k fs cs hk (by rw [ff]; exact hl) λ i x c hx hc=>?_;rw [tp,zad] at hx;obtain ⟨y,hy,rfl⟩:=hx;exact ih i y c hy hc
 | mp id ver c hc ha=>
   rw [imV];split
   ·rename_i i v e;obtain ⟨o,o',l,m,d,a⟩:=q _ _ _ _ e;exact .mp _ _ _ hc ⟨v,o',m,zac _,λ _=>by rw [d]; exact ha.live l⟩
   exact .undef _
 | ifc t _ ih=>rw [imV]; exact .ifc t ih
 | gd b _ e ih=>rw [imV]; exact .gd b ih e
 | undef c=>rw [imV]; exact .undef c
theorem cj.im (l:∀b,R b->R' b) (q:abm ob ob' ρ ρ' F) {id i:Nat} {x:Ob} (h:cj w R ob ρ id x) (a:ρ' i=ρ id) (k:∀j,ρ' (.s i j)=ρ (.s id j)):cj w R' ob' ρ' i (imO F x):=by
 cases x with
 | abs T=>
   obtain ⟨b,d,f⟩:=h;exact ⟨b,by rw [a,d],by simp only [k]; exact f⟩
 | map es clock=>
   obtain ⟨b,d,f⟩:=h;exact ⟨b,by rw [a,d],f⟩
 | iter m since seen st=>
   obtain ⟨b,m',d,f,g⟩:=h;exact ⟨b,m',by rw [a,d],f,g.im l q⟩
 | box cells=>
   obtain ⟨b,cs,e,d,f,g,n⟩:=h;refine ⟨b,cs,e,by rw [a,d],f,by rw [ff]; exact g,λ i x c hx hc=>?_⟩;rw [tp,zad] at hx;obtain ⟨y,hy,rfl⟩:=hx;exact (n i y c hy hc).im l q
 | row sz z app wr xs=>
   rcases h with ⟨d,f,g⟩ | ⟨b,cs,e,fr,d,f,g,n,u,o⟩
   ·exact .inl ⟨d,by rw [a,f],g⟩
   refine .inr ⟨b,cs,e,fr,by rw [a,d],f,g,n,u,λ i x p=>⟨(o i x p).1,λ j y v=>?_⟩⟩;obtain ⟨c,r,B,t⟩:=(o i x p).2 j y v;exact ⟨c,r,B,t.mono λ b A=>⟨l b A,rfl⟩⟩
theorem z9.im (F:Ren) (x:Ob):z9 x (imO F x):=by cases x<;>simp [z9,imO]
theorem cd (F:Ren) (x:Ob):(imO F x).isAbs=x.isAbs:=by cases x<;>rfl
theorem abw (F:Ren) (x:Ob):(imO F x).pinned=x.pinned:=by cases x<;>rfl
theorem aih (F:Ren) (x:Ob):(imO F x).isRow=x.isRow:=by cases x<;>rfl
theorem ats (F:Ren) (x:Ob):(imO F x).own=x.own:=by cases x<;>rfl
def idx:Nat->List Nat->Option Nat
 | _,[]=>none
 | i,j::l=>if i=j then some 0 else (idx i l).map (· + 1)
theorem ad8 {i:Nat}:∀{l:List Nat} {k:Nat},idx i l=some k->l[k]?=some i
 | [],k,h=>by cases h
 | j::l,k,h=>by
   unfold idx at h;split at h
   ·rename_i a; cases h; simp [a]
   rw [zad] at h;obtain ⟨m,b,rfl⟩:=h;simpa using ad8 b
def obs:Nat->List Ob->Obs
 | _,[]=>λ _=>none
 | k,o::os=>upd k (0,o) (obs (k+1) os)
theorem atw:∀{os:List Ob} {k id:Nat},id<k->obs k os id=none
 | [],k,id,h=>rfl
 | o::os,k,id,h=>by
   unfold obs upd;rw [if_neg (by omega)];exact atw (by omega)
theorem am2:∀{os:List Ob} {k id:Nat},k<=id->obs k os id=(os[id-k]?).map λ o=>(0,o)
 | [],k,id,h=>by simp [obs]
 | o::os,k,id,h=>by
   unfold obs upd;by_cases a:id=k
   ·subst a; simp
   rw [if_neg a,am2 (by omega),show id-k=(id-(k+1))+1 by omega];simp
abbrev ob0 (po:List Ob):Obs:=obs 1000000 po
theorem sj {po:List Ob} {id:Nat} {x:Nat×Ob} (h:ob0 po id=some x):1000000<=id/\po[id-1000000]?=some x.2/\x.1=0:=by
 by_cases a:1000000<=id
 ·rw [ob0,am2 a,zad] at h;obtain ⟨o,b,rfl⟩:=h;exact ⟨a,b,rfl⟩
 rw [ob0,atw (by omega)] at h;cases h
def oy (ob:Obs) (ρ:Pl->Option Nat) (i b:Nat):Prop:=∃x,ob i=some x/\foot ρ i x.2 b
def ic (ob:Obs) (ρ:Pl->Option Nat) (b:Nat):Prop:=∃id x,ob id=some x/\foot ρ id x.2 b
def ke (po:List Ob) (ρ:Pl->Option Nat):Nat->Option Nat:=λ id=>match ob0 po id with
 | some (_,o)=>if o.pinned=true then ρ id else none
 | none=>none
def agi (P:Program) (w:World) (I:Nat->Prop) (a:String) (ok:Array Value->Prop):Prop:=
 ∀g,P.globalNamed a=some g->¬I g/\∃cs e fr,w.heap[g]?=some (.cells cs e fr)/\ok cs
def a2n:Array Value:=((zag 20).map λ k=>Value.int .u64 (10^k:Nat)).toArray
abbrev na:Bool:=false
structure Gl (P:Program) (w:World) (I:Nat->Prop):Prop where
 pow : agi P w I "internal/strconv.uint64pow10" fun cs => cs = a2n
 syn : na = true → agi P w I "strconv.ErrSyntax" fun cs => ∃ t p, cs = #[.iface t p]
 rng : na = true → agi P w I "strconv.ErrRange" fun cs => ∃ t p, cs = #[.iface t p]
 fst : na = true → agi P w I "unicode/utf8.first" fun cs => ∀ i : Nat, i < 256 → cs[i]? = some (.int .u8 (Lib.firstT i))
 acc : na = true → agi P w I "unicode/utf8.acceptRanges" fun cs => ∀ i : Nat, i < 16 → cs[2 * i]? = some (.int .u8 (Lib.accLo i)) ∧ cs[2 * i + 1]? = some (.int .u8 (Lib.accHi i))
theorem agi.keep {P:Program} {w w':World} {I b:Nat->Prop} {a:String} {ok:Array Value->Prop} (h:agi P w I a ok)
 (i:∀g,g<w.heap.size->¬I g->w'.heap[g]?=w.heap[g]?/\¬b g):agi P w' b a ok:=λ g k=>by
 obtain ⟨f,cs,e,fr,c,d⟩:=h g k;obtain ⟨j,l⟩:=i g (Array.getElem?_eq_some_iff.1 c).1 f;exact ⟨l,cs,e,fr,by rw [j,c],d⟩
theorem Gl.keep {P:Program} {w w':World} {I c:Nat->Prop} (h:Gl P w I) (b:∀g,g<w.heap.size->¬I g->w'.heap[g]?=w.heap[g]?/\¬c g):Gl P w' c:=
 ⟨h.pow.keep b,λ a=>(h.syn a).keep b,λ a=>(h.rng a).keep b,λ a=>(h.fst a).keep b,λ a=>(h.acc a).keep b⟩
class GlC (P:Program) (X:Cx):Prop where
 gl:Gl P X.w0 X.I
def a9 (P:Program) (f:FuncId) (args:List AV) (po:List Ob) (res:AV) (d:List Ob):Prop:=
 ∀(w:World) (a:Array Value) (ρ:Pl->Option Nat) (B:Nat->Prop),Gl P w (ic (ob0 po) ρ)->(∀b,ic (ob0 po) ρ b\/w.heap.size<=b->B b) ->
  Mem ⟨0,ic (ob0 po) ρ,λ _=>none,B,w⟩ (ob0 po) ρ w->a.size=args.length ->
  (∀(i:Nat) (x:AV) (c:Value),args[i]?=some x->a[i]?=some c->RelA w (j8 B (ob0 po) ρ w) (ob0 po) ρ x c) ->
  Calls P f a w λ e w'=>∃c ρ',e=.returned c/\Mem ⟨0,ic (ob0 po) ρ,ke po ρ,B,w⟩ (ob0 d) ρ' w'/\RelA w' (j8 B (ob0 d) ρ' w') (ob0 d) ρ' res c
end

mutual
def y8:RV->Prop
 | .v _=>True
 | .agg xs=>er xs
 | .sl _ _=>False
def er:List RV->Prop
 | []=>True
 | x::xs=>y8 x/\er xs
end
mutual
def u7:AV->Prop
 | .r x=>y8 x
 | .agg xs=>ec xs
 | .tup xs=>ec xs
 | .rp _=>False
 | .fn _ xs _=>ec xs
 | .gd _ x=>u7 x
 | .ifc _ x=>u7 x
 | _=>True
def ec:List AV->Prop
 | []=>True
 | x::xs=>u7 x/\ec xs
end
def gu:Ob->Prop
 | .box cells=>ec cells
 | .row _ _ _ _ xs=>∀x,x∈xs->y8 x
 | .abs _=>True
 | .map _ _=>True
 | .iter m _ _ _=>u7 m
theorem er.at_:∀{xs:List RV},er xs->∀{i:Nat} {x:RV},xs[i]?=some x->y8 x
 | [],_,i,x,hx=>by simp at hx
 | y::ys,h,0,x,hx=>by simp at hx; subst hx; exact h.1
 | y::ys,h,i+1,x,hx=>by simp at hx; exact er.at_ h.2 hx
theorem ec.at_:∀{xs:List AV},ec xs->∀{i:Nat} {x:AV},xs[i]?=some x->u7 x
 | [],_,i,x,hx=>by simp at hx
 | y::ys,h,0,x,hx=>by simp at hx; subst hx; exact h.1
 | y::ys,h,i+1,x,hx=>by simp at hx; exact ec.at_ h.2 hx
section
variable {P:Program} {X:Cx} [GlC P X] {w w':World} {s:St} {ρ ρ':Pl->Option Nat} {a:Act} {ob ob':Obs} {R R':Nat->Prop}
theorem RelV.flat {x:RV} {c:Value} (h:RelV w R x c) (a:y8 x):RelV w R' x c:=by
 induction h with
 | v x=>exact .v x
 | agg xs cs hl _ ih=>exact .agg xs cs hl λ i x c hx hc=>ih i x c hx hc (er.at_ (by simpa [y8] using a) hx)
 | sl sz xs A cap hc hm b o g hA hz hg hr ih=>simp [y8] at a
theorem RelA.flat {x:AV} {c:Value} (h:RelA w R ob ρ x c) (a:u7 x):RelA w R' ob ρ x c:=by
 induction h with
 | r h0=>exact .r (h0.flat (by simpa [u7] using a))
 | agg xs cs hl _ ih=>exact .agg xs cs hl λ i x c hx hc=>ih i x c hx hc (ec.at_ (by simpa [u7] using a) hx)
 | tup xs cs hl _ ih=>exact .tup xs cs hl λ i x c hx hc=>ih i x c hx hc (ec.at_ (by simpa [u7] using a) hx)
 | nils sz z=>exact .nils sz z
 | own id ver lo len c hc ha=>exact .own id ver lo len c hc ha
 | ptr id ver off c hc ha=>exact .ptr id ver off c hc ha
 | oel id ver i off c hc ha=>exact .oel id ver i off c hc ha
 | rp ys b o g hR hg=>simp [u7] at a
 | fn f xs k fs cs hk hl _ ih=>exact .fn f xs k fs cs hk hl λ i x c hx hc=>ih i x c hx hc (ec.at_ (by simpa [u7] using a) hx)
 | mp id ver c hc ha=>exact .mp id ver c hc ha
 | ifc t _ ih=>exact .ifc t (ih (by simpa [u7] using a))
 | gd b _ hf' ih=>exact .gd b (λ d=>ih d (by simpa [u7] using a)) hf'
 | undef c=>exact .undef c
theorem er.cells {x:RV} (h:y8 x) {j:Nat} {y:RV} (a:x.cells[j]?=some y):y8 y:=by
 cases x with
 | v v=>cases j<;>simp [RV.cells] at a; subst a; trivial
 | agg xs=>simp only [RV.cells] at a; exact er.at_ (by simpa [y8] using h) a
 | sl k xs=>simp [y8] at h
theorem cj.flat {id:Nat} {x:Ob} (h:cj w R ob ρ id x) (g:gu x):cj w R' ob ρ id x:=by
 cases x with
 | abs T=>exact h
 | map es c=>exact h
 | iter m since seen st=>
   obtain ⟨b,m',d,f,a⟩:=h;exact ⟨b,m',d,f,a.flat g⟩
 | box cells=>
   obtain ⟨b,cs,e,d,f,a,l⟩:=h;exact ⟨b,cs,e,d,f,a,λ i x c hx hc=>(l i x c hx hc).flat (ec.at_ g hx)⟩
 | row sz z app wr xs=>
   rcases h with h | ⟨b,cs,e,fr,d,f,a,l,r,n⟩
   ·exact .inl h
   refine .inr ⟨b,cs,e,fr,d,f,a,l,r,λ i x k=>⟨(n i x k).1,λ j y o=>?_⟩⟩;obtain ⟨c,p,s,q⟩:=(n i x k).2 j y o;exact ⟨c,p,s,q.flat (er.cells (g x (zae k)) o)⟩
def gm (ob:Obs):AV->Option (AV×List Nat)
 | .own id ver lo len=>match AV.rv ob (.own id ver lo len) with
   | some (y,fz)=>some (.r y,fz)
   | none=>none
 | .nils sz _=>some (.r (.sl sz []),[])
 | .agg xs=>match rvs ob xs with
   | some (ys,fz)=>some (.r (.agg ys),fz)
   | none=>none
 | .gd _ _=>none
 | .oel _ _ _ _=>none
 | x=>some (x,[])
def q7 (ob:Obs):List AV->Option (List AV×List Nat)
 | []=>some ([],[])
 | x::xs=>match gm ob x,q7 ob xs with
   | some (y,i),some (ys,j)=>some (y::ys,i++j)
   | _,_=>none
mutual
def z6:AV->List Nat
 | .own id _ _ _=>[id]
 | .ptr id _ _=>[id]
 | .oel id _ _ _=>[id]
 | .agg xs=>o4 xs
 | .tup xs=>o4 xs
 | .fn _ xs _=>o4 xs
 | .gd _ x=>z6 x
 | .mp id _=>[id]
 | .ifc _ x=>z6 x
 | _=>[]
def o4:List AV->List Nat
 | []=>[]
 | x::xs=>z6 x++o4 xs
end
def acf:Option (Nat×Ob)->List Nat
 | some (_,.box cells)=>o4 cells
 | some (_,.iter m _ _ _)=>z6 m
 | _=>[]
def s9 (ob:Obs):Nat->List Nat->List Nat->List Nat
 | 0,_,acc=>acc
 | _+1,[],acc=>acc
 | n+1,i::todo,acc=>if acc.contains i then s9 ob n todo acc else s9 ob n (acf (ob i)++todo) (acc++[i])
def abf (ver k:Nat):Option (Nat×Ob)->Option (Nat×Nat)
 | some (v,_)=>if ver=v then some (1000000+k,0) else none
 | none=>none
def fwd (ob:Obs) (ids:List Nat):Ren:=λ id ver=>match idx id ids with
 | some k=>abf ver k (ob id)
 | none=>none
def ug (F:Ren):Option (Nat×Ob)->Option Ob
 | some (_,o)=>if o.own then some (imO F o) else none
 | none=>none
def v9 (F:Ren) (ob:Obs):List Nat->Option (List Ob)
 | []=>some []
 | i::is=>match ug F (ob i),v9 F ob is with
   | some o,some os=>some (o::os)
   | _,_=>none
theorem xe {F:Ren} {ob:Obs}:∀{ids:List Nat} {po:List Ob},v9 F ob ids=some po->po.length=ids.length/\∀(k i:Nat) (o:Ob),ids[k]?=some i->po[k]?=some o->∃v x,ob i=some (v,x)/\x.own=true/\o=imO F x
 | [],po,h=>by simp [v9] at h; subst h; simp
 | j::ids,po,h=>by
   simp only [v9] at h;split at h
   ·rename_i o os a f;cases h;obtain ⟨e,g⟩:=xe f;refine ⟨by simp [e],λ k i q d c=>?_⟩;cases k with
    | zero=>
      simp at d c;subst d; subst c;unfold ug at a;split at a
      ·rename_i v x hx;split at a
       ·rename_i b;cases a;exact ⟨v,x,hx,b,rfl⟩
       cases a
      cases a
    | succ k=>simp at d c; exact g k i q d c
   cases h
def m5 (u:Nat) (ids:List Nat) (k:Nat):Nat:=match ids[k]? with
 | some i=>i
 | none=>100000+1000*u+k
def gp (ob:Obs) (i:Nat):Option (Nat×Ob)->Nat
 | some (v,.box _)=>v
 | some (v,.row _ _ app _ _)=>bif app then v+1 else v
 | some (v,.abs _)=>v
 | some (v,.map _ _)=>v
 | some (v,.iter _ _ _ _)=>v
 | none=>0
def fu (ob:Obs) (u:Nat) (ids:List Nat) (k:Nat):Nat:=match ids[k]? with
 | some i=>gp ob i (ob i)
 | none=>nv ob (100000+1000*u+k)
def back (ob:Obs) (u:Nat) (ids:List Nat) (m:Nat):Ren:=λ id ver=>
 if ver=0/\1000000<=id/\id-1000000<m then some (m5 u ids (id-1000000),fu ob u ids (id-1000000)) else none
def bw (ob:Obs) (u:Nat) (ids:List Nat) (F:Ren):Nat->List Ob->Obs
 | _,[]=>ob
 | k,o::os=>upd (m5 u ids k) (fu ob u ids k,imO F o) (bw ob u ids F (k+1) os)
theorem ai3 {u:Nat} {ids:List Nat} {F:Ren} {i:Nat}:∀{os:List Ob} {k:Nat},(∀j,k<=j->j<k+os.length->m5 u ids j≠i)->bw ob u ids F k os i=ob i
 | [],k,h=>rfl
 | o::os,k,h=>by
   unfold bw upd;rw [if_neg (λ e=>h k (zac _) (by simp) e.symm)];exact ai3 λ j a b=>h j (by omega) (by simp; omega)
theorem apj {u:Nat} {ids:List Nat} {F:Ren} {m:Nat} (a:∀i j,i<m->j<m->m5 u ids i=m5 u ids j->i=j):∀{os:List Ob} {k j:Nat} {o:Ob},k+os.length<=m->os[j]?=some o->bw ob u ids F k os (m5 u ids (k+j))=some (fu ob u ids (k+j),imO F o)
 | [],k,j,o,h,hj=>by simp at hj
 | q::os,k,0,o,h,hj=>by simp at hj; subst hj; simp [bw,upd]
 | q::os,k,j+1,o,h,hj=>by
   simp at hj h;have b:=(zaa.1 hj).1;unfold bw upd;rw [if_neg (λ e=>by have:=a _ _ (by omega) (by omega) e; omega),show k+(j+1)=k+1+j by omega];exact apj a (by omega) hj
theorem n5 {po:List Ob} {k:Nat} {o:Ob} (h:po[k]?=some o):ob0 po (1000000+k)=some (0,o):=by
 rw [ob0,am2 (by omega),show 1000000+k-1000000=k by omega,h]
 rfl
def aqr:Ob->Ob->Prop
 | .row sz _ app _ xs,o'=>app=true\/∃c b a,o'=.row sz c false b a/\xs.length<=a.length
 | .box cells,.box cells'=>cells'.length=cells.length
 | .abs T,.abs T'=>T'.size=T.size
 | .map _ _,.map _ _=>True
 | .iter _ _ _ _,.iter _ _ _ _=>True
 | _,_=>False
theorem Gam.call {f:FuncId} {as:List AV} {ids:List Nat} {po G:List Ob} {res:AV} {u:Nat} {h6:Array Value} {Bc Ra:Nat->Prop} (K:Gam X s ρ a w) (k6:v9 (fwd s.ob ids) s.ob ids=some po)
 (hT:a9 P f (imL (fwd s.ob ids) as) po res G) (wb:ids.length<=G.length) (g6:∀i j,i<G.length->j<G.length->m5 u ids i=m5 u ids j->i=j) (wf:100000+1000*u+G.length<=1000000)
 (w5:h6.size=as.length) (e6:∀(i:Nat) (x:AV) (c:Value),as[i]?=some x->h6[i]?=some c->RelA w Ra s.ob ρ x c)
 (e1:∀b,Ra b->b<w.heap.size/\Bc b/\∀(i:Nat),i∈ids->¬oy s.ob ρ i b) (kn:∀b,j8 X.B s.ob ρ w b->Bc b) (kf:∀b,(∃i,i∈ids/\oy s.ob ρ i b)\/w.heap.size<=b->Bc b)
 (g7:∀(k:Nat) (o o':Ob),po[k]?=some o->G[k]?=some o'->aqr o o')
 (e9:(u7 res/\∀o∈G,gu o)\/∀b,Bc b->j8 X.B s.ob ρ w b\/(∃i,i∈ids/\oy s.ob ρ i b)\/w.heap.size<=b) :
 Calls P f h6 w λ e w'=>∃c ρ',e=.returned c/\Gam X ⟨s.e,bw s.ob u ids (back s.ob u ids G.length) 0 G⟩ ρ' a w'/\RA X ⟨s.e,bw s.ob u ids (back s.ob u ids G.length) 0 G⟩ ρ' w' (imV (back s.ob u ids G.length) res) c:=by
 obtain ⟨wi,k5⟩:=xe k6
 let W:Pl->Option Nat:=λ p=>match p with
  | .o i=>if 1000000<=i then (ids[i-1000000]?).bind λ i=>ρ (.o i) else none
  | .s i j=>if 1000000<=i then (ids[i-1000000]?).bind λ i=>ρ (.s i j) else none
 have hd:∀(k i:Nat),ids[k]?=some i->ye ρ W i (1000000+k):=λ k i d=>by
  simp [ye,W,d]
 have M:∀(k i:Nat),ids[k]?=some i->∃v x o,s.ob i=some (v,x)/\x.own=true/\po[k]?=some o/\o=imO (fwd s.ob ids) x:=λ k i d=>by
  have hm:=(zaa.1 d).1;have hp:po[k]?=some po[k]:=by simp [show k<po.length by omega]
  obtain ⟨v,x,H,D,O⟩:=k5 k i _ d hp;exact ⟨v,x,_,H,D,hp,O⟩
 have gs:∀(id:Nat) (x:Nat×Ob),ob0 po id=some x->∃k i,id=1000000+k/\ids[k]?=some i/\po[k]?=some x.2/\x.1=0/\ye ρ W i id:=λ id x hx=>by
  obtain ⟨H,D,O⟩:=sj hx;have hm:=(zaa.1 D).1;have E:ids[id-1000000]?=some (ids[id-1000000]'(by omega)):=by simp [show id-1000000<ids.length by omega]
  refine ⟨id-1000000,_,by omega,E,D,O,?_⟩;have:=hd _ _ E;rw [show 1000000+(id-1000000)=id by omega] at this;exact this
 have w9:∀(k l i:Nat),ids[k]?=some i->ids[l]?=some i->k=l:=λ k l i d hl=>by
  have H:=(zaa.1 d).1;have D:=(zaa.1 hl).1;exact g6 k l (by omega) (by omega) (by simp [m5,d,hl])
 have N:∀b,ic (ob0 po) W b↔∃i,i∈ids/\oy s.ob ρ i b:=λ b=>by
  constructor
  ·rintro ⟨id,x,H,D⟩;obtain ⟨k,i,rfl,d,e7,_,hs⟩:=gs id x H;obtain ⟨v,y,o,J,_,hp,ho⟩:=M k i d;rw [e7] at hp;refine ⟨i,zae d,_,J,(hs.foot ?_).1 D⟩;rw [zaf.inj hp,ho,cd]
  rintro ⟨i,E,⟨y,J,r⟩⟩;obtain ⟨k,d⟩:=zab.1 E;obtain ⟨v,x,o,g2,_,hp,ho⟩:=M k i d;rw [J] at g2;refine ⟨1000000+k,(0,o),n5 hp,((hd k i d).foot ?_).2 r⟩;rw [ho,cd,zaf.inj g2]
 have hu:∀b,Own (ob0 po) W b->∃i,i∈ids/\oy s.ob ρ i b:=λ b ⟨id,v,o,H,D,O⟩=>(N b).1 ⟨id,_,H,O⟩
 have hq:∀i,i∈ids->∀b,oy s.ob ρ i b->Own s.ob ρ b:=λ i E b ⟨y,J,r⟩=>by
  obtain ⟨k,d⟩:=zab.1 E;obtain ⟨v,x,o,H,D,_,_⟩:=M k i d;rw [J] at H;cases H;exact ⟨i,v,x,J,D,r⟩
 have g0:abm s.ob (ob0 po) ρ W (fwd s.ob ids):=λ id ver i v hF=>by
  unfold fwd at hF;split at hF
  ·rename_i k d;have e8:=ad8 d;obtain ⟨v0,x,o,H,D,O,h4⟩:=M k id e8;rw [H] at hF;simp only [abf] at hF;split at hF
   ·rename_i hv;cases hF;subst hv;exact ⟨x,o,H,n5 O,(hd k id e8).1,by rw [h4]; exact z9.im _ x⟩
   cases hF
  cases hF
 have kk:∀b,j8 X.B s.ob ρ w b->j8 Bc (ob0 po) W w b:=λ b r=>⟨r.1,λ ho=>by
  obtain ⟨i,E,Q⟩:=hu b ho
  exact r.2.1 (hq i E b Q),kn b r⟩
 have en:Mem ⟨0,ic (ob0 po) W,λ _=>none,Bc,w⟩ (ob0 po) W w:=by
  refine ⟨λ id v o h=>?_,λ id w7 x x' b H D O h4=>?_,Keeps.refl _ _,λ id v o b H D=>.inl ⟨id,_,H,D⟩,λ id b h=>by cases h⟩
  ·obtain ⟨k,i,rfl,d,hp,_,hs⟩:=gs id _ h;obtain ⟨v0,x,o',H,D,O,h4⟩:=M k i d;simp only at hp;rw [hp] at O;cases O;rw [h4];exact (K.obj i v0 x H).im kk g0 hs.1 hs.2
  obtain ⟨k,i,rfl,d,e7,_,hs⟩:=gs id _ H;obtain ⟨k',i',rfl,e3,ee,_,k0⟩:=gs w7 _ D;obtain ⟨v0,y,o',J,_,hp,ho⟩:=M k i d;obtain ⟨v1,y',wd,w3,_,ev,ka⟩:=M k' i' e3;rw [e7] at hp;rw [ee] at ev;have:=K.inj i i' _ _ b J w3 ((hs.foot (by rw [zaf.inj hp,ho,cd])).1 O) ((k0.foot (by rw [zaf.inj ev,ka,cd])).1 h4);subst this;rw [w9 k k' i d e3]
 have w4:Gl P w (ic (ob0 po) W):=(GlC.gl (P:=P) (X:=X)).keep λ g H D=>⟨K.keeps.block g H D,λ hh=>by
  obtain ⟨i,E,⟨⟨v,x⟩,J,r⟩⟩:=(N g).1 hh;rcases K.own i v x g J r with h | h
  ·exact D h
  omega⟩
 refine (hT w h6 W Bc w4 (λ b r=>kf b (r.imp_left (N b).1)) en (by rw [ff,w5]) (λ i x c hx hc=>?_)).mono ?_
 ·rw [tp,zad] at hx;obtain ⟨y,hy,rfl⟩:=hx
  exact (e6 i y c hy hc).im (λ b r=>⟨(e1 b r).1,λ ho=>by
   obtain ⟨j,R,k8⟩:=hu b ho
   exact (e1 b r).2.2 j R k8,(e1 b r).2.1⟩) g0
 rintro e w' ⟨c,ρ',rfl,hM,e0⟩;generalize w1:back s.ob u ids G.length=Fb;generalize ew:bw s.ob u ids Fb 0 G=L
 let I:Pl->Option Nat:=λ p=>match p with
  | .o i=>open Classical in if h:∃k,k<G.length/\m5 u ids k=i then ρ' (1000000+h.choose:Nat) else ρ i
  | .s i j=>open Classical in if h:∃k,k<G.length/\m5 u ids k=i then ρ' (.s (1000000+h.choose) j) else ρ (.s i j)
 have A:∀k,k<G.length->ye ρ' I (1000000+k) (m5 u ids k):=λ k d=>by
  have gq:∃l,l<G.length/\m5 u ids l=m5 u ids k:=⟨k,d,rfl⟩
  have:=g6 _ _ gq.choose_spec.1 d gq.choose_spec.2;refine ⟨?_,λ j=>?_⟩
  ·simp only [I,dif_pos gq,this]
  simp only [I,dif_pos gq,this]
 have hN:∀i,(¬∃k,k<G.length/\m5 u ids k=i)->ye ρ I i i/\L i=s.ob i:=λ i E=>by
  refine ⟨⟨by simp only [I,dif_neg E],λ j=>by simp only [I,dif_neg E]⟩,?_⟩;rw [<- ew];exact ai3 λ j _ D e=>E ⟨j,by omega,e⟩
 have hC:∀k o,G[k]?=some o->L (m5 u ids k)=some (fu s.ob u ids k,imO Fb o):=λ k o d=>by
  have:=apj (ob:=s.ob) (F:=Fb) g6 (os:=G) (k:=0) (j:=k) (o:=o) (by omega) d;rw [Nat.zero_add] at this;rw [<- ew];exact this
 have U:∀i x,L i=some x->(∃k o,G[k]?=some o/\i=m5 u ids k/\x=(fu s.ob u ids k,imO Fb o))\/((¬∃k,k<G.length/\m5 u ids k=i)/\s.ob i=some x):=λ i x hx=>by
  by_cases E:∃k,k<G.length/\m5 u ids k=i
  ·obtain ⟨k,d,rfl⟩:=E;have hr:G[k]?=some G[k]:=by simp [d]
   rw [hC k _ hr] at hx;exact .inl ⟨k,_,hr,rfl,(zaf.inj hx).symm⟩
  rw [(hN i E).2] at hx;exact .inr ⟨E,hx⟩
 have h8:∀i,i∈ids->∃k,k<G.length/\m5 u ids k=i:=λ i E=>by
  obtain ⟨k,d⟩:=zab.1 E;have:=(zaa.1 d).1;exact ⟨k,by omega,by simp [m5,d]⟩
 have hm:∀i x b,s.ob i=some x->foot ρ i x.2 b->b<w.heap.size:=λ i x b E r=>K.foot_lt E r;have ea:∀k o b,G[k]?=some o->foot ρ' (1000000+k) o b->(∃i,i∈ids/\oy s.ob ρ i b)\/w.heap.size<=b:=λ k o b d r=>(hM.own _ _ _ b (n5 d) r).imp_left (N b).1
 have g5:∀b,Own L I b->Own (ob0 G) ρ' b\/∃i v x,(¬∃k,k<G.length/\m5 u ids k=i)/\s.ob i=some (v,x)/\x.own=true/\foot ρ i x b:=λ b ⟨i,v,x,H,D,O⟩=>by
  rcases U i _ H with ⟨k,o,d,rfl,hx⟩ | ⟨E,hx⟩
  ·cases hx;have:=(zaa.1 d).1;rw [(A k this).foot (cd Fb o)] at O;exact .inl ⟨_,0,o,n5 d,by rw [<- ats Fb]; exact D,O⟩
  rw [(hN i E).1.foot rfl] at O;exact .inr ⟨i,v,x,E,hx,D,O⟩
 have h7:abm (ob0 G) L ρ' I Fb:=λ id ver i v hF=>by
  rw [<- w1] at hF;unfold back at hF;split at hF
  ·rename_i hc;obtain ⟨rfl,H,D⟩:=hc;cases hF;have hr:G[id-1000000]?=some G[id-1000000]:=by simp [D]
   have hg:=n5 hr;rw [show 1000000+(id-1000000)=id by omega] at hg;refine ⟨_,_,hg,hC _ _ hr,?_,z9.im Fb _⟩;rw [(A _ D).1,show 1000000+(id-1000000)=id by omega]
  cases hF
 have V:∀b,j8 X.B s.ob ρ w b->¬∃i,i∈ids/\oy s.ob ρ i b:=λ b r ⟨i,E,ks⟩=>r.2.1 (hq i E b ks);have S:∀b,b<w.heap.size->(¬∃i,i∈ids/\oy s.ob ρ i b)->w'.heap[b]?=w.heap[b]?:=λ b H D=>hM.keeps.block b H λ hh=>D ((N b).1 hh)
 have w8:∀b,j8 X.B s.ob ρ w b->j8 X.B L I w' b:=λ b r=>by
  refine ⟨Nat.lt_of_lt_of_le r.1 hM.keeps.size,λ ho=>?_,r.2.2⟩;rcases g5 b ho with ⟨id,v,o,H,D,O⟩ | ⟨i,v,x,_,H,D,O⟩
  ·rcases hM.own id v o b H O with h | h
   ·exact V b r ((N b).1 h)
   have:=r.1; simp only at h; omega
  exact r.2.1 ⟨i,v,x,H,D,O⟩
 have ht:(u7 res/\∀o∈G,gu o)\/∀b,j8 Bc (ob0 G) ρ' w' b->j8 X.B L I w' b:=by
  refine e9.imp_right λ hf b r=>⟨r.1,λ ho=>?_,?_⟩
  ·rcases g5 b ho with h | ⟨i,v,x,E,H,D,O⟩
   ·exact r.2.1 h
   rcases hf b r.2.2 with h | ⟨j,R,C⟩ | h
   ·exact h.2.1 ⟨i,v,x,H,D,O⟩
   ·obtain ⟨k,d⟩:=zab.1 R;obtain ⟨⟨v0,y⟩,J,C⟩:=C;have:=K.inj i j _ _ b H J O C;subst this;exact E (h8 i R)
   have:=hm i _ b H O; omega
  rcases hf b r.2.2 with h | ⟨j,R,C⟩ | h
  ·exact h.2.2
  ·obtain ⟨k,d⟩:=zab.1 R;obtain ⟨⟨v0,y⟩,J,C⟩:=C;exact K.base b (K.own j _ _ b J C)
  exact K.base b (.inr (Nat.le_trans K.keeps.size h))
 have ey:Stays w w' (j8 X.B s.ob ρ w) (j8 X.B L I w') s.ob L ρ I:=by
  refine ⟨λ b r=>⟨w8 b r,S b r.1 (V b r)⟩,λ i v x hx=>?_⟩;by_cases E:∃k,k<G.length/\m5 u ids k=i
  ·obtain ⟨k,d,rfl⟩:=E;have hr:G[k]?=some G[k]:=by simp [d]
   refine ⟨_,_,hC k _ hr,?_,?_⟩
   ·unfold fu;rcases hki:ids[k]? with _ | j
    ·have:m5 u ids k=100000+1000*u+k:=by simp [m5,hki]
     rw [this] at hx;exact Nat.le_of_lt (ut hx)
    have:m5 u ids k=j:=by simp [m5,hki]
    rw [this] at hx;simp only [hx];cases x with
    | row sz z app wr xs=>cases app<;>simp [gp]
    | _=>simp [gp]
   intro hv;unfold fu at hv;rcases hki:ids[k]? with _ | j
   ·have:m5 u ids k=100000+1000*u+k:=by simp [m5,hki]
    rw [this] at hx;simp only [hki] at hv;have:=ut hx;omega
   have hn:m5 u ids k=j:=by simp [m5,hki]
   rw [hn] at hx |-;simp only [hki,hx] at hv;obtain ⟨v0,y,po',J,g2,g3,g4⟩:=M k j hki;rw [hx] at J;cases J
   have ha:x.pinned=true:=by
    cases x with
    | row sz z app wr xs=>cases app<;>first | rfl | (simp [gp] at hv)
    | _=>rfl
   obtain ⟨b,Y⟩:∃b,ρ j=some b:=by
    have h5:=K.obj j v _ hx;cases x with
    | row sz z app wr xs=>
      rcases h5 with ⟨_,_,O⟩ | ⟨b,cs,e,fr,h,_⟩
      ·subst O; cases ha
      exact ⟨b,h⟩
    | box cells=>obtain ⟨b,cs,e,h,_⟩:=h5; exact ⟨b,h⟩
    | abs T=>obtain ⟨b,h,_⟩:=h5; exact ⟨b,h⟩
    | map _ _=>obtain ⟨b,h,_⟩:=h5; exact ⟨b,h⟩
    | iter _ _ _ _=>obtain ⟨b,m',h,_⟩:=h5; exact ⟨b,h⟩
   have gc:=hM.pin (1000000+k) b (by
    simp only [ke,n5 g3,g4]
    rw [if_pos (by rw [abw]; exact ha),(hd k j hki).1,Y])
   obtain ⟨gd,o',hw,eo,e5⟩:=gc;rw [n5 hr] at hw;have gb:G[k]=o':=by have:=zaf.inj hw; exact (Prod.mk.inj this).2
   have hA:=A k d;rw [hn] at hA;refine ⟨by rw [hA.1,gd,Y],?_,λ b' kv e' w6 Q ga=>?_⟩
   ·have n:=g7 k po' G[k] g3 hr;rw [g4] at n
    revert n
    generalize G[k]=q;intro n;cases x with
    | row sz z app wr xs=>
      rcases n with h | ⟨z',k9,w2,rfl,h⟩
      ·subst h; cases ha
      exact ⟨rfl,h⟩
    | box _=>cases q<;>first | exact n.elim | trivial
    | abs _=>cases q<;>first | exact n.elim | exact n
    | map _ _=>cases q<;>first | exact n.elim | trivial
    | iter _ _ _ _=>cases q<;>first | exact n.elim | trivial
   rw [Y] at Q;cases Q;have n:=g7 k po' G[k] g3 hr;rw [g4,gb] at n;have gw:=hM.obj (1000000+k) 0 o' (by rw [n5 hr,gb]);have h5:=K.obj j v _ hx;cases x with
   | row sz z app wr xs=>
     rcases n with h | ⟨z',k9,w2,rfl,h⟩
     ·subst h; cases ha
     exact e5 rfl kv e' w6 ga
   | box cells=>
     cases o' with
     | row _ _ _ _ _=>exact n.elim
     | abs _=>exact n.elim
     | map _ _=>exact n.elim
     | iter _ _ _ _=>exact n.elim
     | box cells'=>
       obtain ⟨b1,cs,e,k1,k2,k3,_⟩:=h5;rw [Y] at k1; cases k1;rw [ga] at k2; cases k2;obtain ⟨b2,e4,e2,f1,f2,f3,_⟩:=gw;rw [gd] at f1; cases f1;refine ⟨e4,e2,_,f2,?_⟩;have n:cells'.length=(imL (fwd s.ob ids) cells).length:=n;rw [f3,k3,n,ff]
   | abs T=>
     cases o' with
     | row _ _ _ _ _=>exact n.elim
     | box _=>exact n.elim
     | map _ _=>exact n.elim
     | iter _ _ _ _=>exact n.elim
     | abs T'=>
       obtain ⟨b1,k1,k2⟩:=h5;rw [Y] at k1; cases k1;obtain ⟨cs,e,k3,k4⟩:=T.root k2;rw [ga] at k3; cases k3;obtain ⟨b2,f1,f2⟩:=gw;rw [gd] at f1; cases f1;obtain ⟨e4,e2,f3,f4⟩:=T'.root f2;have n:T'.size=T.size:=n;exact ⟨e4,e2,_,f3,by rw [f4,k4,n]⟩
   | map es c=>
     obtain ⟨b1,k1,k2⟩:=h5;rw [Y] at k1; cases k1;rw [ga] at k2; cases k2
   | iter m since seen st=>
     obtain ⟨b1,m',k1,k2,_⟩:=h5;rw [Y] at k1; cases k1;rw [ga] at k2; cases k2
  refine ⟨v,x,by rw [(hN i E).2,hx],zac _,λ _=>⟨(hN i E).1.1,z9.refl x,λ b cs e fr r hh=>⟨cs,e,fr,?_,rfl⟩⟩⟩;have r:foot ρ i x b:=.inl r;rw [S b (hm i _ b hx r),hh];rintro ⟨j,R,C⟩;obtain ⟨k,d⟩:=zab.1 R;obtain ⟨⟨v0,y⟩,J,C⟩:=C;have:=K.inj i j _ _ b hx J r C;subst this;exact E (h8 i R)
 have eq:∀k o,G[k]?=some o->cj w' (j8 X.B L I w') L I (m5 u ids k) (imO Fb o):=λ k o d=>by
  have gg:=(zaa.1 d).1;have h0:=hM.obj _ _ _ (n5 d);rcases ht with ⟨_,hf⟩ | hf
  ·exact (h0.flat (R':=j8 X.B L I w') (hf o (zae d))).im (λ _ h=>h) h7 (A k gg).1 (A k gg).2
  exact h0.im hf h7 (A k gg).1 (A k gg).2
 refine ⟨c,I,rfl,⟨⟨λ i v x hx=>?_,λ i j x y b hx hy r Q=>?_,?_,λ i v x b hx r=>?_,λ i b hp=>?_⟩,K.sz,K.df,λ t=>(K.env t).stays ey,K.pnn,K.small,K.base⟩,?_⟩
 ·rcases U i _ hx with ⟨k,o,d,rfl,Z⟩ | ⟨E,Z⟩
  ·cases Z;exact eq k o d
  refine (K.obj i v x Z).stays ey (hN i E).1.1 (hN i E).1.2 λ b r=>S b (hm i _ b Z r) ?_;rintro ⟨j,R,C⟩;obtain ⟨k,d⟩:=zab.1 R;obtain ⟨⟨v0,y⟩,J,C⟩:=C;have:=K.inj i j _ _ b Z J r C;subst this;exact E (h8 i R)
 ·have hz:∀k o i x b,G[k]?=some o->(¬∃l,l<G.length/\m5 u ids l=i)->s.ob i=some x->foot ρ' (1000000+k) o b->foot ρ i x.2 b->False:=λ k o i x b d E hx H D=>by
   rcases ea k o b d H with ⟨j,R,C⟩ | h
   ·obtain ⟨l,hl⟩:=zab.1 R;obtain ⟨⟨v0,y⟩,J,C⟩:=C;have:=K.inj i j _ _ b hx J D C;subst this;exact E (h8 i R)
   have:=hm i _ b hx D; omega
  rcases U i _ hx with ⟨k,o,d,rfl,rfl⟩ | ⟨E,Z⟩<;>rcases U j _ hy with ⟨l,q,hl,rfl,rfl⟩ | ⟨R,ex⟩
  ·have H:=(zaa.1 d).1;have D:=(zaa.1 hl).1;rw [(A k H).foot (cd Fb _)] at r;rw [(A l D).foot (cd Fb _)] at Q;have:=hM.inj _ _ _ _ b (n5 d) (n5 hl) r Q;rw [show k=l by omega]
  ·have H:=(zaa.1 d).1;rw [(A k H).foot (cd Fb _)] at r;rw [(hN j R).1.foot rfl] at Q;exact (hz k o j _ b d R ex r Q).elim
  ·have D:=(zaa.1 hl).1;rw [(A l D).foot (cd Fb _)] at Q;rw [(hN i E).1.foot rfl] at r;exact (hz l q i _ b hl E Z Q r).elim
  rw [(hN i E).1.foot rfl] at r;rw [(hN j R).1.foot rfl] at Q;exact K.inj i j _ _ b Z ex r Q
 ·have d:=K.keeps;refine ⟨hM.keeps.os.trans d.os,hM.keeps.tape.trans d.tape,hM.keeps.output.trans d.output,Nat.le_trans d.size hM.keeps.size,λ b r hI=>?_⟩;rw [S b (Nat.lt_of_lt_of_le r d.size),d.block b r hI];rintro ⟨j,R,C⟩;obtain ⟨k,e3⟩:=zab.1 R;obtain ⟨⟨v0,y⟩,J,C⟩:=C;rcases K.own j _ _ b J C with h | h
  ·exact hI h
  omega
 ·rcases U i _ hx with ⟨k,o,d,rfl,kd⟩ | ⟨E,Z⟩
  ·cases kd;rw [(A k (zaa.1 d).1).foot (cd Fb _)] at r;rcases ea k o b d r with ⟨j,R,C⟩ | h
   ·obtain ⟨l,hl⟩:=zab.1 R;obtain ⟨⟨v0,y⟩,J,C⟩:=C;exact K.own j _ _ b J C
   exact .inr (Nat.le_trans K.keeps.size h)
  rw [(hN i E).1.foot rfl] at r;exact K.own i v x b Z r
 ·show I i=some b/\∃o,L i=some (0,o)/\o.pinned=true/\(o.isRow=true->se X.w0 w' b);obtain ⟨H,x,D,ha,ed⟩:=K.pin i b hp;by_cases E:∃k,k<G.length/\m5 u ids k=i
  ·obtain ⟨k,d,rfl⟩:=E;have hr:G[k]?=some G[k]:=by simp [d]
   rcases hki:ids[k]? with _ | j
   ·have hn:m5 u ids k=100000+1000*u+k:=by simp [m5,hki]
    rw [hn,K.pnn _ (ai8 (by omega))] at hp;cases hp
   have hn:m5 u ids k=j:=by simp [m5,hki]
   rw [hn] at H D |-;obtain ⟨v0,y,po',J,g2,g3,g4⟩:=M k j hki;rw [D] at J;cases J
   have gc:=hM.pin (1000000+k) b (by
    simp only [ke,n5 g3,g4]
    rw [if_pos (by rw [abw]; exact ha),(hd k j hki).1,H])
   obtain ⟨gd,o',hw,eo,e5⟩:=gc;rw [n5 hr] at hw;have gb:G[k]=o':=by have:=zaf.inj hw; exact (Prod.mk.inj this).2
   have hA:=A k d;have eb:=hC k _ hr;rw [hn] at hA eb;refine ⟨by rw [hA.1,gd],imO Fb o',?_,by rw [abw]; exact eo,λ h9=>?_⟩
   rotate_left
   ·rw [aih] at h9;have n:=g7 k po' G[k] g3 hr;rw [g4,gb] at n
    have kt:x.isRow=true:=by
     cases x with
     | row _ _ _ _ _=>rfl
     | box _=>cases o'<;>first | exact n.elim | cases h9
     | abs _=>cases o'<;>first | exact n.elim | cases h9
     | map _ _=>cases o'<;>first | exact n.elim | cases h9
     | iter _ _ _ _=>cases o'<;>first | exact n.elim | cases h9
    exact (ed kt).trans (e5 h9)
   rw [eb,gb];cases x with
   | row sz z app wr xs=>cases app<;>first | (cases ha; done) | simp [fu,hki,D,gp]
   | box cells=>simp [fu,hki,D,gp]
   | abs T=>simp [fu,hki,D,gp]
   | map es c=>simp [fu,hki,D,gp]
   | iter m since seen st=>simp [fu,hki,D,gp]
  rw [(hN i E).1.1,(hN i E).2];refine ⟨H,x,D,ha,λ h9=>(ed h9).trans ?_⟩;have r:foot ρ i x b:=.inl H
  have he:w'.heap[b]?=w.heap[b]?:=S b (hm i _ b D r) (by
   rintro ⟨j,R,C⟩;obtain ⟨k,d⟩:=zab.1 R;obtain ⟨⟨v0,y⟩,J,C⟩:=C;have:=K.inj i j _ _ b D J r C;subst this
   exact E (h8 i R))
  intro cs e fr hc;exact ⟨cs,e,fr,by rw [he]; exact hc,rfl⟩
 rcases ht with ⟨hf,_⟩ | hf
 ·exact (e0.flat (R':=j8 X.B L I w') hf).im (λ _ h=>h) h7
 exact e0.im hf h7
end

def qg (ver a:Nat):Option (Nat×Ob)->Option (Nat×Nat)
 | some (v,_)=>if ver=v then some (a,0) else none
 | none=>none
def sk (np lb:Nat) (ob:Obs) (ids:List Nat):Ren:=λ id ver=>
 if 1000000<=id/\id<1000000+np then qg ver id (ob id)
 else match idx id ids with
  | some k=>qg ver (lb+k) (ob id)
  | none=>none
def yb (F:Ren):Option (Nat×Ob)->Option Ob
 | some (_,o)=>some (imO F o)
 | none=>none
def oo (F:Ren) (ob:Obs):List Nat->Option (List Ob)
 | []=>some []
 | i::is=>match yb F (ob i),oo F ob is with
   | some o,some os=>some (o::os)
   | _,_=>none
theorem akv {F:Ren} {ob:Obs}:∀{ids:List Nat} {po:List Ob},oo F ob ids=some po->po.length=ids.length/\∀(k i:Nat) (o:Ob),ids[k]?=some i->po[k]?=some o->∃v x,ob i=some (v,x)/\o=imO F x
 | [],po,h=>by simp [oo] at h; subst h; simp
 | j::ids,po,h=>by
   simp only [oo] at h;split at h
   ·rename_i o os a f;cases h;obtain ⟨d,e⟩:=akv f;refine ⟨by simp [d],λ k i q c b=>?_⟩;cases k with
    | zero=>
      simp at c b;subst c; subst b;rcases hj:ob j with _ | ⟨v,x⟩
      ·rw [hj] at a; cases a
      rw [hj] at a;cases a;exact ⟨v,x,rfl,rfl⟩
    | succ k=>simp at c b; exact e k i q c b
   cases h
def bk (np:Nat):Nat->List Nat
 | 0=>[]
 | n+1=>(1000000+(np-(n+1)))::bk np n
theorem alg {np:Nat}:∀{n k:Nat},n<=np->k<n->(bk np n)[k]?=some (1000000+(np-n+k))
 | 0,k,_,h=>by omega
 | n+1,0,h,_=>by simp [bk]
 | n+1,k+1,h,hk=>by
   simp only [bk,List.getElem?_cons_succ];rw [alg (by omega) (by omega)];congr 1;omega
theorem ai7 {np:Nat}:∀{n:Nat},(bk np n).length=n
 | 0=>rfl
 | n+1=>by simp [bk,ai7]
def va (np i:Nat):Bool:=decide (1000000<=i/\i<1000000+np)
def kj (np:Nat) (l:List Nat):List Nat:=l.filter λ i=>!va np i
def nrm (a np lb:Nat) (vs:List AV) (ob:Obs):Option (List AV×List Ob×List Ob):=
 let ids:=kj np (s9 ob a (o4 vs++bk np np) [])
 let F:=sk np lb ob ids
 match oo F ob (bk np np),oo F ob ids with
 | some pos,some los=>some (imL F vs,pos,los)
 | _,_=>none
def az:Nat->List Ob->Obs->Obs
 | _,[],ob=>ob
 | k,o::os,ob=>upd k (0,o) (az (k+1) os ob)
theorem ags:∀{os:List Ob} {k id:Nat} {ob:Obs},(id<k\/k+os.length<=id)->az k os ob id=ob id
 | [],k,id,ob,h=>rfl
 | o::os,k,id,ob,h=>by
   simp at h;unfold az upd;rw [if_neg (by omega)];exact ags (by omega)
theorem ac0:∀{os:List Ob} {k j:Nat} {o:Ob} {ob:Obs},os[j]?=some o->az k os ob (k+j)=some (0,o)
 | [],k,j,o,ob,h=>by simp at h
 | q::os,k,0,o,ob,h=>by simp at h; subst h; simp [az,upd]
 | q::os,k,j+1,o,ob,h=>by
   simp at h;unfold az upd;rw [if_neg (by omega),show k+(j+1)=k+1+j by omega];exact ac0 h
theorem ab9 (ob:Obs):∀(f:Nat) (d c:List Nat),c.Nodup->(s9 ob f d c).Nodup
 | 0,_,c,h=>h
 | _+1,[],c,h=>h
 | n+1,i::d,c,h=>by
   unfold s9;split
   ·exact ab9 ob n d c h
   rename_i hc;refine ab9 ob n _ _ ?_;rw [List.nodup_append];refine ⟨h,by simp,λ a j b g=>?_⟩;simp at g;subst g;intro e;subst e;simp at hc;exact hc j
variable {i:Nat} {l:List Nat}
theorem yi (h:l.Nodup) {j x:Nat} (g:l[i]?=some x) (k:l[j]?=some x):i=j:=by
 have f:=(zaa.1 g)
 have m:=(zaa.1 k)
 obtain ⟨b,c⟩:=f;obtain ⟨d,e⟩:=m;rcases Nat.lt_trichotomy i j with a | rfl | a
 ·exact absurd (by rw [c,e]) (List.pairwise_iff_getElem.1 h i j b d a)
 ·rfl
 exact absurd (by rw [c,e]) (List.pairwise_iff_getElem.1 h j i d b a)
section
variable {P:Program} {X:Cx} {w w':World} {s:St} {ρ ρ':Pl->Option Nat} {a:Act} {ob ob':Obs} {R R':Nat->Prop}
theorem Mem.nrm (P:Mem X ob ρ w) {A np lb:Nat} {vs L:List AV} {pos d:List Ob} (h:nrm A np lb vs ob=some (L,pos,d)) (ha:1000000+np<=lb) (h5:∀id b,X.pn id=some b->1000000<=id/\id<1000000+np) :
 ∃ρ',Mem X (az 1000000 pos (az lb d λ _=>none)) ρ' w/\L.length=vs.length/\pos.length=np /\
  ∀(i:Nat) (x y:AV) (c:Value),vs[i]?=some x->L[i]?=some y->RelA w (j8 X.B ob ρ w) ob ρ x c->RelA w (j8 X.B (az 1000000 pos (az lb d λ _=>none)) ρ' w) (az 1000000 pos (az lb d λ _=>none)) ρ' y c:=by
 unfold Ev.nrm at h;generalize z6:kj np (s9 ob A (o4 vs++bk np np) [])=ids at h;simp only at h;generalize hF:sk np lb ob ids=F at h;split at h
 ·rename_i h9 h8 hp hl;cases h;obtain ⟨p1,p2⟩:=akv hp;obtain ⟨l1,l2⟩:=akv hl;rw [ai7] at p1
  have h7:ids.Nodup:=by
   rw [<- z6];exact (ab9 ob A _ [] (by simp)).filter _
  have O:∀i,i∈ids->¬(1000000<=i/\i<1000000+np):=λ i E=>by
   rw [<- z6] at E;simp [kj,va] at E;intro hc;have:=E.2;omega
  generalize z:az 1000000 pos (az lb d λ _=>none)=t
  let g:Pl->Option Nat:=λ p=>match p with
   | .o i=>if 1000000<=i/\i<1000000+np then ρ i else if lb<=i then (ids[i-lb]?).bind λ i=>ρ (.o i) else none
   | .s i j=>if 1000000<=i/\i<1000000+np then ρ (.s i j) else if lb<=i then (ids[i-lb]?).bind λ i=>ρ (.s i j) else none
  have U:∀k o,pos[k]?=some o->t (1000000+k)=some (0,o)/\ye ρ g (1000000+k) (1000000+k)/\∃v x,ob (1000000+k)=some (v,x)/\o=imO F x:=λ k o l=>by
   have G:=(zaa.1 l).1;refine ⟨by rw [<- z]; exact ac0 l,⟨by simp only [g]; rw [if_pos (by omega)],λ j=>by simp only [g]; rw [if_pos (by omega)]⟩,?_⟩;have:=alg (np:=np) (n:=np) (k:=k) (zac _) (by omega);rw [Nat.sub_self,Nat.zero_add] at this;exact p2 k _ o this l
  have hL:∀k o,d[k]?=some o->t (lb+k)=some (0,o)/\∃i v x,ids[k]?=some i/\ye ρ g i (lb+k)/\ob i=some (v,x)/\o=imO F x:=λ k o l=>by
   have G:=(zaa.1 l).1;have E:ids[k]?=some (ids[k]'(by omega)):=by simp [show k<ids.length by omega]
   obtain ⟨v,x,m,f⟩:=l2 k _ o E l;refine ⟨?_,_,v,x,E,?_,m,f⟩
   ·rw [<- z,ags (by omega)];exact ac0 l
   refine ⟨?_,λ j=>?_⟩
   ·simp only [g];rw [if_neg (by omega),if_pos (by omega),show lb+k-lb=k by omega,E]
    rfl
   simp only [g];rw [if_neg (by omega),if_pos (by omega),show lb+k-lb=k by omega,E]
   rfl
  have H:∀id x,t id=some x->(∃k,pos[k]?=some x.2/\id=1000000+k/\x.1=0)\/(∃k,d[k]?=some x.2/\id=lb+k/\x.1=0):=λ id x hx=>by
   rw [<- z] at hx;by_cases r:1000000<=id/\id<1000000+np
   ·have l:pos[id-1000000]?=some (pos[id-1000000]'(by omega)):=by simp [show id-1000000<pos.length by omega]
    have:=ac0 (k:=1000000) (ob:=az lb d λ _=>none) l;rw [show 1000000+(id-1000000)=id by omega,hx] at this;cases this;exact .inl ⟨_,l,by omega,rfl⟩
   rw [ags (by omega)] at hx;by_cases J:lb<=id/\id<lb+d.length
   ·have l:d[id-lb]?=some (d[id-lb]'(by omega)):=by simp [show id-lb<d.length by omega]
    have:=ac0 (k:=lb) (ob:=λ _=>none) l;rw [show lb+(id-lb)=id by omega,hx] at this;cases this;exact .inr ⟨_,l,by omega,rfl⟩
   rw [ags (by omega)] at hx;cases hx
  have q:∀id x,t id=some x->∃i v y,ob i=some (v,y)/\x=(0,imO F y)/\ye ρ g i id/\((id=i/\1000000<=i/\i<1000000+np)\/(∃k,ids[k]?=some i/\id=lb+k)):=λ id x hx=>by
   rcases H id x hx with ⟨k,r,rfl,K⟩ | ⟨k,r,rfl,K⟩
   ·obtain ⟨m,f,v,y,e,u⟩:=U k _ r;have G:=(zaa.1 r).1;exact ⟨_,v,y,e,Prod.ext K u,f,.inl ⟨rfl,by omega,by omega⟩⟩
   obtain ⟨m,i,v,y,f,e,u,T⟩:=hL k _ r;exact ⟨i,v,y,u,Prod.ext K T,e,.inr ⟨k,f,rfl⟩⟩
  have D:abm ob t ρ g F:=λ id ver i v a=>by
   rw [<- hF] at a;unfold sk at a;split at a
   ·rename_i hc;rcases ho:ob id with _ | ⟨v0,y⟩
    ·rw [ho] at a; cases a
    rw [ho] at a;simp only [qg] at a;split at a
    ·rename_i hv;cases a;subst hv;have l:pos[id-1000000]?=some (pos[id-1000000]'(by omega)):=by simp [show id-1000000<pos.length by omega]
     obtain ⟨m,f,v1,y1,e,u⟩:=U _ _ l;rw [show 1000000+(id-1000000)=id by omega] at m f e;rw [ho] at e;cases e;exact ⟨_,_,rfl,m,f.1,by rw [u]; exact z9.im F _⟩
    cases a
   split at a
   ·rename_i k l;have N:=ad8 l;rcases ho:ob id with _ | ⟨v0,y⟩
    ·rw [ho] at a; cases a
    rw [ho] at a;simp only [qg] at a;split at a
    ·rename_i hv;cases a;subst hv;have G:=(zaa.1 N).1;have R:d[k]?=some (d[k]'(by omega)):=by simp [show k<d.length by omega]
     obtain ⟨m,i,v1,y1,f,e,u,T⟩:=hL k _ R;rw [N] at f;cases f;rw [ho] at u;cases u;exact ⟨_,_,rfl,m,e.1,by rw [T]; exact z9.im F _⟩
    cases a
   cases a
  have hR:∀b,j8 X.B ob ρ w b->j8 X.B t g w b:=λ b Y=>⟨Y.1,λ ⟨id,v,o,r,J,K⟩=>by
   obtain ⟨i,M,y,m,f,e,_⟩:=q id _ r;cases f;rw [ats] at J
   exact Y.2.1 ⟨i,M,y,m,J,(e.foot (cd F y)).1 K⟩,Y.2.2⟩
  refine ⟨g,⟨λ id v o hx=>?_,λ id h0 x x' b r J K h4=>?_,P.keeps,λ id v o b r J=>?_,λ id b r=>?_⟩,by rw [ff],p1,λ i x y c hx hy hr=>?_⟩
  ·obtain ⟨i,M,y,m,f,e,_⟩:=q id _ hx;cases f;exact (P.obj i M y m).im hR D e.1 e.2
  ·obtain ⟨i,v,y,m,f,e,u⟩:=q id _ r;obtain ⟨i',M,y',V,h6,W,S⟩:=q h0 _ J;have:=P.inj i i' _ _ b m V ((e.foot (by rw [f]; exact cd F y)).1 K) ((W.foot (by rw [h6]; exact cd F y')).1 h4);subst this;rcases u with ⟨rfl,Q,q2⟩ | ⟨k,Q,rfl⟩<;>rcases S with ⟨rfl,C,Z⟩ | ⟨k',C,rfl⟩
   ·rfl
   ·exact absurd ⟨Q,q2⟩ (O _ (zae C))
   ·exact absurd ⟨C,Z⟩ (O _ (zae Q))
   rw [yi h7 Q C]
  ·obtain ⟨i,M,y,m,f,e,_⟩:=q id _ r;exact P.own i M y b m ((e.foot (by rw [show o=imO F y from congrArg Prod.snd f]; exact cd F y)).1 J)
  ·obtain ⟨Q,q2⟩:=h5 id b r;obtain ⟨e1,I,e2,e3⟩:=P.pin id b r;have l:pos[id-1000000]?=some (pos[id-1000000]'(by omega)):=by simp [show id-1000000<pos.length by omega]
   obtain ⟨m,f,v1,y1,e,u⟩:=U _ _ l;rw [show 1000000+(id-1000000)=id by omega] at m f e;rw [e2] at e;cases e;exact ⟨by rw [f.1,e1],imO F I,by rw [m,u],by rw [abw]; exact e3.1,by rw [aih]; exact e3.2⟩
  rw [tp,hx] at hy;cases hy;exact hr.im hR D
 cases h
end

inductive PX where
 | see (o:PO)
 | act (o:PO)
 | call (f:FuncId) (args:List Opd)
 | callv (x:Opd) (args:List Opd)
 | inv (tbl:List (TypeId×FuncId)) (x:Opd) (args:List Opd)
 | nxt (x:Opd)
structure PR where
 d:Option Nat
 g:Option (Nat×Bool)
 u:Nat
 x:PX
inductive PC where
 | skip
 | reg (ops:List PR)
 | seq (a b:PC)
 | cond (x:Opd) (a b:PC)
 | block (id:Nat) (c:PC)
 | loop (c:PC)
 | exit (id:Nat)
 | ret
 | drw (ops:List PR) (pre:List (List Nat))
inductive Ex where
 | nor
 | ex (id:Nat)
 | rt
def s8 (d:Option Nat) (x:AV) (e:Env):Env:=match d with
 | some d=>put d x e
 | none=>e
def aaz (b:Bool):AV->Option Bool
 | .r (.v (.bool x))=>some (bif b then x else !x)
 | .gd h (.r (.v (.bool x)))=>some (h&&(bif b then x else !x))
 | _=>none
def yes (e:Env):Option (Nat×Bool)->Option Bool
 | none=>some true
 | some (t,b)=>aaz b (e t)
def gdv (g:Option (Nat×Bool)) (b:Bool) (x:AV):AV:=match g with
 | none=>x
 | some _=>.gd b x
def okC (u:Nat) (ids:List Nat) (m:Nat) (l:List Nat) (a:Bool):Bool:=
 decide (ids.length<=m)&&decide (((zag m).map (m5 u ids)).Nodup)&&decide (100000+1000*u+m<=1000000)&&(a||l.all λ i=>!ids.contains i)
def k7:List Ob->List Ob->Prop
 | .box a::xs,.box b::ys=>b.length=a.length/\k7 xs ys
 | .abs T::xs,.abs T'::ys=>T'.size=T.size/\k7 xs ys
 | .map _ _::xs,.map _ _::ys=>True/\k7 xs ys
 | .iter _ _ _ _::xs,.iter _ _ _ _::ys=>True/\k7 xs ys
 | .box _::_,_::_=>False
 | .abs _::_,_::_=>False
 | .map _ _::_,_::_=>False
 | .iter _ _ _ _::_,_::_=>False
 | .row sz _ false _ l::xs,.row sz' _ false _ l'::ys=>(sz'=sz/\l.length<=l'.length)/\k7 xs ys
 | .row _ _ false _ _::_,_::_=>False
 | _::xs,_::ys=>k7 xs ys
 | _,_=>True
def aat (P:Program) (f:FuncId) (u:Nat) (ob:Obs) (ids:List Nat) (as:List AV) (l:List Nat) (b:Bool) (K:AV->Obs->Prop):Option (List Ob)->Prop
 | none=>False
 | some po=>∃res a,a9 P f as po res a/\okC u ids a.length l b=true/\k7 po a/\(b=false->u7 res/\∀o∈a,gu o)/\K (imV (back ob u ids a.length) res) (bw ob u ids (back ob u ids a.length) 0 a)
def jo (P:Program) (f:FuncId) (u:Nat) (ob:Obs) (as:List AV) (l:List Nat) (a:Bool) (K:AV->Obs->Prop):Prop:=
 aat P f u ob (s9 ob 64 (o4 as) []) (imL (fwd ob (s9 ob 64 (o4 as) [])) as) l a K (v9 (fwd ob (s9 ob 64 (o4 as) [])) ob (s9 ob 64 (o4 as) []))
def a5u (P:Program) (f:FuncId) (u:Nat) (ob:Obs) (vs:List AV) (K:AV->Obs->Prop):Prop:=
 ∃id v z xs,ob id=some (v,.row 1 z true true (xs.map RV.v))/\xs≠[]/\∀m,jo P f u (upd id (v,.box (xs.map (λ x=>AV.r (.v x))++zah m .undef)) ob) vs [] true K
def a5v (P:Program) (f:FuncId) (u:Nat) (ob:Obs) (vs:List AV) (K:AV->Obs->Prop):Prop:=
 ∃id v sz z xs,ob id=some (v,.row sz z true true xs)/\xs≠[]/\jo P f u (upd id (v,.row sz z false true xs) ob) vs [] true K
def ab6 (P:Program) (f:FuncId) (u:Nat) (ob:Obs) (K:AV->Obs->Prop) (vs:List AV):Option (List AV×List Nat)->Prop
 | none=>jo P f u ob vs [] true K
 | some (as,[])=>jo P f u ob as [] true K
 | some (as,i::l)=>jo P f u (freeze ob (i::l)) as (i::l) true K\/jo P f u ob as (i::l) false K\/jo P f u ob vs [] true K\/a5u P f u ob vs K\/a5v P f u ob vs K
def zl (P:Program) (f:FuncId):Bool:=match P.funcs[f]? with
 | some fn => fn.body.isSome && !(fn.name == "runtime.NumGoroutine")
 | none=>false
def ar8 (P:Program) (u:Nat) (ob:Obs) (vs:List AV) (K:AV->Obs->Prop):AV->Prop
 | .fn (.func f) cap k=>zl P f=true/\ab6 P f u ob K (cap.take k++(vs++cap.drop k)) (q7 ob (cap.take k++(vs++cap.drop k)))
 | _=>False
def db (t:TypeId):List (TypeId×FuncId)->Option FuncId
 | []=>none
 | (t',f)::r=>if t'=t then some f else db t r
def ag7 (P:Program) (tbl:List (TypeId×FuncId)) (u:Nat) (ob:Obs) (vs:List AV) (K:AV->Obs->Prop):AV->Prop
 | .ifc t x=>match db t tbl with
   | some f=>ab6 P f u ob K (x::vs) (q7 ob (x::vs))
   | none=>False
 | _=>False
def ca (es:List MapEntry) (a:List Nat):List MapEntry:=es.filter λ e=>!a.contains e.born
def awd (id ver:Nat) (ob:Obs) (m:AV) (a:Nat) (b:List Nat) (d:Nat) (K:AV->Obs->Prop):Option (List MapEntry×Nat)->Prop
 | some (es,c)=>(∀e,e∈es->e.born<a)/\a<=d/\(ca es b=[]->K (.tup [bl false]) ob) /\
  ∀e,e∈ca es b->K (.tup [bl true,.r (jq e.key),.r (jq e.val)]) (upd id (ver,.iter m a (b++[e.born]) c) ob)
 | none=>False
def aq7 (id ver:Nat) (ob:Obs) (K:AV->Obs->Prop):Option (AV×Nat×List Nat×Nat)->Prop
 | some (.mp mid mver,since,seen,st)=>awd id ver ob (.mp mid mver) since seen st K (t9 ob mid mver)
 | _=>False
def am4 (ob:Obs) (K:AV->Obs->Prop):AV->Prop
 | .ptr id ver 0=>aq7 id ver ob K (cb ob id ver)
 | _=>False
def PX.wp (P:Program) (r:PR) (s:St) (K:St->Prop) (b:Bool):PX->Prop
 | .see o=>(o.see b s.e s.ob).ok/\K ⟨s8 r.d (gdv r.g b (o.see b s.e s.ob).v) s.e,s.ob⟩
 | .act o=>(b=true->(o.act (r.d.getD 0) s.e s.ob).ok/\K ⟨s8 r.d (o.act (r.d.getD 0) s.e s.ob).v s.e,(o.act (r.d.getD 0) s.e s.ob).ob⟩)/\(b=false->K ⟨s8 r.d .undef s.e,s.ob⟩)
 | .call f args=>(b=true->bi true s.e args/\ab6 P f r.u s.ob (λ v ob=>K ⟨s8 r.d v s.e,ob⟩) (n6 s.e args) (q7 s.ob (n6 s.e args)))/\(b=false->K ⟨s8 r.d .undef s.e,s.ob⟩)
 | .callv x args=>(b=true->(x.ev s.e).may true/\bi true s.e args/\ar8 P r.u s.ob (n6 s.e args) (λ v ob=>K ⟨s8 r.d v s.e,ob⟩) (x.ev s.e).bare)/\(b=false->K ⟨s8 r.d .undef s.e,s.ob⟩)
 | .inv tbl x args=>(b=true->(x.ev s.e).may true/\bi true s.e args/\ag7 P tbl r.u s.ob (n6 s.e args) (λ v ob=>K ⟨s8 r.d v s.e,ob⟩) (x.ev s.e).bare)/\(b=false->K ⟨s8 r.d .undef s.e,s.ob⟩)
 | .nxt x=>(b=true->(x.ev s.e).may true/\am4 s.ob (λ v ob=>K ⟨s8 r.d v s.e,ob⟩) (x.ev s.e).bare)/\(b=false->K ⟨s8 r.d .undef s.e,s.ob⟩)
def PR.wp (P:Program) (r:PR) (s:St) (K:St->Prop):Option Bool->Prop
 | some b=>r.x.wp P r s K b
 | none=>False
def wpR (P:Program):List PR->(St->Prop)->St->Prop
 | [],K,s=>K s
 | r::rs,K,s=>r.wp P s (wpR P rs K) (yes s.e r.g)
def alz (P:Program) (m:String) (p:TypeId×FuncId):Bool:=zl P p.2&&(match P.info? p.1 with
 | some i=>match i.methods.find? (·.name == m) with
   | some q=>q.path.isEmpty&&(match q.func with | some (f,b)=>f == p.2&&b | none=>false)
   | none=>false
 | none=>false)&&ai P p.1 (λ d=>match d with | .pointer _=>true | _=>false)
def aao (P:Program) (o:Oper):PX->Bool
 | .see po=>an8 P o po
 | .act po=>af8 P o po
 | .call f args=>match o.op with
   | .call c=>match c.callee with
     | .value (.func f')=>f == f'&&x7 opd c.args.toList args&&zl P f
     | _=>false
   | _=>false
 | .callv x args=>match o.op with
   | .call c=>match c.callee with
     | .value x'=>opd x' x&&x7 opd c.args.toList args
     | _=>false
   | _=>false
 | .inv tbl x args=>match o.op with
   | .call c=>match c.callee with
     | .invoke r m=>opd r x&&x7 opd c.args.toList args&&tbl.all (alz P m)
     | _=>false
   | _=>false
 | .nxt x=>match o.op with
   | .next it str=>opd it x && !str
   | _=>false
def aw1 (a:Array Oper):Option (Nat×Bool)->Option (Nat×Bool)->Bool
 | none,none=>true
 | some (j,b),some (t,b')=>b == b'&&((a[j]?).bind (·.dst)) == some t
 | _,_=>false
def arn:PX->Bool
 | .see _=>true
 | _=>false
def auc:PX->Bool
 | .act o=>!o.nod
 | _=>false
def aee (P:Program) (n:Nat) (a:Array Oper) (o:Oper) (r:PR):Bool:=
 o.dst == r.d&&(match r.d with | some d=>decide (d<n) | none=>!arn r.x && !auc r.x)&&aw1 a o.guard r.g&&aao P o r.x
def ajz (b:Array Oper) (a:List (List Nat)):Bool:=
 a.length == b.size&&(zag b.size).all λ j=>match b[j]?,a[j]? with
  | some o,some p=>o.after.all (λ e=>!Region.binds .any e||decide (e.on<j)) &&
   p.all (λ k=>decide (k<j)&&o.after.any λ e=>Region.binds .any e&&(e.on == k||(a.getD e.on []).contains k))
  | _,_=>false
def km (P:Program) (n:Nat):Code->PC->Bool
 | .skip,.skip=>true
 | .region _ ops d,.reg rs=>!d&&x7 (aee P n ops) ops.toList rs
 | .region _ ops d,.drw rs pre=>d&&P.follows .mixedOrders&&x7 (aee P n ops) ops.toList rs&&ajz ops pre
 | .seq a b,.seq a' b'=>km P n a a'&&km P n b b'
 | .cond x a b,.cond x' a' b'=>opd x x'&&km P n a a'&&km P n b b'
 | .block i c,.block j c'=>i == j&&km P n c c'
 | .loop c,.loop c'=>km P n c c'
 | .exit i,.exit j=>i == j
 | .ret,.ret=>true
 | _,_=>false
section
variable {P:Program} {X:Cx} [GlC P X] {w w':World} {s:St} {ρ ρ':Pl->Option Nat} {a:Act} {o:Oper} {ob ob':Obs} {R R':Nat->Prop}
theorem a2d (J:Gam X s ρ a w) {id ver g len sz:Nat} {z:RV} {q H:Bool} {xs:List RV} {c:Value} (m:s.ob id=some (ver,.row sz z q H xs)) (h:RA X s ρ w (.own id ver g len) c) (E:∀b,j8 X.B s.ob ρ w b->R b)
 (K:∀b,ρ id=some b->b<w.heap.size->R b):RelV w R (.sl sz ((xs.drop g).take len)) c:=by
 cases h;rename_i h;obtain ⟨A,cap,rfl,P,G,I,F⟩:=h.live m;have l:((xs.drop g).take len).length=len:=by simp; omega
 have k:=RelV.sl (w:=w) (R:=R) sz ((xs.drop g).take len) A cap (by omega) G;rw [l] at k
 have d:∀(i:Nat) (x:RV),((xs.drop g).take len)[i]?=some x->xs[g+i]?=some x:=λ i x f=>by
  rw [List.getElem?_take] at f;split at f
  ·rwa [List.getElem?_drop] at f
  cases f
 rcases J.obj id ver _ m with ⟨o,u⟩ | ⟨b,cs,e,fr,o,u,O,U,V,p⟩
 ·subst o;have:len=0:=by have:g+len<=0:=I; omega
  subst this;exact k 0 0 (λ _ _=>undef) (by simp) (by simp) (by simp) (by simp)
 refine k b (g*sz) (λ i j=>(cs[(g+i)*sz+j]?).getD undef) (λ W=>?_) (λ i x f=>(p _ x (d i x f)).1) (λ i x j y f t=>?_) (λ i x j y f t=>?_)
 ·obtain ⟨Q,M,e',N,v,L,T,S⟩:=F (by omega);rw [o] at v;cases v;exact ⟨L,K b o (Array.getElem?_eq_some_iff.1 u).1⟩
 ·obtain ⟨c,n,D,C⟩:=(p _ x (d i x f)).2 j y t;rw [n];refine ⟨?_,D⟩;simp only [World.cell?,u,Option.isSome_none,Bool.false_eq_true,if_false,Option.getD_some];rw [<- n,Nat.add_mul]
 obtain ⟨c,n,D,C⟩:=(p _ x (d i x f)).2 j y t;rw [n];exact C.mono λ b r=>⟨E b r,rfl⟩
theorem asz (j:Gam X s ρ a w) {x:AV} {y:RV} {c:Value} (h:x.rv s.ob=some (y,l)) (hx:RA X s ρ w x c) (e:∀b,j8 X.B s.ob ρ w b->R b) (g:∀i,i∈l->∀b,ρ i=some b->b<w.heap.size->R b):RelV w R y c:=by
 unfold AV.rv at h;split at h
 ·cases h; cases hx; rename_i h; exact h.mono λ b d=>⟨e b d,rfl⟩
 ·cases h; cases hx;exact .sl _ [] none 0 (by simp) (by simp) 0 0 (λ _ _=>undef) (by simp) (by simp) (by simp) (by simp)
 ·split at h
  ·rename_i f;cases h;exact a2d j (u4 f) hx e (g _ (by simp))
  cases h
 cases h
theorem apb (e:Gam X s ρ a w) (f:∀b,j8 X.B s.ob ρ w b->R b):∀{xs:List AV} {ys:List RV} {l:List Nat},rvs s.ob xs=some (ys,l)->(∀i,i∈l->∀b,ρ i=some b->b<w.heap.size->R b) ->
 ∀(i:Nat) (x:AV) (y:RV) (c:Value),xs[i]?=some x->ys[i]?=some y->RA X s ρ w x c->RelV w R y c
 | [],ys,l,h,hs,i,x,y,c,hx,hy,hr=>by simp at hx
 | z::xs,ys,l,h,hs,i,x,y,c,hx,hy,hr=>by
   simp only [rvs] at h;split at h
   ·rename_i o k n j g m;cases h;cases i with
    | zero=>
      simp at hx hy;subst hx; subst hy;exact asz e g hr f (λ p d=>hs p (by simp [d]))
    | succ i=>
      simp at hx hy;exact apb e f m (λ p d=>hs p (by simp [d])) i x y c hx hy hr
   cases h
theorem aw8 (p:Gam X s ρ a w) (j:∀b,j8 X.B s.ob ρ w b->R b) {x y:AV} {c:Value} (h:gm s.ob x=some (y,l)) (n:∀i,i∈l->∀b,ρ i=some b->b<w.heap.size->R b) (hx:RA X s ρ w x c):RelA w R s.ob ρ y c:=by
 have keep:∀z:AV,RA X s ρ w z c->RelA w R s.ob ρ z c:=λ z t=>t.stays ⟨λ b m=>⟨j b m,rfl⟩,λ id v o h=>⟨v,o,h,zac _,λ _=>⟨rfl,z9.refl o,λ b cs e fr _ h=>⟨cs,e,fr,h,rfl⟩⟩⟩⟩;unfold gm at h;split at h
 ·split at h
  ·rename_i q;cases h;exact .r (asz p q hx j n)
  cases h
 ·cases h; cases hx;exact .r (.sl _ [] none 0 (by simp) (by simp) 0 0 (λ _ _=>undef) (by simp) (by simp) (by simp) (by simp))
 ·rename_i xs;split at h
  ·rename_i ys A d;cases h;cases hx;rename_i cs u f;refine .r (.agg _ _ (by rw [mt d]; exact u) λ i y c hy hc=>?_);have k:i<xs.length:=by have:=(zaa.1 hy).1; have:=mt d; omega
   have g:xs[i]?=some xs[i]:=by simp [k]
   exact apb p j d n i _ y c g hy (f i _ c g hc)
  cases h
 ·cases h
 ·cases h
 cases h;exact keep _ hx
theorem aod (g:Gam X s ρ a w) (e:∀b,j8 X.B s.ob ρ w b->R b):∀{xs ys:List AV} {l:List Nat},q7 s.ob xs=some (ys,l)->(∀i,i∈l->∀b,ρ i=some b->b<w.heap.size->R b) ->
 ys.length=xs.length/\∀(i:Nat) (x y:AV) (c:Value),xs[i]?=some x->ys[i]?=some y->RA X s ρ w x c->RelA w R s.ob ρ y c
 | [],ys,l,h,hs=>by simp [q7] at h; obtain ⟨rfl,rfl⟩:=h; simp
 | z::xs,ys,l,h,hs=>by
   simp only [q7] at h;split at h
   ·rename_i r k t j n o;cases h;obtain ⟨m,q⟩:=aod g e o (λ p d=>hs p (by simp [d]));refine ⟨by simp [m],λ i x y c hx hy f=>?_⟩;cases i with
    | zero=>
      simp at hx hy;subst hx; subst hy;exact aw8 g e n (λ p d=>hs p (by simp [d])) f
    | succ i=>
      simp at hx hy;exact q i x y c hx hy f
   cases h
theorem as0 {x:AV} {y:RV} (h:x.rv ob=some (y,l)):∀i,i∈l->∃q,ob i=some q:=by
 unfold AV.rv at h;split at h
 ·cases h; simp
 ·cases h; simp
 ·split at h
  ·rename_i b;cases h;intro i a;simp at a;subst a;exact ⟨_,u4 b⟩
  cases h
 cases h
theorem apc:∀{xs:List AV} {ys:List RV} {l:List Nat},rvs ob xs=some (ys,l)->∀i,i∈l->∃q,ob i=some q
 | [],ys,l,h=>by simp [rvs] at h; simp [h.2]
 | z::xs,ys,l,h=>by
   simp only [rvs] at h;split at h
   ·rename_i e k d j b c;cases h;intro i a;rcases List.mem_append.1 a with a | a
    ·exact as0 b i a
    exact apc c i a
   cases h
theorem aoe:∀{xs ys:List AV} {l:List Nat},q7 ob xs=some (ys,l)->∀i,i∈l->∃q,ob i=some q
 | [],ys,l,h=>by simp [q7] at h; simp [h.2]
 | z::xs,ys,l,h=>by
   simp only [q7] at h;split at h
   ·rename_i f k e j a d;cases h;intro i b;rcases List.mem_append.1 b with b | b
    ·unfold gm at a;split at a
     ·split at a
      ·rename_i c;cases a;exact as0 c i b
      cases a
     ·cases a; simp at b
     ·split at a
      ·rename_i c;cases a;exact apc c i b
      cases a
     ·cases a
     ·cases a
     cases a; simp at b
    exact aoe d i b
   cases h
theorem a0i (i:Nat) {x:AV} {c:Value} (h:RelA w (j8 X.B ob ρ w) ob ρ x c):RelA w (j8 X.B (frz ob i (ob i)) ρ w) (frz ob i (ob i)) ρ x c:=by
 rcases hi:ob i with _ | ⟨v,a | ⟨sz,z,b,d,xs⟩ | T | _ | _⟩
 ·exact h
 ·exact h
 ·exact h.stays (Stays.freeze1 (X:=X) (s:=⟨λ _=>.undef,ob⟩) hi)
 ·exact h
 ·exact h
 exact h
theorem aeb:∀(l:List Nat) {ob:Obs} {x:AV} {c:Value},RelA w (j8 X.B ob ρ w) ob ρ x c->RelA w (j8 X.B (freeze ob l) ρ w) (freeze ob l) ρ x c
 | [],_,_,_,h=>h
 | i::is,_,_,_,h=>aeb is (a0i i h)
theorem aw9 (m:Gam X s ρ a w) {ob:Obs} {b:List Nat} (j:s.ob=Ev.freeze ob b) {x y:AV} {c:Value} (h:gm ob x=some (y,l)) (d:∀i,i∈l->i∈b) (hx:RA X s ρ w x c):RA X s ρ w y c:=by
 unfold gm at h;split at h
 ·split at h
  ·rename_i n;cases h;exact .r (ai0 m n d j hx)
  cases h
 ·cases h; cases hx;exact .r (.sl _ [] none 0 (by simp) (by simp) 0 0 (λ _ _=>undef) (by simp) (by simp) (by simp) (by simp))
 ·rename_i xs;split at h
  ·rename_i ys p e;cases h;cases hx;rename_i cs o f;refine .r (.agg _ _ (by rw [mt e]; exact o) λ i y c hy hc=>?_);have k:i<xs.length:=by have:=(zaa.1 hy).1; have:=mt e; omega
   have g:xs[i]?=some xs[i]:=by simp [k]
   exact acs m j e d i _ y c g hy (f i _ c g hc)
  cases h
 ·cases h
 ·cases h
 cases h; exact hx
theorem aof (g:Gam X s ρ a w) {ob:Obs} {b:List Nat} (d:s.ob=Ev.freeze ob b):∀{xs ys:List AV} {l:List Nat},q7 ob xs=some (ys,l)->(∀i,i∈l->i∈b) ->
 ys.length=xs.length/\∀(i:Nat) (x y:AV) (c:Value),xs[i]?=some x->ys[i]?=some y->RA X s ρ w x c->RA X s ρ w y c
 | [],ys,l,h,hs=>by simp [q7] at h; obtain ⟨rfl,rfl⟩:=h; simp
 | z::xs,ys,l,h,hs=>by
   simp only [q7] at h;split at h
   ·rename_i r k t j n o;cases h;obtain ⟨m,q⟩:=aof g d o (λ p e=>hs p (by simp [e]));refine ⟨by simp [m],λ i x y c hx hy f=>?_⟩;cases i with
    | zero=>
      simp at hx hy;subst hx; subst hy;exact aw9 g d n (λ p e=>hs p (by simp [e])) f
    | succ i=>
      simp at hx hy;exact q i x y c hx hy f
   cases h
theorem ah7 {u m:Nat} {ids:List Nat} {c:Bool} (h:okC u ids m l c=true):ids.length<=m/\(∀i j,i<m->j<m->m5 u ids i=m5 u ids j->i=j)/\100000+1000*u+m<=1000000/\(c=false->∀i,i∈l->i∉ids):=by
 simp only [okC,Bool.and_eq_true,decide_eq_true_eq,Bool.or_eq_true] at h;obtain ⟨⟨⟨k,g⟩,o⟩,a⟩:=h;refine ⟨k,λ i j b q e=>?_,o,λ d i b n=>?_⟩
 ·have f:((zag m).map (m5 u ids))[i]?=some (m5 u ids i):=by simp [b]
  have p:((zag m).map (m5 u ids))[j]?=some (m5 u ids i):=by simp [q,e]
  exact yi g f p
 rw [d] at a;simp at a;exact a i b n
theorem aaf:∀{xs ys:List Ob},k7 xs ys->∀(k:Nat) (o o':Ob),xs[k]?=some o->ys[k]?=some o'->aqr o o'
 | [],_,_,k,c,c',h,_=>by simp at h
 | _::_,[],_,k,c,c',_,h=>by simp at h
 | x::xs,y::ys,hs,0,c,c',h,h'=>by
   simp at h h';subst h; subst h';cases x with
   | row sz z app wr l=>
     cases app with
     | true=>exact .inl rfl
     | false=>
       cases y with
       | row sz' z' app' wr' l'=>
         cases app' with
         | true=>exact hs.elim
         | false=>obtain ⟨⟨rfl,h⟩,_⟩:=hs; exact .inr ⟨_,_,_,rfl,h⟩
       | _=>exact hs.elim
   | _=>cases y<;>first | exact hs.1 | exact hs.elim | trivial
 | x::xs,y::ys,hs,k+1,c,c',h,h'=>by
   simp at h h'
   have:k7 xs ys:=by
    cases x with
    | row sz z app wr l=>
      cases app with
      | true=>cases y<;>exact hs
      | false=>
        cases y with
        | row sz' z' app' wr' l'=>
          cases app' with
          | true=>exact hs.elim
          | false=>exact hs.2
        | _=>exact hs.elim
    | _=>cases y<;>first | exact hs.2 | exact hs.elim | exact hs
   exact aaf this k c c' h h'
theorem abv {f:FuncId} {u:Nat} {K:AV->Obs->Prop} {vs:List AV} {d:Array Value} (N:Gam X s ρ a w) (g:jo P f u s.ob vs [] true K) (R:d.size=vs.length) (F:∀(i:Nat) (x:AV) (c:Value),vs[i]?=some x->d[i]?=some c->RA X s ρ w x c) :
 Calls P f d w λ e w'=>∃c v ob' ρ',e=.returned c/\K v ob'/\Gam X ⟨s.e,ob'⟩ ρ' a w'/\RA X ⟨s.e,ob'⟩ ρ' w' v c:=by
 unfold jo at g;generalize z6:s9 s.ob 64 (o4 vs) []=ids at g;unfold aat at g;split at g
 ·cases g
 rename_i po j;obtain ⟨res,U,S,q,p,L,H⟩:=g;obtain ⟨J,O,G,T⟩:=ah7 q
 have n:∀b,j8 X.B s.ob ρ w b->∀i,i∈ids->¬oy s.ob ρ i b:=λ b l i E o=>by
  obtain ⟨A,m⟩:=xe j;obtain ⟨k,z⟩:=zab.1 E;have D:=(zaa.1 z).1;obtain ⟨v,x,r,Q,V⟩:=m k i (po[k]'(by omega)) z (by simp [show k<po.length by omega]);obtain ⟨y,t,C⟩:=o;rw [r] at t;cases t;exact l.2.1 ⟨i,v,x,r,Q,C⟩
 refine (Gam.call (s:=s) (Bc:=λ b=>j8 X.B s.ob ρ w b\/(∃i,i∈ids/\oy s.ob ρ i b)\/w.heap.size<=b) (Ra:=j8 X.B s.ob ρ w) N j S J O G R (λ i x c hx hc=>F i x c hx hc)
  (λ b l=>⟨l.1,.inl l,n b l⟩) (λ _ h=>.inl h) (λ _ h=>.inr h) (aaf p) (.inr λ _ h=>h)).mono ?_
 rintro e w' ⟨c,ρ',rfl,I,M⟩;exact ⟨c,_,_,ρ',rfl,H,I,M⟩
theorem Gam.boxify (t:Gam X s ρ a w) {id v:Nat} {z:RV} {vs:List Value} (l:s.ob id=some (v,.row 1 z true true (vs.map RV.v))) (G:vs≠[]) :
 ∃m,Gam X ⟨s.e,upd id (v,.box (vs.map (λ x=>AV.r (.v x))++zah m .undef)) s.ob⟩ ρ a w /\
  Stays w w (j8 X.B s.ob ρ w) (j8 X.B (upd id (v,.box (vs.map (λ x=>AV.r (.v x))++zah m .undef)) s.ob) ρ w) s.ob (upd id (v,.box (vs.map (λ x=>AV.r (.v x))++zah m .undef)) s.ob) ρ ρ:=by
 rcases t.obj id v _ l with ⟨Q,_⟩ | ⟨b,cs,e,fr,U,Y,Z,V,W,S⟩
 ·simp at Q; exact absurd Q G
 obtain rfl:fr=(0,0):=V rfl;have O:vs.length<=cs.size:=by simpa using W
 refine ⟨cs.size-vs.length,?_⟩;generalize E:vs.map (λ x=>AV.r (.v x))++zah (cs.size-vs.length) AV.undef=q;have K:q.length=cs.size:=by rw [<- E]; simp; omega
 have D:∀c,j8 X.B s.ob ρ w c->j8 X.B (upd id (v,.box q) s.ob) ρ w c:=λ c hc=>⟨hc.1,λ ⟨j,A,o,k,u,C⟩=>by
  by_cases p:j=id
  ·subst p;simp [upd] at k;obtain ⟨rfl,rfl⟩:=k;rw [el rfl] at C;exact hc.2.1 ⟨j,v,_,l,rfl,by rw [el rfl]; exact C⟩
  simp only [upd,p,if_false] at k
  exact hc.2.1 ⟨j,A,o,k,u,C⟩,hc.2.2⟩
 have P:Stays w w (j8 X.B s.ob ρ w) (j8 X.B (upd id (v,.box q) s.ob) ρ w) s.ob (upd id (v,.box q) s.ob) ρ ρ:=by
  refine ⟨λ c hc=>⟨D c hc,rfl⟩,λ j A o p=>?_⟩;by_cases d:j=id
  ·subst d;rw [l] at p;cases p;exact ⟨v,.box q,by simp [upd],zac _,λ _=>⟨rfl,rfl,λ b cs e fr _ h=>⟨cs,e,fr,h,rfl⟩⟩⟩
  exact ⟨A,o,by simp [upd,d,p],zac _,λ _=>⟨rfl,z9.refl o,λ b cs e fr _ h=>⟨cs,e,fr,h,rfl⟩⟩⟩
 have f:∀j x c,upd id (v,Ob.box q) s.ob j=some x->foot ρ j x.2 c->∃y,s.ob j=some y/\foot ρ j y.2 c:=λ j x c hx n=>by
  by_cases d:j=id
  ·subst d;simp [upd] at hx;subst hx;rw [el rfl] at n;exact ⟨_,l,by rw [el rfl]; exact n⟩
  simp only [upd,d,if_false] at hx;exact ⟨x,hx,n⟩
 refine ⟨t.step P (λ j A o h=>?_) (λ i j x x' c hx L n H=>?_) t.keeps (λ j A o c h n=>?_) (λ j c o h hc T M=>?_),P⟩
 ·by_cases d:j=id
  ·subst d;simp [upd] at h;obtain ⟨rfl,rfl⟩:=h;refine .inr ⟨b,cs,e,U,Y,K.symm,λ i x c hx hc=>?_⟩;rw [<- E] at hx;by_cases F:i<vs.length
   ·rw [List.getElem?_append_left (by simpa using F)] at hx;have I:(vs.map RV.v)[i]?=some (.v vs[i]):=by simp [F]
    obtain ⟨_,g⟩:=S i _ I;obtain ⟨c',k,u,C⟩:=g 0 (.v vs[i]) rfl;rw [Nat.mul_one,Nat.add_zero,hc] at k;cases k;simp [F] at hx;subst hx;exact .r (C.mono λ b M=>⟨D b M,rfl⟩)
   rw [List.getElem?_append_right (by simpa using F)] at hx;have:=zae hx;rw [List.mem_replicate] at this;rw [this.2];exact .undef _
  simp only [upd,d,if_false] at h;exact .inl ⟨h,rfl,λ _=>rfl,λ _ _=>rfl⟩
 ·obtain ⟨y,k,u⟩:=f i x c hx n;obtain ⟨R,J,N⟩:=f j x' c L H;exact t.inj i j y R c k J u N
 ·obtain ⟨y,k,u⟩:=f j _ c h n;exact t.own j y.1 y.2 c k u
 by_cases d:j=id
 ·subst d;rw [t.unpinned l rfl] at h;cases h
 exact ⟨M,o,by simp [upd,d,hc],T⟩
theorem aeg {f:FuncId} {u:Nat} {K:AV->Obs->Prop} {vs:List AV} {d:Array Value} (G:Gam X s ρ a w) (h:ab6 P f u s.ob K vs (q7 s.ob vs)) (T:d.size=vs.length) (S:∀(i:Nat) (x:AV) (c:Value),vs[i]?=some x->d[i]?=some c->RA X s ρ w x c) :
 Calls P f d w λ e w'=>∃c v ob' ρ',e=.returned c/\K v ob'/\Gam X ⟨s.e,ob'⟩ ρ' a w'/\RA X ⟨s.e,ob'⟩ ρ' w' v c:=by
 have n:∀(as:List AV) (l:List Nat),q7 s.ob vs=some (as,l)->jo P f u (freeze s.ob l) as l true K->Calls P f d w λ e w'=>∃c v ob' ρ',e=.returned c/\K v ob'/\Gam X ⟨s.e,ob'⟩ ρ' a w'/\RA X ⟨s.e,ob'⟩ ρ' w' v c:=by
  intro as l D g;have h0:=Gam.freeze (s:=s) l (ob:=s.ob) G;unfold jo at g;generalize z6:s9 (freeze s.ob l) 64 (o4 as) []=ids at g;unfold aat at g;split at g
  ·cases g
  rename_i po p;obtain ⟨res,ro,hT,O,N,Z,hK⟩:=g;obtain ⟨k1,k2,k3,k4⟩:=ah7 O
  have I:∀b,j8 X.B (freeze s.ob l) ρ w b->∀i,i∈ids->¬oy (freeze s.ob l) ρ i b:=λ b t i Q J=>by
   obtain ⟨U,C⟩:=xe p;obtain ⟨k,H⟩:=zab.1 Q;have o:=(zaa.1 H).1;obtain ⟨v,x,A,E,g3⟩:=C k i (po[k]'(by omega)) H (by simp [show k<po.length by omega]);obtain ⟨y,L,V⟩:=J;rw [A] at L;cases L;exact t.2.1 ⟨i,v,x,A,E,V⟩
  obtain ⟨A,E⟩:=aof (s:=⟨s.e,freeze s.ob l⟩) h0 rfl D (λ _ h=>h)
  refine (Gam.call (s:=⟨s.e,freeze s.ob l⟩) (Bc:=λ b=>j8 X.B (freeze s.ob l) ρ w b\/(∃i,i∈ids/\oy (freeze s.ob l) ρ i b)\/w.heap.size<=b) (Ra:=j8 X.B (freeze s.ob l) ρ w) h0 p hT k1 k2 k3 (by rw [A,T]) (λ i x c hx hc=>?_)
   (λ b t=>⟨t.1,.inl t,I b t⟩) (λ _ h=>.inl h) (λ _ h=>.inr h) (aaf N) (.inr λ _ h=>h)).mono ?_
  ·have o:=(zaa.1 hx).1;have W:vs[i]?=some (vs[i]'(by omega)):=by simp [show i<vs.length by omega]
   exact E i _ x c W hx (aeb l (S i _ c W hc))
  rintro e w' ⟨c,ρ',rfl,F,M⟩;exact ⟨c,_,_,ρ',rfl,hK,F,M⟩
 have h4:∀(as:List AV) (l:List Nat),q7 s.ob vs=some (as,l)->jo P f u s.ob as l false K->Calls P f d w λ e w'=>∃c v ob' ρ',e=.returned c/\K v ob'/\Gam X ⟨s.e,ob'⟩ ρ' a w'/\RA X ⟨s.e,ob'⟩ ρ' w' v c:=by
  intro as l D g;unfold jo at g;generalize z6:s9 s.ob 64 (o4 as) []=ids at g;unfold aat at g;split at g
  ·cases g
  rename_i po p;obtain ⟨res,ro,hT,O,N,Z,hK⟩:=g;obtain ⟨k1,k2,k3,k4⟩:=ah7 O
  have I:∀b,j8 X.B s.ob ρ w b->b<w.heap.size/\∀i,i∈ids->¬oy s.ob ρ i b:=λ b t=>⟨t.1,λ i Q J=>by
   obtain ⟨U,C⟩:=xe p;obtain ⟨k,H⟩:=zab.1 Q;have o:=(zaa.1 H).1;obtain ⟨v,x,A,E,g3⟩:=C k i (po[k]'(by omega)) H (by simp [show k<po.length by omega]);obtain ⟨y,L,V⟩:=J;rw [A] at L;cases L
   exact t.2.1 ⟨i,v,x,A,E,V⟩⟩
  have Y:∀i,i∈l->∀b,ρ i=some b->b<w.heap.size->b<w.heap.size/\∀j,j∈ids->¬oy s.ob ρ j b:=λ i Q b t o=>⟨o,λ j hj h5=>by
   obtain ⟨q,g⟩:=aoe D i Q;obtain ⟨U,C⟩:=xe p;obtain ⟨k,H⟩:=zab.1 hj;have o:=(zaa.1 H).1;obtain ⟨v,x,A,E,g3⟩:=C k j (po[k]'(by omega)) H (by simp [show k<po.length by omega]);obtain ⟨y,L,V⟩:=h5;have:=G.inj i j _ _ b g L (.inl t) V;subst this
   exact k4 rfl i Q hj⟩
  obtain ⟨A,E⟩:=aod G (R:=λ b=>b<w.heap.size/\∀i,i∈ids->¬oy s.ob ρ i b) I D Y;refine (Gam.call (Bc:=λ _=>True) (Ra:=λ b=>b<w.heap.size/\∀i,i∈ids->¬oy s.ob ρ i b) G p hT k1 k2 k3 (by rw [A,T]) (λ i x c hx hc=>?_) (λ b t=>⟨t.1,trivial,t.2⟩) (λ _ _=>trivial) (λ _ _=>trivial) (aaf N) (.inl (Z rfl))).mono ?_
  ·have o:=(zaa.1 hx).1;have W:vs[i]?=some (vs[i]'(by omega)):=by simp [show i<vs.length by omega]
   exact E i _ x c W hx (S i _ c W hc)
  rintro e w' ⟨c,ρ',rfl,F,M⟩;exact ⟨c,_,_,ρ',rfl,hK,F,M⟩
 rcases D:q7 s.ob vs with _ | ⟨as,_ | ⟨i,l⟩⟩
 ·rw [D] at h; exact abv G h T S
 ·rw [D] at h; exact n as [] D h
 rw [D] at h;rcases h with h | h | h | h | h
 ·exact n as _ D h
 ·exact h4 as _ D h
 ·exact abv G h T S
 ·obtain ⟨id,v,z,xs,F,M,h3⟩:=h;obtain ⟨m,A,E⟩:=G.boxify F M;exact abv (s:=⟨s.e,upd id (v,.box (xs.map (λ x=>AV.r (.v x))++zah m .undef)) s.ob⟩) A (h3 m) T λ i x c hx hc=>(S i x c hx hc).stays E
 obtain ⟨id,v,sz,z,xs,F,M,h3⟩:=h;exact abv (s:=⟨s.e,upd id (v,.row sz z false true xs) s.ob⟩) (G.shut1 F M) h3 T λ i x c hx hc=>(S i x c hx hc).stays (Stays.shut1 (X:=X) (w:=w) (ρ:=ρ) F)
end

structure Lg where
 us:List Nat
 d:List Nat
 rd:List Nat
 wr:List Nat
 ad:Bool
 st:Bool
instance:Inhabited Lg:=⟨⟨[],[],[],[],false,false⟩⟩
def PX.adr:PX->Bool
 | .see o=>o.adr
 | _=>false
def PX.sto:PX->Bool
 | .act (.st _ _ _)=>true
 | _=>false
structure Out where
 ok:Prop
 st:St
 lg:Lg
abbrev Ans:=AV×List Ob
def PX.us:PX->List Nat
 | .see o=>o.us
 | .act o=>o.us
 | .call _ xs=>usL xs
 | .callv x xs=>x.us++usL xs
 | .inv _ x xs=>x.us++usL xs
 | .nxt x=>x.us
def gus:Option (Nat×Bool)->List Nat
 | none=>[]
 | some (t,_)=>[t]
def PR.lg (r:PR) (rd a:List Nat):Lg:=⟨gus r.g++(r.x.us++r.d.toList),r.d.toList,rd,a,r.x.adr,r.x.sto⟩
def cz (u:Nat) (ids:List Nat) (m:Nat):List Nat:=(zag m).map (m5 u ids)
def ade (P:Program) (r:PR) (s:St) (f:FuncId) (p:Prop) (c:Ans) (as:List AV) (l:List Nat) (a:Bool) (ids:List Nat):Option (List Ob)->Out
 | none=>⟨False,s,r.lg [] []⟩
 | some po=>⟨p/\a9 P f (imL (fwd s.ob ids) as) po c.1 c.2/\okC r.u ids c.2.length l a=true/\k7 po c.2/\(a=false->u7 c.1/\∀o∈c.2,gu o),
  ⟨s8 r.d (imV (back s.ob r.u ids c.2.length) c.1) s.e,bw s.ob r.u ids (back s.ob r.u ids c.2.length) 0 c.2⟩,r.lg (l++(ids++cz r.u ids c.2.length)) (cz r.u ids c.2.length)⟩
def bj (vs:List AV):Option (List AV×List Nat)->List AV×List Nat×Bool
 | none=>(vs,o4 vs,true)
 | some (as,[])=>(as,[],true)
 | some (as,i::l)=>(as,i::l,false)
def ak (P:Program) (r:PR) (s:St) (f:FuncId) (p:Prop) (c:Ans) (a:List AV×List Nat×Bool):Out:=
 ade P r s f p c a.1 a.2.1 a.2.2 (s9 s.ob 64 (o4 a.1) []) (v9 (fwd s.ob (s9 s.ob 64 (o4 a.1) [])) s.ob (s9 s.ob 64 (o4 a.1) []))
def vj (P:Program) (r:PR) (s:St) (p:Prop) (c:Ans) (vs:List AV):AV->Out
 | .fn (.func f) cap k=>ak P r s f (p/\zl P f=true) c (bj (cap.take k++(vs++cap.drop k)) (q7 s.ob (cap.take k++(vs++cap.drop k))))
 | _=>⟨False,s,r.lg [] []⟩
def qt (P:Program) (r:PR) (s:St) (tbl:List (TypeId×FuncId)) (p:Prop) (c:Ans) (vs:List AV):AV->Out
 | .ifc t x=>match db t tbl with
   | some f=>ak P r s f p c (bj (x::vs) (q7 s.ob (x::vs)))
   | none=>⟨False,s,r.lg [] []⟩
 | _=>⟨False,s,r.lg [] []⟩
def PX.out (P:Program) (r:PR) (s:St) (c:Ans):PX->Option Bool->Out
 | _,none=>⟨False,s,r.lg [] []⟩
 | .see o,some b=>⟨(o.see b s.e s.ob).ok,⟨s8 r.d (gdv r.g b (o.see b s.e s.ob).v) s.e,s.ob⟩,r.lg (o.see b s.e s.ob).rd []⟩
 | .act o,some true=>⟨(o.act (r.d.getD 0) s.e s.ob).ok,⟨s8 r.d (o.act (r.d.getD 0) s.e s.ob).v s.e,(o.act (r.d.getD 0) s.e s.ob).ob⟩,r.lg (o.act (r.d.getD 0) s.e s.ob).rd (o.act (r.d.getD 0) s.e s.ob).wr⟩
 | .call f xs,some true=>ak P r s f (bi true s.e xs) c (bj (n6 s.e xs) (q7 s.ob (n6 s.e xs)))
 | .callv x xs,some true=>vj P r s ((x.ev s.e).may true/\bi true s.e xs) c (n6 s.e xs) (x.ev s.e).bare
 | .inv tbl x xs,some true=>qt P r s tbl ((x.ev s.e).may true/\bi true s.e xs) c (n6 s.e xs) (x.ev s.e).bare
 | .nxt _,some true=>⟨False,s,r.lg [] []⟩
 | _,some false=>⟨True,⟨s8 r.d .undef s.e,s.ob⟩,r.lg [] []⟩
def PR.out (P:Program) (r:PR) (s:St) (c:Ans):Out:=r.x.out P r s c (yes s.e r.g)
section
variable {P:Program} {s s':St} {ob ob':Obs} {c:Ans} {r:PR}
theorem ain {f:FuncId} {p:Prop} {K:St->Prop} {vs:List AV} {a:Option (List AV×List Nat)} (h:(ak P r s f p c (bj vs a)).ok) (b:K (ak P r s f p c (bj vs a)).st):p/\ab6 P f r.u s.ob (λ v ob=>K ⟨s8 r.d v s.e,ob⟩) vs a:=by
 have j:∀(as:List AV) (l:List Nat) (m:Bool),(ak P r s f p c (as,l,m)).ok->K (ak P r s f p c (as,l,m)).st->p/\jo P f r.u s.ob as l m (λ v ob=>K ⟨s8 r.d v s.e,ob⟩):=λ as l m h b=>by
  simp only [ak] at h b;generalize z6:s9 s.ob 64 (o4 as) []=ids at h b;rcases hpo:v9 (fwd s.ob ids) s.ob ids with _ | po
  ·rw [hpo] at h; exact h.elim
  rw [hpo] at h b;obtain ⟨k,g,z,o,x⟩:=h;refine ⟨k,?_⟩;unfold jo;rw [z6,hpo];exact ⟨_,_,g,z,o,x,b⟩
 rcases a with _ | ⟨as,_ | ⟨i,l⟩⟩
 ·obtain ⟨k,g⟩:=j vs (o4 vs) true h b;refine ⟨k,?_⟩;show jo P f r.u s.ob vs [] true _;unfold jo aat at g |-;split at g
  ·exact g.elim
  obtain ⟨q,w,y,n,t⟩:=g;refine ⟨q,w,y,?_,t⟩;unfold okC at n |-;simpa using n
 ·exact j as [] true h b
 obtain ⟨k,g⟩:=j as (i::l) false h b;exact ⟨k,Or.inr (Or.inl g)⟩
theorem a2u {K:St->Prop} (h:(r.out P s c).ok) (a:K (r.out P s c).st):r.wp P s K (yes s.e r.g):=by
 rcases r with ⟨d,g,u,x⟩
 unfold PR.out at h a;simp only at h a |-;generalize yes s.e g=y at h a |-;rcases y with _ | b
 ·have h:False:=by cases x<;>exact h
  exact h.elim
 simp only [PR.wp];cases x with
 | see o=>exact ⟨h,a⟩
 | act o=>cases b with
   | true=>exact ⟨λ _=>⟨h,a⟩,by simp⟩
   | false=>exact ⟨by simp,λ _=>a⟩
 | call f xs=>cases b with
   | true=>exact ⟨λ _=>ain h a,by simp⟩
   | false=>exact ⟨by simp,λ _=>a⟩
 | callv x xs=>cases b with
   | true=>
     refine ⟨λ _=>?_,by simp⟩;simp only [PX.out] at h a;generalize (x.ev s.e).bare=y at h a |-;cases y with
     | fn f cap k=>cases f with
       | func f=>
         have:=ain (vs:=cap.take k++(n6 s.e xs++cap.drop k)) h a;exact ⟨this.1.1.1,this.1.1.2,this.1.2,this.2⟩
       | _=>exact (show False from h).elim
     | _=>exact (show False from h).elim
   | false=>exact ⟨by simp,λ _=>a⟩
 | inv tbl x xs=>cases b with
   | true=>
     refine ⟨λ _=>?_,by simp⟩;simp only [PX.out] at h a;generalize (x.ev s.e).bare=y at h a |-;cases y with
     | ifc t y=>
       simp only [qt,ag7] at h a |-;generalize db t tbl=q at h a |-;cases q with
       | some f=>
         have:=ain (vs:=y::n6 s.e xs) h a;exact ⟨this.1.1,this.1.2,this.2⟩
       | none=>exact (show False from h).elim
     | _=>exact (show False from h).elim
   | false=>exact ⟨by simp,λ _=>a⟩
 | nxt x=>cases b with
   | true=>exact (show False from h).elim
   | false=>exact ⟨by simp,λ _=>a⟩
theorem ar3 {x y:AV} (h:gm ob x=some (y,l)) (b:ct ob ob' l):gm ob' x=some (y,l):=by
 cases x with
 | own id ver lo len=>
   simp only [gm] at h |-;split at h
   ·rename_i d c a;cases h;rw [ah0 a b]
   cases h
 | agg xs=>
   simp only [gm] at h |-;split at h
   ·rename_i d c a;cases h;rw [abu a b]
   cases h
 | _=>exact h
theorem aei:∀{xs ys:List AV} {l:List Nat},q7 ob xs=some (ys,l)->ct ob ob' l->q7 ob' xs=some (ys,l)
 | [],ys,l,h,hs=>h
 | x::xs,ys,l,h,hs=>by
   simp only [q7] at h |-;split at h
   ·rename_i y k e j b d;cases h;obtain ⟨a,c⟩:=aa1 hs;rw [ar3 b a,aei d c]
   cases h
theorem adq:∀(n:Nat) (a b:List Nat) (i:Nat),i∈b->i∈s9 ob n a b
 | 0,a,b,i,h=>h
 | n+1,[],b,i,h=>h
 | n+1,j::a,b,i,h=>by
   unfold s9;split
   ·exact adq n a b i h
   exact adq n _ _ i (by simp [h])
theorem aca:∀(n:Nat) (a b:List Nat),ct ob ob' (s9 ob n a b)->s9 ob' n a b=s9 ob n a b
 | 0,a,b,hs=>rfl
 | n+1,[],b,hs=>rfl
 | n+1,j::a,b,hs=>by
   unfold s9 at hs |-;split
   ·rename_i hc;rw [if_pos hc] at hs;exact aca n a b hs
   rename_i hc;rw [if_neg hc] at hs;rw [hs j (adq n _ _ j (by simp))];exact aca n _ _ hs
theorem a0f {k:Nat} (h:idx i l=some k):i∈l:=zae (ad8 h)
theorem alo {ids:List Nat} (a:ct ob ob' ids):fwd ob' ids=fwd ob ids:=by
 funext id ver;unfold fwd;split
 ·rename_i k b;rw [a id (a0f b)]
 rfl
theorem ag9 {F:Ren}:∀{ids:List Nat},ct ob ob' ids->v9 F ob' ids=v9 F ob ids
 | [],hs=>rfl
 | i::ids,hs=>by
   simp only [v9];rw [hs i (by simp),ag9 (λ j a=>hs j (by simp [a]))]
theorem at1 {u m k:Nat} {ids:List Nat} (h:k<m):m5 u ids k∈cz u ids m:=by
 simp only [cz,List.mem_map,List.mem_range];exact ⟨k,h,rfl⟩
theorem aj4 {u m k:Nat} {ids:List Nat} (b:ct ob ob' (cz u ids m)) (h:k<m):fu ob' u ids k=fu ob u ids k:=by
 have:=b _ (at1 (u:=u) (ids:=ids) h);unfold fu;unfold m5 at this;split
 ·rename_i i a;rw [a] at this;simp only at this;rw [this];rcases ob i with _ | ⟨v,_ | _⟩<;>rfl
 rename_i a;rw [a] at this;exact aa6 this
theorem ar1 {u m:Nat} {ids:List Nat} (a:ct ob ob' (cz u ids m)):back ob' u ids m=back ob u ids m:=by
 funext id ver;unfold back;split
 ·rename_i h;rw [aj4 a h.2.2]
 rfl
theorem ai4 {u m:Nat} {ids:List Nat} {F:Ren} (e:ct ob ob' (cz u ids m)):∀{os:List Ob} {k:Nat},k+os.length<=m ->
 (∀j,k<=j->j<k+os.length->bw ob' u ids F k os (m5 u ids j)=bw ob u ids F k os (m5 u ids j))/\(∀i,(∀j,k<=j->j<k+os.length->i≠m5 u ids j)->bw ob' u ids F k os i=ob' i)
 | [],k,h=>⟨λ j c a=>by simp at a; omega,λ i h=>rfl⟩
 | o::os,k,h=>by
   simp at h;obtain ⟨f,g⟩:=ai4 (F:=F) e (os:=os) (k:=k+1) (by omega);refine ⟨λ j c a=>?_,λ i d=>?_⟩
   ·simp at a;simp only [bw,upd,aj4 e (show k<m by omega)];split
    ·rfl
    rename_i b;refine f j ?_ (by omega);rcases Nat.lt_or_ge k j with h | h
    ·omega
    have:j=k:=by omega
    subst this; exact (b rfl).elim
   simp only [bw,upd];rw [if_neg (d k (zac _) (by simp))];exact g i λ j c a=>d j (by omega) (by simp; omega)
theorem tj {d:Option Nat} {x:AV} {e e':Env} {t:Nat} (h:t∈d.toList):s8 d x e' t=s8 d x e t:=by
 cases d with
 | none=>simp at h
 | some d=>simp at h; subst h; simp [s8,put]
theorem ix {d:Option Nat} {x:AV} {e:Env} {t:Nat} (h:t∉d.toList):s8 d x e t=e t:=by
 cases d with
 | none=>rfl
 | some d=>simp at h; simp [s8,put,h]
theorem asa {g:Option (Nat×Bool)} {e e':Env} (h:∀t,t∈gus g->e' t=e t):yes e' g=yes e g:=by
 cases g with
 | none=>rfl
 | some p=>simp only [yes,h p.1 (by simp [gus])]
def aoj (r:PR) (s s':St) (o o':Out):Prop:=
 o'.ok/\(∀t,t∈r.d.toList->o'.st.e t=o.st.e t)/\(∀t,t∉r.d.toList->o'.st.e t=s'.e t) /\
 (∀i,i∈o.lg.wr->i∈o.lg.rd/\o'.st.ob i=o.st.ob i)/\(∀i,i∉o.lg.wr->o'.st.ob i=s'.ob i)
theorem axu {x:AV} (h:∀i,i∈z6 x->ob' i=ob i):x.rv ob'=x.rv ob:=by
 cases x with
 | own id ver lo len=>simp only [AV.rv,l9,h id (by simp [z6])]
 | _=>rfl
theorem asy:∀{xs:List AV},(∀i,i∈o4 xs->ob' i=ob i)->rvs ob' xs=rvs ob xs
 | [],_=>rfl
 | x::xs,h=>by
   simp only [rvs];rw [axu (λ i a=>h i (by simp [o4,a])),asy (λ i a=>h i (by simp [o4,a]))]
theorem a09 {x:AV} (h:∀i,i∈z6 x->ob' i=ob i):gm ob' x=gm ob x:=by
 cases x with
 | own id ver lo len=>simp only [gm]; rw [axu h]
 | agg xs=>simp only [gm]; rw [asy (λ i a=>h i (by simpa [z6] using a))]
 | _=>rfl
theorem aqm:∀{xs:List AV},(∀i,i∈o4 xs->ob' i=ob i)->q7 ob' xs=q7 ob xs
 | [],_=>rfl
 | x::xs,h=>by
   simp only [q7];rw [a09 (λ i a=>h i (by simp [o4,a])),aqm (λ i a=>h i (by simp [o4,a]))]
theorem agb {f:FuncId} {p:Prop} {as:List AV} (h:(ak P r s f p c (bj as (q7 s.ob as))).ok) (g:ct s.ob s'.ob (ak P r s f p c (bj as (q7 s.ob as))).lg.rd) :
 aoj r s s' (ak P r s f p c (bj as (q7 s.ob as))) (ak P r s' f p c (bj as (q7 s'.ob as))):=by
 have q:∀(a:List AV×List Nat×Bool),(ak P r s f p c a).ok->ct s.ob s'.ob (ak P r s f p c a).lg.rd->(ct s.ob s'.ob a.2.1->bj as (q7 s'.ob as)=a)->aoj r s s' (ak P r s f p c a) (ak P r s' f p c (bj as (q7 s'.ob as))):=λ a h g d=>by
  obtain ⟨n,l,C⟩:=a;simp only [ak] at h g |-;rcases hpo:v9 (fwd s.ob (s9 s.ob 64 (o4 n) [])) s.ob (s9 s.ob 64 (o4 n) []) with _ | po
  ·rw [hpo] at h; exact (show False from h).elim
  rw [hpo] at h g;simp only [ade,PR.lg] at g;obtain ⟨B,e⟩:=aa1 g;obtain ⟨e,y⟩:=aa1 e;rw [d B];simp only;rw [aca 64 (o4 n) [] e];generalize s9 s.ob 64 (o4 n) []=ids at *;rw [alo e,ag9 e,hpo];simp only [ade,PR.lg] at h |-;rw [alo e,ar1 y];have w:=ai4 (F:=back s.ob r.u ids c.2.length) y (os:=c.2) (k:=0) (by simp);have x:∀i,i∈cz r.u ids c.2.length↔∃j,j<c.2.length/\m5 r.u ids j=i:=λ i=>by simp [cz]
  refine ⟨h,λ t o=>tj o,λ t o=>ix o,λ i b=>⟨by simp [b],?_⟩,λ i b=>?_⟩
  ·obtain ⟨j,z,rfl⟩:=(x i).1 b;exact w.1 j (Nat.zero_le _) (by simpa using z)
  refine w.2 i λ j m A v=>b ((x i).2 ⟨j,by simpa using A,v.symm⟩)
 refine q _ h g λ m=>?_;rcases d:q7 s.ob as with _ | ⟨n,_ | ⟨i,l⟩⟩
 ·rw [d] at m;rw [aqm (ob:=s.ob) (λ i b=>m i b),d]
 ·rw [aei d (λ i b=>by simp at b)]
 rw [d] at m;rw [aei d m]
theorem auv {p:Prop} {vs:List AV} {y:AV} (h:(vj P r s p c vs y).ok) (a:ct s.ob s'.ob (vj P r s p c vs y).lg.rd):aoj r s s' (vj P r s p c vs y) (vj P r s' p c vs y):=by
 cases y with
 | fn f cap k=>cases f with
   | func f=>exact agb h a
   | _=>exact (show False from h).elim
 | _=>exact (show False from h).elim
theorem auw {tbl:List (TypeId×FuncId)} {p:Prop} {vs:List AV} {y:AV} (h:(qt P r s tbl p c vs y).ok) (a:ct s.ob s'.ob (qt P r s tbl p c vs y).lg.rd):aoj r s s' (qt P r s tbl p c vs y) (qt P r s' tbl p c vs y):=by
 cases y with
 | ifc t y=>
   simp only [qt] at h a |-;generalize db t tbl=q at h a |-;cases q with
   | some f=>exact agb h a
   | none=>exact (show False from h).elim
 | _=>exact (show False from h).elim
theorem aio {tbl:List (TypeId×FuncId)} {p:Prop} {vs:List AV} {y:AV}:∃rd a,(qt P r s tbl p c vs y).lg=r.lg rd a:=by
 cases y with
 | ifc t y=>
   simp only [qt];generalize db t tbl=q;cases q with
   | some f=>
     simp only;generalize bj (y::vs) (q7 s.ob (y::vs))=q;simp only [ak];generalize v9 _ _ _=po;cases po<;>exact ⟨_,_,rfl⟩
   | none=>exact ⟨_,_,rfl⟩
 | _=>exact ⟨_,_,rfl⟩
theorem akl (h:(r.out P s c).ok) (D:∀t,t∈(r.out P s c).lg.us->s'.e t=s.e t) (l:r.x.adr=false->ct s.ob s'.ob (r.out P s c).lg.rd) (n:au7 s.ob s'.ob (r.out P s c).lg.rd):aoj r s s' (r.out P s c) (r.out P s' c):=by
 rcases r with ⟨d,g,u,x⟩
 have C:(PR.out P ⟨d,g,u,x⟩ s c).lg.us=gus g++(x.us++d.toList):=by
  unfold PR.out;simp only;generalize yes s.e g=y;rcases y with _ | b
  ·cases x<;>rfl
  cases x with
  | see o=>rfl
  | act o=>cases b<;>rfl
  | call f xs=>cases b with
    | false=>rfl
    | true=>
      simp only [PX.out];generalize bj (n6 s.e xs) (q7 s.ob (n6 s.e xs))=q;simp only [ak];generalize v9 _ _ _=po;cases po<;>rfl
  | callv x xs=>cases b with
    | false=>rfl
    | true=>
      simp only [PX.out];generalize (x.ev s.e).bare=y;cases y with
      | fn f cap k=>cases f with
        | func f=>
          simp only [vj];generalize bj (cap.take k++(n6 s.e xs++cap.drop k)) (q7 s.ob (cap.take k++(n6 s.e xs++cap.drop k)))=q;simp only [ak];generalize v9 _ _ _=po;cases po<;>rfl
        | _=>rfl
      | _=>rfl
  | inv tbl x xs=>cases b with
    | false=>rfl
    | true=>
      simp only [PX.out];obtain ⟨rd,G,e⟩:=aio (P:=P) (r:=⟨d,g,u,.inv tbl x xs⟩) (s:=s) (c:=c) (tbl:=tbl) (p:=(x.ev s.e).may true/\bi true s.e xs) (vs:=n6 s.e xs) (y:=(x.ev s.e).bare);rw [e]
      rfl
  | nxt x=>cases b<;>rfl
 rw [C] at D;obtain ⟨z,j⟩:=bn D;obtain ⟨j,_⟩:=bn j;unfold PR.out at h l n |-;simp only at h l n z j |-;rw [asa z];generalize yes s.e g=y at h l n |-;rcases y with _ | b
 ·have h:False:=by cases x<;>exact h
  exact h.elim
 cases x with
 | see o=>
   simp only [PX.out] at h l n |-;rw [ay8 (show ∀t,t∈o.us->s'.e t=s.e t from j)]
   obtain ⟨A,B⟩:(o.see b s.e s'.ob).ok/\(o.see b s.e s'.ob).v=(o.see b s.e s.ob).v:=by
    cases hadr:o.adr with
    | true=>exact a4f hadr h n
    | false=>exact a15 h (l hadr)
   rw [B];exact ⟨A,λ t a=>tj a,λ t a=>ix a,λ i m=>by simp [PR.lg] at m,λ i m=>rfl⟩
 | act o=>replace l:=l rfl; cases b with
   | true=>
     simp only [PX.out] at h l |-;rw [a1g (show ∀t,t∈o.us->s'.e t=s.e t from j)];obtain ⟨A,B,F,E⟩:=a4g h l;simp only at A B F E;rw [B];exact ⟨A,λ t a=>tj a,λ t a=>ix a,F,E⟩
   | false=>exact ⟨trivial,λ t a=>tj a,λ t a=>ix a,λ i m=>by simp [PX.out,PR.lg] at m,λ i m=>rfl⟩
 | call f xs=>replace l:=l rfl; cases b with
   | true=>
     simp only [PX.out] at h l |-;rw [mw (show ∀t,t∈usL xs->s'.e t=s.e t from j),qh (show ∀t,t∈usL xs->s'.e t=s.e t from j)];exact agb h l
   | false=>exact ⟨trivial,λ t a=>tj a,λ t a=>ix a,λ i m=>by simp [PX.out,PR.lg] at m,λ i m=>rfl⟩
 | callv x xs=>replace l:=l rfl; cases b with
   | true=>
     obtain ⟨j,w⟩:=bn j;simp only [PX.out] at h l |-;rw [mw w,qh w,v4 j];exact auv h l
   | false=>exact ⟨trivial,λ t a=>tj a,λ t a=>ix a,λ i m=>by simp [PX.out,PR.lg] at m,λ i m=>rfl⟩
 | inv tbl x xs=>replace l:=l rfl; cases b with
   | true=>
     obtain ⟨j,w⟩:=bn j;simp only [PX.out] at h l |-;rw [mw w,qh w,v4 j];exact auw h l
   | false=>exact ⟨trivial,λ t a=>tj a,λ t a=>ix a,λ i m=>by simp [PX.out,PR.lg] at m,λ i m=>rfl⟩
 | nxt x=>cases b with
   | true=>exact (show False from h).elim
   | false=>exact ⟨trivial,λ t a=>tj a,λ t a=>ix a,λ i m=>by simp [PX.out,PR.lg] at m,λ i m=>rfl⟩
theorem apn (h:r.x.sto=true) (i:Nat):pin ((r.out P s c).st.ob i)=pin (s.ob i):=by
 rcases r with ⟨d,g,u,x⟩
 unfold PR.out;simp only;generalize yes s.e g=y;cases x with
 | act o=>cases o with
   | st n x1 x2=>
     rcases y with _ | b
     ·rfl
     cases b with
     | true=>exact a1z
     | false=>rfl
   | _=>cases h
 | _=>cases h
theorem atu:(r.out P s c).lg.ad=r.x.adr/\(r.out P s c).lg.st=r.x.sto:=by
 rcases r with ⟨d,g,u,x⟩
 unfold PR.out;simp only;generalize yes s.e g=y;rcases y with _ | b
 ·cases x<;>exact ⟨rfl,rfl⟩
 cases x with
 | see o=>exact ⟨rfl,rfl⟩
 | act o=>cases b<;>exact ⟨rfl,rfl⟩
 | call f xs=>cases b with
   | false=>exact ⟨rfl,rfl⟩
   | true=>
     simp only [PX.out];generalize bj (n6 s.e xs) (q7 s.ob (n6 s.e xs))=q;simp only [ak];generalize v9 _ _ _=po;cases po<;>exact ⟨rfl,rfl⟩
 | callv x xs=>cases b with
   | false=>exact ⟨rfl,rfl⟩
   | true=>
     simp only [PX.out];generalize (x.ev s.e).bare=y;cases y with
     | fn f cap k=>cases f with
       | func f=>
         simp only [vj];generalize bj (cap.take k++(n6 s.e xs++cap.drop k)) (q7 s.ob (cap.take k++(n6 s.e xs++cap.drop k)))=q;simp only [ak];generalize v9 _ _ _=po;cases po<;>exact ⟨rfl,rfl⟩
       | _=>exact ⟨rfl,rfl⟩
     | _=>exact ⟨rfl,rfl⟩
 | inv tbl x xs=>cases b with
   | false=>exact ⟨rfl,rfl⟩
   | true=>
     simp only [PX.out];obtain ⟨rd,a,e⟩:=aio (P:=P) (r:=⟨d,g,u,.inv tbl x xs⟩) (s:=s) (c:=c) (tbl:=tbl) (p:=(x.ev s.e).may true/\bi true s.e xs) (vs:=n6 s.e xs) (y:=(x.ev s.e).bare);rw [e];exact ⟨rfl,rfl⟩
 | nxt x=>cases b<;>exact ⟨rfl,rfl⟩
end

end Go.Ev

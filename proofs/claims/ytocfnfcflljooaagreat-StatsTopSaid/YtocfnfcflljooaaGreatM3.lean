import Derived.Lib.DecodeN
import Derived.Test.YtocfnfcflljooaaGreatM2
open List renaming getElem?_eq_some_iff → zaa, mem_iff_getElem? → zab, mem_of_getElem? → zae, range → zag, replicate → zah
open Nat renaming le_refl → zac
open Option renaming map_eq_some_iff → zad, some → zaf
namespace Go.Ev
set_option maxHeartbeats 8000000
set_option maxRecDepth 100000
open Go
set_option linter.unusedSectionVars false
set_option linter.unnecessarySimpa false
set_option linter.unusedSimpArgs false
set_option linter.unusedVariables false
abbrev Ren:=Nat->Nat->Option (Nat×Nat)
mutual
def imV (F:Ren):AV->AV
 | .r x=>.r x
 | .agg xs=>.agg (imL F xs)
 | .tup xs=>.tup (imL F xs)
 | .nils sz z=>.nils sz z
 | .own id ver lo len=>match F id ver with | some (i,v)=>.own i v lo len | none=>.undef
 | .ptr id ver off=>match F id ver with | some (i,v)=>.ptr i v off | none=>.undef
 | .oel id ver idx off=>match F id ver with | some (i,v)=>.oel i v idx off | none=>.undef
 | .rp ys=>.rp ys
 | .fn f xs k=>.fn f (imL F xs) k
 | .mp id ver=>match F id ver with | some (i,v)=>.mp i v | none=>.undef
 | .ifc t x=>.ifc t (imV F x)
 | .gd b x=>.gd b (imV F x)
 | .undef=>.undef
def imL (F:Ren):List AV->List AV
 | []=>[]
 | x::xs=>imV F x::imL F xs
end
def imO (F:Ren):Ob->Ob
 | .box cells=>.box (imL F cells)
 | .row sz z app wr xs=>.row sz z app wr xs
 | .abs T=>.abs T
 | .map es c=>.map es c
 | .iter m since seen st=>.iter (imV F m) since seen st
theorem qu (F:Ren):∀(xs:List AV) (i:Nat),(imL F xs)[i]?=(xs[i]?).map (imV F)
 | [],i=>by simp [imL]
 | x::xs,0=>by simp [imL]
 | x::xs,i+1=>by simp [imL,qu F xs i]
theorem cr (F:Ren):∀(xs:List AV),(imL F xs).length=xs.length
 | []=>by simp [imL]
 | x::xs=>by simp [imL,cr F xs]
section
variable {P:Program} {X Y:Cx} {w w':World} {s:St} {ρ ρ':Pl->Option Nat} {a:Act} {ob ob':Obs} {R R':Nat->Prop} {F:Ren}
def yw (ob ob':Obs) (ρ ρ':Pl->Option Nat) (F:Ren):Prop:=∀id ver i v,F id ver=some (i,v)->∃o o',ob id=some (ver,o)/\ob' i=some (v,o')/\ρ' i=ρ id/\t7 o o'
theorem t7.own {r len id n:Nat} {c:Value} {o o':Ob} (h:aa4 w ρ id r len c o) (d:t7 o o') (a:ρ' n=ρ id):aa4 w ρ' n r len c o':=by
 cases o with
 | box _=>
   cases o' with
   | box _=>
     obtain ⟨A,cap,q,k,l,f⟩:=h;refine ⟨A,cap,q,k,l,λ i=>?_⟩;obtain ⟨b,cs,e,fr,m,j,p,g⟩:=f i;exact ⟨b,cs,e,fr,by rw [a,m],j,p,g⟩
   | _=>exact d.elim
 | abs _=>exact h.elim
 | map _ _=>exact h.elim
 | iter _ _ _ _=>exact h.elim
 | row sz z1 a1 w1 xs=>
   cases o' with
   | box _=>
     obtain rfl:sz=1:=d;obtain ⟨A,cap,q,k,l,s,f⟩:=h;refine ⟨A,cap,q,k,l,λ i=>?_⟩;obtain ⟨b,cs,e,fr,m,j,p,g⟩:=f i;exact ⟨b,cs,e,fr,by rw [a,m],by rw [j,Nat.mul_one],p,by simpa using g⟩
   | abs _=>exact d.elim
   | map _ _=>exact d.elim
   | iter _ _ _ _=>exact d.elim
   | row sz' z2 a2 w2 xs'=>
     obtain ⟨rfl,d⟩:=d;obtain ⟨A,cap,q,k,l,s,f⟩:=h;refine ⟨A,cap,q,k,l,by omega,λ i=>?_⟩;obtain ⟨b,cs,e,fr,m,j,p,g⟩:=f i;exact ⟨b,cs,e,fr,by rw [a,m],j,p,g⟩
theorem RelA.im (A:∀b,R b->R' b) (p:yw ob ob' ρ ρ' F) {x:AV} {c:Value} (h:RelA w R ob ρ x c):RelA w R' ob' ρ' (imV F x) c:=by
 induction h with
 | r h0=>rw [imV]; exact .r (h0.mono λ b B=>⟨A b B,rfl⟩)
 | agg xs cs hl _ ih=>
   rw [imV];refine .agg _ cs (by rw [cr]; exact hl) λ i x c hx hc=>?_;rw [qu,zad] at hx;obtain ⟨y,hy,rfl⟩:=hx;exact ih i y c hy hc
 | tup xs cs hl _ ih=>
   rw [imV];refine .tup _ cs (by rw [cr]; exact hl) λ i x c hx hc=>?_;rw [qu,zad] at hx;obtain ⟨y,hy,rfl⟩:=hx;exact ih i y c hy hc
 | nils sz z=>rw [imV]; exact .nils sz z
 | own id ver lo len c hc ha=>
   rw [imV];split
   ·rename_i i v d;obtain ⟨o,o',m,l,e,a⟩:=p _ _ _ _ d;exact .own _ _ _ _ _ hc ⟨v,o',l,zac _,λ _=>t7.own (ha.live m) a e⟩
   exact .undef _
 | ptr id ver off c hc ha=>
   rw [imV];split
   ·rename_i i v d;obtain ⟨o,o',m,l,e,a⟩:=p _ _ _ _ d;exact .ptr _ _ _ _ hc ⟨v,o',l,zac _,λ _=>by rw [e]; exact ha.live m⟩
   exact .undef _
 | oel id ver idx off c hc ha=>
   rw [imV];split
   ·rename_i i v d;obtain ⟨o,o',m,l,e,a⟩:=p _ _ _ _ d;refine .oel _ _ _ _ _ hc ⟨v,o',l,zac _,λ _=>?_⟩;have n:=ha.live m;cases o with
    | box _=>
      cases o' with
      | box _=>
        obtain ⟨b,C,q⟩:=n;exact ⟨b,by rw [e]; exact C,q⟩
      | _=>exact a.elim
    | abs _=>exact n.elim
    | map _ _=>exact n.elim
    | iter _ _ _ _=>exact n.elim
    | row sz z1 a1 w1 xs=>
      cases o' with
      | box _=>
        obtain rfl:sz=1:=a;obtain ⟨C,q,b,u,D⟩:=n;exact ⟨b,by rw [e]; exact u,by rw [D,Nat.mul_one]⟩
      | abs _=>exact a.elim
      | map _ _=>exact a.elim
      | iter _ _ _ _=>exact a.elim
      | row sz' z2 a2 w2 xs'=>
        obtain ⟨rfl,a⟩:=a;obtain ⟨C,q,u⟩:=n;exact ⟨by omega,q,by rw [e]; exact u⟩
   exact .undef _
 | rp ys b o g hRb hg=>
   rw [imV];exact .rp ys b o g (A b hRb) λ j y s=>⟨(hg j y s).1,(hg j y s).2.1,(hg j y s).2.2.mono λ b B=>⟨A b B,rfl⟩⟩
 | fn f xs k fs cs hk hl _ ih=>
   rw [imV];refine .fn f _ k fs cs hk (by rw [cr]; exact hl) λ i x c hx hc=>?_;rw [qu,zad] at hx;obtain ⟨y,hy,rfl⟩:=hx;exact ih i y c hy hc
 | mp id ver c hc ha=>
   rw [imV];split
   ·rename_i i v d;obtain ⟨o,o',m,l,e,a⟩:=p _ _ _ _ d;exact .mp _ _ _ hc ⟨v,o',l,zac _,λ _=>by rw [e]; exact ha.live m⟩
   exact .undef _
 | ifc t _ ih=>rw [imV]; exact .ifc t ih
 | gd b _ d ih=>rw [imV]; exact .gd b ih d
 | undef c=>rw [imV]; exact .undef c
theorem ay.im (l:∀b,R b->R' b) (p:yw ob ob' ρ ρ' F) {id i:Nat} {x:Ob} (h:ay w R ob ρ id x) (a:ρ' i=ρ id) (k:∀j,ρ' (.s i j)=ρ (.s id j)):ay w R' ob' ρ' i (imO F x):=by
 cases x with
 | abs T=>
   obtain ⟨b,f,d⟩:=h;exact ⟨b,by rw [a,f],by simp only [k]; exact d⟩
 | map es clock=>
   obtain ⟨b,f,d⟩:=h;exact ⟨b,by rw [a,f],d⟩
 | iter m since seen st=>
   obtain ⟨b,m',f,d,g⟩:=h;exact ⟨b,m',by rw [a,f],d,g.im l p⟩
 | box cells=>
   obtain ⟨b,cs,e,f,d,g,n⟩:=h;refine ⟨b,cs,e,by rw [a,f],d,by rw [cr]; exact g,λ i x c hx hc=>?_⟩;rw [qu,zad] at hx;obtain ⟨y,hy,rfl⟩:=hx;exact (n i y c hy hc).im l p
 | row sz z app wr xs=>
   rcases h with ⟨f,d,g⟩ | ⟨b,cs,e,fr,f,d,g,n,A,q⟩
   ·exact .inl ⟨f,by rw [a,d],g⟩
   refine .inr ⟨b,cs,e,fr,by rw [a,f],d,g,n,A,λ i x o=>⟨(q i x o).1,λ j y r=>?_⟩⟩;obtain ⟨c,u,v,t⟩:=(q i x o).2 j y r;exact ⟨c,u,v,t.mono λ b B=>⟨l b B,rfl⟩⟩
theorem t7.im (F:Ren) (x:Ob):t7 x (imO F x):=by cases x<;>simp [t7,imO]
theorem ar (F:Ren) (x:Ob):(imO F x).isAbs=x.isAbs:=by cases x<;>rfl
theorem ze (F:Ren) (x:Ob):(imO F x).pinned=x.pinned:=by cases x<;>rfl
theorem afc (F:Ren) (x:Ob):(imO F x).isRow=x.isRow:=by cases x<;>rfl
theorem apl (F:Ren) (x:Ob):(imO F x).own=x.own:=by cases x<;>rfl
def idx:Nat->List Nat->Option Nat
 | _,[]=>none
 | i,j::l=>if i=j then some 0 else (idx i l).map (· + 1)
theorem abq {i:Nat}:∀{l:List Nat} {k:Nat},idx i l=some k->l[k]?=some i
 | [],k,h=>by cases h
 | j::l,k,h=>by
   unfold idx at h;split at h
   ·rename_i a; cases h; simp [a]
   rw [zad] at h;obtain ⟨m,b,rfl⟩:=h;simpa using abq b
def obs:Nat->List Ob->Obs
 | _,[]=>λ _=>none
 | k,o::os=>upd k (0,o) (obs (k+1) os)
theorem apq:∀{os:List Ob} {k id:Nat},id<k->obs k os id=none
 | [],k,id,h=>rfl
 | o::os,k,id,h=>by
   unfold obs upd;rw [if_neg (by omega)];exact apq (by omega)
theorem ajh:∀{os:List Ob} {k id:Nat},k<=id->obs k os id=(os[id-k]?).map λ o=>(0,o)
 | [],k,id,h=>by simp [obs]
 | o::os,k,id,h=>by
   unfold obs upd;by_cases a:id=k
   ·subst a; simp
   rw [if_neg a,ajh (by omega),show id-k=(id-(k+1))+1 by omega];simp
abbrev ob0 (po:List Ob):Obs:=obs 1000000 po
theorem pw {po:List Ob} {id:Nat} {x:Nat×Ob} (h:ob0 po id=some x):1000000<=id/\po[id-1000000]?=some x.2/\x.1=0:=by
 by_cases a:1000000<=id
 ·rw [ob0,ajh a,zad] at h;obtain ⟨o,b,rfl⟩:=h;exact ⟨a,b,rfl⟩
 rw [ob0,apq (by omega)] at h;cases h
def mj (ob:Obs) (ρ:Pl->Option Nat) (i b:Nat):Prop:=∃x,ob i=some x/\foot ρ i x.2 b
def ei (ob:Obs) (ρ:Pl->Option Nat) (b:Nat):Prop:=∃id x,ob id=some x/\foot ρ id x.2 b
def gt (po:List Ob) (ρ:Pl->Option Nat):Nat->Option Nat:=λ id=>match ob0 po id with
 | some (_,o)=>if o.pinned=true then ρ id else none
 | none=>none
def ads (P:Program) (w:World) (I:Nat->Prop) (a:String) (ok:Array Value->Prop):Prop:=
 ∀g,P.globalNamed a=some g->¬I g/\∃cs e fr,w.heap[g]?=some (.cells cs e fr)/\ok cs
def axd:Array Value:=((zag 20).map λ k=>Value.int .u64 (10^k:Nat)).toArray
abbrev km:Bool:=false
structure Gl (P:Program) (w:World) (I:Nat->Prop):Prop where
 pow : ads P w I "internal/strconv.uint64pow10" fun cs => cs = axd
 syn : km = true → ads P w I "strconv.ErrSyntax" fun cs => ∃ t p, cs = #[.iface t p]
 rng : km = true → ads P w I "strconv.ErrRange" fun cs => ∃ t p, cs = #[.iface t p]
 fst : km = true → ads P w I "unicode/utf8.first" fun cs => ∀ i : Nat, i < 256 → cs[i]? = some (.int .u8 (Lib.firstT i))
 acc : km = true → ads P w I "unicode/utf8.acceptRanges" fun cs => ∀ i : Nat, i < 16 → cs[2 * i]? = some (.int .u8 (Lib.accLo i)) ∧ cs[2 * i + 1]? = some (.int .u8 (Lib.accHi i))
theorem ads.keep {P:Program} {w w':World} {I b:Nat->Prop} {a:String} {ok:Array Value->Prop} (h:ads P w I a ok)
 (j:∀g,g<w.heap.size->¬I g->w'.heap[g]?=w.heap[g]?/\¬b g):ads P w' b a ok:=λ g l=>by
 obtain ⟨f,cs,e,fr,c,i⟩:=h g l;obtain ⟨k,d⟩:=j g (Array.getElem?_eq_some_iff.1 c).1 f;exact ⟨d,cs,e,fr,by rw [k,c],i⟩
theorem Gl.keep {P:Program} {w w':World} {I c:Nat->Prop} (h:Gl P w I) (b:∀g,g<w.heap.size->¬I g->w'.heap[g]?=w.heap[g]?/\¬c g):Gl P w' c:=
 ⟨h.pow.keep b,λ a=>(h.syn a).keep b,λ a=>(h.rng a).keep b,λ a=>(h.fst a).keep b,λ a=>(h.acc a).keep b⟩
class GlC (P:Program) (X:Cx):Prop where
 gl:Gl P X.w0 X.I
def a9 (P:Program) (f:FuncId) (args:List AV) (po:List Ob) (res:AV) (d:List Ob):Prop:=
 ∀(w:World) (a:Array Value) (ρ:Pl->Option Nat) (B:Nat->Prop),Gl P w (ei (ob0 po) ρ)->(∀b,ei (ob0 po) ρ b\/w.heap.size<=b->B b) ->
  Mem ⟨0,ei (ob0 po) ρ,λ _=>none,B,w⟩ (ob0 po) ρ w->a.size=args.length ->
  (∀(i:Nat) (x:AV) (c:Value),args[i]?=some x->a[i]?=some c->RelA w (d6 B (ob0 po) ρ w) (ob0 po) ρ x c) ->
  Calls P f a w λ e w'=>∃c ρ',e=.returned c/\Mem ⟨0,ei (ob0 po) ρ,gt po ρ,B,w⟩ (ob0 d) ρ' w'/\RelA w' (d6 B (ob0 d) ρ' w') (ob0 d) ρ' res c
end

mutual
def bt:RV->Prop
 | .v _=>True
 | .agg xs=>gi xs
 | .sl _ _=>False
def gi:List RV->Prop
 | []=>True
 | x::xs=>bt x/\gi xs
end
mutual
def x8:AV->Prop
 | .r x=>bt x
 | .agg xs=>gh xs
 | .tup xs=>gh xs
 | .rp _=>False
 | .fn _ xs _=>gh xs
 | .gd _ x=>x8 x
 | .ifc _ x=>x8 x
 | _=>True
def gh:List AV->Prop
 | []=>True
 | x::xs=>x8 x/\gh xs
end
def lh:Ob->Prop
 | .box cells=>gh cells
 | .row _ _ _ _ xs=>∀x,x∈xs->bt x
 | .abs _=>True
 | .map _ _=>True
 | .iter m _ _ _=>x8 m
theorem gi.at_:∀{xs:List RV},gi xs->∀{i:Nat} {x:RV},xs[i]?=some x->bt x
 | [],_,i,x,hx=>by simp at hx
 | y::ys,h,0,x,hx=>by simp at hx; subst hx; exact h.1
 | y::ys,h,i+1,x,hx=>by simp at hx; exact gi.at_ h.2 hx
theorem gh.at_:∀{xs:List AV},gh xs->∀{i:Nat} {x:AV},xs[i]?=some x->x8 x
 | [],_,i,x,hx=>by simp at hx
 | y::ys,h,0,x,hx=>by simp at hx; subst hx; exact h.1
 | y::ys,h,i+1,x,hx=>by simp at hx; exact gh.at_ h.2 hx
section
variable {P:Program} {X:Cx} [GlC P X] {w w':World} {s:St} {ρ ρ':Pl->Option Nat} {a:Act} {ob ob':Obs} {R R':Nat->Prop}
theorem RelV.flat {x:RV} {c:Value} (h:RelV w R x c) (a:bt x):RelV w R' x c:=by
 induction h with
 | v x=>exact .v x
 | agg xs cs hl _ ih=>exact .agg xs cs hl λ i x c hx hc=>ih i x c hx hc (gi.at_ (by simpa [bt] using a) hx)
 | sl sz xs A cap hc hm b o g hA hz hg hr ih=>simp [bt] at a
theorem RelA.flat {x:AV} {c:Value} (h:RelA w R ob ρ x c) (a:x8 x):RelA w R' ob ρ x c:=by
 induction h with
 | r h0=>exact .r (h0.flat (by simpa [x8] using a))
 | agg xs cs hl _ ih=>exact .agg xs cs hl λ i x c hx hc=>ih i x c hx hc (gh.at_ (by simpa [x8] using a) hx)
 | tup xs cs hl _ ih=>exact .tup xs cs hl λ i x c hx hc=>ih i x c hx hc (gh.at_ (by simpa [x8] using a) hx)
 | nils sz z=>exact .nils sz z
 | own id ver lo len c hc ha=>exact .own id ver lo len c hc ha
 | ptr id ver off c hc ha=>exact .ptr id ver off c hc ha
 | oel id ver i off c hc ha=>exact .oel id ver i off c hc ha
 | rp ys b o g hR hg=>simp [x8] at a
 | fn f xs k fs cs hk hl _ ih=>exact .fn f xs k fs cs hk hl λ i x c hx hc=>ih i x c hx hc (gh.at_ (by simpa [x8] using a) hx)
 | mp id ver c hc ha=>exact .mp id ver c hc ha
 | ifc t _ ih=>exact .ifc t (ih (by simpa [x8] using a))
 | gd b _ hf' ih=>exact .gd b (λ d=>ih d (by simpa [x8] using a)) hf'
 | undef c=>exact .undef c
theorem gi.cells {x:RV} (h:bt x) {j:Nat} {y:RV} (a:x.cells[j]?=some y):bt y:=by
 cases x with
 | v v=>cases j<;>simp [RV.cells] at a; subst a; trivial
 | agg xs=>simp only [RV.cells] at a; exact gi.at_ (by simpa [bt] using h) a
 | sl k xs=>simp [bt] at h
theorem ay.flat {id:Nat} {x:Ob} (h:ay w R ob ρ id x) (k:lh x):ay w R' ob ρ id x:=by
 cases x with
 | abs T=>exact h
 | map es c=>exact h
 | iter m since seen st=>
   obtain ⟨b,m',d,a,f⟩:=h;exact ⟨b,m',d,a,f.flat k⟩
 | box cells=>
   obtain ⟨b,cs,e,d,a,f,l⟩:=h;exact ⟨b,cs,e,d,a,f,λ i x c hx hc=>(l i x c hx hc).flat (gh.at_ k hx)⟩
 | row sz z app wr xs=>
   rcases h with h | ⟨b,cs,e,fr,d,a,f,l,s,o⟩
   ·exact .inl h
   refine .inr ⟨b,cs,e,fr,d,a,f,l,s,λ i x g=>⟨(o i x g).1,λ j y n=>?_⟩⟩;obtain ⟨c,q,r,p⟩:=(o i x g).2 j y n;exact ⟨c,q,r,p.flat (gi.cells (k x (zae g)) n)⟩
def dt (ob:Obs):AV->Option (AV×List Nat)
 | .own id ver lo len=>match AV.rv ob (.own id ver lo len) with
   | some (y,fz)=>some (.r y,fz)
   | none=>none
 | .nils sz _=>some (.r (.sl sz []),[])
 | .agg xs=>match rvs ob xs with
   | some (ys,fz)=>some (.r (.agg ys),fz)
   | none=>none
 | .gd _ _=>none
 | .oel _ _ _ _=>none
 | x=>some (x,[])
def l8 (ob:Obs):List AV->Option (List AV×List Nat)
 | []=>some ([],[])
 | x::xs=>match dt ob x,l8 ob xs with
   | some (y,i),some (ys,j)=>some (y::ys,i++j)
   | _,_=>none
mutual
def t5:AV->List Nat
 | .own id _ _ _=>[id]
 | .ptr id _ _=>[id]
 | .oel id _ _ _=>[id]
 | .agg xs=>l5 xs
 | .tup xs=>l5 xs
 | .fn _ xs _=>l5 xs
 | .gd _ x=>t5 x
 | .mp id _=>[id]
 | .ifc _ x=>t5 x
 | _=>[]
def l5:List AV->List Nat
 | []=>[]
 | x::xs=>t5 x++l5 xs
end
def zw:Option (Nat×Ob)->List Nat
 | some (_,.box cells)=>l5 cells
 | some (_,.iter m _ _ _)=>t5 m
 | _=>[]
def n9 (ob:Obs):Nat->List Nat->List Nat->List Nat
 | 0,_,acc=>acc
 | _+1,[],acc=>acc
 | n+1,i::todo,acc=>if acc.contains i then n9 ob n todo acc else n9 ob n (zw (ob i)++todo) (acc++[i])
def yn (ver k:Nat):Option (Nat×Ob)->Option (Nat×Nat)
 | some (v,_)=>if ver=v then some (1000000+k,0) else none
 | none=>none
def fwd (ob:Obs) (ids:List Nat):Ren:=λ id ver=>match idx id ids with
 | some k=>yn ver k (ob id)
 | none=>none
def ra (F:Ren):Option (Nat×Ob)->Option Ob
 | some (_,o)=>if o.own then some (imO F o) else none
 | none=>none
def q8 (F:Ren) (ob:Obs):List Nat->Option (List Ob)
 | []=>some []
 | i::is=>match ra F (ob i),q8 F ob is with
   | some o,some os=>some (o::os)
   | _,_=>none
theorem tu {F:Ren} {ob:Obs}:∀{ids:List Nat} {po:List Ob},q8 F ob ids=some po->po.length=ids.length/\∀(k i:Nat) (o:Ob),ids[k]?=some i->po[k]?=some o->∃v x,ob i=some (v,x)/\x.own=true/\o=imO F x
 | [],po,h=>by simp [q8] at h; subst h; simp
 | j::ids,po,h=>by
   simp only [q8] at h;split at h
   ·rename_i o os a e;cases h;obtain ⟨f,g⟩:=tu e;refine ⟨by simp [f],λ k i q d c=>?_⟩;cases k with
    | zero=>
      simp at d c;subst d; subst c;unfold ra at a;split at a
      ·rename_i v x hx;split at a
       ·rename_i b;cases a;exact ⟨v,x,hx,b,rfl⟩
       cases a
      cases a
    | succ k=>simp at d c; exact g k i q d c
   cases h
def i8 (u:Nat) (ids:List Nat) (k:Nat):Nat:=match ids[k]? with
 | some i=>i
 | none=>100000+1000*u+k
def dz (ob:Obs) (i:Nat):Option (Nat×Ob)->Nat
 | some (v,.box _)=>v
 | some (v,.row _ _ app _ _)=>bif app then v+1 else v
 | some (v,.abs _)=>v
 | some (v,.map _ _)=>v
 | some (v,.iter _ _ _ _)=>v
 | none=>0
def di (ob:Obs) (u:Nat) (ids:List Nat) (k:Nat):Nat:=match ids[k]? with
 | some i=>dz ob i (ob i)
 | none=>nv ob (100000+1000*u+k)
def back (ob:Obs) (u:Nat) (ids:List Nat) (m:Nat):Ren:=λ id ver=>
 if ver=0/\1000000<=id/\id-1000000<m then some (i8 u ids (id-1000000),di ob u ids (id-1000000)) else none
def am (ob:Obs) (u:Nat) (ids:List Nat) (F:Ren):Nat->List Ob->Obs
 | _,[]=>ob
 | k,o::os=>upd (i8 u ids k) (di ob u ids k,imO F o) (am ob u ids F (k+1) os)
theorem afx {u:Nat} {ids:List Nat} {F:Ren} {i:Nat}:∀{os:List Ob} {k:Nat},(∀j,k<=j->j<k+os.length->i8 u ids j≠i)->am ob u ids F k os i=ob i
 | [],k,h=>rfl
 | o::os,k,h=>by
   unfold am upd;rw [if_neg (λ e=>h k (zac _) (by simp) e.symm)];exact afx λ j b a=>h j (by omega) (by simp; omega)
theorem alo {u:Nat} {ids:List Nat} {F:Ren} {m:Nat} (a:∀i j,i<m->j<m->i8 u ids i=i8 u ids j->i=j):∀{os:List Ob} {k j:Nat} {o:Ob},k+os.length<=m->os[j]?=some o->am ob u ids F k os (i8 u ids (k+j))=some (di ob u ids (k+j),imO F o)
 | [],k,j,o,h,hj=>by simp at hj
 | q::os,k,0,o,h,hj=>by simp at hj; subst hj; simp [am,upd]
 | q::os,k,j+1,o,h,hj=>by
   simp at hj h;have b:=(zaa.1 hj).1;unfold am upd;rw [if_neg (λ e=>by have:=a _ _ (by omega) (by omega) e; omega),show k+(j+1)=k+1+j by omega];exact alo a (by omega) hj
theorem j9 {po:List Ob} {k:Nat} {o:Ob} (h:po[k]?=some o):ob0 po (1000000+k)=some (0,o):=by
 rw [ob0,ajh (by omega),show 1000000+k-1000000=k by omega,h]
 rfl
def amq:Ob->Ob->Prop
 | .row sz _ app _ xs,o'=>app=true\/∃c b a,o'=.row sz c false b a/\xs.length<=a.length
 | .box cells,.box cells'=>cells'.length=cells.length
 | .abs T,.abs T'=>T'.size=T.size
 | .map _ _,.map _ _=>True
 | .iter _ _ _ _,.iter _ _ _ _=>True
 | _,_=>False
theorem Gam.call {f:FuncId} {as:List AV} {ids:List Nat} {po E:List Ob} {res:AV} {u:Nat} {h7:Array Value} {Bc Ra:Nat->Prop} (K:Gam X s ρ a w) (kn:q8 (fwd s.ob ids) s.ob ids=some po)
 (hT:a9 P f (imL (fwd s.ob ids) as) po res E) (wj:ids.length<=E.length) (hz:∀i j,i<E.length->j<E.length->i8 u ids i=i8 u ids j->i=j) (wl:100000+1000*u+E.length<=1000000)
 (wb:h7.size=as.length) (e4:∀(i:Nat) (x:AV) (c:Value),as[i]?=some x->h7[i]?=some c->RelA w Ra s.ob ρ x c)
 (e7:∀b,Ra b->b<w.heap.size/\Bc b/\∀(i:Nat),i∈ids->¬mj s.ob ρ i b) (kf:∀b,d6 X.B s.ob ρ w b->Bc b) (ks:∀b,(∃i,i∈ids/\mj s.ob ρ i b)\/w.heap.size<=b->Bc b)
 (ht:∀(k:Nat) (o o':Ob),po[k]?=some o->E[k]?=some o'->amq o o')
 (eq:(x8 res/\∀o∈E,lh o)\/∀b,Bc b->d6 X.B s.ob ρ w b\/(∃i,i∈ids/\mj s.ob ρ i b)\/w.heap.size<=b) :
 Calls P f h7 w λ e w'=>∃c ρ',e=.returned c/\Gam X ⟨s.e,am s.ob u ids (back s.ob u ids E.length) 0 E⟩ ρ' a w'/\RA X ⟨s.e,am s.ob u ids (back s.ob u ids E.length) 0 E⟩ ρ' w' (imV (back s.ob u ids E.length) res) c:=by
 obtain ⟨wk,wi⟩:=tu kn
 let S:Pl->Option Nat:=λ p=>match p with
  | .o i=>if 1000000<=i then (ids[i-1000000]?).bind λ i=>ρ (.o i) else none
  | .s i j=>if 1000000<=i then (ids[i-1000000]?).bind λ i=>ρ (.s i j) else none
 have h8:∀(k i:Nat),ids[k]?=some i->uu ρ S i (1000000+k):=λ k i d=>by
  simp [uu,S,d]
 have L:∀(k i:Nat),ids[k]?=some i->∃v x o,s.ob i=some (v,x)/\x.own=true/\po[k]?=some o/\o=imO (fwd s.ob ids) x:=λ k i d=>by
  have hm:=(zaa.1 d).1;have hp:po[k]?=some po[k]:=by simp [show k<po.length by omega]
  obtain ⟨v,x,H,D,O⟩:=wi k i _ d hp;exact ⟨v,x,_,H,D,hp,O⟩
 have gw:∀(id:Nat) (x:Nat×Ob),ob0 po id=some x->∃k i,id=1000000+k/\ids[k]?=some i/\po[k]?=some x.2/\x.1=0/\uu ρ S i id:=λ id x hx=>by
  obtain ⟨H,D,O⟩:=pw hx;have hm:=(zaa.1 D).1;have G:ids[id-1000000]?=some (ids[id-1000000]'(by omega)):=by simp [show id-1000000<ids.length by omega]
  refine ⟨id-1000000,_,by omega,G,D,O,?_⟩;have:=h8 _ _ G;rw [show 1000000+(id-1000000)=id by omega] at this;exact this
 have w5:∀(k l i:Nat),ids[k]?=some i->ids[l]?=some i->k=l:=λ k l i d hl=>by
  have H:=(zaa.1 d).1;have D:=(zaa.1 hl).1;exact hz k l (by omega) (by omega) (by simp [i8,d,hl])
 have N:∀b,ei (ob0 po) S b↔∃i,i∈ids/\mj s.ob ρ i b:=λ b=>by
  constructor
  ·rintro ⟨id,x,H,D⟩;obtain ⟨k,i,rfl,d,e8,_,hs⟩:=gw id x H;obtain ⟨v,y,o,J,_,hp,ho⟩:=L k i d;rw [e8] at hp;refine ⟨i,zae d,_,J,(hs.foot ?_).1 D⟩;rw [zaf.inj hp,ho,ar]
  rintro ⟨i,G,⟨y,J,r⟩⟩;obtain ⟨k,d⟩:=zab.1 G;obtain ⟨v,x,o,g2,_,hp,ho⟩:=L k i d;rw [J] at g2;refine ⟨1000000+k,(0,o),j9 hp,((h8 k i d).foot ?_).2 r⟩;rw [ho,ar,zaf.inj g2]
 have gb:∀b,Own (ob0 po) S b->∃i,i∈ids/\mj s.ob ρ i b:=λ b ⟨id,v,o,H,D,O⟩=>(N b).1 ⟨id,_,H,O⟩
 have hq:∀i,i∈ids->∀b,mj s.ob ρ i b->Own s.ob ρ b:=λ i G b ⟨y,J,r⟩=>by
  obtain ⟨k,d⟩:=zab.1 G;obtain ⟨v,x,o,H,D,_,_⟩:=L k i d;rw [J] at H;cases H;exact ⟨i,v,x,J,D,r⟩
 have hw:yw s.ob (ob0 po) ρ S (fwd s.ob ids):=λ id ver i v hF=>by
  unfold fwd at hF;split at hF
  ·rename_i k d;have k0:=abq d;obtain ⟨v0,x,o,H,D,O,h4⟩:=L k id k0;rw [H] at hF;simp only [yn] at hF;split at hF
   ·rename_i hv;cases hF;subst hv;exact ⟨x,o,H,j9 O,(h8 k id k0).1,by rw [h4]; exact t7.im _ x⟩
   cases hF
  cases hF
 have w6:∀b,d6 X.B s.ob ρ w b->d6 Bc (ob0 po) S w b:=λ b r=>⟨r.1,λ ho=>by
  obtain ⟨i,G,Q⟩:=gb b ho
  exact r.2.1 (hq i G b Q),kf b r⟩
 have k8:Mem ⟨0,ei (ob0 po) S,λ _=>none,Bc,w⟩ (ob0 po) S w:=by
  refine ⟨λ id v o h=>?_,λ id w9 x x' b H D O h4=>?_,Keeps.refl _ _,λ id v o b H D=>.inl ⟨id,_,H,D⟩,λ id b h=>by cases h⟩
  ·obtain ⟨k,i,rfl,d,hp,_,hs⟩:=gw id _ h;obtain ⟨v0,x,o',H,D,O,h4⟩:=L k i d;simp only at hp;rw [hp] at O;cases O;rw [h4];exact (K.obj i v0 x H).im w6 hw hs.1 hs.2
  obtain ⟨k,i,rfl,d,e8,_,hs⟩:=gw id _ H;obtain ⟨k',i',rfl,e9,ee,_,en⟩:=gw w9 _ D;obtain ⟨v0,y,o',J,_,hp,ho⟩:=L k i d;obtain ⟨v1,y',wm,w7,_,ed,w1⟩:=L k' i' e9;rw [e8] at hp;rw [ee] at ed;have:=K.inj i i' _ _ b J w7 ((hs.foot (by rw [zaf.inj hp,ho,ar])).1 O) ((en.foot (by rw [zaf.inj ed,w1,ar])).1 h4);subst this;rw [w5 k k' i d e9]
 have w4:Gl P w (ei (ob0 po) S):=(GlC.gl (P:=P) (X:=X)).keep λ g H D=>⟨K.keeps.block g H D,λ hh=>by
  obtain ⟨i,G,⟨⟨v,x⟩,J,r⟩⟩:=(N g).1 hh;rcases K.own i v x g J r with h | h
  ·exact D h
  omega⟩
 refine (hT w h7 S Bc w4 (λ b r=>ks b (r.imp_left (N b).1)) k8 (by rw [cr,wb]) (λ i x c hx hc=>?_)).mono ?_
 ·rw [qu,zad] at hx;obtain ⟨y,hy,rfl⟩:=hx
  exact (e4 i y c hy hc).im (λ b r=>⟨(e7 b r).1,λ ho=>by
   obtain ⟨j,R,w3⟩:=gb b ho
   exact (e7 b r).2.2 j R w3,(e7 b r).2.1⟩) hw
 rintro e w' ⟨c,ρ',rfl,hM,e1⟩;generalize kd:back s.ob u ids E.length=Fb;generalize eb:am s.ob u ids Fb 0 E=M
 let I:Pl->Option Nat:=λ p=>match p with
  | .o i=>open Classical in if h:∃k,k<E.length/\i8 u ids k=i then ρ' (1000000+h.choose:Nat) else ρ i
  | .s i j=>open Classical in if h:∃k,k<E.length/\i8 u ids k=i then ρ' (.s (1000000+h.choose) j) else ρ (.s i j)
 have A:∀k,k<E.length->uu ρ' I (1000000+k) (i8 u ids k):=λ k d=>by
  have gq:∃l,l<E.length/\i8 u ids l=i8 u ids k:=⟨k,d,rfl⟩
  have:=hz _ _ gq.choose_spec.1 d gq.choose_spec.2;refine ⟨?_,λ j=>?_⟩
  ·simp only [I,dif_pos gq,this]
  simp only [I,dif_pos gq,this]
 have hN:∀i,(¬∃k,k<E.length/\i8 u ids k=i)->uu ρ I i i/\M i=s.ob i:=λ i G=>by
  refine ⟨⟨by simp only [I,dif_neg G],λ j=>by simp only [I,dif_neg G]⟩,?_⟩;rw [<- eb];exact afx λ j _ D e=>G ⟨j,by omega,e⟩
 have hC:∀k o,E[k]?=some o->M (i8 u ids k)=some (di s.ob u ids k,imO Fb o):=λ k o d=>by
  have:=alo (ob:=s.ob) (F:=Fb) hz (os:=E) (k:=0) (j:=k) (o:=o) (by omega) d;rw [Nat.zero_add] at this;rw [<- eb];exact this
 have U:∀i x,M i=some x->(∃k o,E[k]?=some o/\i=i8 u ids k/\x=(di s.ob u ids k,imO Fb o))\/((¬∃k,k<E.length/\i8 u ids k=i)/\s.ob i=some x):=λ i x hx=>by
  by_cases G:∃k,k<E.length/\i8 u ids k=i
  ·obtain ⟨k,d,rfl⟩:=G;have hr:E[k]?=some E[k]:=by simp [d]
   rw [hC k _ hr] at hx;exact .inl ⟨k,_,hr,rfl,(zaf.inj hx).symm⟩
  rw [(hN i G).2] at hx;exact .inr ⟨G,hx⟩
 have hd:∀i,i∈ids->∃k,k<E.length/\i8 u ids k=i:=λ i G=>by
  obtain ⟨k,d⟩:=zab.1 G;have:=(zaa.1 d).1;exact ⟨k,by omega,by simp [i8,d]⟩
 have hm:∀i x b,s.ob i=some x->foot ρ i x.2 b->b<w.heap.size:=λ i x b G r=>K.foot_lt G r;have ex:∀k o b,E[k]?=some o->foot ρ' (1000000+k) o b->(∃i,i∈ids/\mj s.ob ρ i b)\/w.heap.size<=b:=λ k o b d r=>(hM.own _ _ _ b (j9 d) r).imp_left (N b).1
 have ge:∀b,Own M I b->Own (ob0 E) ρ' b\/∃i v x,(¬∃k,k<E.length/\i8 u ids k=i)/\s.ob i=some (v,x)/\x.own=true/\foot ρ i x b:=λ b ⟨i,v,x,H,D,O⟩=>by
  rcases U i _ H with ⟨k,o,d,rfl,hx⟩ | ⟨G,hx⟩
  ·cases hx;have:=(zaa.1 d).1;rw [(A k this).foot (ar Fb o)] at O;exact .inl ⟨_,0,o,j9 d,by rw [<- apl Fb]; exact D,O⟩
  rw [(hN i G).1.foot rfl] at O;exact .inr ⟨i,v,x,G,hx,D,O⟩
 have h6:yw (ob0 E) M ρ' I Fb:=λ id ver i v hF=>by
  rw [<- kd] at hF;unfold back at hF;split at hF
  ·rename_i hc;obtain ⟨rfl,H,D⟩:=hc;cases hF;have hr:E[id-1000000]?=some E[id-1000000]:=by simp [D]
   have hg:=j9 hr;rw [show 1000000+(id-1000000)=id by omega] at hg;refine ⟨_,_,hg,hC _ _ hr,?_,t7.im Fb _⟩;rw [(A _ D).1,show 1000000+(id-1000000)=id by omega]
  cases hF
 have Y:∀b,d6 X.B s.ob ρ w b->¬∃i,i∈ids/\mj s.ob ρ i b:=λ b r ⟨i,G,w2⟩=>r.2.1 (hq i G b w2);have W:∀b,b<w.heap.size->(¬∃i,i∈ids/\mj s.ob ρ i b)->w'.heap[b]?=w.heap[b]?:=λ b H D=>hM.keeps.block b H λ hh=>D ((N b).1 hh)
 have ka:∀b,d6 X.B s.ob ρ w b->d6 X.B M I w' b:=λ b r=>by
  refine ⟨Nat.lt_of_lt_of_le r.1 hM.keeps.size,λ ho=>?_,r.2.2⟩;rcases ge b ho with ⟨id,v,o,H,D,O⟩ | ⟨i,v,x,_,H,D,O⟩
  ·rcases hM.own id v o b H O with h | h
   ·exact Y b r ((N b).1 h)
   have:=r.1; simp only at h; omega
  exact r.2.1 ⟨i,v,x,H,D,O⟩
 have gg:(x8 res/\∀o∈E,lh o)\/∀b,d6 Bc (ob0 E) ρ' w' b->d6 X.B M I w' b:=by
  refine eq.imp_right λ hf b r=>⟨r.1,λ ho=>?_,?_⟩
  ·rcases ge b ho with h | ⟨i,v,x,G,H,D,O⟩
   ·exact r.2.1 h
   rcases hf b r.2.2 with h | ⟨j,R,C⟩ | h
   ·exact h.2.1 ⟨i,v,x,H,D,O⟩
   ·obtain ⟨k,d⟩:=zab.1 R;obtain ⟨⟨v0,y⟩,J,C⟩:=C;have:=K.inj i j _ _ b H J O C;subst this;exact G (hd i R)
   have:=hm i _ b H O; omega
  rcases hf b r.2.2 with h | ⟨j,R,C⟩ | h
  ·exact h.2.2
  ·obtain ⟨k,d⟩:=zab.1 R;obtain ⟨⟨v0,y⟩,J,C⟩:=C;exact K.base b (K.own j _ _ b J C)
  exact K.base b (.inr (Nat.le_trans K.keeps.size h))
 have eo:Stays w w' (d6 X.B s.ob ρ w) (d6 X.B M I w') s.ob M ρ I:=by
  refine ⟨λ b r=>⟨ka b r,W b r.1 (Y b r)⟩,λ i v x hx=>?_⟩;by_cases G:∃k,k<E.length/\i8 u ids k=i
  ·obtain ⟨k,d,rfl⟩:=G;have hr:E[k]?=some E[k]:=by simp [d]
   refine ⟨_,_,hC k _ hr,?_,?_⟩
   ·unfold di;rcases hki:ids[k]? with _ | j
    ·have:i8 u ids k=100000+1000*u+k:=by simp [i8,hki]
     rw [this] at hx;exact Nat.le_of_lt (rn hx)
    have:i8 u ids k=j:=by simp [i8,hki]
    rw [this] at hx;simp only [hx];cases x with
    | row sz z app wr xs=>cases app<;>simp [dz]
    | _=>simp [dz]
   intro hv;unfold di at hv;rcases hki:ids[k]? with _ | j
   ·have:i8 u ids k=100000+1000*u+k:=by simp [i8,hki]
    rw [this] at hx;simp only [hki] at hv;have:=rn hx;omega
   have hn:i8 u ids k=j:=by simp [i8,hki]
   rw [hn] at hx |-;simp only [hki,hx] at hv;obtain ⟨v0,y,e0,J,g2,g3,g4⟩:=L k j hki;rw [hx] at J;cases J
   have h9:x.pinned=true:=by
    cases x with
    | row sz z app wr xs=>cases app<;>first | rfl | (simp [dz] at hv)
    | _=>rfl
   obtain ⟨b,V⟩:∃b,ρ j=some b:=by
    have Z:=K.obj j v _ hx;cases x with
    | row sz z app wr xs=>
      rcases Z with ⟨_,_,O⟩ | ⟨b,cs,e,fr,h,_⟩
      ·subst O; cases h9
      exact ⟨b,h⟩
    | box cells=>obtain ⟨b,cs,e,h,_⟩:=Z; exact ⟨b,h⟩
    | abs T=>obtain ⟨b,h,_⟩:=Z; exact ⟨b,h⟩
    | map _ _=>obtain ⟨b,h,_⟩:=Z; exact ⟨b,h⟩
    | iter _ _ _ _=>obtain ⟨b,m',h,_⟩:=Z; exact ⟨b,h⟩
   have hu:=hM.pin (1000000+k) b (by
    simp only [gt,j9 g3,g4]
    rw [if_pos (by rw [ze]; exact h9),(h8 k j hki).1,V])
   obtain ⟨g6,o',g0,k6,e5⟩:=hu;rw [j9 hr] at g0;have g5:E[k]=o':=by have:=zaf.inj g0; exact (Prod.mk.inj this).2
   have hA:=A k d;rw [hn] at hA;refine ⟨by rw [hA.1,g6,V],?_,λ b' kk e' w8 Q gd=>?_⟩
   ·have n:=ht k e0 E[k] g3 hr;rw [g4] at n
    revert n
    generalize E[k]=q;intro n;cases x with
    | row sz z app wr xs=>
      rcases n with h | ⟨z',kv,wf,rfl,h⟩
      ·subst h; cases h9
      exact ⟨rfl,h⟩
    | box _=>cases q<;>first | exact n.elim | trivial
    | abs _=>cases q<;>first | exact n.elim | exact n
    | map _ _=>cases q<;>first | exact n.elim | trivial
    | iter _ _ _ _=>cases q<;>first | exact n.elim | trivial
   rw [V] at Q;cases Q;have n:=ht k e0 E[k] g3 hr;rw [g4,g5] at n;have e3:=hM.obj (1000000+k) 0 o' (by rw [j9 hr,g5]);have Z:=K.obj j v _ hx;cases x with
   | row sz z app wr xs=>
     rcases n with h | ⟨z',kv,wf,rfl,h⟩
     ·subst h; cases h9
     exact e5 rfl kk e' w8 gd
   | box cells=>
     cases o' with
     | row _ _ _ _ _=>exact n.elim
     | abs _=>exact n.elim
     | map _ _=>exact n.elim
     | iter _ _ _ _=>exact n.elim
     | box cells'=>
       obtain ⟨b1,cs,e,k1,k2,k3,_⟩:=Z;rw [V] at k1; cases k1;rw [gd] at k2; cases k2;obtain ⟨b2,e6,e2,f1,f2,f3,_⟩:=e3;rw [g6] at f1; cases f1;refine ⟨e6,e2,_,f2,?_⟩;have n:cells'.length=(imL (fwd s.ob ids) cells).length:=n;rw [f3,k3,n,cr]
   | abs T=>
     cases o' with
     | row _ _ _ _ _=>exact n.elim
     | box _=>exact n.elim
     | map _ _=>exact n.elim
     | iter _ _ _ _=>exact n.elim
     | abs T'=>
       obtain ⟨b1,k1,k2⟩:=Z;rw [V] at k1; cases k1;obtain ⟨cs,e,k3,k4⟩:=T.root k2;rw [gd] at k3; cases k3;obtain ⟨b2,f1,f2⟩:=e3;rw [g6] at f1; cases f1;obtain ⟨e6,e2,f3,f4⟩:=T'.root f2;have n:T'.size=T.size:=n;exact ⟨e6,e2,_,f3,by rw [f4,k4,n]⟩
   | map es c=>
     obtain ⟨b1,k1,k2⟩:=Z;rw [V] at k1; cases k1;rw [gd] at k2; cases k2
   | iter m since seen st=>
     obtain ⟨b1,m',k1,k2,_⟩:=Z;rw [V] at k1; cases k1;rw [gd] at k2; cases k2
  refine ⟨v,x,by rw [(hN i G).2,hx],zac _,λ _=>⟨(hN i G).1.1,t7.refl x,λ b cs e fr r hh=>⟨cs,e,fr,?_,rfl⟩⟩⟩;have r:foot ρ i x b:=.inl r;rw [W b (hm i _ b hx r),hh];rintro ⟨j,R,C⟩;obtain ⟨k,d⟩:=zab.1 R;obtain ⟨⟨v0,y⟩,J,C⟩:=C;have:=K.inj i j _ _ b hx J r C;subst this;exact G (hd i R)
 have k5:∀k o,E[k]?=some o->ay w' (d6 X.B M I w') M I (i8 u ids k) (imO Fb o):=λ k o d=>by
  have gs:=(zaa.1 d).1;have h0:=hM.obj _ _ _ (j9 d);rcases gg with ⟨_,hf⟩ | hf
  ·exact (h0.flat (R':=d6 X.B M I w') (hf o (zae d))).im (λ _ h=>h) h6 (A k gs).1 (A k gs).2
  exact h0.im hf h6 (A k gs).1 (A k gs).2
 refine ⟨c,I,rfl,⟨⟨λ i v x hx=>?_,λ i j x y b hx hy r Q=>?_,?_,λ i v x b hx r=>?_,λ i b hp=>?_⟩,K.sz,K.df,λ t=>(K.env t).stays eo,K.pnn,K.small,K.base⟩,?_⟩
 ·rcases U i _ hx with ⟨k,o,d,rfl,h5⟩ | ⟨G,h5⟩
  ·cases h5;exact k5 k o d
  refine (K.obj i v x h5).stays eo (hN i G).1.1 (hN i G).1.2 λ b r=>W b (hm i _ b h5 r) ?_;rintro ⟨j,R,C⟩;obtain ⟨k,d⟩:=zab.1 R;obtain ⟨⟨v0,y⟩,J,C⟩:=C;have:=K.inj i j _ _ b h5 J r C;subst this;exact G (hd i R)
 ·have ga:∀k o i x b,E[k]?=some o->(¬∃l,l<E.length/\i8 u ids l=i)->s.ob i=some x->foot ρ' (1000000+k) o b->foot ρ i x.2 b->False:=λ k o i x b d G hx H D=>by
   rcases ex k o b d H with ⟨j,R,C⟩ | h
   ·obtain ⟨l,hl⟩:=zab.1 R;obtain ⟨⟨v0,y⟩,J,C⟩:=C;have:=K.inj i j _ _ b hx J D C;subst this;exact G (hd i R)
   have:=hm i _ b hx D; omega
  rcases U i _ hx with ⟨k,o,d,rfl,rfl⟩ | ⟨G,h5⟩<;>rcases U j _ hy with ⟨l,q,hl,rfl,rfl⟩ | ⟨R,ev⟩
  ·have H:=(zaa.1 d).1;have D:=(zaa.1 hl).1;rw [(A k H).foot (ar Fb _)] at r;rw [(A l D).foot (ar Fb _)] at Q;have:=hM.inj _ _ _ _ b (j9 d) (j9 hl) r Q;rw [show k=l by omega]
  ·have H:=(zaa.1 d).1;rw [(A k H).foot (ar Fb _)] at r;rw [(hN j R).1.foot rfl] at Q;exact (ga k o j _ b d R ev r Q).elim
  ·have D:=(zaa.1 hl).1;rw [(A l D).foot (ar Fb _)] at Q;rw [(hN i G).1.foot rfl] at r;exact (ga l q i _ b hl G h5 Q r).elim
  rw [(hN i G).1.foot rfl] at r;rw [(hN j R).1.foot rfl] at Q;exact K.inj i j _ _ b h5 ev r Q
 ·have d:=K.keeps;refine ⟨hM.keeps.os.trans d.os,hM.keeps.tape.trans d.tape,hM.keeps.output.trans d.output,Nat.le_trans d.size hM.keeps.size,λ b r hI=>?_⟩;rw [W b (Nat.lt_of_lt_of_le r d.size),d.block b r hI];rintro ⟨j,R,C⟩;obtain ⟨k,e9⟩:=zab.1 R;obtain ⟨⟨v0,y⟩,J,C⟩:=C;rcases K.own j _ _ b J C with h | h
  ·exact hI h
  omega
 ·rcases U i _ hx with ⟨k,o,d,rfl,k9⟩ | ⟨G,h5⟩
  ·cases k9;rw [(A k (zaa.1 d).1).foot (ar Fb _)] at r;rcases ex k o b d r with ⟨j,R,C⟩ | h
   ·obtain ⟨l,hl⟩:=zab.1 R;obtain ⟨⟨v0,y⟩,J,C⟩:=C;exact K.own j _ _ b J C
   exact .inr (Nat.le_trans K.keeps.size h)
  rw [(hN i G).1.foot rfl] at r;exact K.own i v x b h5 r
 ·show I i=some b/\∃o,M i=some (0,o)/\o.pinned=true/\(o.isRow=true->pp X.w0 w' b);obtain ⟨H,x,D,h9,ew⟩:=K.pin i b hp;by_cases G:∃k,k<E.length/\i8 u ids k=i
  ·obtain ⟨k,d,rfl⟩:=G;have hr:E[k]?=some E[k]:=by simp [d]
   rcases hki:ids[k]? with _ | j
   ·have hn:i8 u ids k=100000+1000*u+k:=by simp [i8,hki]
    rw [hn,K.pnn _ (af3 (by omega))] at hp;cases hp
   have hn:i8 u ids k=j:=by simp [i8,hki]
   rw [hn] at H D |-;obtain ⟨v0,y,e0,J,g2,g3,g4⟩:=L k j hki;rw [D] at J;cases J
   have hu:=hM.pin (1000000+k) b (by
    simp only [gt,j9 g3,g4]
    rw [if_pos (by rw [ze]; exact h9),(h8 k j hki).1,H])
   obtain ⟨g6,o',g0,k6,e5⟩:=hu;rw [j9 hr] at g0;have g5:E[k]=o':=by have:=zaf.inj g0; exact (Prod.mk.inj this).2
   have hA:=A k d;have ey:=hC k _ hr;rw [hn] at hA ey;refine ⟨by rw [hA.1,g6],imO Fb o',?_,by rw [ze]; exact k6,λ ha=>?_⟩
   rotate_left
   ·rw [afc] at ha;have n:=ht k e0 E[k] g3 hr;rw [g4,g5] at n
    have kt:x.isRow=true:=by
     cases x with
     | row _ _ _ _ _=>rfl
     | box _=>cases o'<;>first | exact n.elim | cases ha
     | abs _=>cases o'<;>first | exact n.elim | cases ha
     | map _ _=>cases o'<;>first | exact n.elim | cases ha
     | iter _ _ _ _=>cases o'<;>first | exact n.elim | cases ha
    exact (ew kt).trans (e5 ha)
   rw [ey,g5];cases x with
   | row sz z app wr xs=>cases app<;>first | (cases h9; done) | simp [di,hki,D,dz]
   | box cells=>simp [di,hki,D,dz]
   | abs T=>simp [di,hki,D,dz]
   | map es c=>simp [di,hki,D,dz]
   | iter m since seen st=>simp [di,hki,D,dz]
  rw [(hN i G).1.1,(hN i G).2];refine ⟨H,x,D,h9,λ ha=>(ew ha).trans ?_⟩;have r:foot ρ i x b:=.inl H
  have he:w'.heap[b]?=w.heap[b]?:=W b (hm i _ b D r) (by
   rintro ⟨j,R,C⟩;obtain ⟨k,d⟩:=zab.1 R;obtain ⟨⟨v0,y⟩,J,C⟩:=C;have:=K.inj i j _ _ b D J r C;subst this
   exact G (hd i R))
  intro cs e fr hc;exact ⟨cs,e,fr,by rw [he]; exact hc,rfl⟩
 rcases gg with ⟨hf,_⟩ | hf
 ·exact (e1.flat (R':=d6 X.B M I w') hf).im (λ _ h=>h) h6
 exact e1.im hf h6
end

def nq (ver a:Nat):Option (Nat×Ob)->Option (Nat×Nat)
 | some (v,_)=>if ver=v then some (a,0) else none
 | none=>none
def pz (np lb:Nat) (ob:Obs) (ids:List Nat):Ren:=λ id ver=>
 if 1000000<=id/\id<1000000+np then nq ver id (ob id)
 else match idx id ids with
  | some k=>nq ver (lb+k) (ob id)
  | none=>none
def uq (F:Ren):Option (Nat×Ob)->Option Ob
 | some (_,o)=>some (imO F o)
 | none=>none
def ma (F:Ren) (ob:Obs):List Nat->Option (List Ob)
 | []=>some []
 | i::is=>match uq F (ob i),ma F ob is with
   | some o,some os=>some (o::os)
   | _,_=>none
theorem aho {F:Ren} {ob:Obs}:∀{ids:List Nat} {po:List Ob},ma F ob ids=some po->po.length=ids.length/\∀(k i:Nat) (o:Ob),ids[k]?=some i->po[k]?=some o->∃v x,ob i=some (v,x)/\o=imO F x
 | [],po,h=>by simp [ma] at h; subst h; simp
 | j::ids,po,h=>by
   simp only [ma] at h;split at h
   ·rename_i o os b d;cases h;obtain ⟨e,f⟩:=aho d;refine ⟨by simp [e],λ k i q c a=>?_⟩;cases k with
    | zero=>
      simp at c a;subst c; subst a;rcases hj:ob j with _ | ⟨v,x⟩
      ·rw [hj] at b; cases b
      rw [hj] at b;cases b;exact ⟨v,x,rfl,rfl⟩
    | succ k=>simp at c a; exact f k i q c a
   cases h
def ag (np:Nat):Nat->List Nat
 | 0=>[]
 | n+1=>(1000000+(np-(n+1)))::ag np n
theorem ah6 {np:Nat}:∀{n k:Nat},n<=np->k<n->(ag np n)[k]?=some (1000000+(np-n+k))
 | 0,k,_,h=>by omega
 | n+1,0,h,_=>by simp [ag]
 | n+1,k+1,h,hk=>by
   simp only [ag,List.getElem?_cons_succ];rw [ah6 (by omega) (by omega)];congr 1;omega
theorem af2 {np:Nat}:∀{n:Nat},(ag np n).length=n
 | 0=>rfl
 | n+1=>by simp [ag,af2]
def sd (np i:Nat):Bool:=decide (1000000<=i/\i<1000000+np)
def gz (np:Nat) (l:List Nat):List Nat:=l.filter λ i=>!sd np i
def nrm (a np lb:Nat) (vs:List AV) (ob:Obs):Option (List AV×List Ob×List Ob):=
 let ids:=gz np (n9 ob a (l5 vs++ag np np) [])
 let F:=pz np lb ob ids
 match ma F ob (ag np np),ma F ob ids with
 | some pos,some los=>some (imL F vs,pos,los)
 | _,_=>none
def z5:Nat->List Ob->Obs->Obs
 | _,[],ob=>ob
 | k,o::os,ob=>upd k (0,o) (z5 (k+1) os ob)
theorem adz:∀{os:List Ob} {k id:Nat} {ob:Obs},(id<k\/k+os.length<=id)->z5 k os ob id=ob id
 | [],k,id,ob,h=>rfl
 | o::os,k,id,ob,h=>by
   simp at h;unfold z5 upd;rw [if_neg (by omega)];exact adz (by omega)
theorem aan:∀{os:List Ob} {k j:Nat} {o:Ob} {ob:Obs},os[j]?=some o->z5 k os ob (k+j)=some (0,o)
 | [],k,j,o,ob,h=>by simp at h
 | q::os,k,0,o,ob,h=>by simp at h; subst h; simp [z5,upd]
 | q::os,k,j+1,o,ob,h=>by
   simp at h;unfold z5 upd;rw [if_neg (by omega),show k+(j+1)=k+1+j by omega];exact aan h
theorem zq (ob:Obs):∀(f:Nat) (d c:List Nat),c.Nodup->(n9 ob f d c).Nodup
 | 0,_,c,h=>h
 | _+1,[],c,h=>h
 | n+1,i::d,c,h=>by
   unfold n9;split
   ·exact zq ob n d c h
   rename_i hc;refine zq ob n _ _ ?_;rw [List.nodup_append];refine ⟨h,by simp,λ a j b g=>?_⟩;simp at g;subst g;intro e;subst e;simp at hc;exact hc j
variable {i:Nat} {l:List Nat}
theorem uy (h:l.Nodup) {j x:Nat} (m:l[i]?=some x) (g:l[j]?=some x):i=j:=by
 have k:=(zaa.1 m)
 have f:=(zaa.1 g)
 obtain ⟨e,b⟩:=k;obtain ⟨d,c⟩:=f;rcases Nat.lt_trichotomy i j with a | rfl | a
 ·exact absurd (by rw [b,c]) (List.pairwise_iff_getElem.1 h i j e d a)
 ·rfl
 exact absurd (by rw [b,c]) (List.pairwise_iff_getElem.1 h j i d e a)
section
variable {P:Program} {X:Cx} {w w':World} {s:St} {ρ ρ':Pl->Option Nat} {a:Act} {ob ob':Obs} {R R':Nat->Prop}
theorem Mem.nrm (Q:Mem X ob ρ w) {z np lb:Nat} {vs G:List AV} {pos d:List Ob} (h:nrm z np lb vs ob=some (G,pos,d)) (h9:1000000+np<=lb) (U:∀id b,X.pn id=some b->1000000<=id/\id<1000000+np) :
 ∃ρ',Mem X (z5 1000000 pos (z5 lb d λ _=>none)) ρ' w/\G.length=vs.length/\pos.length=np /\
  ∀(i:Nat) (x y:AV) (c:Value),vs[i]?=some x->G[i]?=some y->RelA w (d6 X.B ob ρ w) ob ρ x c->RelA w (d6 X.B (z5 1000000 pos (z5 lb d λ _=>none)) ρ' w) (z5 1000000 pos (z5 lb d λ _=>none)) ρ' y c:=by
 unfold Ev.nrm at h;generalize t5:gz np (n9 ob z (l5 vs++ag np np) [])=ids at h;simp only at h;generalize hF:pz np lb ob ids=F at h;split at h
 ·rename_i h7 h8 hp hl;cases h;obtain ⟨p1,p2⟩:=aho hp;obtain ⟨l1,l2⟩:=aho hl;rw [af2] at p1
  have W:ids.Nodup:=by
   rw [<- t5];exact (zq ob z _ [] (by simp)).filter _
  have P:∀i,i∈ids->¬(1000000<=i/\i<1000000+np):=λ i E=>by
   rw [<- t5] at E;simp [gz,sd] at E;intro hc;have:=E.2;omega
  generalize A:z5 1000000 pos (z5 lb d λ _=>none)=t
  let g:Pl->Option Nat:=λ p=>match p with
   | .o i=>if 1000000<=i/\i<1000000+np then ρ i else if lb<=i then (ids[i-lb]?).bind λ i=>ρ (.o i) else none
   | .s i j=>if 1000000<=i/\i<1000000+np then ρ (.s i j) else if lb<=i then (ids[i-lb]?).bind λ i=>ρ (.s i j) else none
  have S:∀k o,pos[k]?=some o->t (1000000+k)=some (0,o)/\uu ρ g (1000000+k) (1000000+k)/\∃v x,ob (1000000+k)=some (v,x)/\o=imO F x:=λ k o l=>by
   have K:=(zaa.1 l).1;refine ⟨by rw [<- A]; exact aan l,⟨by simp only [g]; rw [if_pos (by omega)],λ j=>by simp only [g]; rw [if_pos (by omega)]⟩,?_⟩;have:=ah6 (np:=np) (n:=np) (k:=k) (zac _) (by omega);rw [Nat.sub_self,Nat.zero_add] at this;exact p2 k _ o this l
  have hL:∀k o,d[k]?=some o->t (lb+k)=some (0,o)/\∃i v x,ids[k]?=some i/\uu ρ g i (lb+k)/\ob i=some (v,x)/\o=imO F x:=λ k o l=>by
   have K:=(zaa.1 l).1;have E:ids[k]?=some (ids[k]'(by omega)):=by simp [show k<ids.length by omega]
   obtain ⟨v,x,m,f⟩:=l2 k _ o E l;refine ⟨?_,_,v,x,E,?_,m,f⟩
   ·rw [<- A,adz (by omega)];exact aan l
   refine ⟨?_,λ j=>?_⟩
   ·simp only [g];rw [if_neg (by omega),if_pos (by omega),show lb+k-lb=k by omega,E]
    rfl
   simp only [g];rw [if_neg (by omega),if_pos (by omega),show lb+k-lb=k by omega,E]
   rfl
  have I:∀id x,t id=some x->(∃k,pos[k]?=some x.2/\id=1000000+k/\x.1=0)\/(∃k,d[k]?=some x.2/\id=lb+k/\x.1=0):=λ id x hx=>by
   rw [<- A] at hx;by_cases r:1000000<=id/\id<1000000+np
   ·have l:pos[id-1000000]?=some (pos[id-1000000]'(by omega)):=by simp [show id-1000000<pos.length by omega]
    have:=aan (k:=1000000) (ob:=z5 lb d λ _=>none) l;rw [show 1000000+(id-1000000)=id by omega,hx] at this;cases this;exact .inl ⟨_,l,by omega,rfl⟩
   rw [adz (by omega)] at hx;by_cases H:lb<=id/\id<lb+d.length
   ·have l:d[id-lb]?=some (d[id-lb]'(by omega)):=by simp [show id-lb<d.length by omega]
    have:=aan (k:=lb) (ob:=λ _=>none) l;rw [show lb+(id-lb)=id by omega,hx] at this;cases this;exact .inr ⟨_,l,by omega,rfl⟩
   rw [adz (by omega)] at hx;cases hx
  have q:∀id x,t id=some x->∃i v y,ob i=some (v,y)/\x=(0,imO F y)/\uu ρ g i id/\((id=i/\1000000<=i/\i<1000000+np)\/(∃k,ids[k]?=some i/\id=lb+k)):=λ id x hx=>by
   rcases I id x hx with ⟨k,r,rfl,L⟩ | ⟨k,r,rfl,L⟩
   ·obtain ⟨m,f,v,y,e,u⟩:=S k _ r;have K:=(zaa.1 r).1;exact ⟨_,v,y,e,Prod.ext L u,f,.inl ⟨rfl,by omega,by omega⟩⟩
   obtain ⟨m,i,v,y,f,e,u,V⟩:=hL k _ r;exact ⟨i,v,y,u,Prod.ext L V,e,.inr ⟨k,f,rfl⟩⟩
  have D:yw ob t ρ g F:=λ id ver i v a=>by
   rw [<- hF] at a;unfold pz at a;split at a
   ·rename_i hc;rcases ho:ob id with _ | ⟨v0,y⟩
    ·rw [ho] at a; cases a
    rw [ho] at a;simp only [nq] at a;split at a
    ·rename_i hv;cases a;subst hv;have l:pos[id-1000000]?=some (pos[id-1000000]'(by omega)):=by simp [show id-1000000<pos.length by omega]
     obtain ⟨m,f,v1,y1,e,u⟩:=S _ _ l;rw [show 1000000+(id-1000000)=id by omega] at m f e;rw [ho] at e;cases e;exact ⟨_,_,rfl,m,f.1,by rw [u]; exact t7.im F _⟩
    cases a
   split at a
   ·rename_i k l;have O:=abq l;rcases ho:ob id with _ | ⟨v0,y⟩
    ·rw [ho] at a; cases a
    rw [ho] at a;simp only [nq] at a;split at a
    ·rename_i hv;cases a;subst hv;have K:=(zaa.1 O).1;have T:d[k]?=some (d[k]'(by omega)):=by simp [show k<d.length by omega]
     obtain ⟨m,i,v1,y1,f,e,u,V⟩:=hL k _ T;rw [O] at f;cases f;rw [ho] at u;cases u;exact ⟨_,_,rfl,m,e.1,by rw [V]; exact t7.im F _⟩
    cases a
   cases a
  have hR:∀b,d6 X.B ob ρ w b->d6 X.B t g w b:=λ b hb=>⟨hb.1,λ ⟨id,v,o,r,H,L⟩=>by
   obtain ⟨i,M,y,m,f,e,_⟩:=q id _ r;cases f;rw [apl] at H
   exact hb.2.1 ⟨i,M,y,m,H,(e.foot (ar F y)).1 L⟩,hb.2.2⟩
  refine ⟨g,⟨λ id v o hx=>?_,λ id h0 x x' b r H L h4=>?_,Q.keeps,λ id v o b r H=>?_,λ id b r=>?_⟩,by rw [cr],p1,λ i x y c hx hy hr=>?_⟩
  ·obtain ⟨i,M,y,m,f,e,_⟩:=q id _ hx;cases f;exact (Q.obj i M y m).im hR D e.1 e.2
  ·obtain ⟨i,v,y,m,f,e,u⟩:=q id _ r;obtain ⟨i',M,y',Y,h6,Z,R⟩:=q h0 _ H;have:=Q.inj i i' _ _ b m Y ((e.foot (by rw [f]; exact ar F y)).1 L) ((Z.foot (by rw [h6]; exact ar F y')).1 h4);subst this;rcases u with ⟨rfl,N,q2⟩ | ⟨k,N,rfl⟩<;>rcases R with ⟨rfl,C,h5⟩ | ⟨k',C,rfl⟩
   ·rfl
   ·exact absurd ⟨N,q2⟩ (P _ (zae C))
   ·exact absurd ⟨C,h5⟩ (P _ (zae N))
   rw [uy W N C]
  ·obtain ⟨i,M,y,m,f,e,_⟩:=q id _ r;exact Q.own i M y b m ((e.foot (by rw [show o=imO F y from congrArg Prod.snd f]; exact ar F y)).1 H)
  ·obtain ⟨N,q2⟩:=U id b r;obtain ⟨e1,J,e2,e3⟩:=Q.pin id b r;have l:pos[id-1000000]?=some (pos[id-1000000]'(by omega)):=by simp [show id-1000000<pos.length by omega]
   obtain ⟨m,f,v1,y1,e,u⟩:=S _ _ l;rw [show 1000000+(id-1000000)=id by omega] at m f e;rw [e2] at e;cases e;exact ⟨by rw [f.1,e1],imO F J,by rw [m,u],by rw [ze]; exact e3.1,by rw [afc]; exact e3.2⟩
  rw [qu,hx] at hy;cases hy;exact hr.im hR D
 cases h
end

inductive PX where
 | see (o:PO)
 | act (o:PO)
 | call (f:FuncId) (args:List Opd)
 | callv (x:Opd) (args:List Opd)
 | inv (tbl:List (TypeId×FuncId)) (x:Opd) (args:List Opd)
 | nxt (x:Opd)
structure PR where
 d:Option Nat
 g:Option (Nat×Bool)
 u:Nat
 x:PX
inductive PC where
 | skip
 | reg (ops:List PR)
 | seq (a b:PC)
 | cond (x:Opd) (a b:PC)
 | block (id:Nat) (c:PC)
 | loop (c:PC)
 | exit (id:Nat)
 | ret
 | drw (ops:List PR) (pre:List (List Nat))
inductive Ex where
 | nor
 | ex (id:Nat)
 | rt
def m6 (d:Option Nat) (x:AV) (e:Env):Env:=match d with
 | some d=>put d x e
 | none=>e
def ya (b:Bool):AV->Option Bool
 | .r (.v (.bool x))=>some (bif b then x else !x)
 | .gd h (.r (.v (.bool x)))=>some (h&&(bif b then x else !x))
 | _=>none
def yes (e:Env):Option (Nat×Bool)->Option Bool
 | none=>some true
 | some (t,b)=>ya b (e t)
def gdv (g:Option (Nat×Bool)) (b:Bool) (x:AV):AV:=match g with
 | none=>x
 | some _=>.gd b x
def okC (u:Nat) (ids:List Nat) (m:Nat) (l:List Nat) (a:Bool):Bool:=
 decide (ids.length<=m)&&decide (((zag m).map (i8 u ids)).Nodup)&&decide (100000+1000*u+m<=1000000)&&(a||l.all λ i=>!ids.contains i)
def d7:List Ob->List Ob->Prop
 | .box a::xs,.box b::ys=>b.length=a.length/\d7 xs ys
 | .abs T::xs,.abs T'::ys=>T'.size=T.size/\d7 xs ys
 | .map _ _::xs,.map _ _::ys=>True/\d7 xs ys
 | .iter _ _ _ _::xs,.iter _ _ _ _::ys=>True/\d7 xs ys
 | .box _::_,_::_=>False
 | .abs _::_,_::_=>False
 | .map _ _::_,_::_=>False
 | .iter _ _ _ _::_,_::_=>False
 | .row sz _ false _ l::xs,.row sz' _ false _ l'::ys=>(sz'=sz/\l.length<=l'.length)/\d7 xs ys
 | .row _ _ false _ _::_,_::_=>False
 | _::xs,_::ys=>d7 xs ys
 | _,_=>True
def xq (P:Program) (f:FuncId) (u:Nat) (ob:Obs) (ids:List Nat) (as:List AV) (l:List Nat) (b:Bool) (K:AV->Obs->Prop):Option (List Ob)->Prop
 | none=>False
 | some po=>∃res a,a9 P f as po res a/\okC u ids a.length l b=true/\d7 po a/\(b=false->x8 res/\∀o∈a,lh o)/\K (imV (back ob u ids a.length) res) (am ob u ids (back ob u ids a.length) 0 a)
def gj (P:Program) (f:FuncId) (u:Nat) (ob:Obs) (as:List AV) (l:List Nat) (a:Bool) (K:AV->Obs->Prop):Prop:=
 xq P f u ob (n9 ob 64 (l5 as) []) (imL (fwd ob (n9 ob 64 (l5 as) [])) as) l a K (q8 (fwd ob (n9 ob 64 (l5 as) [])) ob (n9 ob 64 (l5 as) []))
def a0k (P:Program) (f:FuncId) (u:Nat) (ob:Obs) (vs:List AV) (K:AV->Obs->Prop):Prop:=
 ∃id v z xs,ob id=some (v,.row 1 z true true (xs.map RV.v))/\xs≠[]/\∀m,gj P f u (upd id (v,.box (xs.map (λ x=>AV.r (.v x))++zah m .undef)) ob) vs [] true K
def a0l (P:Program) (f:FuncId) (u:Nat) (ob:Obs) (vs:List AV) (K:AV->Obs->Prop):Prop:=
 ∃id v sz z xs,ob id=some (v,.row sz z true true xs)/\xs≠[]/\gj P f u (upd id (v,.row sz z false true xs) ob) vs [] true K
def zn (P:Program) (f:FuncId) (u:Nat) (ob:Obs) (K:AV->Obs->Prop) (vs:List AV):Option (List AV×List Nat)->Prop
 | none=>gj P f u ob vs [] true K
 | some (as,[])=>gj P f u ob as [] true K
 | some (as,i::l)=>gj P f u (freeze ob (i::l)) as (i::l) true K\/gj P f u ob as (i::l) false K\/gj P f u ob vs [] true K\/a0k P f u ob vs K\/a0l P f u ob vs K
def yj (P:Program) (f:FuncId):Bool:=match P.funcs[f]? with
 | some fn => fn.body.isSome && !(fn.name == "runtime.NumGoroutine")
 | none=>false
def an4 (P:Program) (u:Nat) (ob:Obs) (vs:List AV) (K:AV->Obs->Prop):AV->Prop
 | .fn (.func f) cap k=>yj P f=true/\zn P f u ob K (cap.take k++(vs++cap.drop k)) (l8 ob (cap.take k++(vs++cap.drop k)))
 | _=>False
def bf (t:TypeId):List (TypeId×FuncId)->Option FuncId
 | []=>none
 | (t',f)::r=>if t'=t then some f else bf t r
def ad9 (P:Program) (tbl:List (TypeId×FuncId)) (u:Nat) (ob:Obs) (vs:List AV) (K:AV->Obs->Prop):AV->Prop
 | .ifc t x=>match bf t tbl with
   | some f=>zn P f u ob K (x::vs) (l8 ob (x::vs))
   | none=>False
 | _=>False
def ao (es:List MapEntry) (a:List Nat):List MapEntry:=es.filter λ e=>!a.contains e.born
def aru (id ver:Nat) (ob:Obs) (m:AV) (a:Nat) (b:List Nat) (d:Nat) (K:AV->Obs->Prop):Option (List MapEntry×Nat)->Prop
 | some (es,c)=>(∀e,e∈es->e.born<a)/\a<=d/\(ao es b=[]->K (.tup [bl false]) ob) /\
  ∀e,e∈ao es b->K (.tup [bl true,.r (gm e.key),.r (gm e.val)]) (upd id (ver,.iter m a (b++[e.born]) c) ob)
 | none=>False
def am4 (id ver:Nat) (ob:Obs) (K:AV->Obs->Prop):Option (AV×Nat×List Nat×Nat)->Prop
 | some (.mp mid mver,since,seen,st)=>aru id ver ob (.mp mid mver) since seen st K (n7 ob mid mver)
 | _=>False
def ajj (ob:Obs) (K:AV->Obs->Prop):AV->Prop
 | .ptr id ver 0=>am4 id ver ob K (aq ob id ver)
 | _=>False
def PX.wp (P:Program) (r:PR) (s:St) (K:St->Prop) (b:Bool):PX->Prop
 | .see o=>(o.see b s.e s.ob).ok/\K ⟨m6 r.d (gdv r.g b (o.see b s.e s.ob).v) s.e,s.ob⟩
 | .act o=>(b=true->(o.act (r.d.getD 0) s.e s.ob).ok/\K ⟨m6 r.d (o.act (r.d.getD 0) s.e s.ob).v s.e,(o.act (r.d.getD 0) s.e s.ob).ob⟩)/\(b=false->K ⟨m6 r.d .undef s.e,s.ob⟩)
 | .call f args=>(b=true->ae true s.e args/\zn P f r.u s.ob (λ v ob=>K ⟨m6 r.d v s.e,ob⟩) (k7 s.e args) (l8 s.ob (k7 s.e args)))/\(b=false->K ⟨m6 r.d .undef s.e,s.ob⟩)
 | .callv x args=>(b=true->(x.ev s.e).may true/\ae true s.e args/\an4 P r.u s.ob (k7 s.e args) (λ v ob=>K ⟨m6 r.d v s.e,ob⟩) (x.ev s.e).bare)/\(b=false->K ⟨m6 r.d .undef s.e,s.ob⟩)
 | .inv tbl x args=>(b=true->(x.ev s.e).may true/\ae true s.e args/\ad9 P tbl r.u s.ob (k7 s.e args) (λ v ob=>K ⟨m6 r.d v s.e,ob⟩) (x.ev s.e).bare)/\(b=false->K ⟨m6 r.d .undef s.e,s.ob⟩)
 | .nxt x=>(b=true->(x.ev s.e).may true/\ajj s.ob (λ v ob=>K ⟨m6 r.d v s.e,ob⟩) (x.ev s.e).bare)/\(b=false->K ⟨m6 r.d .undef s.e,s.ob⟩)
def PR.wp (P:Program) (r:PR) (s:St) (K:St->Prop):Option Bool->Prop
 | some b=>r.x.wp P r s K b
 | none=>False
def wpR (P:Program):List PR->(St->Prop)->St->Prop
 | [],K,s=>K s
 | r::rs,K,s=>r.wp P s (wpR P rs K) (yes s.e r.g)
def ail (P:Program) (m:String) (p:TypeId×FuncId):Bool:=yj P p.2&&(match P.info? p.1 with
 | some i=>match i.methods.find? (·.name == m) with
   | some q=>q.path.isEmpty&&(match q.func with | some (f,b)=>f == p.2&&b | none=>false)
   | none=>false
 | none=>false)&&v6 P p.1 (λ d=>match d with | .pointer _=>true | _=>false)
def xk (P:Program) (o:Oper):PX->Bool
 | .see po=>ake P o po
 | .act po=>adl P o po
 | .call f args=>match o.op with
   | .call c=>match c.callee with
     | .value (.func f')=>f == f'&&q9 opd c.args.toList args&&yj P f
     | _=>false
   | _=>false
 | .callv x args=>match o.op with
   | .call c=>match c.callee with
     | .value x'=>opd x' x&&q9 opd c.args.toList args
     | _=>false
   | _=>false
 | .inv tbl x args=>match o.op with
   | .call c=>match c.callee with
     | .invoke r m=>opd r x&&q9 opd c.args.toList args&&tbl.all (ail P m)
     | _=>false
   | _=>false
 | .nxt x=>match o.op with
   | .next it str=>opd it x && !str
   | _=>false
def asg (a:Array Oper):Option (Nat×Bool)->Option (Nat×Bool)->Bool
 | none,none=>true
 | some (j,b),some (t,b')=>b == b'&&((a[j]?).bind (·.dst)) == some t
 | _,_=>false
def anl:PX->Bool
 | .see _=>true
 | _=>false
def ap6:PX->Bool
 | .act o=>!o.nod
 | _=>false
def abz (P:Program) (n:Nat) (a:Array Oper) (o:Oper) (r:PR):Bool:=
 o.dst == r.d&&(match r.d with | some d=>decide (d<n) | none=>!anl r.x && !ap6 r.x)&&asg a o.guard r.g&&xk P o r.x
def agx (a:Array Oper) (b:List (List Nat)):Bool:=
 b.length == a.size&&(zag a.size).all λ j=>match a[j]?,b[j]? with
  | some o,some p=>o.after.all (λ e=>!Region.binds .any e||decide (e.on<j)) &&
   p.all (λ k=>decide (k<j)&&o.after.any λ e=>Region.binds .any e&&(e.on == k||(b.getD e.on []).contains k))
  | _,_=>false
def ic (P:Program) (n:Nat):Code->PC->Bool
 | .skip,.skip=>true
 | .region _ ops d,.reg rs=>!d&&q9 (abz P n ops) ops.toList rs
 | .region _ ops d,.drw rs pre=>d&&P.follows .mixedOrders&&q9 (abz P n ops) ops.toList rs&&agx ops pre
 | .seq a b,.seq a' b'=>ic P n a a'&&ic P n b b'
 | .cond x a b,.cond x' a' b'=>opd x x'&&ic P n a a'&&ic P n b b'
 | .block i c,.block j c'=>i == j&&ic P n c c'
 | .loop c,.loop c'=>ic P n c c'
 | .exit i,.exit j=>i == j
 | .ret,.ret=>true
 | _,_=>false
section
variable {P:Program} {X:Cx} [GlC P X] {w w':World} {s:St} {ρ ρ':Pl->Option Nat} {a:Act} {o:Oper} {ob ob':Obs} {R R':Nat->Prop}
theorem aw3 (G:Gam X s ρ a w) {id ver g len sz:Nat} {z:RV} {r N:Bool} {xs:List RV} {c:Value} (l:s.ob id=some (ver,.row sz z r N xs)) (h:RA X s ρ w (.own id ver g len) c) (L:∀b,d6 X.B s.ob ρ w b->R b)
 (M:∀b,ρ id=some b->b<w.heap.size->R b):RelV w R (.sl sz ((xs.drop g).take len)) c:=by
 cases h;rename_i h;obtain ⟨A,cap,rfl,Q,H,I,E⟩:=h.live l;have m:((xs.drop g).take len).length=len:=by simp; omega
 have k:=RelV.sl (w:=w) (R:=R) sz ((xs.drop g).take len) A cap (by omega) H;rw [m] at k
 have d:∀(i:Nat) (x:RV),((xs.drop g).take len)[i]?=some x->xs[g+i]?=some x:=λ i x f=>by
  rw [List.getElem?_take] at f;split at f
  ·rwa [List.getElem?_drop] at f
  cases f
 rcases G.obj id ver _ l with ⟨o,t⟩ | ⟨b,cs,e,fr,o,t,S,U,T,q⟩
 ·subst o;have:len=0:=by have:g+len<=0:=I; omega
  subst this;exact k 0 0 (λ _ _=>undef) (by simp) (by simp) (by simp) (by simp)
 refine k b (g*sz) (λ i j=>(cs[(g+i)*sz+j]?).getD undef) (λ P=>?_) (λ i x f=>(q _ x (d i x f)).1) (λ i x j y f p=>?_) (λ i x j y f p=>?_)
 ·obtain ⟨W,J,e',K,D,F,V,O⟩:=E (by omega);rw [o] at D;cases D;exact ⟨F,M b o (Array.getElem?_eq_some_iff.1 t).1⟩
 ·obtain ⟨c,n,C,v⟩:=(q _ x (d i x f)).2 j y p;rw [n];refine ⟨?_,C⟩;simp only [World.cell?,t,Option.isSome_none,Bool.false_eq_true,if_false,Option.getD_some];rw [<- n,Nat.add_mul]
 obtain ⟨c,n,C,v⟩:=(q _ x (d i x f)).2 j y p;rw [n];exact v.mono λ b u=>⟨L b u,rfl⟩
theorem aou (j:Gam X s ρ a w) {x:AV} {y:RV} {c:Value} (h:x.rv s.ob=some (y,l)) (hx:RA X s ρ w x c) (e:∀b,d6 X.B s.ob ρ w b->R b) (f:∀i,i∈l->∀b,ρ i=some b->b<w.heap.size->R b):RelV w R y c:=by
 unfold AV.rv at h;split at h
 ·cases h; cases hx; rename_i h; exact h.mono λ b d=>⟨e b d,rfl⟩
 ·cases h; cases hx;exact .sl _ [] none 0 (by simp) (by simp) 0 0 (λ _ _=>undef) (by simp) (by simp) (by simp) (by simp)
 ·split at h
  ·rename_i g;cases h;exact aw3 j (n8 g) hx e (f _ (by simp))
  cases h
 cases h
theorem alf (f:Gam X s ρ a w) (e:∀b,d6 X.B s.ob ρ w b->R b):∀{xs:List AV} {ys:List RV} {l:List Nat},rvs s.ob xs=some (ys,l)->(∀i,i∈l->∀b,ρ i=some b->b<w.heap.size->R b) ->
 ∀(i:Nat) (x:AV) (y:RV) (c:Value),xs[i]?=some x->ys[i]?=some y->RA X s ρ w x c->RelV w R y c
 | [],ys,l,h,hs,i,x,y,c,hx,hy,hr=>by simp at hx
 | z::xs,ys,l,h,hs,i,x,y,c,hx,hy,hr=>by
   simp only [rvs] at h;split at h
   ·rename_i o k n j m g;cases h;cases i with
    | zero=>
      simp at hx hy;subst hx; subst hy;exact aou f m hr e (λ p d=>hs p (by simp [d]))
    | succ i=>
      simp at hx hy;exact alf f e g (λ p d=>hs p (by simp [d])) i x y c hx hy hr
   cases h
theorem asm (n:Gam X s ρ a w) (k:∀b,d6 X.B s.ob ρ w b->R b) {x y:AV} {c:Value} (h:dt s.ob x=some (y,l)) (p:∀i,i∈l->∀b,ρ i=some b->b<w.heap.size->R b) (hx:RA X s ρ w x c):RelA w R s.ob ρ y c:=by
 have keep:∀z:AV,RA X s ρ w z c->RelA w R s.ob ρ z c:=λ z t=>t.stays ⟨λ b m=>⟨k b m,rfl⟩,λ id v o h=>⟨v,o,h,zac _,λ _=>⟨rfl,t7.refl o,λ b cs e fr _ h=>⟨cs,e,fr,h,rfl⟩⟩⟩⟩;unfold dt at h;split at h
 ·split at h
  ·rename_i u;cases h;exact .r (aou n u hx k p)
  cases h
 ·cases h; cases hx;exact .r (.sl _ [] none 0 (by simp) (by simp) 0 0 (λ _ _=>undef) (by simp) (by simp) (by simp) (by simp))
 ·rename_i xs;split at h
  ·rename_i ys A d;cases h;cases hx;rename_i cs q f;refine .r (.agg _ _ (by rw [jz d]; exact q) λ i y c hy hc=>?_);have j:i<xs.length:=by have:=(zaa.1 hy).1; have:=jz d; omega
   have g:xs[i]?=some xs[i]:=by simp [j]
   exact alf n k d p i _ y c g hy (f i _ c g hc)
  cases h
 ·cases h
 ·cases h
 cases h;exact keep _ hx
theorem akj (e:Gam X s ρ a w) (g:∀b,d6 X.B s.ob ρ w b->R b):∀{xs ys:List AV} {l:List Nat},l8 s.ob xs=some (ys,l)->(∀i,i∈l->∀b,ρ i=some b->b<w.heap.size->R b) ->
 ys.length=xs.length/\∀(i:Nat) (x y:AV) (c:Value),xs[i]?=some x->ys[i]?=some y->RA X s ρ w x c->RelA w R s.ob ρ y c
 | [],ys,l,h,hs=>by simp [l8] at h; obtain ⟨rfl,rfl⟩:=h; simp
 | z::xs,ys,l,h,hs=>by
   simp only [l8] at h;split at h
   ·rename_i r k t j n m;cases h;obtain ⟨o,q⟩:=akj e g m (λ p d=>hs p (by simp [d]));refine ⟨by simp [o],λ i x y c hx hy f=>?_⟩;cases i with
    | zero=>
      simp at hx hy;subst hx; subst hy;exact asm e g n (λ p d=>hs p (by simp [d])) f
    | succ i=>
      simp at hx hy;exact q i x y c hx hy f
   cases h
theorem aov {x:AV} {y:RV} (h:x.rv ob=some (y,l)):∀i,i∈l->∃q,ob i=some q:=by
 unfold AV.rv at h;split at h
 ·cases h; simp
 ·cases h; simp
 ·split at h
  ·rename_i b;cases h;intro i a;simp at a;subst a;exact ⟨_,n8 b⟩
  cases h
 cases h
theorem alg:∀{xs:List AV} {ys:List RV} {l:List Nat},rvs ob xs=some (ys,l)->∀i,i∈l->∃q,ob i=some q
 | [],ys,l,h=>by simp [rvs] at h; simp [h.2]
 | z::xs,ys,l,h=>by
   simp only [rvs] at h;split at h
   ·rename_i e k d j c b;cases h;intro i a;rcases List.mem_append.1 a with a | a
    ·exact aov c i a
    exact alg b i a
   cases h
theorem akk:∀{xs ys:List AV} {l:List Nat},l8 ob xs=some (ys,l)->∀i,i∈l->∃q,ob i=some q
 | [],ys,l,h=>by simp [l8] at h; simp [h.2]
 | z::xs,ys,l,h=>by
   simp only [l8] at h;split at h
   ·rename_i f k e j a d;cases h;intro i b;rcases List.mem_append.1 b with b | b
    ·unfold dt at a;split at a
     ·split at a
      ·rename_i c;cases a;exact aov c i b
      cases a
     ·cases a; simp at b
     ·split at a
      ·rename_i c;cases a;exact alg c i b
      cases a
     ·cases a
     ·cases a
     cases a; simp at b
    exact akk d i b
   cases h
theorem avg (i:Nat) {x:AV} {c:Value} (h:RelA w (d6 X.B ob ρ w) ob ρ x c):RelA w (d6 X.B (frz ob i (ob i)) ρ w) (frz ob i (ob i)) ρ x c:=by
 rcases hi:ob i with _ | ⟨v,a | ⟨sz,z,b,d,xs⟩ | T | _ | _⟩
 ·exact h
 ·exact h
 ·exact h.stays (Stays.freeze1 (X:=X) (s:=⟨λ _=>.undef,ob⟩) hi)
 ·exact h
 ·exact h
 exact h
theorem abu:∀(l:List Nat) {ob:Obs} {x:AV} {c:Value},RelA w (d6 X.B ob ρ w) ob ρ x c->RelA w (d6 X.B (freeze ob l) ρ w) (freeze ob l) ρ x c
 | [],_,_,_,h=>h
 | i::is,_,_,_,h=>abu is (avg i h)
theorem asn (m:Gam X s ρ a w) {ob:Obs} {b:List Nat} (j:s.ob=Ev.freeze ob b) {x y:AV} {c:Value} (h:dt ob x=some (y,l)) (d:∀i,i∈l->i∈b) (hx:RA X s ρ w x c):RA X s ρ w y c:=by
 unfold dt at h;split at h
 ·split at h
  ·rename_i o;cases h;exact .r (afv m o d j hx)
  cases h
 ·cases h; cases hx;exact .r (.sl _ [] none 0 (by simp) (by simp) 0 0 (λ _ _=>undef) (by simp) (by simp) (by simp) (by simp))
 ·rename_i xs;split at h
  ·rename_i ys p e;cases h;cases hx;rename_i cs n f;refine .r (.agg _ _ (by rw [jz e]; exact n) λ i y c hy hc=>?_);have k:i<xs.length:=by have:=(zaa.1 hy).1; have:=jz e; omega
   have g:xs[i]?=some xs[i]:=by simp [k]
   exact aah m j e d i _ y c g hy (f i _ c g hc)
  cases h
 ·cases h
 ·cases h
 cases h; exact hx
theorem akl (f:Gam X s ρ a w) {ob:Obs} {b:List Nat} (d:s.ob=Ev.freeze ob b):∀{xs ys:List AV} {l:List Nat},l8 ob xs=some (ys,l)->(∀i,i∈l->i∈b) ->
 ys.length=xs.length/\∀(i:Nat) (x y:AV) (c:Value),xs[i]?=some x->ys[i]?=some y->RA X s ρ w x c->RA X s ρ w y c
 | [],ys,l,h,hs=>by simp [l8] at h; obtain ⟨rfl,rfl⟩:=h; simp
 | z::xs,ys,l,h,hs=>by
   simp only [l8] at h;split at h
   ·rename_i r k t j n m;cases h;obtain ⟨o,q⟩:=akl f d m (λ p e=>hs p (by simp [e]));refine ⟨by simp [o],λ i x y c hx hy g=>?_⟩;cases i with
    | zero=>
      simp at hx hy;subst hx; subst hy;exact asn f d n (λ p e=>hs p (by simp [e])) g
    | succ i=>
      simp at hx hy;exact q i x y c hx hy g
   cases h
theorem ae5 {u m:Nat} {ids:List Nat} {c:Bool} (h:okC u ids m l c=true):ids.length<=m/\(∀i j,i<m->j<m->i8 u ids i=i8 u ids j->i=j)/\100000+1000*u+m<=1000000/\(c=false->∀i,i∈l->i∉ids):=by
 simp only [okC,Bool.and_eq_true,decide_eq_true_eq,Bool.or_eq_true] at h;obtain ⟨⟨⟨g,k⟩,o⟩,b⟩:=h;refine ⟨g,λ i j a f e=>?_,o,λ d i a q=>?_⟩
 ·have n:((zag m).map (i8 u ids))[i]?=some (i8 u ids i):=by simp [a]
  have p:((zag m).map (i8 u ids))[j]?=some (i8 u ids i):=by simp [f,e]
  exact uy k n p
 rw [d] at b;simp at b;exact b i a q
theorem xc:∀{xs ys:List Ob},d7 xs ys->∀(k:Nat) (o o':Ob),xs[k]?=some o->ys[k]?=some o'->amq o o'
 | [],_,_,k,c,c',h,_=>by simp at h
 | _::_,[],_,k,c,c',_,h=>by simp at h
 | x::xs,y::ys,hs,0,c,c',h,h'=>by
   simp at h h';subst h; subst h';cases x with
   | row sz z app wr l=>
     cases app with
     | true=>exact .inl rfl
     | false=>
       cases y with
       | row sz' z' app' wr' l'=>
         cases app' with
         | true=>exact hs.elim
         | false=>obtain ⟨⟨rfl,h⟩,_⟩:=hs; exact .inr ⟨_,_,_,rfl,h⟩
       | _=>exact hs.elim
   | _=>cases y<;>first | exact hs.1 | exact hs.elim | trivial
 | x::xs,y::ys,hs,k+1,c,c',h,h'=>by
   simp at h h'
   have:d7 xs ys:=by
    cases x with
    | row sz z app wr l=>
      cases app with
      | true=>cases y<;>exact hs
      | false=>
        cases y with
        | row sz' z' app' wr' l'=>
          cases app' with
          | true=>exact hs.elim
          | false=>exact hs.2
        | _=>exact hs.elim
    | _=>cases y<;>first | exact hs.2 | exact hs.elim | exact hs
   exact xc this k c c' h h'
theorem zd {f:FuncId} {u:Nat} {K:AV->Obs->Prop} {vs:List AV} {d:Array Value} (I:Gam X s ρ a w) (g:gj P f u s.ob vs [] true K) (D:d.size=vs.length) (M:∀(i:Nat) (x:AV) (c:Value),vs[i]?=some x->d[i]?=some c->RA X s ρ w x c) :
 Calls P f d w λ e w'=>∃c v ob' ρ',e=.returned c/\K v ob'/\Gam X ⟨s.e,ob'⟩ ρ' a w'/\RA X ⟨s.e,ob'⟩ ρ' w' v c:=by
 unfold gj at g;generalize t5:n9 s.ob 64 (l5 vs) []=ids at g;unfold xq at g;split at g
 ·cases g
 rename_i po j;obtain ⟨res,U,R,p,m,H,F⟩:=g;obtain ⟨S,C,G,V⟩:=ae5 p
 have n:∀b,d6 X.B s.ob ρ w b->∀i,i∈ids->¬mj s.ob ρ i b:=λ b l i A q=>by
  obtain ⟨Q,o⟩:=tu j;obtain ⟨k,r⟩:=zab.1 A;have O:=(zaa.1 r).1;obtain ⟨v,x,t,N,T⟩:=o k i (po[k]'(by omega)) r (by simp [show k<po.length by omega]);obtain ⟨y,z,E⟩:=q;rw [t] at z;cases z;exact l.2.1 ⟨i,v,x,t,N,E⟩
 refine (Gam.call (s:=s) (Bc:=λ b=>d6 X.B s.ob ρ w b\/(∃i,i∈ids/\mj s.ob ρ i b)\/w.heap.size<=b) (Ra:=d6 X.B s.ob ρ w) I j R S C G D (λ i x c hx hc=>M i x c hx hc)
  (λ b l=>⟨l.1,.inl l,n b l⟩) (λ _ h=>.inl h) (λ _ h=>.inr h) (xc m) (.inr λ _ h=>h)).mono ?_
 rintro e w' ⟨c,ρ',rfl,L,J⟩;exact ⟨c,_,_,ρ',rfl,F,L,J⟩
theorem Gam.boxify (q:Gam X s ρ a w) {id v:Nat} {z:RV} {vs:List Value} (f:s.ob id=some (v,.row 1 z true true (vs.map RV.v))) (L:vs≠[]) :
 ∃m,Gam X ⟨s.e,upd id (v,.box (vs.map (λ x=>AV.r (.v x))++zah m .undef)) s.ob⟩ ρ a w /\
  Stays w w (d6 X.B s.ob ρ w) (d6 X.B (upd id (v,.box (vs.map (λ x=>AV.r (.v x))++zah m .undef)) s.ob) ρ w) s.ob (upd id (v,.box (vs.map (λ x=>AV.r (.v x))++zah m .undef)) s.ob) ρ ρ:=by
 rcases q.obj id v _ f with ⟨O,_⟩ | ⟨b,cs,e,fr,U,T,Z,Y,V,S⟩
 ·simp at O; exact absurd O L
 obtain rfl:fr=(0,0):=Y rfl;have Q:vs.length<=cs.size:=by simpa using V
 refine ⟨cs.size-vs.length,?_⟩;generalize E:vs.map (λ x=>AV.r (.v x))++zah (cs.size-vs.length) AV.undef=u;have I:u.length=cs.size:=by rw [<- E]; simp; omega
 have C:∀c,d6 X.B s.ob ρ w c->d6 X.B (upd id (v,.box u) s.ob) ρ w c:=λ c hc=>⟨hc.1,λ ⟨j,D,o,k,t,A⟩=>by
  by_cases p:j=id
  ·subst p;simp [upd] at k;obtain ⟨rfl,rfl⟩:=k;rw [ca rfl] at A;exact hc.2.1 ⟨j,v,_,f,rfl,by rw [ca rfl]; exact A⟩
  simp only [upd,p,if_false] at k
  exact hc.2.1 ⟨j,D,o,k,t,A⟩,hc.2.2⟩
 have P:Stays w w (d6 X.B s.ob ρ w) (d6 X.B (upd id (v,.box u) s.ob) ρ w) s.ob (upd id (v,.box u) s.ob) ρ ρ:=by
  refine ⟨λ c hc=>⟨C c hc,rfl⟩,λ j D o p=>?_⟩;by_cases d:j=id
  ·subst d;rw [f] at p;cases p;exact ⟨v,.box u,by simp [upd],zac _,λ _=>⟨rfl,rfl,λ b cs e fr _ h=>⟨cs,e,fr,h,rfl⟩⟩⟩
  exact ⟨D,o,by simp [upd,d,p],zac _,λ _=>⟨rfl,t7.refl o,λ b cs e fr _ h=>⟨cs,e,fr,h,rfl⟩⟩⟩
 have l:∀j x c,upd id (v,Ob.box u) s.ob j=some x->foot ρ j x.2 c->∃y,s.ob j=some y/\foot ρ j y.2 c:=λ j x c hx n=>by
  by_cases d:j=id
  ·subst d;simp [upd] at hx;subst hx;rw [ca rfl] at n;exact ⟨_,f,by rw [ca rfl]; exact n⟩
  simp only [upd,d,if_false] at hx;exact ⟨x,hx,n⟩
 refine ⟨q.step P (λ j D o h=>?_) (λ i j x x' c hx J n H=>?_) q.keeps (λ j D o c h n=>?_) (λ j c o h hc W M=>?_),P⟩
 ·by_cases d:j=id
  ·subst d;simp [upd] at h;obtain ⟨rfl,rfl⟩:=h;refine .inr ⟨b,cs,e,U,T,I.symm,λ i x c hx hc=>?_⟩;rw [<- E] at hx;by_cases F:i<vs.length
   ·rw [List.getElem?_append_left (by simpa using F)] at hx;have G:(vs.map RV.v)[i]?=some (.v vs[i]):=by simp [F]
    obtain ⟨_,g⟩:=S i _ G;obtain ⟨c',k,t,A⟩:=g 0 (.v vs[i]) rfl;rw [Nat.mul_one,Nat.add_zero,hc] at k;cases k;simp [F] at hx;subst hx;exact .r (A.mono λ b M=>⟨C b M,rfl⟩)
   rw [List.getElem?_append_right (by simpa using F)] at hx;have:=zae hx;rw [List.mem_replicate] at this;rw [this.2];exact .undef _
  simp only [upd,d,if_false] at h;exact .inl ⟨h,rfl,λ _=>rfl,λ _ _=>rfl⟩
 ·obtain ⟨y,k,t⟩:=l i x c hx n;obtain ⟨R,K,N⟩:=l j x' c J H;exact q.inj i j y R c k K t N
 ·obtain ⟨y,k,t⟩:=l j _ c h n;exact q.own j y.1 y.2 c k t
 by_cases d:j=id
 ·subst d;rw [q.unpinned f rfl] at h;cases h
 exact ⟨M,o,by simp [upd,d,hc],W⟩
theorem ab2 {f:FuncId} {u:Nat} {K:AV->Obs->Prop} {vs:List AV} {d:Array Value} (F:Gam X s ρ a w) (h:zn P f u s.ob K vs (l8 s.ob vs)) (S:d.size=vs.length) (T:∀(i:Nat) (x:AV) (c:Value),vs[i]?=some x->d[i]?=some c->RA X s ρ w x c) :
 Calls P f d w λ e w'=>∃c v ob' ρ',e=.returned c/\K v ob'/\Gam X ⟨s.e,ob'⟩ ρ' a w'/\RA X ⟨s.e,ob'⟩ ρ' w' v c:=by
 have n:∀(as:List AV) (l:List Nat),l8 s.ob vs=some (as,l)->gj P f u (freeze s.ob l) as l true K->Calls P f d w λ e w'=>∃c v ob' ρ',e=.returned c/\K v ob'/\Gam X ⟨s.e,ob'⟩ ρ' a w'/\RA X ⟨s.e,ob'⟩ ρ' w' v c:=by
  intro as l C g;have Y:=Gam.freeze (s:=s) l (ob:=s.ob) F;unfold gj at g;generalize t5:n9 (freeze s.ob l) 64 (l5 as) []=ids at g;unfold xq at g;split at g
  ·cases g
  rename_i po o;obtain ⟨res,ro,hT,M,I,Z,hK⟩:=g;obtain ⟨k1,k2,k3,k4⟩:=ae5 M
  have J:∀b,d6 X.B (freeze s.ob l) ρ w b->∀i,i∈ids->¬mj (freeze s.ob l) ρ i b:=λ b t i Q O=>by
   obtain ⟨h4,D⟩:=tu o;obtain ⟨k,G⟩:=zab.1 Q;have p:=(zaa.1 G).1;obtain ⟨v,x,A,E,g3⟩:=D k i (po[k]'(by omega)) G (by simp [show k<po.length by omega]);obtain ⟨y,N,V⟩:=O;rw [A] at N;cases N;exact t.2.1 ⟨i,v,x,A,E,V⟩
  obtain ⟨A,E⟩:=akl (s:=⟨s.e,freeze s.ob l⟩) Y rfl C (λ _ h=>h)
  refine (Gam.call (s:=⟨s.e,freeze s.ob l⟩) (Bc:=λ b=>d6 X.B (freeze s.ob l) ρ w b\/(∃i,i∈ids/\mj (freeze s.ob l) ρ i b)\/w.heap.size<=b) (Ra:=d6 X.B (freeze s.ob l) ρ w) Y o hT k1 k2 k3 (by rw [A,S]) (λ i x c hx hc=>?_)
   (λ b t=>⟨t.1,.inl t,J b t⟩) (λ _ h=>.inl h) (λ _ h=>.inr h) (xc I) (.inr λ _ h=>h)).mono ?_
  ·have p:=(zaa.1 hx).1;have U:vs[i]?=some (vs[i]'(by omega)):=by simp [show i<vs.length by omega]
   exact E i _ x c U hx (abu l (T i _ c U hc))
  rintro e w' ⟨c,ρ',rfl,H,L⟩;exact ⟨c,_,_,ρ',rfl,hK,H,L⟩
 have W:∀(as:List AV) (l:List Nat),l8 s.ob vs=some (as,l)->gj P f u s.ob as l false K->Calls P f d w λ e w'=>∃c v ob' ρ',e=.returned c/\K v ob'/\Gam X ⟨s.e,ob'⟩ ρ' a w'/\RA X ⟨s.e,ob'⟩ ρ' w' v c:=by
  intro as l C g;unfold gj at g;generalize t5:n9 s.ob 64 (l5 as) []=ids at g;unfold xq at g;split at g
  ·cases g
  rename_i po o;obtain ⟨res,ro,hT,M,I,Z,hK⟩:=g;obtain ⟨k1,k2,k3,k4⟩:=ae5 M
  have J:∀b,d6 X.B s.ob ρ w b->b<w.heap.size/\∀i,i∈ids->¬mj s.ob ρ i b:=λ b t=>⟨t.1,λ i Q O=>by
   obtain ⟨h4,D⟩:=tu o;obtain ⟨k,G⟩:=zab.1 Q;have p:=(zaa.1 G).1;obtain ⟨v,x,A,E,g3⟩:=D k i (po[k]'(by omega)) G (by simp [show k<po.length by omega]);obtain ⟨y,N,V⟩:=O;rw [A] at N;cases N
   exact t.2.1 ⟨i,v,x,A,E,V⟩⟩
  have h0:∀i,i∈l->∀b,ρ i=some b->b<w.heap.size->b<w.heap.size/\∀j,j∈ids->¬mj s.ob ρ j b:=λ i Q b t p=>⟨p,λ j hj h5=>by
   obtain ⟨q,g⟩:=akk C i Q;obtain ⟨h4,D⟩:=tu o;obtain ⟨k,G⟩:=zab.1 hj;have p:=(zaa.1 G).1;obtain ⟨v,x,A,E,g3⟩:=D k j (po[k]'(by omega)) G (by simp [show k<po.length by omega]);obtain ⟨y,N,V⟩:=h5;have:=F.inj i j _ _ b g N (.inl t) V;subst this
   exact k4 rfl i Q hj⟩
  obtain ⟨A,E⟩:=akj F (R:=λ b=>b<w.heap.size/\∀i,i∈ids->¬mj s.ob ρ i b) J C h0;refine (Gam.call (Bc:=λ _=>True) (Ra:=λ b=>b<w.heap.size/\∀i,i∈ids->¬mj s.ob ρ i b) F o hT k1 k2 k3 (by rw [A,S]) (λ i x c hx hc=>?_) (λ b t=>⟨t.1,trivial,t.2⟩) (λ _ _=>trivial) (λ _ _=>trivial) (xc I) (.inl (Z rfl))).mono ?_
  ·have p:=(zaa.1 hx).1;have U:vs[i]?=some (vs[i]'(by omega)):=by simp [show i<vs.length by omega]
   exact E i _ x c U hx (T i _ c U hc)
  rintro e w' ⟨c,ρ',rfl,H,L⟩;exact ⟨c,_,_,ρ',rfl,hK,H,L⟩
 rcases C:l8 s.ob vs with _ | ⟨as,_ | ⟨i,l⟩⟩
 ·rw [C] at h; exact zd F h S T
 ·rw [C] at h; exact n as [] C h
 rw [C] at h;rcases h with h | h | h | h | h
 ·exact n as _ C h
 ·exact W as _ C h
 ·exact zd F h S T
 ·obtain ⟨id,v,z,xs,H,L,h3⟩:=h;obtain ⟨m,A,E⟩:=F.boxify H L;exact zd (s:=⟨s.e,upd id (v,.box (xs.map (λ x=>AV.r (.v x))++zah m .undef)) s.ob⟩) A (h3 m) S λ i x c hx hc=>(T i x c hx hc).stays E
 obtain ⟨id,v,sz,z,xs,H,L,h3⟩:=h;exact zd (s:=⟨s.e,upd id (v,.row sz z false true xs) s.ob⟩) (F.shut1 H L) h3 S λ i x c hx hc=>(T i x c hx hc).stays (Stays.shut1 (X:=X) (w:=w) (ρ:=ρ) H)
end

structure Lg where
 us:List Nat
 d:List Nat
 rd:List Nat
 wr:List Nat
 ad:Bool
 st:Bool
instance:Inhabited Lg:=⟨⟨[],[],[],[],false,false⟩⟩
def PX.adr:PX->Bool
 | .see o=>o.adr
 | _=>false
def PX.sto:PX->Bool
 | .act (.st _ _ _)=>true
 | _=>false
structure Out where
 ok:Prop
 st:St
 lg:Lg
abbrev Ans:=AV×List Ob
def PX.us:PX->List Nat
 | .see o=>o.us
 | .act o=>o.us
 | .call _ xs=>usL xs
 | .callv x xs=>x.us++usL xs
 | .inv _ x xs=>x.us++usL xs
 | .nxt x=>x.us
def gus:Option (Nat×Bool)->List Nat
 | none=>[]
 | some (t,_)=>[t]
def PR.lg (r:PR) (rd a:List Nat):Lg:=⟨gus r.g++(r.x.us++r.d.toList),r.d.toList,rd,a,r.x.adr,r.x.sto⟩
def be (u:Nat) (ids:List Nat) (m:Nat):List Nat:=(zag m).map (i8 u ids)
def aa2 (P:Program) (r:PR) (s:St) (f:FuncId) (p:Prop) (c:Ans) (as:List AV) (l:List Nat) (a:Bool) (ids:List Nat):Option (List Ob)->Out
 | none=>⟨False,s,r.lg [] []⟩
 | some po=>⟨p/\a9 P f (imL (fwd s.ob ids) as) po c.1 c.2/\okC r.u ids c.2.length l a=true/\d7 po c.2/\(a=false->x8 c.1/\∀o∈c.2,lh o),
  ⟨m6 r.d (imV (back s.ob r.u ids c.2.length) c.1) s.e,am s.ob r.u ids (back s.ob r.u ids c.2.length) 0 c.2⟩,r.lg (l++(ids++be r.u ids c.2.length)) (be r.u ids c.2.length)⟩
def af (vs:List AV):Option (List AV×List Nat)->List AV×List Nat×Bool
 | none=>(vs,l5 vs,true)
 | some (as,[])=>(as,[],true)
 | some (as,i::l)=>(as,i::l,false)
def x7 (P:Program) (r:PR) (s:St) (f:FuncId) (p:Prop) (c:Ans) (a:List AV×List Nat×Bool):Out:=
 aa2 P r s f p c a.1 a.2.1 a.2.2 (n9 s.ob 64 (l5 a.1) []) (q8 (fwd s.ob (n9 s.ob 64 (l5 a.1) [])) s.ob (n9 s.ob 64 (l5 a.1) []))
def sn (P:Program) (r:PR) (s:St) (p:Prop) (c:Ans) (vs:List AV):AV->Out
 | .fn (.func f) cap k=>x7 P r s f (p/\yj P f=true) c (af (cap.take k++(vs++cap.drop k)) (l8 s.ob (cap.take k++(vs++cap.drop k))))
 | _=>⟨False,s,r.lg [] []⟩
def od (P:Program) (r:PR) (s:St) (tbl:List (TypeId×FuncId)) (p:Prop) (c:Ans) (vs:List AV):AV->Out
 | .ifc t x=>match bf t tbl with
   | some f=>x7 P r s f p c (af (x::vs) (l8 s.ob (x::vs)))
   | none=>⟨False,s,r.lg [] []⟩
 | _=>⟨False,s,r.lg [] []⟩
def PX.out (P:Program) (r:PR) (s:St) (c:Ans):PX->Option Bool->Out
 | _,none=>⟨False,s,r.lg [] []⟩
 | .see o,some b=>⟨(o.see b s.e s.ob).ok,⟨m6 r.d (gdv r.g b (o.see b s.e s.ob).v) s.e,s.ob⟩,r.lg (o.see b s.e s.ob).rd []⟩
 | .act o,some true=>⟨(o.act (r.d.getD 0) s.e s.ob).ok,⟨m6 r.d (o.act (r.d.getD 0) s.e s.ob).v s.e,(o.act (r.d.getD 0) s.e s.ob).ob⟩,r.lg (o.act (r.d.getD 0) s.e s.ob).rd (o.act (r.d.getD 0) s.e s.ob).wr⟩
 | .call f xs,some true=>x7 P r s f (ae true s.e xs) c (af (k7 s.e xs) (l8 s.ob (k7 s.e xs)))
 | .callv x xs,some true=>sn P r s ((x.ev s.e).may true/\ae true s.e xs) c (k7 s.e xs) (x.ev s.e).bare
 | .inv tbl x xs,some true=>od P r s tbl ((x.ev s.e).may true/\ae true s.e xs) c (k7 s.e xs) (x.ev s.e).bare
 | .nxt _,some true=>⟨False,s,r.lg [] []⟩
 | _,some false=>⟨True,⟨m6 r.d .undef s.e,s.ob⟩,r.lg [] []⟩
def PR.out (P:Program) (r:PR) (s:St) (c:Ans):Out:=r.x.out P r s c (yes s.e r.g)
section
variable {P:Program} {s s':St} {ob ob':Obs} {c:Ans} {r:PR}
theorem afi {f:FuncId} {p:Prop} {K:St->Prop} {vs:List AV} {a:Option (List AV×List Nat)} (h:(x7 P r s f p c (af vs a)).ok) (b:K (x7 P r s f p c (af vs a)).st):p/\zn P f r.u s.ob (λ v ob=>K ⟨m6 r.d v s.e,ob⟩) vs a:=by
 have j:∀(as:List AV) (l:List Nat) (m:Bool),(x7 P r s f p c (as,l,m)).ok->K (x7 P r s f p c (as,l,m)).st->p/\gj P f r.u s.ob as l m (λ v ob=>K ⟨m6 r.d v s.e,ob⟩):=λ as l m h b=>by
  simp only [x7] at h b;generalize t5:n9 s.ob 64 (l5 as) []=ids at h b;rcases hpo:q8 (fwd s.ob ids) s.ob ids with _ | po
  ·rw [hpo] at h; exact h.elim
  rw [hpo] at h b;obtain ⟨k,g,w,x,y⟩:=h;refine ⟨k,?_⟩;unfold gj;rw [t5,hpo];exact ⟨_,_,g,w,x,y,b⟩
 rcases a with _ | ⟨as,_ | ⟨i,l⟩⟩
 ·obtain ⟨k,g⟩:=j vs (l5 vs) true h b;refine ⟨k,?_⟩;show gj P f r.u s.ob vs [] true _;unfold gj xq at g |-;split at g
  ·exact g.elim
  obtain ⟨o,q,z,n,t⟩:=g;refine ⟨o,q,z,?_,t⟩;unfold okC at n |-;simpa using n
 ·exact j as [] true h b
 obtain ⟨k,g⟩:=j as (i::l) false h b;exact ⟨k,Or.inr (Or.inl g)⟩
theorem axk {K:St->Prop} (h:(r.out P s c).ok) (a:K (r.out P s c).st):r.wp P s K (yes s.e r.g):=by
 rcases r with ⟨d,g,u,x⟩
 unfold PR.out at h a;simp only at h a |-;generalize yes s.e g=y at h a |-;rcases y with _ | b
 ·have h:False:=by cases x<;>exact h
  exact h.elim
 simp only [PR.wp];cases x with
 | see o=>exact ⟨h,a⟩
 | act o=>cases b with
   | true=>exact ⟨λ _=>⟨h,a⟩,by simp⟩
   | false=>exact ⟨by simp,λ _=>a⟩
 | call f xs=>cases b with
   | true=>exact ⟨λ _=>afi h a,by simp⟩
   | false=>exact ⟨by simp,λ _=>a⟩
 | callv x xs=>cases b with
   | true=>
     refine ⟨λ _=>?_,by simp⟩;simp only [PX.out] at h a;generalize (x.ev s.e).bare=y at h a |-;cases y with
     | fn f cap k=>cases f with
       | func f=>
         have:=afi (vs:=cap.take k++(k7 s.e xs++cap.drop k)) h a;exact ⟨this.1.1.1,this.1.1.2,this.1.2,this.2⟩
       | _=>exact (show False from h).elim
     | _=>exact (show False from h).elim
   | false=>exact ⟨by simp,λ _=>a⟩
 | inv tbl x xs=>cases b with
   | true=>
     refine ⟨λ _=>?_,by simp⟩;simp only [PX.out] at h a;generalize (x.ev s.e).bare=y at h a |-;cases y with
     | ifc t y=>
       simp only [od,ad9] at h a |-;generalize bf t tbl=q at h a |-;cases q with
       | some f=>
         have:=afi (vs:=y::k7 s.e xs) h a;exact ⟨this.1.1,this.1.2,this.2⟩
       | none=>exact (show False from h).elim
     | _=>exact (show False from h).elim
   | false=>exact ⟨by simp,λ _=>a⟩
 | nxt x=>cases b with
   | true=>exact (show False from h).elim
   | false=>exact ⟨by simp,λ _=>a⟩
theorem an0 {x y:AV} (h:dt ob x=some (y,l)) (b:ba ob ob' l):dt ob' x=some (y,l):=by
 cases x with
 | own id ver lo len=>
   simp only [dt] at h |-;split at h
   ·rename_i d c a;cases h;rw [ae1 a b]
   cases h
 | agg xs=>
   simp only [dt] at h |-;split at h
   ·rename_i d c a;cases h;rw [zc a b]
   cases h
 | _=>exact h
theorem ab3:∀{xs ys:List AV} {l:List Nat},l8 ob xs=some (ys,l)->ba ob ob' l->l8 ob' xs=some (ys,l)
 | [],ys,l,h,hs=>h
 | x::xs,ys,l,h,hs=>by
   simp only [l8] at h |-;split at h
   ·rename_i y k e j b a;cases h;obtain ⟨c,d⟩:=yb hs;rw [an0 b c,ab3 a d]
   cases h
theorem abd:∀(n:Nat) (a b:List Nat) (i:Nat),i∈b->i∈n9 ob n a b
 | 0,a,b,i,h=>h
 | n+1,[],b,i,h=>h
 | n+1,j::a,b,i,h=>by
   unfold n9;split
   ·exact abd n a b i h
   exact abd n _ _ i (by simp [h])
theorem zr:∀(n:Nat) (a b:List Nat),ba ob ob' (n9 ob n a b)->n9 ob' n a b=n9 ob n a b
 | 0,a,b,hs=>rfl
 | n+1,[],b,hs=>rfl
 | n+1,j::a,b,hs=>by
   unfold n9 at hs |-;split
   ·rename_i hc;rw [if_pos hc] at hs;exact zr n a b hs
   rename_i hc;rw [if_neg hc] at hs;rw [hs j (abd n _ _ j (by simp))];exact zr n _ _ hs
theorem avd {k:Nat} (h:idx i l=some k):i∈l:=zae (abq h)
theorem aid {ids:List Nat} (a:ba ob ob' ids):fwd ob' ids=fwd ob ids:=by
 funext id ver;unfold fwd;split
 ·rename_i k b;rw [a id (avd b)]
 rfl
theorem aeb {F:Ren}:∀{ids:List Nat},ba ob ob' ids->q8 F ob' ids=q8 F ob ids
 | [],hs=>rfl
 | i::ids,hs=>by
   simp only [q8];rw [hs i (by simp),aeb (λ j a=>hs j (by simp [a]))]
theorem apw {u m k:Nat} {ids:List Nat} (h:k<m):i8 u ids k∈be u ids m:=by
 simp only [be,List.mem_map,List.mem_range];exact ⟨k,h,rfl⟩
theorem ag3 {u m k:Nat} {ids:List Nat} (b:ba ob ob' (be u ids m)) (h:k<m):di ob' u ids k=di ob u ids k:=by
 have:=b _ (apw (u:=u) (ids:=ids) h);unfold di;unfold i8 at this;split
 ·rename_i i a;rw [a] at this;simp only at this;rw [this];rcases ob i with _ | ⟨v,_ | _⟩<;>rfl
 rename_i a;rw [a] at this;exact yg this
theorem anx {u m:Nat} {ids:List Nat} (a:ba ob ob' (be u ids m)):back ob' u ids m=back ob u ids m:=by
 funext id ver;unfold back;split
 ·rename_i h;rw [ag3 a h.2.2]
 rfl
theorem afy {u m:Nat} {ids:List Nat} {F:Ren} (e:ba ob ob' (be u ids m)):∀{os:List Ob} {k:Nat},k+os.length<=m ->
 (∀j,k<=j->j<k+os.length->am ob' u ids F k os (i8 u ids j)=am ob u ids F k os (i8 u ids j))/\(∀i,(∀j,k<=j->j<k+os.length->i≠i8 u ids j)->am ob' u ids F k os i=ob' i)
 | [],k,h=>⟨λ j c a=>by simp at a; omega,λ i h=>rfl⟩
 | o::os,k,h=>by
   simp at h;obtain ⟨f,g⟩:=afy (F:=F) e (os:=os) (k:=k+1) (by omega);refine ⟨λ j c a=>?_,λ i d=>?_⟩
   ·simp at a;simp only [am,upd,ag3 e (show k<m by omega)];split
    ·rfl
    rename_i b;refine f j ?_ (by omega);rcases Nat.lt_or_ge k j with h | h
    ·omega
    have:j=k:=by omega
    subst this; exact (b rfl).elim
   simp only [am,upd];rw [if_neg (d k (zac _) (by simp))];exact g i λ j c a=>d j (by omega) (by simp; omega)
theorem qn {d:Option Nat} {x:AV} {e e':Env} {t:Nat} (h:t∈d.toList):m6 d x e' t=m6 d x e t:=by
 cases d with
 | none=>simp at h
 | some d=>simp at h; subst h; simp [m6,put]
theorem ff {d:Option Nat} {x:AV} {e:Env} {t:Nat} (h:t∉d.toList):m6 d x e t=e t:=by
 cases d with
 | none=>rfl
 | some d=>simp at h; simp [m6,put,h]
theorem an6 {g:Option (Nat×Bool)} {e e':Env} (h:∀t,t∈gus g->e' t=e t):yes e' g=yes e g:=by
 cases g with
 | none=>rfl
 | some p=>simp only [yes,h p.1 (by simp [gus])]
def akp (r:PR) (s s':St) (o o':Out):Prop:=
 o'.ok/\(∀t,t∈r.d.toList->o'.st.e t=o.st.e t)/\(∀t,t∉r.d.toList->o'.st.e t=s'.e t) /\
 (∀i,i∈o.lg.wr->i∈o.lg.rd/\o'.st.ob i=o.st.ob i)/\(∀i,i∉o.lg.wr->o'.st.ob i=s'.ob i)
theorem as5 {x:AV} (h:∀i,i∈t5 x->ob' i=ob i):x.rv ob'=x.rv ob:=by
 cases x with
 | own id ver lo len=>simp only [AV.rv,g9,h id (by simp [t5])]
 | _=>rfl
theorem aot:∀{xs:List AV},(∀i,i∈l5 xs->ob' i=ob i)->rvs ob' xs=rvs ob xs
 | [],_=>rfl
 | x::xs,h=>by
   simp only [rvs];rw [as5 (λ i a=>h i (by simp [l5,a])),aot (λ i a=>h i (by simp [l5,a]))]
theorem av5 {x:AV} (h:∀i,i∈t5 x->ob' i=ob i):dt ob' x=dt ob x:=by
 cases x with
 | own id ver lo len=>simp only [dt]; rw [as5 h]
 | agg xs=>simp only [dt]; rw [aot (λ i a=>h i (by simpa [t5] using a))]
 | _=>rfl
theorem amm:∀{xs:List AV},(∀i,i∈l5 xs->ob' i=ob i)->l8 ob' xs=l8 ob xs
 | [],_=>rfl
 | x::xs,h=>by
   simp only [l8];rw [av5 (λ i a=>h i (by simp [l5,a])),amm (λ i a=>h i (by simp [l5,a]))]
theorem adn {f:FuncId} {p:Prop} {as:List AV} (h:(x7 P r s f p c (af as (l8 s.ob as))).ok) (g:ba s.ob s'.ob (x7 P r s f p c (af as (l8 s.ob as))).lg.rd) :
 akp r s s' (x7 P r s f p c (af as (l8 s.ob as))) (x7 P r s' f p c (af as (l8 s'.ob as))):=by
 have q:∀(a:List AV×List Nat×Bool),(x7 P r s f p c a).ok->ba s.ob s'.ob (x7 P r s f p c a).lg.rd->(ba s.ob s'.ob a.2.1->af as (l8 s'.ob as)=a)->akp r s s' (x7 P r s f p c a) (x7 P r s' f p c (af as (l8 s'.ob as))):=λ a h g d=>by
  obtain ⟨m,l,C⟩:=a;simp only [x7] at h g |-;rcases hpo:q8 (fwd s.ob (n9 s.ob 64 (l5 m) [])) s.ob (n9 s.ob 64 (l5 m) []) with _ | po
  ·rw [hpo] at h; exact (show False from h).elim
  rw [hpo] at h g;simp only [aa2,PR.lg] at g;obtain ⟨B,e⟩:=yb g;obtain ⟨e,x⟩:=yb e;rw [d B];simp only;rw [zr 64 (l5 m) [] e];generalize n9 s.ob 64 (l5 m) []=ids at *;rw [aid e,aeb e,hpo];simp only [aa2,PR.lg] at h |-;rw [aid e,anx x];have y:=afy (F:=back s.ob r.u ids c.2.length) x (os:=c.2) (k:=0) (by simp);have w:∀i,i∈be r.u ids c.2.length↔∃j,j<c.2.length/\i8 r.u ids j=i:=λ i=>by simp [be]
  refine ⟨h,λ t v=>qn v,λ t v=>ff v,λ i b=>⟨by simp [b],?_⟩,λ i b=>?_⟩
  ·obtain ⟨j,z,rfl⟩:=(w i).1 b;exact y.1 j (Nat.zero_le _) (by simpa using z)
  refine y.2 i λ j n A o=>b ((w i).2 ⟨j,by simpa using A,o.symm⟩)
 refine q _ h g λ n=>?_;rcases d:l8 s.ob as with _ | ⟨m,_ | ⟨i,l⟩⟩
 ·rw [d] at n;rw [amm (ob:=s.ob) (λ i b=>n i b),d]
 ·rw [ab3 d (λ i b=>by simp at b)]
 rw [d] at n;rw [ab3 d n]
theorem aqm {p:Prop} {vs:List AV} {y:AV} (h:(sn P r s p c vs y).ok) (a:ba s.ob s'.ob (sn P r s p c vs y).lg.rd):akp r s s' (sn P r s p c vs y) (sn P r s' p c vs y):=by
 cases y with
 | fn f cap k=>cases f with
   | func f=>exact adn h a
   | _=>exact (show False from h).elim
 | _=>exact (show False from h).elim
theorem aqn {tbl:List (TypeId×FuncId)} {p:Prop} {vs:List AV} {y:AV} (h:(od P r s tbl p c vs y).ok) (a:ba s.ob s'.ob (od P r s tbl p c vs y).lg.rd):akp r s s' (od P r s tbl p c vs y) (od P r s' tbl p c vs y):=by
 cases y with
 | ifc t y=>
   simp only [od] at h a |-;generalize bf t tbl=q at h a |-;cases q with
   | some f=>exact adn h a
   | none=>exact (show False from h).elim
 | _=>exact (show False from h).elim
theorem afj {tbl:List (TypeId×FuncId)} {p:Prop} {vs:List AV} {y:AV}:∃rd a,(od P r s tbl p c vs y).lg=r.lg rd a:=by
 cases y with
 | ifc t y=>
   simp only [od];generalize bf t tbl=q;cases q with
   | some f=>
     simp only;generalize af (y::vs) (l8 s.ob (y::vs))=q;simp only [x7];generalize q8 _ _ _=po;cases po<;>exact ⟨_,_,rfl⟩
   | none=>exact ⟨_,_,rfl⟩
 | _=>exact ⟨_,_,rfl⟩
theorem ahg (h:(r.out P s c).ok) (F:∀t,t∈(r.out P s c).lg.us->s'.e t=s.e t) (l:r.x.adr=false->ba s.ob s'.ob (r.out P s c).lg.rd) (w:aqx s.ob s'.ob (r.out P s c).lg.rd):akp r s s' (r.out P s c) (r.out P s' c):=by
 rcases r with ⟨d,g,u,x⟩
 have C:(PR.out P ⟨d,g,u,x⟩ s c).lg.us=gus g++(x.us++d.toList):=by
  unfold PR.out;simp only;generalize yes s.e g=y;rcases y with _ | b
  ·cases x<;>rfl
  cases x with
  | see o=>rfl
  | act o=>cases b<;>rfl
  | call f xs=>cases b with
    | false=>rfl
    | true=>
      simp only [PX.out];generalize af (k7 s.e xs) (l8 s.ob (k7 s.e xs))=q;simp only [x7];generalize q8 _ _ _=po;cases po<;>rfl
  | callv x xs=>cases b with
    | false=>rfl
    | true=>
      simp only [PX.out];generalize (x.ev s.e).bare=y;cases y with
      | fn f cap k=>cases f with
        | func f=>
          simp only [sn];generalize af (cap.take k++(k7 s.e xs++cap.drop k)) (l8 s.ob (cap.take k++(k7 s.e xs++cap.drop k)))=q;simp only [x7];generalize q8 _ _ _=po;cases po<;>rfl
        | _=>rfl
      | _=>rfl
  | inv tbl x xs=>cases b with
    | false=>rfl
    | true=>
      simp only [PX.out];obtain ⟨rd,G,e⟩:=afj (P:=P) (r:=⟨d,g,u,.inv tbl x xs⟩) (s:=s) (c:=c) (tbl:=tbl) (p:=(x.ev s.e).may true/\ae true s.e xs) (vs:=k7 s.e xs) (y:=(x.ev s.e).bare);rw [e]
      rfl
  | nxt x=>cases b<;>rfl
 rw [C] at F;obtain ⟨z,j⟩:=ah F;obtain ⟨j,_⟩:=ah j;unfold PR.out at h l w |-;simp only at h l w z j |-;rw [an6 z];generalize yes s.e g=y at h l w |-;rcases y with _ | b
 ·have h:False:=by cases x<;>exact h
  exact h.elim
 cases x with
 | see o=>
   simp only [PX.out] at h l w |-;rw [aug (show ∀t,t∈o.us->s'.e t=s.e t from j)]
   obtain ⟨A,B⟩:(o.see b s.e s'.ob).ok/\(o.see b s.e s'.ob).v=(o.see b s.e s.ob).v:=by
    cases hadr:o.adr with
    | true=>exact ay0 hadr h w
    | false=>exact aww h (l hadr)
   rw [B];exact ⟨A,λ t a=>qn a,λ t a=>ff a,λ i m=>by simp [PR.lg] at m,λ i m=>rfl⟩
 | act o=>replace l:=l rfl; cases b with
   | true=>
     simp only [PX.out] at h l |-;rw [awc (show ∀t,t∈o.us->s'.e t=s.e t from j)];obtain ⟨A,B,D,E⟩:=ay1 h l;simp only at A B D E;rw [B];exact ⟨A,λ t a=>qn a,λ t a=>ff a,D,E⟩
   | false=>exact ⟨trivial,λ t a=>qn a,λ t a=>ff a,λ i m=>by simp [PX.out,PR.lg] at m,λ i m=>rfl⟩
 | call f xs=>replace l:=l rfl; cases b with
   | true=>
     simp only [PX.out] at h l |-;rw [kg (show ∀t,t∈usL xs->s'.e t=s.e t from j),nr (show ∀t,t∈usL xs->s'.e t=s.e t from j)];exact adn h l
   | false=>exact ⟨trivial,λ t a=>qn a,λ t a=>ff a,λ i m=>by simp [PX.out,PR.lg] at m,λ i m=>rfl⟩
 | callv x xs=>replace l:=l rfl; cases b with
   | true=>
     obtain ⟨j,n⟩:=ah j;simp only [PX.out] at h l |-;rw [kg n,nr n,o8 j];exact aqm h l
   | false=>exact ⟨trivial,λ t a=>qn a,λ t a=>ff a,λ i m=>by simp [PX.out,PR.lg] at m,λ i m=>rfl⟩
 | inv tbl x xs=>replace l:=l rfl; cases b with
   | true=>
     obtain ⟨j,n⟩:=ah j;simp only [PX.out] at h l |-;rw [kg n,nr n,o8 j];exact aqn h l
   | false=>exact ⟨trivial,λ t a=>qn a,λ t a=>ff a,λ i m=>by simp [PX.out,PR.lg] at m,λ i m=>rfl⟩
 | nxt x=>cases b with
   | true=>exact (show False from h).elim
   | false=>exact ⟨trivial,λ t a=>qn a,λ t a=>ff a,λ i m=>by simp [PX.out,PR.lg] at m,λ i m=>rfl⟩
theorem alu (h:r.x.sto=true) (i:Nat):pin ((r.out P s c).st.ob i)=pin (s.ob i):=by
 rcases r with ⟨d,g,u,x⟩
 unfold PR.out;simp only;generalize yes s.e g=y;cases x with
 | act o=>cases o with
   | st n x1 x2=>
     rcases y with _ | b
     ·rfl
     cases b with
     | true=>exact awr
     | false=>rfl
   | _=>cases h
 | _=>cases h
theorem apn:(r.out P s c).lg.ad=r.x.adr/\(r.out P s c).lg.st=r.x.sto:=by
 rcases r with ⟨d,g,u,x⟩
 unfold PR.out;simp only;generalize yes s.e g=y;rcases y with _ | b
 ·cases x<;>exact ⟨rfl,rfl⟩
 cases x with
 | see o=>exact ⟨rfl,rfl⟩
 | act o=>cases b<;>exact ⟨rfl,rfl⟩
 | call f xs=>cases b with
   | false=>exact ⟨rfl,rfl⟩
   | true=>
     simp only [PX.out];generalize af (k7 s.e xs) (l8 s.ob (k7 s.e xs))=q;simp only [x7];generalize q8 _ _ _=po;cases po<;>exact ⟨rfl,rfl⟩
 | callv x xs=>cases b with
   | false=>exact ⟨rfl,rfl⟩
   | true=>
     simp only [PX.out];generalize (x.ev s.e).bare=y;cases y with
     | fn f cap k=>cases f with
       | func f=>
         simp only [sn];generalize af (cap.take k++(k7 s.e xs++cap.drop k)) (l8 s.ob (cap.take k++(k7 s.e xs++cap.drop k)))=q;simp only [x7];generalize q8 _ _ _=po;cases po<;>exact ⟨rfl,rfl⟩
       | _=>exact ⟨rfl,rfl⟩
     | _=>exact ⟨rfl,rfl⟩
 | inv tbl x xs=>cases b with
   | false=>exact ⟨rfl,rfl⟩
   | true=>
     simp only [PX.out];obtain ⟨rd,a,e⟩:=afj (P:=P) (r:=⟨d,g,u,.inv tbl x xs⟩) (s:=s) (c:=c) (tbl:=tbl) (p:=(x.ev s.e).may true/\ae true s.e xs) (vs:=k7 s.e xs) (y:=(x.ev s.e).bare);rw [e];exact ⟨rfl,rfl⟩
 | nxt x=>cases b<;>exact ⟨rfl,rfl⟩
end

end Go.Ev

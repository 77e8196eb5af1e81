import Derived.Lib.DecodeN
import Derived.Test.YtocfnfcflljooaaGreatM2
open List renaming getElem?_eq_some_iff → zaa, mem_iff_getElem? → zab, mem_of_getElem? → zae, range → zag, replicate → zah
open Nat renaming le_refl → zac
open Option renaming map_eq_some_iff → zad, some → zaf
namespace Go.Ev
set_option maxHeartbeats 8000000
set_option maxRecDepth 100000
open Go
set_option linter.unusedSectionVars false
set_option linter.unnecessarySimpa false
set_option linter.unusedSimpArgs false
set_option linter.unusedVariables false
abbrev Ren:=Nat->Nat->Option (Nat×Nat)
mutual
def imV (F:Ren):AV->AV
 | .r x=>.r x
 | .agg xs=>.agg (imL F xs)
 | .tup xs=>.tup (imL F xs)
 | .nils sz z=>.nils sz z
 | .own id ver lo len=>match F id ver with | some (i,v)=>.own i v lo len | none=>.undef
 | .ptr id ver off=>match F id ver with | some (i,v)=>.ptr i v off | none=>.undef
 | .oel id ver idx off=>match F id ver with | some (i,v)=>.oel i v idx off | none=>.undef
 | .rp ys=>.rp ys
 | .fn f xs k=>.fn f (imL F xs) k
 | .mp id ver=>match F id ver with | some (i,v)=>.mp i v | none=>.undef
 | .ifc t x=>.ifc t (imV F x)
 | .gd b x=>.gd b (imV F x)
 | .undef=>.undef
def imL (F:Ren):List AV->List AV
 | []=>[]
 | x::xs=>imV F x::imL F xs
end
def imO (F:Ren):Ob->Ob
 | .box cells=>.box (imL F cells)
 | .row sz z app wr xs=>.row sz z app wr xs
 | .abs T=>.abs T
 | .map es c=>.map es c
 | .iter m since seen st=>.iter (imV F m) since seen st
theorem qy (F:Ren):∀(xs:List AV) (i:Nat),(imL F xs)[i]?=(xs[i]?).map (imV F)
 | [],i=>by simp [imL]
 | x::xs,0=>by simp [imL]
 | x::xs,i+1=>by simp [imL,qy F xs i]
theorem cw (F:Ren):∀(xs:List AV),(imL F xs).length=xs.length
 | []=>by simp [imL]
 | x::xs=>by simp [imL,cw F xs]
section
variable {P:Program} {X Y:Cx} {w w':World} {s:St} {ρ ρ':Pl->Option Nat} {a:Act} {ob ob':Obs} {R R':Nat->Prop} {F:Ren}
def zb (ob ob':Obs) (ρ ρ':Pl->Option Nat) (F:Ren):Prop:=∀id ver i v,F id ver=some (i,v)->∃o o',ob id=some (ver,o)/\ob' i=some (v,o')/\ρ' i=ρ id/\u5 o o'
theorem u5.own {r len id j:Nat} {c:Value} {o o':Ob} (h:aa9 w ρ id r len c o) (d:u5 o o') (a:ρ' j=ρ id):aa9 w ρ' j r len c o':=by
 cases o with
 | box _=>
   cases o' with
   | box _=>
     obtain ⟨A,cap,q,m,f,k⟩:=h;refine ⟨A,cap,q,m,f,λ i=>?_⟩;obtain ⟨b,cs,e,fr,n,p,g,l⟩:=k i;exact ⟨b,cs,e,fr,by rw [a,n],p,g,l⟩
   | _=>exact d.elim
 | abs _=>exact h.elim
 | map _ _=>exact h.elim
 | iter _ _ _ _=>exact h.elim
 | row sz z1 a1 w1 xs=>
   cases o' with
   | box _=>
     obtain rfl:sz=1:=d;obtain ⟨A,cap,q,m,f,s,k⟩:=h;refine ⟨A,cap,q,m,f,λ i=>?_⟩;obtain ⟨b,cs,e,fr,n,p,g,l⟩:=k i;exact ⟨b,cs,e,fr,by rw [a,n],by rw [p,Nat.mul_one],g,by simpa using l⟩
   | abs _=>exact d.elim
   | map _ _=>exact d.elim
   | iter _ _ _ _=>exact d.elim
   | row sz' z2 a2 w2 xs'=>
     obtain ⟨rfl,d⟩:=d;obtain ⟨A,cap,q,m,f,s,k⟩:=h;refine ⟨A,cap,q,m,f,by omega,λ i=>?_⟩;obtain ⟨b,cs,e,fr,n,p,g,l⟩:=k i;exact ⟨b,cs,e,fr,by rw [a,n],p,g,l⟩
theorem RelA.im (A:∀b,R b->R' b) (p:zb ob ob' ρ ρ' F) {x:AV} {c:Value} (h:RelA w R ob ρ x c):RelA w R' ob' ρ' (imV F x) c:=by
 induction h with
 | r h0=>rw [imV]; exact .r (h0.mono λ b B=>⟨A b B,rfl⟩)
 | agg xs cs hl _ ih=>
   rw [imV];refine .agg _ cs (by rw [cw]; exact hl) λ i x c hx hc=>?_;rw [qy,zad] at hx;obtain ⟨y,hy,rfl⟩:=hx;exact ih i y c hy hc
 | tup xs cs hl _ ih=>
   rw [imV];refine .tup _ cs (by rw [cw]; exact hl) λ i x c hx hc=>?_;rw [qy,zad] at hx;obtain ⟨y,hy,rfl⟩:=hx;exact ih i y c hy hc
 | nils sz z=>rw [imV]; exact .nils sz z
 | own id ver lo len c hc ha=>
   rw [imV];split
   ·rename_i i v d;obtain ⟨o,o',m,l,e,a⟩:=p _ _ _ _ d;exact .own _ _ _ _ _ hc ⟨v,o',l,zac _,λ _=>u5.own (ha.live m) a e⟩
   exact .undef _
 | ptr id ver off c hc ha=>
   rw [imV];split
   ·rename_i i v d;obtain ⟨o,o',m,l,e,a⟩:=p _ _ _ _ d;exact .ptr _ _ _ _ hc ⟨v,o',l,zac _,λ _=>by rw [e]; exact ha.live m⟩
   exact .undef _
 | oel id ver idx off c hc ha=>
   rw [imV];split
   ·rename_i i v d;obtain ⟨o,o',m,l,e,a⟩:=p _ _ _ _ d;refine .oel _ _ _ _ _ hc ⟨v,o',l,zac _,λ _=>?_⟩;have n:=ha.live m;cases o with
    | box _=>
      cases o' with
      | box _=>
        obtain ⟨b,C,q⟩:=n;exact ⟨b,by rw [e]; exact C,q⟩
      | _=>exact a.elim
    | abs _=>exact n.elim
    | map _ _=>exact n.elim
    | iter _ _ _ _=>exact n.elim
    | row sz z1 a1 w1 xs=>
      cases o' with
      | box _=>
        obtain rfl:sz=1:=a;obtain ⟨C,q,b,s,D⟩:=n;exact ⟨b,by rw [e]; exact s,by rw [D,Nat.mul_one]⟩
      | abs _=>exact a.elim
      | map _ _=>exact a.elim
      | iter _ _ _ _=>exact a.elim
      | row sz' z2 a2 w2 xs'=>
        obtain ⟨rfl,a⟩:=a;obtain ⟨C,q,s⟩:=n;exact ⟨by omega,q,by rw [e]; exact s⟩
   exact .undef _
 | rp ys b o g hRb hg=>
   rw [imV];exact .rp ys b o g (A b hRb) λ j y u=>⟨(hg j y u).1,(hg j y u).2.1,(hg j y u).2.2.mono λ b B=>⟨A b B,rfl⟩⟩
 | fn f xs k fs cs hk hl _ ih=>
   rw [imV];refine .fn f _ k fs cs hk (by rw [cw]; exact hl) λ i x c hx hc=>?_;rw [qy,zad] at hx;obtain ⟨y,hy,rfl⟩:=hx;exact ih i y c hy hc
 | mp id ver c hc ha=>
   rw [imV];split
   ·rename_i i v d;obtain ⟨o,o',m,l,e,a⟩:=p _ _ _ _ d;exact .mp _ _ _ hc ⟨v,o',l,zac _,λ _=>by rw [e]; exact ha.live m⟩
   exact .undef _
 | ifc t _ ih=>rw [imV]; exact .ifc t ih
 | gd b _ d ih=>rw [imV]; exact .gd b ih d
 | undef c=>rw [imV]; exact .undef c
theorem bd.im (l:∀b,R b->R' b) (p:zb ob ob' ρ ρ' F) {id i:Nat} {x:Ob} (h:bd w R ob ρ id x) (a:ρ' i=ρ id) (k:∀j,ρ' (.s i j)=ρ (.s id j)):bd w R' ob' ρ' i (imO F x):=by
 cases x with
 | abs T=>
   obtain ⟨b,f,d⟩:=h;exact ⟨b,by rw [a,f],by simp only [k]; exact d⟩
 | map es clock=>
   obtain ⟨b,f,d⟩:=h;exact ⟨b,by rw [a,f],d⟩
 | iter m since seen st=>
   obtain ⟨b,m',f,d,g⟩:=h;exact ⟨b,m',by rw [a,f],d,g.im l p⟩
 | box cells=>
   obtain ⟨b,cs,e,f,d,g,n⟩:=h;refine ⟨b,cs,e,by rw [a,f],d,by rw [cw]; exact g,λ i x c hx hc=>?_⟩;rw [qy,zad] at hx;obtain ⟨y,hy,rfl⟩:=hx;exact (n i y c hy hc).im l p
 | row sz z app wr xs=>
   rcases h with ⟨f,d,g⟩ | ⟨b,cs,e,fr,f,d,g,n,A,q⟩
   ·exact .inl ⟨f,by rw [a,d],g⟩
   refine .inr ⟨b,cs,e,fr,by rw [a,f],d,g,n,A,λ i x o=>⟨(q i x o).1,λ j y v=>?_⟩⟩;obtain ⟨c,r,u,t⟩:=(q i x o).2 j y v;exact ⟨c,r,u,t.mono λ b B=>⟨l b B,rfl⟩⟩
theorem u5.im (F:Ren) (x:Ob):u5 x (imO F x):=by cases x<;>simp [u5,imO]
theorem ay (F:Ren) (x:Ob):(imO F x).isAbs=x.isAbs:=by cases x<;>rfl
theorem zj (F:Ren) (x:Ob):(imO F x).pinned=x.pinned:=by cases x<;>rfl
theorem afg (F:Ren) (x:Ob):(imO F x).isRow=x.isRow:=by cases x<;>rfl
theorem apo (F:Ren) (x:Ob):(imO F x).own=x.own:=by cases x<;>rfl
def idx:Nat->List Nat->Option Nat
 | _,[]=>none
 | i,j::l=>if i=j then some 0 else (idx i l).map (· + 1)
theorem abw {i:Nat}:∀{l:List Nat} {k:Nat},idx i l=some k->l[k]?=some i
 | [],k,h=>by cases h
 | j::l,k,h=>by
   unfold idx at h;split at h
   ·rename_i a; cases h; simp [a]
   rw [zad] at h;obtain ⟨m,b,rfl⟩:=h;simpa using abw b
def obs:Nat->List Ob->Obs
 | _,[]=>λ _=>none
 | k,o::os=>upd k (0,o) (obs (k+1) os)
theorem apt:∀{os:List Ob} {k id:Nat},id<k->obs k os id=none
 | [],k,id,h=>rfl
 | o::os,k,id,h=>by
   unfold obs upd;rw [if_neg (by omega)];exact apt (by omega)
theorem ajn:∀{os:List Ob} {k id:Nat},k<=id->obs k os id=(os[id-k]?).map λ o=>(0,o)
 | [],k,id,h=>by simp [obs]
 | o::os,k,id,h=>by
   unfold obs upd;by_cases a:id=k
   ·subst a; simp
   rw [if_neg a,ajn (by omega),show id-k=(id-(k+1))+1 by omega];simp
abbrev ob0 (po:List Ob):Obs:=obs 1000000 po
theorem qe {po:List Ob} {id:Nat} {x:Nat×Ob} (h:ob0 po id=some x):1000000<=id/\po[id-1000000]?=some x.2/\x.1=0:=by
 by_cases a:1000000<=id
 ·rw [ob0,ajn a,zad] at h;obtain ⟨o,b,rfl⟩:=h;exact ⟨a,b,rfl⟩
 rw [ob0,apt (by omega)] at h;cases h
def mo (ob:Obs) (ρ:Pl->Option Nat) (i b:Nat):Prop:=∃x,ob i=some x/\foot ρ i x.2 b
def el (ob:Obs) (ρ:Pl->Option Nat) (b:Nat):Prop:=∃id x,ob id=some x/\foot ρ id x.2 b
def gx (po:List Ob) (ρ:Pl->Option Nat):Nat->Option Nat:=λ id=>match ob0 po id with
 | some (_,o)=>if o.pinned=true then ρ id else none
 | none=>none
def adw (P:Program) (w:World) (I:Nat->Prop) (a:String) (ok:Array Value->Prop):Prop:=
 ∀g,P.globalNamed a=some g->¬I g/\∃cs e fr,w.heap[g]?=some (.cells cs e fr)/\ok cs
def axi:Array Value:=((zag 20).map λ k=>Value.int .u64 (10^k:Nat)).toArray
abbrev kq:Bool:=false
structure Gl (P:Program) (w:World) (I:Nat->Prop):Prop where
 pow : adw P w I "internal/strconv.uint64pow10" fun cs => cs = axi
 syn : kq = true → adw P w I "strconv.ErrSyntax" fun cs => ∃ t p, cs = #[.iface t p]
 rng : kq = true → adw P w I "strconv.ErrRange" fun cs => ∃ t p, cs = #[.iface t p]
 fst : kq = true → adw P w I "unicode/utf8.first" fun cs => ∀ i : Nat, i < 256 → cs[i]? = some (.int .u8 (Lib.firstT i))
 acc : kq = true → adw P w I "unicode/utf8.acceptRanges" fun cs => ∀ i : Nat, i < 16 → cs[2 * i]? = some (.int .u8 (Lib.accLo i)) ∧ cs[2 * i + 1]? = some (.int .u8 (Lib.accHi i))
theorem adw.keep {P:Program} {w w':World} {I c:Nat->Prop} {a:String} {ok:Array Value->Prop} (h:adw P w I a ok)
 (i:∀g,g<w.heap.size->¬I g->w'.heap[g]?=w.heap[g]?/\¬c g):adw P w' c a ok:=λ g f=>by
 obtain ⟨l,cs,e,fr,b,k⟩:=h g f;obtain ⟨j,d⟩:=i g (Array.getElem?_eq_some_iff.1 b).1 l;exact ⟨d,cs,e,fr,by rw [j,b],k⟩
theorem Gl.keep {P:Program} {w w':World} {I c:Nat->Prop} (h:Gl P w I) (b:∀g,g<w.heap.size->¬I g->w'.heap[g]?=w.heap[g]?/\¬c g):Gl P w' c:=
 ⟨h.pow.keep b,λ a=>(h.syn a).keep b,λ a=>(h.rng a).keep b,λ a=>(h.fst a).keep b,λ a=>(h.acc a).keep b⟩
class GlC (P:Program) (X:Cx):Prop where
 gl:Gl P X.w0 X.I
def b5 (P:Program) (f:FuncId) (args:List AV) (po:List Ob) (res:AV) (d:List Ob):Prop:=
 ∀(w:World) (a:Array Value) (ρ:Pl->Option Nat) (B:Nat->Prop),Gl P w (el (ob0 po) ρ)->(∀b,el (ob0 po) ρ b\/w.heap.size<=b->B b) ->
  Mem ⟨0,el (ob0 po) ρ,λ _=>none,B,w⟩ (ob0 po) ρ w->a.size=args.length ->
  (∀(i:Nat) (x:AV) (c:Value),args[i]?=some x->a[i]?=some c->RelA w (d7 B (ob0 po) ρ w) (ob0 po) ρ x c) ->
  Calls P f a w λ e w'=>∃c ρ',e=.returned c/\Mem ⟨0,el (ob0 po) ρ,gx po ρ,B,w⟩ (ob0 d) ρ' w'/\RelA w' (d7 B (ob0 d) ρ' w') (ob0 d) ρ' res c
end

mutual
def bz:RV->Prop
 | .v _=>True
 | .agg xs=>gm xs
 | .sl _ _=>False
def gm:List RV->Prop
 | []=>True
 | x::xs=>bz x/\gm xs
end
mutual
def y7:AV->Prop
 | .r x=>bz x
 | .agg xs=>gk xs
 | .tup xs=>gk xs
 | .rp _=>False
 | .fn _ xs _=>gk xs
 | .gd _ x=>y7 x
 | .ifc _ x=>y7 x
 | _=>True
def gk:List AV->Prop
 | []=>True
 | x::xs=>y7 x/\gk xs
end
def ll:Ob->Prop
 | .box cells=>gk cells
 | .row _ _ _ _ xs=>∀x,x∈xs->bz x
 | .abs _=>True
 | .map _ _=>True
 | .iter m _ _ _=>y7 m
theorem gm.at_:∀{xs:List RV},gm xs->∀{i:Nat} {x:RV},xs[i]?=some x->bz x
 | [],_,i,x,hx=>by simp at hx
 | y::ys,h,0,x,hx=>by simp at hx; subst hx; exact h.1
 | y::ys,h,i+1,x,hx=>by simp at hx; exact gm.at_ h.2 hx
theorem gk.at_:∀{xs:List AV},gk xs->∀{i:Nat} {x:AV},xs[i]?=some x->y7 x
 | [],_,i,x,hx=>by simp at hx
 | y::ys,h,0,x,hx=>by simp at hx; subst hx; exact h.1
 | y::ys,h,i+1,x,hx=>by simp at hx; exact gk.at_ h.2 hx
section
variable {P:Program} {X:Cx} [GlC P X] {w w':World} {s:St} {ρ ρ':Pl->Option Nat} {a:Act} {ob ob':Obs} {R R':Nat->Prop}
theorem RelV.flat {x:RV} {c:Value} (h:RelV w R x c) (a:bz x):RelV w R' x c:=by
 induction h with
 | v x=>exact .v x
 | agg xs cs hl _ ih=>exact .agg xs cs hl λ i x c hx hc=>ih i x c hx hc (gm.at_ (by simpa [bz] using a) hx)
 | sl sz xs A cap hc hm b o g hA hz hg hr ih=>simp [bz] at a
theorem RelA.flat {x:AV} {c:Value} (h:RelA w R ob ρ x c) (a:y7 x):RelA w R' ob ρ x c:=by
 induction h with
 | r h0=>exact .r (h0.flat (by simpa [y7] using a))
 | agg xs cs hl _ ih=>exact .agg xs cs hl λ i x c hx hc=>ih i x c hx hc (gk.at_ (by simpa [y7] using a) hx)
 | tup xs cs hl _ ih=>exact .tup xs cs hl λ i x c hx hc=>ih i x c hx hc (gk.at_ (by simpa [y7] using a) hx)
 | nils sz z=>exact .nils sz z
 | own id ver lo len c hc ha=>exact .own id ver lo len c hc ha
 | ptr id ver off c hc ha=>exact .ptr id ver off c hc ha
 | oel id ver i off c hc ha=>exact .oel id ver i off c hc ha
 | rp ys b o g hR hg=>simp [y7] at a
 | fn f xs k fs cs hk hl _ ih=>exact .fn f xs k fs cs hk hl λ i x c hx hc=>ih i x c hx hc (gk.at_ (by simpa [y7] using a) hx)
 | mp id ver c hc ha=>exact .mp id ver c hc ha
 | ifc t _ ih=>exact .ifc t (ih (by simpa [y7] using a))
 | gd b _ hf' ih=>exact .gd b (λ d=>ih d (by simpa [y7] using a)) hf'
 | undef c=>exact .undef c
theorem gm.cells {x:RV} (h:bz x) {j:Nat} {y:RV} (a:x.cells[j]?=some y):bz y:=by
 cases x with
 | v v=>cases j<;>simp [RV.cells] at a; subst a; trivial
 | agg xs=>simp only [RV.cells] at a; exact gm.at_ (by simpa [bz] using h) a
 | sl k xs=>simp [bz] at h
theorem bd.flat {id:Nat} {x:Ob} (h:bd w R ob ρ id x) (k:ll x):bd w R' ob ρ id x:=by
 cases x with
 | abs T=>exact h
 | map es c=>exact h
 | iter m since seen st=>
   obtain ⟨b,m',f,a,d⟩:=h;exact ⟨b,m',f,a,d.flat k⟩
 | box cells=>
   obtain ⟨b,cs,e,f,a,d,l⟩:=h;exact ⟨b,cs,e,f,a,d,λ i x c hx hc=>(l i x c hx hc).flat (gk.at_ k hx)⟩
 | row sz z app wr xs=>
   rcases h with h | ⟨b,cs,e,fr,f,a,d,l,s,o⟩
   ·exact .inl h
   refine .inr ⟨b,cs,e,fr,f,a,d,l,s,λ i x g=>⟨(o i x g).1,λ j y n=>?_⟩⟩;obtain ⟨c,p,r,q⟩:=(o i x g).2 j y n;exact ⟨c,p,r,q.flat (gm.cells (k x (zae g)) n)⟩
def dw (ob:Obs):AV->Option (AV×List Nat)
 | .own id ver lo len=>match AV.rv ob (.own id ver lo len) with
   | some (y,fz)=>some (.r y,fz)
   | none=>none
 | .nils sz _=>some (.r (.sl sz []),[])
 | .agg xs=>match rvs ob xs with
   | some (ys,fz)=>some (.r (.agg ys),fz)
   | none=>none
 | .gd _ _=>none
 | .oel _ _ _ _=>none
 | x=>some (x,[])
def m5 (ob:Obs):List AV->Option (List AV×List Nat)
 | []=>some ([],[])
 | x::xs=>match dw ob x,m5 ob xs with
   | some (y,i),some (ys,j)=>some (y::ys,i++j)
   | _,_=>none
mutual
def t9:AV->List Nat
 | .own id _ _ _=>[id]
 | .ptr id _ _=>[id]
 | .oel id _ _ _=>[id]
 | .agg xs=>l8 xs
 | .tup xs=>l8 xs
 | .fn _ xs _=>l8 xs
 | .gd _ x=>t9 x
 | .mp id _=>[id]
 | .ifc _ x=>t9 x
 | _=>[]
def l8:List AV->List Nat
 | []=>[]
 | x::xs=>t9 x++l8 xs
end
def aac:Option (Nat×Ob)->List Nat
 | some (_,.box cells)=>l8 cells
 | some (_,.iter m _ _ _)=>t9 m
 | _=>[]
def o5 (ob:Obs):Nat->List Nat->List Nat->List Nat
 | 0,_,acc=>acc
 | _+1,[],acc=>acc
 | n+1,i::todo,acc=>if acc.contains i then o5 ob n todo acc else o5 ob n (aac (ob i)++todo) (acc++[i])
def yt (ver k:Nat):Option (Nat×Ob)->Option (Nat×Nat)
 | some (v,_)=>if ver=v then some (1000000+k,0) else none
 | none=>none
def fwd (ob:Obs) (ids:List Nat):Ren:=λ id ver=>match idx id ids with
 | some k=>yt ver k (ob id)
 | none=>none
def rf (F:Ren):Option (Nat×Ob)->Option Ob
 | some (_,o)=>if o.own then some (imO F o) else none
 | none=>none
def s7 (F:Ren) (ob:Obs):List Nat->Option (List Ob)
 | []=>some []
 | i::is=>match rf F (ob i),s7 F ob is with
   | some o,some os=>some (o::os)
   | _,_=>none
theorem ua {F:Ren} {ob:Obs}:∀{ids:List Nat} {po:List Ob},s7 F ob ids=some po->po.length=ids.length/\∀(k i:Nat) (o:Ob),ids[k]?=some i->po[k]?=some o->∃v x,ob i=some (v,x)/\x.own=true/\o=imO F x
 | [],po,h=>by simp [s7] at h; subst h; simp
 | j::ids,po,h=>by
   simp only [s7] at h;split at h
   ·rename_i o os a g;cases h;obtain ⟨e,f⟩:=ua g;refine ⟨by simp [e],λ k i q c d=>?_⟩;cases k with
    | zero=>
      simp at c d;subst c; subst d;unfold rf at a;split at a
      ·rename_i v x hx;split at a
       ·rename_i b;cases a;exact ⟨v,x,hx,b,rfl⟩
       cases a
      cases a
    | succ k=>simp at c d; exact f k i q c d
   cases h
def j7 (u:Nat) (ids:List Nat) (k:Nat):Nat:=match ids[k]? with
 | some i=>i
 | none=>100000+1000*u+k
def ef (ob:Obs) (i:Nat):Option (Nat×Ob)->Nat
 | some (v,.box _)=>v
 | some (v,.row _ _ app _ _)=>bif app then v+1 else v
 | some (v,.abs _)=>v
 | some (v,.map _ _)=>v
 | some (v,.iter _ _ _ _)=>v
 | none=>0
def dm (ob:Obs) (u:Nat) (ids:List Nat) (k:Nat):Nat:=match ids[k]? with
 | some i=>ef ob i (ob i)
 | none=>nv ob (100000+1000*u+k)
def back (ob:Obs) (u:Nat) (ids:List Nat) (m:Nat):Ren:=λ id ver=>
 if ver=0/\1000000<=id/\id-1000000<m then some (j7 u ids (id-1000000),dm ob u ids (id-1000000)) else none
def aq (ob:Obs) (u:Nat) (ids:List Nat) (F:Ren):Nat->List Ob->Obs
 | _,[]=>ob
 | k,o::os=>upd (j7 u ids k) (dm ob u ids k,imO F o) (aq ob u ids F (k+1) os)
theorem af1 {u:Nat} {ids:List Nat} {F:Ren} {i:Nat}:∀{os:List Ob} {k:Nat},(∀j,k<=j->j<k+os.length->j7 u ids j≠i)->aq ob u ids F k os i=ob i
 | [],k,h=>rfl
 | o::os,k,h=>by
   unfold aq upd;rw [if_neg (λ e=>h k (zac _) (by simp) e.symm)];exact af1 λ j a b=>h j (by omega) (by simp; omega)
theorem alt {u:Nat} {ids:List Nat} {F:Ren} {m:Nat} (a:∀i j,i<m->j<m->j7 u ids i=j7 u ids j->i=j):∀{os:List Ob} {k j:Nat} {o:Ob},k+os.length<=m->os[j]?=some o->aq ob u ids F k os (j7 u ids (k+j))=some (dm ob u ids (k+j),imO F o)
 | [],k,j,o,h,hj=>by simp at hj
 | q::os,k,0,o,h,hj=>by simp at hj; subst hj; simp [aq,upd]
 | q::os,k,j+1,o,h,hj=>by
   simp at hj h;have b:=(zaa.1 hj).1;unfold aq upd;rw [if_neg (λ e=>by have:=a _ _ (by omega) (by omega) e; omega),show k+(j+1)=k+1+j by omega];exact alt a (by omega) hj
theorem l4 {po:List Ob} {k:Nat} {o:Ob} (h:po[k]?=some o):ob0 po (1000000+k)=some (0,o):=by
 rw [ob0,ajn (by omega),show 1000000+k-1000000=k by omega,h]
 rfl
def amu:Ob->Ob->Prop
 | .row sz _ app _ xs,o'=>app=true\/∃c b a,o'=.row sz c false b a/\xs.length<=a.length
 | .box cells,.box cells'=>cells'.length=cells.length
 | .abs T,.abs T'=>T'.size=T.size
 | .map _ _,.map _ _=>True
 | .iter _ _ _ _,.iter _ _ _ _=>True
 | _,_=>False
theorem Gam.call {f:FuncId} {as:List AV} {ids:List Nat} {po G:List Ob} {res:AV} {u:Nat} {h6:Array Value} {Bc Ra:Nat->Prop} (K:Gam X s ρ a w) (w8:s7 (fwd s.ob ids) s.ob ids=some po)
 (hT:b5 P f (imL (fwd s.ob ids) as) po res G) (wi:ids.length<=G.length) (hu:∀i j,i<G.length->j<G.length->j7 u ids i=j7 u ids j->i=j) (wl:100000+1000*u+G.length<=1000000)
 (wf:h6.size=as.length) (e7:∀(i:Nat) (x:AV) (c:Value),as[i]?=some x->h6[i]?=some c->RelA w Ra s.ob ρ x c)
 (e8:∀b,Ra b->b<w.heap.size/\Bc b/\∀(i:Nat),i∈ids->¬mo s.ob ρ i b) (w3:∀b,d7 X.B s.ob ρ w b->Bc b) (wb:∀b,(∃i,i∈ids/\mo s.ob ρ i b)\/w.heap.size<=b->Bc b)
 (hz:∀(k:Nat) (o o':Ob),po[k]?=some o->G[k]?=some o'->amu o o')
 (ev:(y7 res/\∀o∈G,ll o)\/∀b,Bc b->d7 X.B s.ob ρ w b\/(∃i,i∈ids/\mo s.ob ρ i b)\/w.heap.size<=b) :
 Calls P f h6 w λ e w'=>∃c ρ',e=.returned c/\Gam X ⟨s.e,aq s.ob u ids (back s.ob u ids G.length) 0 G⟩ ρ' a w'/\RA X ⟨s.e,aq s.ob u ids (back s.ob u ids G.length) 0 G⟩ ρ' w' (imV (back s.ob u ids G.length) res) c:=by
 obtain ⟨wj,kf⟩:=ua w8
 let V:Pl->Option Nat:=λ p=>match p with
  | .o i=>if 1000000<=i then (ids[i-1000000]?).bind λ i=>ρ (.o i) else none
  | .s i j=>if 1000000<=i then (ids[i-1000000]?).bind λ i=>ρ (.s i j) else none
 have h9:∀(k i:Nat),ids[k]?=some i->va ρ V i (1000000+k):=λ k i d=>by
  simp [va,V,d]
 have M:∀(k i:Nat),ids[k]?=some i->∃v x o,s.ob i=some (v,x)/\x.own=true/\po[k]?=some o/\o=imO (fwd s.ob ids) x:=λ k i d=>by
  have hn:=(zaa.1 d).1;have hp:po[k]?=some po[k]:=by simp [show k<po.length by omega]
  obtain ⟨v,x,H,D,N⟩:=kf k i _ d hp;exact ⟨v,x,_,H,D,hp,N⟩
 have gs:∀(id:Nat) (x:Nat×Ob),ob0 po id=some x->∃k i,id=1000000+k/\ids[k]?=some i/\po[k]?=some x.2/\x.1=0/\va ρ V i id:=λ id x hx=>by
  obtain ⟨H,D,N⟩:=qe hx;have hn:=(zaa.1 D).1;have E:ids[id-1000000]?=some (ids[id-1000000]'(by omega)):=by simp [show id-1000000<ids.length by omega]
  refine ⟨id-1000000,_,by omega,E,D,N,?_⟩;have:=h9 _ _ E;rw [show 1000000+(id-1000000)=id by omega] at this;exact this
 have ks:∀(k l i:Nat),ids[k]?=some i->ids[l]?=some i->k=l:=λ k l i d hl=>by
  have H:=(zaa.1 d).1;have D:=(zaa.1 hl).1;exact hu k l (by omega) (by omega) (by simp [j7,d,hl])
 have Q:∀b,el (ob0 po) V b↔∃i,i∈ids/\mo s.ob ρ i b:=λ b=>by
  constructor
  ·rintro ⟨id,x,H,D⟩;obtain ⟨k,i,rfl,d,e5,_,hs⟩:=gs id x H;obtain ⟨v,y,o,J,_,hp,ho⟩:=M k i d;rw [e5] at hp;refine ⟨i,zae d,_,J,(hs.foot ?_).1 D⟩;rw [zaf.inj hp,ho,ay]
  rintro ⟨i,E,⟨y,J,r⟩⟩;obtain ⟨k,d⟩:=zab.1 E;obtain ⟨v,x,o,g2,_,hp,ho⟩:=M k i d;rw [J] at g2;refine ⟨1000000+k,(0,o),l4 hp,((h9 k i d).foot ?_).2 r⟩;rw [ho,ay,zaf.inj g2]
 have g0:∀b,Own (ob0 po) V b->∃i,i∈ids/\mo s.ob ρ i b:=λ b ⟨id,v,o,H,D,N⟩=>(Q b).1 ⟨id,_,H,N⟩
 have hq:∀i,i∈ids->∀b,mo s.ob ρ i b->Own s.ob ρ b:=λ i E b ⟨y,J,r⟩=>by
  obtain ⟨k,d⟩:=zab.1 E;obtain ⟨v,x,o,H,D,_,_⟩:=M k i d;rw [J] at H;cases H;exact ⟨i,v,x,J,D,r⟩
 have gd:zb s.ob (ob0 po) ρ V (fwd s.ob ids):=λ id ver i v hF=>by
  unfold fwd at hF;split at hF
  ·rename_i k d;have ed:=abw d;obtain ⟨v0,x,o,H,D,N,h4⟩:=M k id ed;rw [H] at hF;simp only [yt] at hF;split at hF
   ·rename_i hv;cases hF;subst hv;exact ⟨x,o,H,l4 N,(h9 k id ed).1,by rw [h4]; exact u5.im _ x⟩
   cases hF
  cases hF
 have k9:∀b,d7 X.B s.ob ρ w b->d7 Bc (ob0 po) V w b:=λ b r=>⟨r.1,λ ho=>by
  obtain ⟨i,E,O⟩:=g0 b ho
  exact r.2.1 (hq i E b O),w3 b r⟩
 have eo:Mem ⟨0,el (ob0 po) V,λ _=>none,Bc,w⟩ (ob0 po) V w:=by
  refine ⟨λ id v o h=>?_,λ id w4 x x' b H D N h4=>?_,Keeps.refl _ _,λ id v o b H D=>.inl ⟨id,_,H,D⟩,λ id b h=>by cases h⟩
  ·obtain ⟨k,i,rfl,d,hp,_,hs⟩:=gs id _ h;obtain ⟨v0,x,o',H,D,N,h4⟩:=M k i d;simp only at hp;rw [hp] at N;cases N;rw [h4];exact (K.obj i v0 x H).im k9 gd hs.1 hs.2
  obtain ⟨k,i,rfl,d,e5,_,hs⟩:=gs id _ H;obtain ⟨k',i',rfl,e6,ew,_,k5⟩:=gs w4 _ D;obtain ⟨v0,y,o',J,_,hp,ho⟩:=M k i d;obtain ⟨v1,y',wk,w7,_,k6,w5⟩:=M k' i' e6;rw [e5] at hp;rw [ew] at k6;have:=K.inj i i' _ _ b J w7 ((hs.foot (by rw [zaf.inj hp,ho,ay])).1 N) ((k5.foot (by rw [zaf.inj k6,w5,ay])).1 h4);subst this;rw [ks k k' i d e6]
 have ka:Gl P w (el (ob0 po) V):=(GlC.gl (P:=P) (X:=X)).keep λ g H D=>⟨K.keeps.block g H D,λ hh=>by
  obtain ⟨i,E,⟨⟨v,x⟩,J,r⟩⟩:=(Q g).1 hh;rcases K.own i v x g J r with h | h
  ·exact D h
  omega⟩
 refine (hT w h6 V Bc ka (λ b r=>wb b (r.imp_left (Q b).1)) eo (by rw [cw,wf]) (λ i x c hx hc=>?_)).mono ?_
 ·rw [qy,zad] at hx;obtain ⟨y,hy,rfl⟩:=hx
  exact (e7 i y c hy hc).im (λ b r=>⟨(e8 b r).1,λ ho=>by
   obtain ⟨j,R,w2⟩:=g0 b ho
   exact (e8 b r).2.2 j R w2,(e8 b r).2.1⟩) gd
 rintro e w' ⟨c,ρ',rfl,hM,e1⟩;generalize k8:back s.ob u ids G.length=Fb;generalize k0:aq s.ob u ids Fb 0 G=L
 let I:Pl->Option Nat:=λ p=>match p with
  | .o i=>open Classical in if h:∃k,k<G.length/\j7 u ids k=i then ρ' (1000000+h.choose:Nat) else ρ i
  | .s i j=>open Classical in if h:∃k,k<G.length/\j7 u ids k=i then ρ' (.s (1000000+h.choose) j) else ρ (.s i j)
 have A:∀k,k<G.length->va ρ' I (1000000+k) (j7 u ids k):=λ k d=>by
  have gq:∃l,l<G.length/\j7 u ids l=j7 u ids k:=⟨k,d,rfl⟩
  have:=hu _ _ gq.choose_spec.1 d gq.choose_spec.2;refine ⟨?_,λ j=>?_⟩
  ·simp only [I,dif_pos gq,this]
  simp only [I,dif_pos gq,this]
 have hN:∀i,(¬∃k,k<G.length/\j7 u ids k=i)->va ρ I i i/\L i=s.ob i:=λ i E=>by
  refine ⟨⟨by simp only [I,dif_neg E],λ j=>by simp only [I,dif_neg E]⟩,?_⟩;rw [<- k0];exact af1 λ j _ D e=>E ⟨j,by omega,e⟩
 have hC:∀k o,G[k]?=some o->L (j7 u ids k)=some (dm s.ob u ids k,imO Fb o):=λ k o d=>by
  have:=alt (ob:=s.ob) (F:=Fb) hu (os:=G) (k:=0) (j:=k) (o:=o) (by omega) d;rw [Nat.zero_add] at this;rw [<- k0];exact this
 have Y:∀i x,L i=some x->(∃k o,G[k]?=some o/\i=j7 u ids k/\x=(dm s.ob u ids k,imO Fb o))\/((¬∃k,k<G.length/\j7 u ids k=i)/\s.ob i=some x):=λ i x hx=>by
  by_cases E:∃k,k<G.length/\j7 u ids k=i
  ·obtain ⟨k,d,rfl⟩:=E;have hr:G[k]?=some G[k]:=by simp [d]
   rw [hC k _ hr] at hx;exact .inl ⟨k,_,hr,rfl,(zaf.inj hx).symm⟩
  rw [(hN i E).2] at hx;exact .inr ⟨E,hx⟩
 have ha:∀i,i∈ids->∃k,k<G.length/\j7 u ids k=i:=λ i E=>by
  obtain ⟨k,d⟩:=zab.1 E;have:=(zaa.1 d).1;exact ⟨k,by omega,by simp [j7,d]⟩
 have hn:∀i x b,s.ob i=some x->foot ρ i x.2 b->b<w.heap.size:=λ i x b E r=>K.foot_lt E r;have ex:∀k o b,G[k]?=some o->foot ρ' (1000000+k) o b->(∃i,i∈ids/\mo s.ob ρ i b)\/w.heap.size<=b:=λ k o b d r=>(hM.own _ _ _ b (l4 d) r).imp_left (Q b).1
 have hw:∀b,Own L I b->Own (ob0 G) ρ' b\/∃i v x,(¬∃k,k<G.length/\j7 u ids k=i)/\s.ob i=some (v,x)/\x.own=true/\foot ρ i x b:=λ b ⟨i,v,x,H,D,N⟩=>by
  rcases Y i _ H with ⟨k,o,d,rfl,hx⟩ | ⟨E,hx⟩
  ·cases hx;have:=(zaa.1 d).1;rw [(A k this).foot (ay Fb o)] at N;exact .inl ⟨_,0,o,l4 d,by rw [<- apo Fb]; exact D,N⟩
  rw [(hN i E).1.foot rfl] at N;exact .inr ⟨i,v,x,E,hx,D,N⟩
 have h7:zb (ob0 G) L ρ' I Fb:=λ id ver i v hF=>by
  rw [<- k8] at hF;unfold back at hF;split at hF
  ·rename_i hc;obtain ⟨rfl,H,D⟩:=hc;cases hF;have hr:G[id-1000000]?=some G[id-1000000]:=by simp [D]
   have hg:=l4 hr;rw [show 1000000+(id-1000000)=id by omega] at hg;refine ⟨_,_,hg,hC _ _ hr,?_,u5.im Fb _⟩;rw [(A _ D).1,show 1000000+(id-1000000)=id by omega]
  cases hF
 have S:∀b,d7 X.B s.ob ρ w b->¬∃i,i∈ids/\mo s.ob ρ i b:=λ b r ⟨i,E,kk⟩=>r.2.1 (hq i E b kk);have U:∀b,b<w.heap.size->(¬∃i,i∈ids/\mo s.ob ρ i b)->w'.heap[b]?=w.heap[b]?:=λ b H D=>hM.keeps.block b H λ hh=>D ((Q b).1 hh)
 have w9:∀b,d7 X.B s.ob ρ w b->d7 X.B L I w' b:=λ b r=>by
  refine ⟨Nat.lt_of_lt_of_le r.1 hM.keeps.size,λ ho=>?_,r.2.2⟩;rcases hw b ho with ⟨id,v,o,H,D,N⟩ | ⟨i,v,x,_,H,D,N⟩
  ·rcases hM.own id v o b H N with h | h
   ·exact S b r ((Q b).1 h)
   have:=r.1; simp only at h; omega
  exact r.2.1 ⟨i,v,x,H,D,N⟩
 have g6:(y7 res/\∀o∈G,ll o)\/∀b,d7 Bc (ob0 G) ρ' w' b->d7 X.B L I w' b:=by
  refine ev.imp_right λ hf b r=>⟨r.1,λ ho=>?_,?_⟩
  ·rcases hw b ho with h | ⟨i,v,x,E,H,D,N⟩
   ·exact r.2.1 h
   rcases hf b r.2.2 with h | ⟨j,R,C⟩ | h
   ·exact h.2.1 ⟨i,v,x,H,D,N⟩
   ·obtain ⟨k,d⟩:=zab.1 R;obtain ⟨⟨v0,y⟩,J,C⟩:=C;have:=K.inj i j _ _ b H J N C;subst this;exact E (ha i R)
   have:=hn i _ b H N; omega
  rcases hf b r.2.2 with h | ⟨j,R,C⟩ | h
  ·exact h.2.2
  ·obtain ⟨k,d⟩:=zab.1 R;obtain ⟨⟨v0,y⟩,J,C⟩:=C;exact K.base b (K.own j _ _ b J C)
  exact K.base b (.inr (Nat.le_trans K.keeps.size h))
 have eq:Stays w w' (d7 X.B s.ob ρ w) (d7 X.B L I w') s.ob L ρ I:=by
  refine ⟨λ b r=>⟨w9 b r,U b r.1 (S b r)⟩,λ i v x hx=>?_⟩;by_cases E:∃k,k<G.length/\j7 u ids k=i
  ·obtain ⟨k,d,rfl⟩:=E;have hr:G[k]?=some G[k]:=by simp [d]
   refine ⟨_,_,hC k _ hr,?_,?_⟩
   ·unfold dm;rcases hki:ids[k]? with _ | j
    ·have:j7 u ids k=100000+1000*u+k:=by simp [j7,hki]
     rw [this] at hx;exact Nat.le_of_lt (rz hx)
    have:j7 u ids k=j:=by simp [j7,hki]
    rw [this] at hx;simp only [hx];cases x with
    | row sz z app wr xs=>cases app<;>simp [ef]
    | _=>simp [ef]
   intro hv;unfold dm at hv;rcases hki:ids[k]? with _ | j
   ·have:j7 u ids k=100000+1000*u+k:=by simp [j7,hki]
    rw [this] at hx;simp only [hki] at hv;have:=rz hx;omega
   have hm:j7 u ids k=j:=by simp [j7,hki]
   rw [hm] at hx |-;simp only [hki,hx] at hv;obtain ⟨v0,y,gw,J,g2,g3,g4⟩:=M k j hki;rw [hx] at J;cases J
   have h8:x.pinned=true:=by
    cases x with
    | row sz z app wr xs=>cases app<;>first | rfl | (simp [ef] at hv)
    | _=>rfl
   obtain ⟨b,W⟩:∃b,ρ j=some b:=by
    have Z:=K.obj j v _ hx;cases x with
    | row sz z app wr xs=>
      rcases Z with ⟨_,_,N⟩ | ⟨b,cs,e,fr,h,_⟩
      ·subst N; cases h8
      exact ⟨b,h⟩
    | box cells=>obtain ⟨b,cs,e,h,_⟩:=Z; exact ⟨b,h⟩
    | abs T=>obtain ⟨b,h,_⟩:=Z; exact ⟨b,h⟩
    | map _ _=>obtain ⟨b,h,_⟩:=Z; exact ⟨b,h⟩
    | iter _ _ _ _=>obtain ⟨b,m',h,_⟩:=Z; exact ⟨b,h⟩
   have ga:=hM.pin (1000000+k) b (by
    simp only [gx,l4 g3,g4]
    rw [if_pos (by rw [zj]; exact h8),(h9 k j hki).1,W])
   obtain ⟨ge,o',g5,e9,e3⟩:=ga;rw [l4 hr] at g5;have ht:G[k]=o':=by have:=zaf.inj g5; exact (Prod.mk.inj this).2
   have hA:=A k d;rw [hm] at hA;refine ⟨by rw [hA.1,ge,W],?_,λ b' kv e' kt O g7=>?_⟩
   ·have n:=hz k gw G[k] g3 hr;rw [g4] at n
    revert n
    generalize G[k]=q;intro n;cases x with
    | row sz z app wr xs=>
      rcases n with h | ⟨z',kn,kd,rfl,h⟩
      ·subst h; cases h8
      exact ⟨rfl,h⟩
    | box _=>cases q<;>first | exact n.elim | trivial
    | abs _=>cases q<;>first | exact n.elim | exact n
    | map _ _=>cases q<;>first | exact n.elim | trivial
    | iter _ _ _ _=>cases q<;>first | exact n.elim | trivial
   rw [W] at O;cases O;have n:=hz k gw G[k] g3 hr;rw [g4,ht] at n;have e0:=hM.obj (1000000+k) 0 o' (by rw [l4 hr,ht]);have Z:=K.obj j v _ hx;cases x with
   | row sz z app wr xs=>
     rcases n with h | ⟨z',kn,kd,rfl,h⟩
     ·subst h; cases h8
     exact e3 rfl kv e' kt g7
   | box cells=>
     cases o' with
     | row _ _ _ _ _=>exact n.elim
     | abs _=>exact n.elim
     | map _ _=>exact n.elim
     | iter _ _ _ _=>exact n.elim
     | box cells'=>
       obtain ⟨b1,cs,e,k1,k2,k3,_⟩:=Z;rw [W] at k1; cases k1;rw [g7] at k2; cases k2;obtain ⟨b2,e4,e2,f1,f2,f3,_⟩:=e0;rw [ge] at f1; cases f1;refine ⟨e4,e2,_,f2,?_⟩;have n:cells'.length=(imL (fwd s.ob ids) cells).length:=n;rw [f3,k3,n,cw]
   | abs T=>
     cases o' with
     | row _ _ _ _ _=>exact n.elim
     | box _=>exact n.elim
     | map _ _=>exact n.elim
     | iter _ _ _ _=>exact n.elim
     | abs T'=>
       obtain ⟨b1,k1,k2⟩:=Z;rw [W] at k1; cases k1;obtain ⟨cs,e,k3,k4⟩:=T.root k2;rw [g7] at k3; cases k3;obtain ⟨b2,f1,f2⟩:=e0;rw [ge] at f1; cases f1;obtain ⟨e4,e2,f3,f4⟩:=T'.root f2;have n:T'.size=T.size:=n;exact ⟨e4,e2,_,f3,by rw [f4,k4,n]⟩
   | map es c=>
     obtain ⟨b1,k1,k2⟩:=Z;rw [W] at k1; cases k1;rw [g7] at k2; cases k2
   | iter m since seen st=>
     obtain ⟨b1,m',k1,k2,_⟩:=Z;rw [W] at k1; cases k1;rw [g7] at k2; cases k2
  refine ⟨v,x,by rw [(hN i E).2,hx],zac _,λ _=>⟨(hN i E).1.1,u5.refl x,λ b cs e fr r hh=>⟨cs,e,fr,?_,rfl⟩⟩⟩;have r:foot ρ i x b:=.inl r;rw [U b (hn i _ b hx r),hh];rintro ⟨j,R,C⟩;obtain ⟨k,d⟩:=zab.1 R;obtain ⟨⟨v0,y⟩,J,C⟩:=C;have:=K.inj i j _ _ b hx J r C;subst this;exact E (ha i R)
 have eb:∀k o,G[k]?=some o->bd w' (d7 X.B L I w') L I (j7 u ids k) (imO Fb o):=λ k o d=>by
  have gg:=(zaa.1 d).1;have h0:=hM.obj _ _ _ (l4 d);rcases g6 with ⟨_,hf⟩ | hf
  ·exact (h0.flat (R':=d7 X.B L I w') (hf o (zae d))).im (λ _ h=>h) h7 (A k gg).1 (A k gg).2
  exact h0.im hf h7 (A k gg).1 (A k gg).2
 refine ⟨c,I,rfl,⟨⟨λ i v x hx=>?_,λ i j x y b hx hy r O=>?_,?_,λ i v x b hx r=>?_,λ i b hp=>?_⟩,K.sz,K.df,λ t=>(K.env t).stays eq,K.pnn,K.small,K.base⟩,?_⟩
 ·rcases Y i _ hx with ⟨k,o,d,rfl,h5⟩ | ⟨E,h5⟩
  ·cases h5;exact eb k o d
  refine (K.obj i v x h5).stays eq (hN i E).1.1 (hN i E).1.2 λ b r=>U b (hn i _ b h5 r) ?_;rintro ⟨j,R,C⟩;obtain ⟨k,d⟩:=zab.1 R;obtain ⟨⟨v0,y⟩,J,C⟩:=C;have:=K.inj i j _ _ b h5 J r C;subst this;exact E (ha i R)
 ·have gb:∀k o i x b,G[k]?=some o->(¬∃l,l<G.length/\j7 u ids l=i)->s.ob i=some x->foot ρ' (1000000+k) o b->foot ρ i x.2 b->False:=λ k o i x b d E hx H D=>by
   rcases ex k o b d H with ⟨j,R,C⟩ | h
   ·obtain ⟨l,hl⟩:=zab.1 R;obtain ⟨⟨v0,y⟩,J,C⟩:=C;have:=K.inj i j _ _ b hx J D C;subst this;exact E (ha i R)
   have:=hn i _ b hx D; omega
  rcases Y i _ hx with ⟨k,o,d,rfl,rfl⟩ | ⟨E,h5⟩<;>rcases Y j _ hy with ⟨l,q,hl,rfl,rfl⟩ | ⟨R,ee⟩
  ·have H:=(zaa.1 d).1;have D:=(zaa.1 hl).1;rw [(A k H).foot (ay Fb _)] at r;rw [(A l D).foot (ay Fb _)] at O;have:=hM.inj _ _ _ _ b (l4 d) (l4 hl) r O;rw [show k=l by omega]
  ·have H:=(zaa.1 d).1;rw [(A k H).foot (ay Fb _)] at r;rw [(hN j R).1.foot rfl] at O;exact (gb k o j _ b d R ee r O).elim
  ·have D:=(zaa.1 hl).1;rw [(A l D).foot (ay Fb _)] at O;rw [(hN i E).1.foot rfl] at r;exact (gb l q i _ b hl E h5 O r).elim
  rw [(hN i E).1.foot rfl] at r;rw [(hN j R).1.foot rfl] at O;exact K.inj i j _ _ b h5 ee r O
 ·have d:=K.keeps;refine ⟨hM.keeps.os.trans d.os,hM.keeps.tape.trans d.tape,hM.keeps.output.trans d.output,Nat.le_trans d.size hM.keeps.size,λ b r hI=>?_⟩;rw [U b (Nat.lt_of_lt_of_le r d.size),d.block b r hI];rintro ⟨j,R,C⟩;obtain ⟨k,e6⟩:=zab.1 R;obtain ⟨⟨v0,y⟩,J,C⟩:=C;rcases K.own j _ _ b J C with h | h
  ·exact hI h
  omega
 ·rcases Y i _ hx with ⟨k,o,d,rfl,w6⟩ | ⟨E,h5⟩
  ·cases w6;rw [(A k (zaa.1 d).1).foot (ay Fb _)] at r;rcases ex k o b d r with ⟨j,R,C⟩ | h
   ·obtain ⟨l,hl⟩:=zab.1 R;obtain ⟨⟨v0,y⟩,J,C⟩:=C;exact K.own j _ _ b J C
   exact .inr (Nat.le_trans K.keeps.size h)
  rw [(hN i E).1.foot rfl] at r;exact K.own i v x b h5 r
 ·show I i=some b/\∃o,L i=some (0,o)/\o.pinned=true/\(o.isRow=true->pw X.w0 w' b);obtain ⟨H,x,D,h8,en⟩:=K.pin i b hp;by_cases E:∃k,k<G.length/\j7 u ids k=i
  ·obtain ⟨k,d,rfl⟩:=E;have hr:G[k]?=some G[k]:=by simp [d]
   rcases hki:ids[k]? with _ | j
   ·have hm:j7 u ids k=100000+1000*u+k:=by simp [j7,hki]
    rw [hm,K.pnn _ (af7 (by omega))] at hp;cases hp
   have hm:j7 u ids k=j:=by simp [j7,hki]
   rw [hm] at H D |-;obtain ⟨v0,y,gw,J,g2,g3,g4⟩:=M k j hki;rw [D] at J;cases J
   have ga:=hM.pin (1000000+k) b (by
    simp only [gx,l4 g3,g4]
    rw [if_pos (by rw [zj]; exact h8),(h9 k j hki).1,H])
   obtain ⟨ge,o',g5,e9,e3⟩:=ga;rw [l4 hr] at g5;have ht:G[k]=o':=by have:=zaf.inj g5; exact (Prod.mk.inj this).2
   have hA:=A k d;have ey:=hC k _ hr;rw [hm] at hA ey;refine ⟨by rw [hA.1,ge],imO Fb o',?_,by rw [zj]; exact e9,λ hd=>?_⟩
   rotate_left
   ·rw [afg] at hd;have n:=hz k gw G[k] g3 hr;rw [g4,ht] at n
    have w1:x.isRow=true:=by
     cases x with
     | row _ _ _ _ _=>rfl
     | box _=>cases o'<;>first | exact n.elim | cases hd
     | abs _=>cases o'<;>first | exact n.elim | cases hd
     | map _ _=>cases o'<;>first | exact n.elim | cases hd
     | iter _ _ _ _=>cases o'<;>first | exact n.elim | cases hd
    exact (en w1).trans (e3 hd)
   rw [ey,ht];cases x with
   | row sz z app wr xs=>cases app<;>first | (cases h8; done) | simp [dm,hki,D,ef]
   | box cells=>simp [dm,hki,D,ef]
   | abs T=>simp [dm,hki,D,ef]
   | map es c=>simp [dm,hki,D,ef]
   | iter m since seen st=>simp [dm,hki,D,ef]
  rw [(hN i E).1.1,(hN i E).2];refine ⟨H,x,D,h8,λ hd=>(en hd).trans ?_⟩;have r:foot ρ i x b:=.inl H
  have he:w'.heap[b]?=w.heap[b]?:=U b (hn i _ b D r) (by
   rintro ⟨j,R,C⟩;obtain ⟨k,d⟩:=zab.1 R;obtain ⟨⟨v0,y⟩,J,C⟩:=C;have:=K.inj i j _ _ b D J r C;subst this
   exact E (ha i R))
  intro cs e fr hc;exact ⟨cs,e,fr,by rw [he]; exact hc,rfl⟩
 rcases g6 with ⟨hf,_⟩ | hf
 ·exact (e1.flat (R':=d7 X.B L I w') hf).im (λ _ h=>h) h7
 exact e1.im hf h7
end

def nu (ver a:Nat):Option (Nat×Ob)->Option (Nat×Nat)
 | some (v,_)=>if ver=v then some (a,0) else none
 | none=>none
def qf (np lb:Nat) (ob:Obs) (ids:List Nat):Ren:=λ id ver=>
 if 1000000<=id/\id<1000000+np then nu ver id (ob id)
 else match idx id ids with
  | some k=>nu ver (lb+k) (ob id)
  | none=>none
def ux (F:Ren):Option (Nat×Ob)->Option Ob
 | some (_,o)=>some (imO F o)
 | none=>none
def me (F:Ren) (ob:Obs):List Nat->Option (List Ob)
 | []=>some []
 | i::is=>match ux F (ob i),me F ob is with
   | some o,some os=>some (o::os)
   | _,_=>none
theorem ahu {F:Ren} {ob:Obs}:∀{ids:List Nat} {po:List Ob},me F ob ids=some po->po.length=ids.length/\∀(k i:Nat) (o:Ob),ids[k]?=some i->po[k]?=some o->∃v x,ob i=some (v,x)/\o=imO F x
 | [],po,h=>by simp [me] at h; subst h; simp
 | j::ids,po,h=>by
   simp only [me] at h;split at h
   ·rename_i o os b e;cases h;obtain ⟨d,f⟩:=ahu e;refine ⟨by simp [d],λ k i q c a=>?_⟩;cases k with
    | zero=>
      simp at c a;subst c; subst a;rcases hj:ob j with _ | ⟨v,x⟩
      ·rw [hj] at b; cases b
      rw [hj] at b;cases b;exact ⟨v,x,rfl,rfl⟩
    | succ k=>simp at c a; exact f k i q c a
   cases h
def aj (np:Nat):Nat->List Nat
 | 0=>[]
 | n+1=>(1000000+(np-(n+1)))::aj np n
theorem aic {np:Nat}:∀{n k:Nat},n<=np->k<n->(aj np n)[k]?=some (1000000+(np-n+k))
 | 0,k,_,h=>by omega
 | n+1,0,h,_=>by simp [aj]
 | n+1,k+1,h,hk=>by
   simp only [aj,List.getElem?_cons_succ];rw [aic (by omega) (by omega)];congr 1;omega
theorem af6 {np:Nat}:∀{n:Nat},(aj np n).length=n
 | 0=>rfl
 | n+1=>by simp [aj,af6]
def sg (np i:Nat):Bool:=decide (1000000<=i/\i<1000000+np)
def ij (np:Nat) (l:List Nat):List Nat:=l.filter λ i=>!sg np i
def nrm (a np lb:Nat) (vs:List AV) (ob:Obs):Option (List AV×List Ob×List Ob):=
 let ids:=ij np (o5 ob a (l8 vs++aj np np) [])
 let F:=qf np lb ob ids
 match me F ob (aj np np),me F ob ids with
 | some pos,some los=>some (imL F vs,pos,los)
 | _,_=>none
def z8:Nat->List Ob->Obs->Obs
 | _,[],ob=>ob
 | k,o::os,ob=>upd k (0,o) (z8 (k+1) os ob)
theorem ad3:∀{os:List Ob} {k id:Nat} {ob:Obs},(id<k\/k+os.length<=id)->z8 k os ob id=ob id
 | [],k,id,ob,h=>rfl
 | o::os,k,id,ob,h=>by
   simp at h;unfold z8 upd;rw [if_neg (by omega)];exact ad3 (by omega)
theorem aas:∀{os:List Ob} {k j:Nat} {o:Ob} {ob:Obs},os[j]?=some o->z8 k os ob (k+j)=some (0,o)
 | [],k,j,o,ob,h=>by simp at h
 | q::os,k,0,o,ob,h=>by simp at h; subst h; simp [z8,upd]
 | q::os,k,j+1,o,ob,h=>by
   simp at h;unfold z8 upd;rw [if_neg (by omega),show k+(j+1)=k+1+j by omega];exact aas h
theorem zx (ob:Obs):∀(f:Nat) (d c:List Nat),c.Nodup->(o5 ob f d c).Nodup
 | 0,_,c,h=>h
 | _+1,[],c,h=>h
 | n+1,i::d,c,h=>by
   unfold o5;split
   ·exact zx ob n d c h
   rename_i hc;refine zx ob n _ _ ?_;rw [List.nodup_append];refine ⟨h,by simp,λ a j b g=>?_⟩;simp at g;subst g;intro e;subst e;simp at hc;exact hc j
variable {i:Nat} {l:List Nat}
theorem ve (h:l.Nodup) {j x:Nat} (f:l[i]?=some x) (m:l[j]?=some x):i=j:=by
 have g:=(zaa.1 f)
 have k:=(zaa.1 m)
 obtain ⟨d,e⟩:=g;obtain ⟨b,c⟩:=k;rcases Nat.lt_trichotomy i j with a | rfl | a
 ·exact absurd (by rw [e,c]) (List.pairwise_iff_getElem.1 h i j d b a)
 ·rfl
 exact absurd (by rw [e,c]) (List.pairwise_iff_getElem.1 h j i b d a)
section
variable {P:Program} {X:Cx} {w w':World} {s:St} {ρ ρ':Pl->Option Nat} {a:Act} {ob ob':Obs} {R R':Nat->Prop}
theorem Mem.nrm (N:Mem X ob ρ w) {z np lb:Nat} {vs I:List AV} {pos d:List Ob} (h:nrm z np lb vs ob=some (I,pos,d)) (h9:1000000+np<=lb) (h6:∀id b,X.pn id=some b->1000000<=id/\id<1000000+np) :
 ∃ρ',Mem X (z8 1000000 pos (z8 lb d λ _=>none)) ρ' w/\I.length=vs.length/\pos.length=np /\
  ∀(i:Nat) (x y:AV) (c:Value),vs[i]?=some x->I[i]?=some y->RelA w (d7 X.B ob ρ w) ob ρ x c->RelA w (d7 X.B (z8 1000000 pos (z8 lb d λ _=>none)) ρ' w) (z8 1000000 pos (z8 lb d λ _=>none)) ρ' y c:=by
 unfold Ev.nrm at h;generalize t9:ij np (o5 ob z (l8 vs++aj np np) [])=ids at h;simp only at h;generalize hF:qf np lb ob ids=F at h;split at h
 ·rename_i h8 h7 hp hl;cases h;obtain ⟨p1,p2⟩:=ahu hp;obtain ⟨l1,l2⟩:=ahu hl;rw [af6] at p1
  have W:ids.Nodup:=by
   rw [<- t9];exact (zx ob z _ [] (by simp)).filter _
  have P:∀i,i∈ids->¬(1000000<=i/\i<1000000+np):=λ i E=>by
   rw [<- t9] at E;simp [ij,sg] at E;intro hc;have:=E.2;omega
  generalize A:z8 1000000 pos (z8 lb d λ _=>none)=t
  let g:Pl->Option Nat:=λ p=>match p with
   | .o i=>if 1000000<=i/\i<1000000+np then ρ i else if lb<=i then (ids[i-lb]?).bind λ i=>ρ (.o i) else none
   | .s i j=>if 1000000<=i/\i<1000000+np then ρ (.s i j) else if lb<=i then (ids[i-lb]?).bind λ i=>ρ (.s i j) else none
  have hP:∀k o,pos[k]?=some o->t (1000000+k)=some (0,o)/\va ρ g (1000000+k) (1000000+k)/\∃v x,ob (1000000+k)=some (v,x)/\o=imO F x:=λ k o l=>by
   have K:=(zaa.1 l).1;refine ⟨by rw [<- A]; exact aas l,⟨by simp only [g]; rw [if_pos (by omega)],λ j=>by simp only [g]; rw [if_pos (by omega)]⟩,?_⟩;have:=aic (np:=np) (n:=np) (k:=k) (zac _) (by omega);rw [Nat.sub_self,Nat.zero_add] at this;exact p2 k _ o this l
  have hL:∀k o,d[k]?=some o->t (lb+k)=some (0,o)/\∃i v x,ids[k]?=some i/\va ρ g i (lb+k)/\ob i=some (v,x)/\o=imO F x:=λ k o l=>by
   have K:=(zaa.1 l).1;have E:ids[k]?=some (ids[k]'(by omega)):=by simp [show k<ids.length by omega]
   obtain ⟨v,x,m,f⟩:=l2 k _ o E l;refine ⟨?_,_,v,x,E,?_,m,f⟩
   ·rw [<- A,ad3 (by omega)];exact aas l
   refine ⟨?_,λ j=>?_⟩
   ·simp only [g];rw [if_neg (by omega),if_pos (by omega),show lb+k-lb=k by omega,E]
    rfl
   simp only [g];rw [if_neg (by omega),if_pos (by omega),show lb+k-lb=k by omega,E]
   rfl
  have J:∀id x,t id=some x->(∃k,pos[k]?=some x.2/\id=1000000+k/\x.1=0)\/(∃k,d[k]?=some x.2/\id=lb+k/\x.1=0):=λ id x hx=>by
   rw [<- A] at hx;by_cases r:1000000<=id/\id<1000000+np
   ·have l:pos[id-1000000]?=some (pos[id-1000000]'(by omega)):=by simp [show id-1000000<pos.length by omega]
    have:=aas (k:=1000000) (ob:=z8 lb d λ _=>none) l;rw [show 1000000+(id-1000000)=id by omega,hx] at this;cases this;exact .inl ⟨_,l,by omega,rfl⟩
   rw [ad3 (by omega)] at hx;by_cases G:lb<=id/\id<lb+d.length
   ·have l:d[id-lb]?=some (d[id-lb]'(by omega)):=by simp [show id-lb<d.length by omega]
    have:=aas (k:=lb) (ob:=λ _=>none) l;rw [show lb+(id-lb)=id by omega,hx] at this;cases this;exact .inr ⟨_,l,by omega,rfl⟩
   rw [ad3 (by omega)] at hx;cases hx
  have q:∀id x,t id=some x->∃i v y,ob i=some (v,y)/\x=(0,imO F y)/\va ρ g i id/\((id=i/\1000000<=i/\i<1000000+np)\/(∃k,ids[k]?=some i/\id=lb+k)):=λ id x hx=>by
   rcases J id x hx with ⟨k,r,rfl,H⟩ | ⟨k,r,rfl,H⟩
   ·obtain ⟨m,f,v,y,e,u⟩:=hP k _ r;have K:=(zaa.1 r).1;exact ⟨_,v,y,e,Prod.ext H u,f,.inl ⟨rfl,by omega,by omega⟩⟩
   obtain ⟨m,i,v,y,f,e,u,T⟩:=hL k _ r;exact ⟨i,v,y,u,Prod.ext H T,e,.inr ⟨k,f,rfl⟩⟩
  have D:zb ob t ρ g F:=λ id ver i v a=>by
   rw [<- hF] at a;unfold qf at a;split at a
   ·rename_i hc;rcases ho:ob id with _ | ⟨v0,y⟩
    ·rw [ho] at a; cases a
    rw [ho] at a;simp only [nu] at a;split at a
    ·rename_i hv;cases a;subst hv;have l:pos[id-1000000]?=some (pos[id-1000000]'(by omega)):=by simp [show id-1000000<pos.length by omega]
     obtain ⟨m,f,v1,y1,e,u⟩:=hP _ _ l;rw [show 1000000+(id-1000000)=id by omega] at m f e;rw [ho] at e;cases e;exact ⟨_,_,rfl,m,f.1,by rw [u]; exact u5.im F _⟩
    cases a
   split at a
   ·rename_i k l;have O:=abw l;rcases ho:ob id with _ | ⟨v0,y⟩
    ·rw [ho] at a; cases a
    rw [ho] at a;simp only [nu] at a;split at a
    ·rename_i hv;cases a;subst hv;have K:=(zaa.1 O).1;have h5:d[k]?=some (d[k]'(by omega)):=by simp [show k<d.length by omega]
     obtain ⟨m,i,v1,y1,f,e,u,T⟩:=hL k _ h5;rw [O] at f;cases f;rw [ho] at u;cases u;exact ⟨_,_,rfl,m,e.1,by rw [T]; exact u5.im F _⟩
    cases a
   cases a
  have hR:∀b,d7 X.B ob ρ w b->d7 X.B t g w b:=λ b Y=>⟨Y.1,λ ⟨id,v,o,r,G,H⟩=>by
   obtain ⟨i,M,y,m,f,e,_⟩:=q id _ r;cases f;rw [apo] at G
   exact Y.2.1 ⟨i,M,y,m,G,(e.foot (ay F y)).1 H⟩,Y.2.2⟩
  refine ⟨g,⟨λ id v o hx=>?_,λ id Z x x' b r G H h4=>?_,N.keeps,λ id v o b r G=>?_,λ id b r=>?_⟩,by rw [cw],p1,λ i x y c hx hy hr=>?_⟩
  ·obtain ⟨i,M,y,m,f,e,_⟩:=q id _ hx;cases f;exact (N.obj i M y m).im hR D e.1 e.2
  ·obtain ⟨i,v,y,m,f,e,u⟩:=q id _ r;obtain ⟨i',M,y',h0,R,V,S⟩:=q Z _ G;have:=N.inj i i' _ _ b m h0 ((e.foot (by rw [f]; exact ay F y)).1 H) ((V.foot (by rw [R]; exact ay F y')).1 h4);subst this;rcases u with ⟨rfl,Q,q2⟩ | ⟨k,Q,rfl⟩<;>rcases S with ⟨rfl,C,U⟩ | ⟨k',C,rfl⟩
   ·rfl
   ·exact absurd ⟨Q,q2⟩ (P _ (zae C))
   ·exact absurd ⟨C,U⟩ (P _ (zae Q))
   rw [ve W Q C]
  ·obtain ⟨i,M,y,m,f,e,_⟩:=q id _ r;exact N.own i M y b m ((e.foot (by rw [show o=imO F y from congrArg Prod.snd f]; exact ay F y)).1 G)
  ·obtain ⟨Q,q2⟩:=h6 id b r;obtain ⟨e1,L,e2,e3⟩:=N.pin id b r;have l:pos[id-1000000]?=some (pos[id-1000000]'(by omega)):=by simp [show id-1000000<pos.length by omega]
   obtain ⟨m,f,v1,y1,e,u⟩:=hP _ _ l;rw [show 1000000+(id-1000000)=id by omega] at m f e;rw [e2] at e;cases e;exact ⟨by rw [f.1,e1],imO F L,by rw [m,u],by rw [zj]; exact e3.1,by rw [afg]; exact e3.2⟩
  rw [qy,hx] at hy;cases hy;exact hr.im hR D
 cases h
end

inductive PX where
 | see (o:PO)
 | act (o:PO)
 | call (f:FuncId) (args:List Opd)
 | callv (x:Opd) (args:List Opd)
 | inv (tbl:List (TypeId×FuncId)) (x:Opd) (args:List Opd)
 | nxt (x:Opd)
structure PR where
 d:Option Nat
 g:Option (Nat×Bool)
 u:Nat
 x:PX
inductive PC where
 | skip
 | reg (ops:List PR)
 | seq (a b:PC)
 | cond (x:Opd) (a b:PC)
 | block (id:Nat) (c:PC)
 | loop (c:PC)
 | exit (id:Nat)
 | ret
 | drw (ops:List PR) (pre:List (List Nat))
inductive Ex where
 | nor
 | ex (id:Nat)
 | rt
def n6 (d:Option Nat) (x:AV) (e:Env):Env:=match d with
 | some d=>put d x e
 | none=>e
def yf (b:Bool):AV->Option Bool
 | .r (.v (.bool x))=>some (bif b then x else !x)
 | .gd h (.r (.v (.bool x)))=>some (h&&(bif b then x else !x))
 | _=>none
def yes (e:Env):Option (Nat×Bool)->Option Bool
 | none=>some true
 | some (t,b)=>yf b (e t)
def gdv (g:Option (Nat×Bool)) (b:Bool) (x:AV):AV:=match g with
 | none=>x
 | some _=>.gd b x
def okC (u:Nat) (ids:List Nat) (m:Nat) (l:List Nat) (a:Bool):Bool:=
 decide (ids.length<=m)&&decide (((zag m).map (j7 u ids)).Nodup)&&decide (100000+1000*u+m<=1000000)&&(a||l.all λ i=>!ids.contains i)
def d8:List Ob->List Ob->Prop
 | .box a::xs,.box b::ys=>b.length=a.length/\d8 xs ys
 | .abs T::xs,.abs T'::ys=>T'.size=T.size/\d8 xs ys
 | .map _ _::xs,.map _ _::ys=>True/\d8 xs ys
 | .iter _ _ _ _::xs,.iter _ _ _ _::ys=>True/\d8 xs ys
 | .box _::_,_::_=>False
 | .abs _::_,_::_=>False
 | .map _ _::_,_::_=>False
 | .iter _ _ _ _::_,_::_=>False
 | .row sz _ false _ l::xs,.row sz' _ false _ l'::ys=>(sz'=sz/\l.length<=l'.length)/\d8 xs ys
 | .row _ _ false _ _::_,_::_=>False
 | _::xs,_::ys=>d8 xs ys
 | _,_=>True
def xy (P:Program) (f:FuncId) (u:Nat) (ob:Obs) (ids:List Nat) (as:List AV) (l:List Nat) (b:Bool) (K:AV->Obs->Prop):Option (List Ob)->Prop
 | none=>False
 | some po=>∃res a,b5 P f as po res a/\okC u ids a.length l b=true/\d8 po a/\(b=false->y7 res/\∀o∈a,ll o)/\K (imV (back ob u ids a.length) res) (aq ob u ids (back ob u ids a.length) 0 a)
def gn (P:Program) (f:FuncId) (u:Nat) (ob:Obs) (as:List AV) (l:List Nat) (a:Bool) (K:AV->Obs->Prop):Prop:=
 xy P f u ob (o5 ob 64 (l8 as) []) (imL (fwd ob (o5 ob 64 (l8 as) [])) as) l a K (s7 (fwd ob (o5 ob 64 (l8 as) [])) ob (o5 ob 64 (l8 as) []))
def a0n (P:Program) (f:FuncId) (u:Nat) (ob:Obs) (vs:List AV) (K:AV->Obs->Prop):Prop:=
 ∃id v z xs,ob id=some (v,.row 1 z true true (xs.map RV.v))/\xs≠[]/\∀m,gn P f u (upd id (v,.box (xs.map (λ x=>AV.r (.v x))++zah m .undef)) ob) vs [] true K
def a0o (P:Program) (f:FuncId) (u:Nat) (ob:Obs) (vs:List AV) (K:AV->Obs->Prop):Prop:=
 ∃id v sz z xs,ob id=some (v,.row sz z true true xs)/\xs≠[]/\gn P f u (upd id (v,.row sz z false true xs) ob) vs [] true K
def zt (P:Program) (f:FuncId) (u:Nat) (ob:Obs) (K:AV->Obs->Prop) (vs:List AV):Option (List AV×List Nat)->Prop
 | none=>gn P f u ob vs [] true K
 | some (as,[])=>gn P f u ob as [] true K
 | some (as,i::l)=>gn P f u (freeze ob (i::l)) as (i::l) true K\/gn P f u ob as (i::l) false K\/gn P f u ob vs [] true K\/a0n P f u ob vs K\/a0o P f u ob vs K
def yo (P:Program) (f:FuncId):Bool:=match P.funcs[f]? with
 | some fn => fn.body.isSome && !(fn.name == "runtime.NumGoroutine")
 | none=>false
def an7 (P:Program) (u:Nat) (ob:Obs) (vs:List AV) (K:AV->Obs->Prop):AV->Prop
 | .fn (.func f) cap k=>yo P f=true/\zt P f u ob K (cap.take k++(vs++cap.drop k)) (m5 ob (cap.take k++(vs++cap.drop k)))
 | _=>False
def bi (t:TypeId):List (TypeId×FuncId)->Option FuncId
 | []=>none
 | (t',f)::r=>if t'=t then some f else bi t r
def aed (P:Program) (tbl:List (TypeId×FuncId)) (u:Nat) (ob:Obs) (vs:List AV) (K:AV->Obs->Prop):AV->Prop
 | .ifc t x=>match bi t tbl with
   | some f=>zt P f u ob K (x::vs) (m5 ob (x::vs))
   | none=>False
 | _=>False
def au (es:List MapEntry) (a:List Nat):List MapEntry:=es.filter λ e=>!a.contains e.born
def arx (id ver:Nat) (ob:Obs) (m:AV) (a:Nat) (b:List Nat) (d:Nat) (K:AV->Obs->Prop):Option (List MapEntry×Nat)->Prop
 | some (es,c)=>(∀e,e∈es->e.born<a)/\a<=d/\(au es b=[]->K (.tup [bl false]) ob) /\
  ∀e,e∈au es b->K (.tup [bl true,.r (gp e.key),.r (gp e.val)]) (upd id (ver,.iter m a (b++[e.born]) c) ob)
 | none=>False
def am8 (id ver:Nat) (ob:Obs) (K:AV->Obs->Prop):Option (AV×Nat×List Nat×Nat)->Prop
 | some (.mp mid mver,since,seen,st)=>arx id ver ob (.mp mid mver) since seen st K (o3 ob mid mver)
 | _=>False
def ajp (ob:Obs) (K:AV->Obs->Prop):AV->Prop
 | .ptr id ver 0=>am8 id ver ob K (aw ob id ver)
 | _=>False
def PX.wp (P:Program) (r:PR) (s:St) (K:St->Prop) (b:Bool):PX->Prop
 | .see o=>(o.see b s.e s.ob).ok/\K ⟨n6 r.d (gdv r.g b (o.see b s.e s.ob).v) s.e,s.ob⟩
 | .act o=>(b=true->(o.act (r.d.getD 0) s.e s.ob).ok/\K ⟨n6 r.d (o.act (r.d.getD 0) s.e s.ob).v s.e,(o.act (r.d.getD 0) s.e s.ob).ob⟩)/\(b=false->K ⟨n6 r.d .undef s.e,s.ob⟩)
 | .call f args=>(b=true->ah true s.e args/\zt P f r.u s.ob (λ v ob=>K ⟨n6 r.d v s.e,ob⟩) (l5 s.e args) (m5 s.ob (l5 s.e args)))/\(b=false->K ⟨n6 r.d .undef s.e,s.ob⟩)
 | .callv x args=>(b=true->(x.ev s.e).may true/\ah true s.e args/\an7 P r.u s.ob (l5 s.e args) (λ v ob=>K ⟨n6 r.d v s.e,ob⟩) (x.ev s.e).bare)/\(b=false->K ⟨n6 r.d .undef s.e,s.ob⟩)
 | .inv tbl x args=>(b=true->(x.ev s.e).may true/\ah true s.e args/\aed P tbl r.u s.ob (l5 s.e args) (λ v ob=>K ⟨n6 r.d v s.e,ob⟩) (x.ev s.e).bare)/\(b=false->K ⟨n6 r.d .undef s.e,s.ob⟩)
 | .nxt x=>(b=true->(x.ev s.e).may true/\ajp s.ob (λ v ob=>K ⟨n6 r.d v s.e,ob⟩) (x.ev s.e).bare)/\(b=false->K ⟨n6 r.d .undef s.e,s.ob⟩)
def PR.wp (P:Program) (r:PR) (s:St) (K:St->Prop):Option Bool->Prop
 | some b=>r.x.wp P r s K b
 | none=>False
def wpR (P:Program):List PR->(St->Prop)->St->Prop
 | [],K,s=>K s
 | r::rs,K,s=>r.wp P s (wpR P rs K) (yes s.e r.g)
def air (P:Program) (m:String) (p:TypeId×FuncId):Bool:=yo P p.2&&(match P.info? p.1 with
 | some i=>match i.methods.find? (·.name == m) with
   | some q=>q.path.isEmpty&&(match q.func with | some (f,b)=>f == p.2&&b | none=>false)
   | none=>false
 | none=>false)&&x7 P p.1 (λ d=>match d with | .pointer _=>true | _=>false)
def xp (P:Program) (o:Oper):PX->Bool
 | .see po=>akk P o po
 | .act po=>adp P o po
 | .call f args=>match o.op with
   | .call c=>match c.callee with
     | .value (.func f')=>f == f'&&s8 opd c.args.toList args&&yo P f
     | _=>false
   | _=>false
 | .callv x args=>match o.op with
   | .call c=>match c.callee with
     | .value x'=>opd x' x&&s8 opd c.args.toList args
     | _=>false
   | _=>false
 | .inv tbl x args=>match o.op with
   | .call c=>match c.callee with
     | .invoke r m=>opd r x&&s8 opd c.args.toList args&&tbl.all (air P m)
     | _=>false
   | _=>false
 | .nxt x=>match o.op with
   | .next it str=>opd it x && !str
   | _=>false
def asj (a:Array Oper):Option (Nat×Bool)->Option (Nat×Bool)->Bool
 | none,none=>true
 | some (j,b),some (t,b')=>b == b'&&((a[j]?).bind (·.dst)) == some t
 | _,_=>false
def anp:PX->Bool
 | .see _=>true
 | _=>false
def ap9:PX->Bool
 | .act o=>!o.nod
 | _=>false
def ab3 (P:Program) (n:Nat) (a:Array Oper) (o:Oper) (r:PR):Bool:=
 o.dst == r.d&&(match r.d with | some d=>decide (d<n) | none=>!anp r.x && !ap9 r.x)&&asj a o.guard r.g&&xp P o r.x
def ag1 (a:Array Oper) (b:List (List Nat)):Bool:=
 b.length == a.size&&(zag a.size).all λ j=>match a[j]?,b[j]? with
  | some o,some p=>o.after.all (λ e=>!Region.binds .any e||decide (e.on<j)) &&
   p.all (λ k=>decide (k<j)&&o.after.any λ e=>Region.binds .any e&&(e.on == k||(b.getD e.on []).contains k))
  | _,_=>false
def il (P:Program) (n:Nat):Code->PC->Bool
 | .skip,.skip=>true
 | .region _ ops d,.reg rs=>!d&&s8 (ab3 P n ops) ops.toList rs
 | .region _ ops d,.drw rs pre=>d&&P.follows .mixedOrders&&s8 (ab3 P n ops) ops.toList rs&&ag1 ops pre
 | .seq a b,.seq a' b'=>il P n a a'&&il P n b b'
 | .cond x a b,.cond x' a' b'=>opd x x'&&il P n a a'&&il P n b b'
 | .block i c,.block j c'=>i == j&&il P n c c'
 | .loop c,.loop c'=>il P n c c'
 | .exit i,.exit j=>i == j
 | .ret,.ret=>true
 | _,_=>false
section
variable {P:Program} {X:Cx} [GlC P X] {w w':World} {s:St} {ρ ρ':Pl->Option Nat} {a:Act} {o:Oper} {ob ob':Obs} {R R':Nat->Prop}
theorem aw8 (G:Gam X s ρ a w) {id ver g len sz:Nat} {z:RV} {t E:Bool} {xs:List RV} {c:Value} (m:s.ob id=some (ver,.row sz z t E xs)) (h:RA X s ρ w (.own id ver g len) c) (J:∀b,d7 X.B s.ob ρ w b->R b)
 (N:∀b,ρ id=some b->b<w.heap.size->R b):RelV w R (.sl sz ((xs.drop g).take len)) c:=by
 cases h;rename_i h;obtain ⟨A,cap,rfl,V,F,H,I⟩:=h.live m;have l:((xs.drop g).take len).length=len:=by simp; omega
 have k:=RelV.sl (w:=w) (R:=R) sz ((xs.drop g).take len) A cap (by omega) F;rw [l] at k
 have d:∀(i:Nat) (x:RV),((xs.drop g).take len)[i]?=some x->xs[g+i]?=some x:=λ i x f=>by
  rw [List.getElem?_take] at f;split at f
  ·rwa [List.getElem?_drop] at f
  cases f
 rcases G.obj id ver _ m with ⟨o,r⟩ | ⟨b,cs,e,fr,o,r,T,U,W,u⟩
 ·subst o;have:len=0:=by have:g+len<=0:=H; omega
  subst this;exact k 0 0 (λ _ _=>undef) (by simp) (by simp) (by simp) (by simp)
 refine k b (g*sz) (λ i j=>(cs[(g+i)*sz+j]?).getD undef) (λ P=>?_) (λ i x f=>(u _ x (d i x f)).1) (λ i x j y f p=>?_) (λ i x j y f p=>?_)
 ·obtain ⟨S,L,e',K,D,M,O,Q⟩:=I (by omega);rw [o] at D;cases D;exact ⟨M,N b o (Array.getElem?_eq_some_iff.1 r).1⟩
 ·obtain ⟨c,n,C,v⟩:=(u _ x (d i x f)).2 j y p;rw [n];refine ⟨?_,C⟩;simp only [World.cell?,r,Option.isSome_none,Bool.false_eq_true,if_false,Option.getD_some];rw [<- n,Nat.add_mul]
 obtain ⟨c,n,C,v⟩:=(u _ x (d i x f)).2 j y p;rw [n];exact v.mono λ b q=>⟨J b q,rfl⟩
theorem aox (g:Gam X s ρ a w) {x:AV} {y:RV} {c:Value} (h:x.rv s.ob=some (y,l)) (hx:RA X s ρ w x c) (e:∀b,d7 X.B s.ob ρ w b->R b) (f:∀i,i∈l->∀b,ρ i=some b->b<w.heap.size->R b):RelV w R y c:=by
 unfold AV.rv at h;split at h
 ·cases h; cases hx; rename_i h; exact h.mono λ b d=>⟨e b d,rfl⟩
 ·cases h; cases hx;exact .sl _ [] none 0 (by simp) (by simp) 0 0 (λ _ _=>undef) (by simp) (by simp) (by simp) (by simp)
 ·split at h
  ·rename_i j;cases h;exact aw8 g (o4 j) hx e (f _ (by simp))
  cases h
 cases h
theorem alk (f:Gam X s ρ a w) (e:∀b,d7 X.B s.ob ρ w b->R b):∀{xs:List AV} {ys:List RV} {l:List Nat},rvs s.ob xs=some (ys,l)->(∀i,i∈l->∀b,ρ i=some b->b<w.heap.size->R b) ->
 ∀(i:Nat) (x:AV) (y:RV) (c:Value),xs[i]?=some x->ys[i]?=some y->RA X s ρ w x c->RelV w R y c
 | [],ys,l,h,hs,i,x,y,c,hx,hy,hr=>by simp at hx
 | z::xs,ys,l,h,hs,i,x,y,c,hx,hy,hr=>by
   simp only [rvs] at h;split at h
   ·rename_i n k o j g m;cases h;cases i with
    | zero=>
      simp at hx hy;subst hx; subst hy;exact aox f g hr e (λ p d=>hs p (by simp [d]))
    | succ i=>
      simp at hx hy;exact alk f e m (λ p d=>hs p (by simp [d])) i x y c hx hy hr
   cases h
theorem asp (n:Gam X s ρ a w) (k:∀b,d7 X.B s.ob ρ w b->R b) {x y:AV} {c:Value} (h:dw s.ob x=some (y,l)) (p:∀i,i∈l->∀b,ρ i=some b->b<w.heap.size->R b) (hx:RA X s ρ w x c):RelA w R s.ob ρ y c:=by
 have keep:∀z:AV,RA X s ρ w z c->RelA w R s.ob ρ z c:=λ z u=>u.stays ⟨λ b m=>⟨k b m,rfl⟩,λ id v o h=>⟨v,o,h,zac _,λ _=>⟨rfl,u5.refl o,λ b cs e fr _ h=>⟨cs,e,fr,h,rfl⟩⟩⟩⟩;unfold dw at h;split at h
 ·split at h
  ·rename_i q;cases h;exact .r (aox n q hx k p)
  cases h
 ·cases h; cases hx;exact .r (.sl _ [] none 0 (by simp) (by simp) 0 0 (λ _ _=>undef) (by simp) (by simp) (by simp) (by simp))
 ·rename_i xs;split at h
  ·rename_i ys A d;cases h;cases hx;rename_i cs t f;refine .r (.agg _ _ (by rw [kh d]; exact t) λ i y c hy hc=>?_);have j:i<xs.length:=by have:=(zaa.1 hy).1; have:=kh d; omega
   have g:xs[i]?=some xs[i]:=by simp [j]
   exact alk n k d p i _ y c g hy (f i _ c g hc)
  cases h
 ·cases h
 ·cases h
 cases h;exact keep _ hx
theorem akp (e:Gam X s ρ a w) (g:∀b,d7 X.B s.ob ρ w b->R b):∀{xs ys:List AV} {l:List Nat},m5 s.ob xs=some (ys,l)->(∀i,i∈l->∀b,ρ i=some b->b<w.heap.size->R b) ->
 ys.length=xs.length/\∀(i:Nat) (x y:AV) (c:Value),xs[i]?=some x->ys[i]?=some y->RA X s ρ w x c->RelA w R s.ob ρ y c
 | [],ys,l,h,hs=>by simp [m5] at h; obtain ⟨rfl,rfl⟩:=h; simp
 | z::xs,ys,l,h,hs=>by
   simp only [m5] at h;split at h
   ·rename_i r k t j q o;cases h;obtain ⟨m,n⟩:=akp e g o (λ p d=>hs p (by simp [d]));refine ⟨by simp [m],λ i x y c hx hy f=>?_⟩;cases i with
    | zero=>
      simp at hx hy;subst hx; subst hy;exact asp e g q (λ p d=>hs p (by simp [d])) f
    | succ i=>
      simp at hx hy;exact n i x y c hx hy f
   cases h
theorem aoy {x:AV} {y:RV} (h:x.rv ob=some (y,l)):∀i,i∈l->∃q,ob i=some q:=by
 unfold AV.rv at h;split at h
 ·cases h; simp
 ·cases h; simp
 ·split at h
  ·rename_i b;cases h;intro i a;simp at a;subst a;exact ⟨_,o4 b⟩
  cases h
 cases h
theorem alm:∀{xs:List AV} {ys:List RV} {l:List Nat},rvs ob xs=some (ys,l)->∀i,i∈l->∃q,ob i=some q
 | [],ys,l,h=>by simp [rvs] at h; simp [h.2]
 | z::xs,ys,l,h=>by
   simp only [rvs] at h;split at h
   ·rename_i d k e j b c;cases h;intro i a;rcases List.mem_append.1 a with a | a
    ·exact aoy b i a
    exact alm c i a
   cases h
theorem akq:∀{xs ys:List AV} {l:List Nat},m5 ob xs=some (ys,l)->∀i,i∈l->∃q,ob i=some q
 | [],ys,l,h=>by simp [m5] at h; simp [h.2]
 | z::xs,ys,l,h=>by
   simp only [m5] at h;split at h
   ·rename_i e k f j a d;cases h;intro i b;rcases List.mem_append.1 b with b | b
    ·unfold dw at a;split at a
     ·split at a
      ·rename_i c;cases a;exact aoy c i b
      cases a
     ·cases a; simp at b
     ·split at a
      ·rename_i c;cases a;exact alm c i b
      cases a
     ·cases a
     ·cases a
     cases a; simp at b
    exact akq d i b
   cases h
theorem avk (i:Nat) {x:AV} {c:Value} (h:RelA w (d7 X.B ob ρ w) ob ρ x c):RelA w (d7 X.B (frz ob i (ob i)) ρ w) (frz ob i (ob i)) ρ x c:=by
 rcases hi:ob i with _ | ⟨v,a | ⟨sz,z,b,d,xs⟩ | T | _ | _⟩
 ·exact h
 ·exact h
 ·exact h.stays (Stays.freeze1 (X:=X) (s:=⟨λ _=>.undef,ob⟩) hi)
 ·exact h
 ·exact h
 exact h
theorem abz:∀(l:List Nat) {ob:Obs} {x:AV} {c:Value},RelA w (d7 X.B ob ρ w) ob ρ x c->RelA w (d7 X.B (freeze ob l) ρ w) (freeze ob l) ρ x c
 | [],_,_,_,h=>h
 | i::is,_,_,_,h=>abz is (avk i h)
theorem asq (m:Gam X s ρ a w) {ob:Obs} {d:List Nat} (f:s.ob=Ev.freeze ob d) {x y:AV} {c:Value} (h:dw ob x=some (y,l)) (b:∀i,i∈l->i∈d) (hx:RA X s ρ w x c):RA X s ρ w y c:=by
 unfold dw at h;split at h
 ·split at h
  ·rename_i n;cases h;exact .r (afz m n b f hx)
  cases h
 ·cases h; cases hx;exact .r (.sl _ [] none 0 (by simp) (by simp) 0 0 (λ _ _=>undef) (by simp) (by simp) (by simp) (by simp))
 ·rename_i xs;split at h
  ·rename_i ys p e;cases h;cases hx;rename_i cs o g;refine .r (.agg _ _ (by rw [kh e]; exact o) λ i y c hy hc=>?_);have k:i<xs.length:=by have:=(zaa.1 hy).1; have:=kh e; omega
   have j:xs[i]?=some xs[i]:=by simp [k]
   exact aam m f e b i _ y c j hy (g i _ c j hc)
  cases h
 ·cases h
 ·cases h
 cases h; exact hx
theorem akr (f:Gam X s ρ a w) {ob:Obs} {b:List Nat} (d:s.ob=Ev.freeze ob b):∀{xs ys:List AV} {l:List Nat},m5 ob xs=some (ys,l)->(∀i,i∈l->i∈b) ->
 ys.length=xs.length/\∀(i:Nat) (x y:AV) (c:Value),xs[i]?=some x->ys[i]?=some y->RA X s ρ w x c->RA X s ρ w y c
 | [],ys,l,h,hs=>by simp [m5] at h; obtain ⟨rfl,rfl⟩:=h; simp
 | z::xs,ys,l,h,hs=>by
   simp only [m5] at h;split at h
   ·rename_i r k t j q o;cases h;obtain ⟨m,n⟩:=akr f d o (λ p e=>hs p (by simp [e]));refine ⟨by simp [m],λ i x y c hx hy g=>?_⟩;cases i with
    | zero=>
      simp at hx hy;subst hx; subst hy;exact asq f d q (λ p e=>hs p (by simp [e])) g
    | succ i=>
      simp at hx hy;exact n i x y c hx hy g
   cases h
theorem ae9 {u m:Nat} {ids:List Nat} {c:Bool} (h:okC u ids m l c=true):ids.length<=m/\(∀i j,i<m->j<m->j7 u ids i=j7 u ids j->i=j)/\100000+1000*u+m<=1000000/\(c=false->∀i,i∈l->i∉ids):=by
 simp only [okC,Bool.and_eq_true,decide_eq_true_eq,Bool.or_eq_true] at h;obtain ⟨⟨⟨f,k⟩,q⟩,b⟩:=h;refine ⟨f,λ i j a p e=>?_,q,λ g i a o=>?_⟩
 ·have d:((zag m).map (j7 u ids))[i]?=some (j7 u ids i):=by simp [a]
  have n:((zag m).map (j7 u ids))[j]?=some (j7 u ids i):=by simp [p,e]
  exact ve k d n
 rw [g] at b;simp at b;exact b i a o
theorem xh:∀{xs ys:List Ob},d8 xs ys->∀(k:Nat) (o o':Ob),xs[k]?=some o->ys[k]?=some o'->amu o o'
 | [],_,_,k,c,c',h,_=>by simp at h
 | _::_,[],_,k,c,c',_,h=>by simp at h
 | x::xs,y::ys,hs,0,c,c',h,h'=>by
   simp at h h';subst h; subst h';cases x with
   | row sz z app wr l=>
     cases app with
     | true=>exact .inl rfl
     | false=>
       cases y with
       | row sz' z' app' wr' l'=>
         cases app' with
         | true=>exact hs.elim
         | false=>obtain ⟨⟨rfl,h⟩,_⟩:=hs; exact .inr ⟨_,_,_,rfl,h⟩
       | _=>exact hs.elim
   | _=>cases y<;>first | exact hs.1 | exact hs.elim | trivial
 | x::xs,y::ys,hs,k+1,c,c',h,h'=>by
   simp at h h'
   have:d8 xs ys:=by
    cases x with
    | row sz z app wr l=>
      cases app with
      | true=>cases y<;>exact hs
      | false=>
        cases y with
        | row sz' z' app' wr' l'=>
          cases app' with
          | true=>exact hs.elim
          | false=>exact hs.2
        | _=>exact hs.elim
    | _=>cases y<;>first | exact hs.2 | exact hs.elim | exact hs
   exact xh this k c c' h h'
theorem zi {f:FuncId} {u:Nat} {K:AV->Obs->Prop} {vs:List AV} {d:Array Value} (A:Gam X s ρ a w) (g:gn P f u s.ob vs [] true K) (N:d.size=vs.length) (C:∀(i:Nat) (x:AV) (c:Value),vs[i]?=some x->d[i]?=some c->RA X s ρ w x c) :
 Calls P f d w λ e w'=>∃c v ob' ρ',e=.returned c/\K v ob'/\Gam X ⟨s.e,ob'⟩ ρ' a w'/\RA X ⟨s.e,ob'⟩ ρ' w' v c:=by
 unfold gn at g;generalize t9:o5 s.ob 64 (l8 vs) []=ids at g;unfold xy at g;split at g
 ·cases g
 rename_i po j;obtain ⟨res,U,G,q,o,S,J⟩:=g;obtain ⟨M,E,F,V⟩:=ae9 q
 have p:∀b,d7 X.B s.ob ρ w b->∀i,i∈ids->¬mo s.ob ρ i b:=λ b l i I n=>by
  obtain ⟨O,m⟩:=ua j;obtain ⟨k,z⟩:=zab.1 I;have H:=(zaa.1 z).1;obtain ⟨v,x,r,D,T⟩:=m k i (po[k]'(by omega)) z (by simp [show k<po.length by omega]);obtain ⟨y,t,R⟩:=n;rw [r] at t;cases t;exact l.2.1 ⟨i,v,x,r,D,R⟩
 refine (Gam.call (s:=s) (Bc:=λ b=>d7 X.B s.ob ρ w b\/(∃i,i∈ids/\mo s.ob ρ i b)\/w.heap.size<=b) (Ra:=d7 X.B s.ob ρ w) A j G M E F N (λ i x c hx hc=>C i x c hx hc)
  (λ b l=>⟨l.1,.inl l,p b l⟩) (λ _ h=>.inl h) (λ _ h=>.inr h) (xh o) (.inr λ _ h=>h)).mono ?_
 rintro e w' ⟨c,ρ',rfl,Q,L⟩;exact ⟨c,_,_,ρ',rfl,J,Q,L⟩
theorem Gam.boxify (p:Gam X s ρ a w) {id v:Nat} {z:RV} {vs:List Value} (l:s.ob id=some (v,.row 1 z true true (vs.map RV.v))) (J:vs≠[]) :
 ∃m,Gam X ⟨s.e,upd id (v,.box (vs.map (λ x=>AV.r (.v x))++zah m .undef)) s.ob⟩ ρ a w /\
  Stays w w (d7 X.B s.ob ρ w) (d7 X.B (upd id (v,.box (vs.map (λ x=>AV.r (.v x))++zah m .undef)) s.ob) ρ w) s.ob (upd id (v,.box (vs.map (λ x=>AV.r (.v x))++zah m .undef)) s.ob) ρ ρ:=by
 rcases p.obj id v _ l with ⟨P,_⟩ | ⟨b,cs,e,fr,U,T,Z,V,W,Y⟩
 ·simp at P; exact absurd P J
 obtain rfl:fr=(0,0):=V rfl;have O:vs.length<=cs.size:=by simpa using W
 refine ⟨cs.size-vs.length,?_⟩;generalize D:vs.map (λ x=>AV.r (.v x))++zah (cs.size-vs.length) AV.undef=u;have N:u.length=cs.size:=by rw [<- D]; simp; omega
 have C:∀c,d7 X.B s.ob ρ w c->d7 X.B (upd id (v,.box u) s.ob) ρ w c:=λ c hc=>⟨hc.1,λ ⟨j,E,o,f,q,A⟩=>by
  by_cases t:j=id
  ·subst t;simp [upd] at f;obtain ⟨rfl,rfl⟩:=f;rw [cg rfl] at A;exact hc.2.1 ⟨j,v,_,l,rfl,by rw [cg rfl]; exact A⟩
  simp only [upd,t,if_false] at f
  exact hc.2.1 ⟨j,E,o,f,q,A⟩,hc.2.2⟩
 have Q:Stays w w (d7 X.B s.ob ρ w) (d7 X.B (upd id (v,.box u) s.ob) ρ w) s.ob (upd id (v,.box u) s.ob) ρ ρ:=by
  refine ⟨λ c hc=>⟨C c hc,rfl⟩,λ j E o t=>?_⟩;by_cases d:j=id
  ·subst d;rw [l] at t;cases t;exact ⟨v,.box u,by simp [upd],zac _,λ _=>⟨rfl,rfl,λ b cs e fr _ h=>⟨cs,e,fr,h,rfl⟩⟩⟩
  exact ⟨E,o,by simp [upd,d,t],zac _,λ _=>⟨rfl,u5.refl o,λ b cs e fr _ h=>⟨cs,e,fr,h,rfl⟩⟩⟩
 have k:∀j x c,upd id (v,Ob.box u) s.ob j=some x->foot ρ j x.2 c->∃y,s.ob j=some y/\foot ρ j y.2 c:=λ j x c hx n=>by
  by_cases d:j=id
  ·subst d;simp [upd] at hx;subst hx;rw [cg rfl] at n;exact ⟨_,l,by rw [cg rfl]; exact n⟩
  simp only [upd,d,if_false] at hx;exact ⟨x,hx,n⟩
 refine ⟨p.step Q (λ j E o h=>?_) (λ i j x x' c hx K n I=>?_) p.keeps (λ j E o c h n=>?_) (λ j c o h hc S L=>?_),Q⟩
 ·by_cases d:j=id
  ·subst d;simp [upd] at h;obtain ⟨rfl,rfl⟩:=h;refine .inr ⟨b,cs,e,U,T,N.symm,λ i x c hx hc=>?_⟩;rw [<- D] at hx;by_cases F:i<vs.length
   ·rw [List.getElem?_append_left (by simpa using F)] at hx;have H:(vs.map RV.v)[i]?=some (.v vs[i]):=by simp [F]
    obtain ⟨_,g⟩:=Y i _ H;obtain ⟨c',f,q,A⟩:=g 0 (.v vs[i]) rfl;rw [Nat.mul_one,Nat.add_zero,hc] at f;cases f;simp [F] at hx;subst hx;exact .r (A.mono λ b L=>⟨C b L,rfl⟩)
   rw [List.getElem?_append_right (by simpa using F)] at hx;have:=zae hx;rw [List.mem_replicate] at this;rw [this.2];exact .undef _
  simp only [upd,d,if_false] at h;exact .inl ⟨h,rfl,λ _=>rfl,λ _ _=>rfl⟩
 ·obtain ⟨y,f,q⟩:=k i x c hx n;obtain ⟨R,M,G⟩:=k j x' c K I;exact p.inj i j y R c f M q G
 ·obtain ⟨y,f,q⟩:=k j _ c h n;exact p.own j y.1 y.2 c f q
 by_cases d:j=id
 ·subst d;rw [p.unpinned l rfl] at h;cases h
 exact ⟨L,o,by simp [upd,d,hc],S⟩
theorem ab6 {f:FuncId} {u:Nat} {K:AV->Obs->Prop} {vs:List AV} {d:Array Value} (F:Gam X s ρ a w) (h:zt P f u s.ob K vs (m5 s.ob vs)) (T:d.size=vs.length) (Q:∀(i:Nat) (x:AV) (c:Value),vs[i]?=some x->d[i]?=some c->RA X s ρ w x c) :
 Calls P f d w λ e w'=>∃c v ob' ρ',e=.returned c/\K v ob'/\Gam X ⟨s.e,ob'⟩ ρ' a w'/\RA X ⟨s.e,ob'⟩ ρ' w' v c:=by
 have n:∀(as:List AV) (l:List Nat),m5 s.ob vs=some (as,l)->gn P f u (freeze s.ob l) as l true K->Calls P f d w λ e w'=>∃c v ob' ρ',e=.returned c/\K v ob'/\Gam X ⟨s.e,ob'⟩ ρ' a w'/\RA X ⟨s.e,ob'⟩ ρ' w' v c:=by
  intro as l D g;have Y:=Gam.freeze (s:=s) l (ob:=s.ob) F;unfold gn at g;generalize t9:o5 (freeze s.ob l) 64 (l8 as) []=ids at g;unfold xy at g;split at g
  ·cases g
  rename_i po o;obtain ⟨res,ro,hT,O,M,h0,hK⟩:=g;obtain ⟨k1,k2,k3,k4⟩:=ae9 O
  have N:∀b,d7 X.B (freeze s.ob l) ρ w b->∀i,i∈ids->¬mo (freeze s.ob l) ρ i b:=λ b t i S I=>by
   obtain ⟨Z,C⟩:=ua o;obtain ⟨k,G⟩:=zab.1 S;have p:=(zaa.1 G).1;obtain ⟨v,x,A,E,g3⟩:=C k i (po[k]'(by omega)) G (by simp [show k<po.length by omega]);obtain ⟨y,J,q2⟩:=I;rw [A] at J;cases J;exact t.2.1 ⟨i,v,x,A,E,q2⟩
  obtain ⟨A,E⟩:=akr (s:=⟨s.e,freeze s.ob l⟩) Y rfl D (λ _ h=>h)
  refine (Gam.call (s:=⟨s.e,freeze s.ob l⟩) (Bc:=λ b=>d7 X.B (freeze s.ob l) ρ w b\/(∃i,i∈ids/\mo (freeze s.ob l) ρ i b)\/w.heap.size<=b) (Ra:=d7 X.B (freeze s.ob l) ρ w) Y o hT k1 k2 k3 (by rw [A,T]) (λ i x c hx hc=>?_)
   (λ b t=>⟨t.1,.inl t,N b t⟩) (λ _ h=>.inl h) (λ _ h=>.inr h) (xh M) (.inr λ _ h=>h)).mono ?_
  ·have p:=(zaa.1 hx).1;have U:vs[i]?=some (vs[i]'(by omega)):=by simp [show i<vs.length by omega]
   exact E i _ x c U hx (abz l (Q i _ c U hc))
  rintro e w' ⟨c,ρ',rfl,H,L⟩;exact ⟨c,_,_,ρ',rfl,hK,H,L⟩
 have W:∀(as:List AV) (l:List Nat),m5 s.ob vs=some (as,l)->gn P f u s.ob as l false K->Calls P f d w λ e w'=>∃c v ob' ρ',e=.returned c/\K v ob'/\Gam X ⟨s.e,ob'⟩ ρ' a w'/\RA X ⟨s.e,ob'⟩ ρ' w' v c:=by
  intro as l D g;unfold gn at g;generalize t9:o5 s.ob 64 (l8 as) []=ids at g;unfold xy at g;split at g
  ·cases g
  rename_i po o;obtain ⟨res,ro,hT,O,M,h0,hK⟩:=g;obtain ⟨k1,k2,k3,k4⟩:=ae9 O
  have N:∀b,d7 X.B s.ob ρ w b->b<w.heap.size/\∀i,i∈ids->¬mo s.ob ρ i b:=λ b t=>⟨t.1,λ i S I=>by
   obtain ⟨Z,C⟩:=ua o;obtain ⟨k,G⟩:=zab.1 S;have p:=(zaa.1 G).1;obtain ⟨v,x,A,E,g3⟩:=C k i (po[k]'(by omega)) G (by simp [show k<po.length by omega]);obtain ⟨y,J,q2⟩:=I;rw [A] at J;cases J
   exact t.2.1 ⟨i,v,x,A,E,q2⟩⟩
  have V:∀i,i∈l->∀b,ρ i=some b->b<w.heap.size->b<w.heap.size/\∀j,j∈ids->¬mo s.ob ρ j b:=λ i S b t p=>⟨p,λ j hj h4=>by
   obtain ⟨q,g⟩:=akq D i S;obtain ⟨Z,C⟩:=ua o;obtain ⟨k,G⟩:=zab.1 hj;have p:=(zaa.1 G).1;obtain ⟨v,x,A,E,g3⟩:=C k j (po[k]'(by omega)) G (by simp [show k<po.length by omega]);obtain ⟨y,J,q2⟩:=h4;have:=F.inj i j _ _ b g J (.inl t) q2;subst this
   exact k4 rfl i S hj⟩
  obtain ⟨A,E⟩:=akp F (R:=λ b=>b<w.heap.size/\∀i,i∈ids->¬mo s.ob ρ i b) N D V;refine (Gam.call (Bc:=λ _=>True) (Ra:=λ b=>b<w.heap.size/\∀i,i∈ids->¬mo s.ob ρ i b) F o hT k1 k2 k3 (by rw [A,T]) (λ i x c hx hc=>?_) (λ b t=>⟨t.1,trivial,t.2⟩) (λ _ _=>trivial) (λ _ _=>trivial) (xh M) (.inl (h0 rfl))).mono ?_
  ·have p:=(zaa.1 hx).1;have U:vs[i]?=some (vs[i]'(by omega)):=by simp [show i<vs.length by omega]
   exact E i _ x c U hx (Q i _ c U hc)
  rintro e w' ⟨c,ρ',rfl,H,L⟩;exact ⟨c,_,_,ρ',rfl,hK,H,L⟩
 rcases D:m5 s.ob vs with _ | ⟨as,_ | ⟨i,l⟩⟩
 ·rw [D] at h; exact zi F h T Q
 ·rw [D] at h; exact n as [] D h
 rw [D] at h;rcases h with h | h | h | h | h
 ·exact n as _ D h
 ·exact W as _ D h
 ·exact zi F h T Q
 ·obtain ⟨id,v,z,xs,H,L,h3⟩:=h;obtain ⟨m,A,E⟩:=F.boxify H L;exact zi (s:=⟨s.e,upd id (v,.box (xs.map (λ x=>AV.r (.v x))++zah m .undef)) s.ob⟩) A (h3 m) T λ i x c hx hc=>(Q i x c hx hc).stays E
 obtain ⟨id,v,sz,z,xs,H,L,h3⟩:=h;exact zi (s:=⟨s.e,upd id (v,.row sz z false true xs) s.ob⟩) (F.shut1 H L) h3 T λ i x c hx hc=>(Q i x c hx hc).stays (Stays.shut1 (X:=X) (w:=w) (ρ:=ρ) H)
end

structure Lg where
 us:List Nat
 d:List Nat
 rd:List Nat
 wr:List Nat
 ad:Bool
 st:Bool
instance:Inhabited Lg:=⟨⟨[],[],[],[],false,false⟩⟩
def PX.adr:PX->Bool
 | .see o=>o.adr
 | _=>false
def PX.sto:PX->Bool
 | .act (.st _ _ _)=>true
 | _=>false
structure Out where
 ok:Prop
 st:St
 lg:Lg
abbrev Ans:=AV×List Ob
def PX.us:PX->List Nat
 | .see o=>o.us
 | .act o=>o.us
 | .call _ xs=>usL xs
 | .callv x xs=>x.us++usL xs
 | .inv _ x xs=>x.us++usL xs
 | .nxt x=>x.us
def gus:Option (Nat×Bool)->List Nat
 | none=>[]
 | some (t,_)=>[t]
def PR.lg (r:PR) (rd a:List Nat):Lg:=⟨gus r.g++(r.x.us++r.d.toList),r.d.toList,rd,a,r.x.adr,r.x.sto⟩
def bh (u:Nat) (ids:List Nat) (m:Nat):List Nat:=(zag m).map (j7 u ids)
def aa7 (P:Program) (r:PR) (s:St) (f:FuncId) (p:Prop) (c:Ans) (as:List AV) (l:List Nat) (a:Bool) (ids:List Nat):Option (List Ob)->Out
 | none=>⟨False,s,r.lg [] []⟩
 | some po=>⟨p/\b5 P f (imL (fwd s.ob ids) as) po c.1 c.2/\okC r.u ids c.2.length l a=true/\d8 po c.2/\(a=false->y7 c.1/\∀o∈c.2,ll o),
  ⟨n6 r.d (imV (back s.ob r.u ids c.2.length) c.1) s.e,aq s.ob r.u ids (back s.ob r.u ids c.2.length) 0 c.2⟩,r.lg (l++(ids++bh r.u ids c.2.length)) (bh r.u ids c.2.length)⟩
def ai (vs:List AV):Option (List AV×List Nat)->List AV×List Nat×Bool
 | none=>(vs,l8 vs,true)
 | some (as,[])=>(as,[],true)
 | some (as,i::l)=>(as,i::l,false)
def y6 (P:Program) (r:PR) (s:St) (f:FuncId) (p:Prop) (c:Ans) (a:List AV×List Nat×Bool):Out:=
 aa7 P r s f p c a.1 a.2.1 a.2.2 (o5 s.ob 64 (l8 a.1) []) (s7 (fwd s.ob (o5 s.ob 64 (l8 a.1) [])) s.ob (o5 s.ob 64 (l8 a.1) []))
def sr (P:Program) (r:PR) (s:St) (p:Prop) (c:Ans) (vs:List AV):AV->Out
 | .fn (.func f) cap k=>y6 P r s f (p/\yo P f=true) c (ai (cap.take k++(vs++cap.drop k)) (m5 s.ob (cap.take k++(vs++cap.drop k))))
 | _=>⟨False,s,r.lg [] []⟩
def oi (P:Program) (r:PR) (s:St) (tbl:List (TypeId×FuncId)) (p:Prop) (c:Ans) (vs:List AV):AV->Out
 | .ifc t x=>match bi t tbl with
   | some f=>y6 P r s f p c (ai (x::vs) (m5 s.ob (x::vs)))
   | none=>⟨False,s,r.lg [] []⟩
 | _=>⟨False,s,r.lg [] []⟩
def PX.out (P:Program) (r:PR) (s:St) (c:Ans):PX->Option Bool->Out
 | _,none=>⟨False,s,r.lg [] []⟩
 | .see o,some b=>⟨(o.see b s.e s.ob).ok,⟨n6 r.d (gdv r.g b (o.see b s.e s.ob).v) s.e,s.ob⟩,r.lg (o.see b s.e s.ob).rd []⟩
 | .act o,some true=>⟨(o.act (r.d.getD 0) s.e s.ob).ok,⟨n6 r.d (o.act (r.d.getD 0) s.e s.ob).v s.e,(o.act (r.d.getD 0) s.e s.ob).ob⟩,r.lg (o.act (r.d.getD 0) s.e s.ob).rd (o.act (r.d.getD 0) s.e s.ob).wr⟩
 | .call f xs,some true=>y6 P r s f (ah true s.e xs) c (ai (l5 s.e xs) (m5 s.ob (l5 s.e xs)))
 | .callv x xs,some true=>sr P r s ((x.ev s.e).may true/\ah true s.e xs) c (l5 s.e xs) (x.ev s.e).bare
 | .inv tbl x xs,some true=>oi P r s tbl ((x.ev s.e).may true/\ah true s.e xs) c (l5 s.e xs) (x.ev s.e).bare
 | .nxt _,some true=>⟨False,s,r.lg [] []⟩
 | _,some false=>⟨True,⟨n6 r.d .undef s.e,s.ob⟩,r.lg [] []⟩
def PR.out (P:Program) (r:PR) (s:St) (c:Ans):Out:=r.x.out P r s c (yes s.e r.g)
section
variable {P:Program} {s s':St} {ob ob':Obs} {c:Ans} {r:PR}
theorem afm {f:FuncId} {p:Prop} {K:St->Prop} {vs:List AV} {a:Option (List AV×List Nat)} (h:(y6 P r s f p c (ai vs a)).ok) (b:K (y6 P r s f p c (ai vs a)).st):p/\zt P f r.u s.ob (λ v ob=>K ⟨n6 r.d v s.e,ob⟩) vs a:=by
 have j:∀(as:List AV) (l:List Nat) (m:Bool),(y6 P r s f p c (as,l,m)).ok->K (y6 P r s f p c (as,l,m)).st->p/\gn P f r.u s.ob as l m (λ v ob=>K ⟨n6 r.d v s.e,ob⟩):=λ as l m h b=>by
  simp only [y6] at h b;generalize t9:o5 s.ob 64 (l8 as) []=ids at h b;rcases hpo:s7 (fwd s.ob ids) s.ob ids with _ | po
  ·rw [hpo] at h; exact h.elim
  rw [hpo] at h b;obtain ⟨k,g,t,w,x⟩:=h;refine ⟨k,?_⟩;unfold gn;rw [t9,hpo];exact ⟨_,_,g,t,w,x,b⟩
 rcases a with _ | ⟨as,_ | ⟨i,l⟩⟩
 ·obtain ⟨k,g⟩:=j vs (l8 vs) true h b;refine ⟨k,?_⟩;show gn P f r.u s.ob vs [] true _;unfold gn xy at g |-;split at g
  ·exact g.elim
  obtain ⟨q,z,o,n,y⟩:=g;refine ⟨q,z,o,?_,y⟩;unfold okC at n |-;simpa using n
 ·exact j as [] true h b
 obtain ⟨k,g⟩:=j as (i::l) false h b;exact ⟨k,Or.inr (Or.inl g)⟩
theorem axo {K:St->Prop} (h:(r.out P s c).ok) (a:K (r.out P s c).st):r.wp P s K (yes s.e r.g):=by
 rcases r with ⟨d,g,u,x⟩
 unfold PR.out at h a;simp only at h a |-;generalize yes s.e g=y at h a |-;rcases y with _ | b
 ·have h:False:=by cases x<;>exact h
  exact h.elim
 simp only [PR.wp];cases x with
 | see o=>exact ⟨h,a⟩
 | act o=>cases b with
   | true=>exact ⟨λ _=>⟨h,a⟩,by simp⟩
   | false=>exact ⟨by simp,λ _=>a⟩
 | call f xs=>cases b with
   | true=>exact ⟨λ _=>afm h a,by simp⟩
   | false=>exact ⟨by simp,λ _=>a⟩
 | callv x xs=>cases b with
   | true=>
     refine ⟨λ _=>?_,by simp⟩;simp only [PX.out] at h a;generalize (x.ev s.e).bare=y at h a |-;cases y with
     | fn f cap k=>cases f with
       | func f=>
         have:=afm (vs:=cap.take k++(l5 s.e xs++cap.drop k)) h a;exact ⟨this.1.1.1,this.1.1.2,this.1.2,this.2⟩
       | _=>exact (show False from h).elim
     | _=>exact (show False from h).elim
   | false=>exact ⟨by simp,λ _=>a⟩
 | inv tbl x xs=>cases b with
   | true=>
     refine ⟨λ _=>?_,by simp⟩;simp only [PX.out] at h a;generalize (x.ev s.e).bare=y at h a |-;cases y with
     | ifc t y=>
       simp only [oi,aed] at h a |-;generalize bi t tbl=q at h a |-;cases q with
       | some f=>
         have:=afm (vs:=y::l5 s.e xs) h a;exact ⟨this.1.1,this.1.2,this.2⟩
       | none=>exact (show False from h).elim
     | _=>exact (show False from h).elim
   | false=>exact ⟨by simp,λ _=>a⟩
 | nxt x=>cases b with
   | true=>exact (show False from h).elim
   | false=>exact ⟨by simp,λ _=>a⟩
theorem an3 {x y:AV} (h:dw ob x=some (y,l)) (b:bf ob ob' l):dw ob' x=some (y,l):=by
 cases x with
 | own id ver lo len=>
   simp only [dw] at h |-;split at h
   ·rename_i c d a;cases h;rw [ae5 a b]
   cases h
 | agg xs=>
   simp only [dw] at h |-;split at h
   ·rename_i c d a;cases h;rw [zh a b]
   cases h
 | _=>exact h
theorem ab7:∀{xs ys:List AV} {l:List Nat},m5 ob xs=some (ys,l)->bf ob ob' l->m5 ob' xs=some (ys,l)
 | [],ys,l,h,hs=>h
 | x::xs,ys,l,h,hs=>by
   simp only [m5] at h |-;split at h
   ·rename_i y k e j b c;cases h;obtain ⟨a,d⟩:=yg hs;rw [an3 b a,ab7 c d]
   cases h
theorem abi:∀(n:Nat) (a b:List Nat) (i:Nat),i∈b->i∈o5 ob n a b
 | 0,a,b,i,h=>h
 | n+1,[],b,i,h=>h
 | n+1,j::a,b,i,h=>by
   unfold o5;split
   ·exact abi n a b i h
   exact abi n _ _ i (by simp [h])
theorem zy:∀(n:Nat) (a b:List Nat),bf ob ob' (o5 ob n a b)->o5 ob' n a b=o5 ob n a b
 | 0,a,b,hs=>rfl
 | n+1,[],b,hs=>rfl
 | n+1,j::a,b,hs=>by
   unfold o5 at hs |-;split
   ·rename_i hc;rw [if_pos hc] at hs;exact zy n a b hs
   rename_i hc;rw [if_neg hc] at hs;rw [hs j (abi n _ _ j (by simp))];exact zy n _ _ hs
theorem avh {k:Nat} (h:idx i l=some k):i∈l:=zae (abw h)
theorem aij {ids:List Nat} (a:bf ob ob' ids):fwd ob' ids=fwd ob ids:=by
 funext id ver;unfold fwd;split
 ·rename_i k b;rw [a id (avh b)]
 rfl
theorem aef {F:Ren}:∀{ids:List Nat},bf ob ob' ids->s7 F ob' ids=s7 F ob ids
 | [],hs=>rfl
 | i::ids,hs=>by
   simp only [s7];rw [hs i (by simp),aef (λ j a=>hs j (by simp [a]))]
theorem apz {u m k:Nat} {ids:List Nat} (h:k<m):j7 u ids k∈bh u ids m:=by
 simp only [bh,List.mem_map,List.mem_range];exact ⟨k,h,rfl⟩
theorem ag7 {u m k:Nat} {ids:List Nat} (b:bf ob ob' (bh u ids m)) (h:k<m):dm ob' u ids k=dm ob u ids k:=by
 have:=b _ (apz (u:=u) (ids:=ids) h);unfold dm;unfold j7 at this;split
 ·rename_i i a;rw [a] at this;simp only at this;rw [this];rcases ob i with _ | ⟨v,_ | _⟩<;>rfl
 rename_i a;rw [a] at this;exact yl this
theorem an1 {u m:Nat} {ids:List Nat} (a:bf ob ob' (bh u ids m)):back ob' u ids m=back ob u ids m:=by
 funext id ver;unfold back;split
 ·rename_i h;rw [ag7 a h.2.2]
 rfl
theorem af2 {u m:Nat} {ids:List Nat} {F:Ren} (e:bf ob ob' (bh u ids m)):∀{os:List Ob} {k:Nat},k+os.length<=m ->
 (∀j,k<=j->j<k+os.length->aq ob' u ids F k os (j7 u ids j)=aq ob u ids F k os (j7 u ids j))/\(∀i,(∀j,k<=j->j<k+os.length->i≠j7 u ids j)->aq ob' u ids F k os i=ob' i)
 | [],k,h=>⟨λ j d a=>by simp at a; omega,λ i h=>rfl⟩
 | o::os,k,h=>by
   simp at h;obtain ⟨f,g⟩:=af2 (F:=F) e (os:=os) (k:=k+1) (by omega);refine ⟨λ j d a=>?_,λ i c=>?_⟩
   ·simp at a;simp only [aq,upd,ag7 e (show k<m by omega)];split
    ·rfl
    rename_i b;refine f j ?_ (by omega);rcases Nat.lt_or_ge k j with h | h
    ·omega
    have:j=k:=by omega
    subst this; exact (b rfl).elim
   simp only [aq,upd];rw [if_neg (c k (zac _) (by simp))];exact g i λ j d a=>c j (by omega) (by simp; omega)
theorem qt {d:Option Nat} {x:AV} {e e':Env} {t:Nat} (h:t∈d.toList):n6 d x e' t=n6 d x e t:=by
 cases d with
 | none=>simp at h
 | some d=>simp at h; subst h; simp [n6,put]
theorem fi {d:Option Nat} {x:AV} {e:Env} {t:Nat} (h:t∉d.toList):n6 d x e t=e t:=by
 cases d with
 | none=>rfl
 | some d=>simp at h; simp [n6,put,h]
theorem an9 {g:Option (Nat×Bool)} {e e':Env} (h:∀t,t∈gus g->e' t=e t):yes e' g=yes e g:=by
 cases g with
 | none=>rfl
 | some p=>simp only [yes,h p.1 (by simp [gus])]
def akv (r:PR) (s s':St) (o o':Out):Prop:=
 o'.ok/\(∀t,t∈r.d.toList->o'.st.e t=o.st.e t)/\(∀t,t∉r.d.toList->o'.st.e t=s'.e t) /\
 (∀i,i∈o.lg.wr->i∈o.lg.rd/\o'.st.ob i=o.st.ob i)/\(∀i,i∉o.lg.wr->o'.st.ob i=s'.ob i)
theorem as8 {x:AV} (h:∀i,i∈t9 x->ob' i=ob i):x.rv ob'=x.rv ob:=by
 cases x with
 | own id ver lo len=>simp only [AV.rv,i8,h id (by simp [t9])]
 | _=>rfl
theorem aow:∀{xs:List AV},(∀i,i∈l8 xs->ob' i=ob i)->rvs ob' xs=rvs ob xs
 | [],_=>rfl
 | x::xs,h=>by
   simp only [rvs];rw [as8 (λ i a=>h i (by simp [l8,a])),aow (λ i a=>h i (by simp [l8,a]))]
theorem av9 {x:AV} (h:∀i,i∈t9 x->ob' i=ob i):dw ob' x=dw ob x:=by
 cases x with
 | own id ver lo len=>simp only [dw]; rw [as8 h]
 | agg xs=>simp only [dw]; rw [aow (λ i a=>h i (by simpa [t9] using a))]
 | _=>rfl
theorem amq:∀{xs:List AV},(∀i,i∈l8 xs->ob' i=ob i)->m5 ob' xs=m5 ob xs
 | [],_=>rfl
 | x::xs,h=>by
   simp only [m5];rw [av9 (λ i a=>h i (by simp [l8,a])),amq (λ i a=>h i (by simp [l8,a]))]
theorem ads {f:FuncId} {p:Prop} {as:List AV} (h:(y6 P r s f p c (ai as (m5 s.ob as))).ok) (e:bf s.ob s'.ob (y6 P r s f p c (ai as (m5 s.ob as))).lg.rd) :
 akv r s s' (y6 P r s f p c (ai as (m5 s.ob as))) (y6 P r s' f p c (ai as (m5 s'.ob as))):=by
 have q:∀(a:List AV×List Nat×Bool),(y6 P r s f p c a).ok->bf s.ob s'.ob (y6 P r s f p c a).lg.rd->(bf s.ob s'.ob a.2.1->ai as (m5 s'.ob as)=a)->akv r s s' (y6 P r s f p c a) (y6 P r s' f p c (ai as (m5 s'.ob as))):=λ a h e d=>by
  obtain ⟨n,l,C⟩:=a;simp only [y6] at h e |-;rcases hpo:s7 (fwd s.ob (o5 s.ob 64 (l8 n) [])) s.ob (o5 s.ob 64 (l8 n) []) with _ | po
  ·rw [hpo] at h; exact (show False from h).elim
  rw [hpo] at h e;simp only [aa7,PR.lg] at e;obtain ⟨A,g⟩:=yg e;obtain ⟨g,x⟩:=yg g;rw [d A];simp only;rw [zy 64 (l8 n) [] g];generalize o5 s.ob 64 (l8 n) []=ids at *;rw [aij g,aef g,hpo];simp only [aa7,PR.lg] at h |-;rw [aij g,an1 x];have w:=af2 (F:=back s.ob r.u ids c.2.length) x (os:=c.2) (k:=0) (by simp);have y:∀i,i∈bh r.u ids c.2.length↔∃j,j<c.2.length/\j7 r.u ids j=i:=λ i=>by simp [bh]
  refine ⟨h,λ t v=>qt v,λ t v=>fi v,λ i b=>⟨by simp [b],?_⟩,λ i b=>?_⟩
  ·obtain ⟨j,z,rfl⟩:=(y i).1 b;exact w.1 j (Nat.zero_le _) (by simpa using z)
  refine w.2 i λ j m B o=>b ((y i).2 ⟨j,by simpa using B,o.symm⟩)
 refine q _ h e λ m=>?_;rcases d:m5 s.ob as with _ | ⟨n,_ | ⟨i,l⟩⟩
 ·rw [d] at m;rw [amq (ob:=s.ob) (λ i b=>m i b),d]
 ·rw [ab7 d (λ i b=>by simp at b)]
 rw [d] at m;rw [ab7 d m]
theorem aqq {p:Prop} {vs:List AV} {y:AV} (h:(sr P r s p c vs y).ok) (a:bf s.ob s'.ob (sr P r s p c vs y).lg.rd):akv r s s' (sr P r s p c vs y) (sr P r s' p c vs y):=by
 cases y with
 | fn f cap k=>cases f with
   | func f=>exact ads h a
   | _=>exact (show False from h).elim
 | _=>exact (show False from h).elim
theorem aqr {tbl:List (TypeId×FuncId)} {p:Prop} {vs:List AV} {y:AV} (h:(oi P r s tbl p c vs y).ok) (a:bf s.ob s'.ob (oi P r s tbl p c vs y).lg.rd):akv r s s' (oi P r s tbl p c vs y) (oi P r s' tbl p c vs y):=by
 cases y with
 | ifc t y=>
   simp only [oi] at h a |-;generalize bi t tbl=q at h a |-;cases q with
   | some f=>exact ads h a
   | none=>exact (show False from h).elim
 | _=>exact (show False from h).elim
theorem afn {tbl:List (TypeId×FuncId)} {p:Prop} {vs:List AV} {y:AV}:∃rd a,(oi P r s tbl p c vs y).lg=r.lg rd a:=by
 cases y with
 | ifc t y=>
   simp only [oi];generalize bi t tbl=q;cases q with
   | some f=>
     simp only;generalize ai (y::vs) (m5 s.ob (y::vs))=q;simp only [y6];generalize s7 _ _ _=po;cases po<;>exact ⟨_,_,rfl⟩
   | none=>exact ⟨_,_,rfl⟩
 | _=>exact ⟨_,_,rfl⟩
theorem ahm (h:(r.out P s c).ok) (F:∀t,t∈(r.out P s c).lg.us->s'.e t=s.e t) (l:r.x.adr=false->bf s.ob s'.ob (r.out P s c).lg.rd) (w:aq1 s.ob s'.ob (r.out P s c).lg.rd):akv r s s' (r.out P s c) (r.out P s' c):=by
 rcases r with ⟨d,g,u,x⟩
 have C:(PR.out P ⟨d,g,u,x⟩ s c).lg.us=gus g++(x.us++d.toList):=by
  unfold PR.out;simp only;generalize yes s.e g=y;rcases y with _ | b
  ·cases x<;>rfl
  cases x with
  | see o=>rfl
  | act o=>cases b<;>rfl
  | call f xs=>cases b with
    | false=>rfl
    | true=>
      simp only [PX.out];generalize ai (l5 s.e xs) (m5 s.ob (l5 s.e xs))=q;simp only [y6];generalize s7 _ _ _=po;cases po<;>rfl
  | callv x xs=>cases b with
    | false=>rfl
    | true=>
      simp only [PX.out];generalize (x.ev s.e).bare=y;cases y with
      | fn f cap k=>cases f with
        | func f=>
          simp only [sr];generalize ai (cap.take k++(l5 s.e xs++cap.drop k)) (m5 s.ob (cap.take k++(l5 s.e xs++cap.drop k)))=q;simp only [y6];generalize s7 _ _ _=po;cases po<;>rfl
        | _=>rfl
      | _=>rfl
  | inv tbl x xs=>cases b with
    | false=>rfl
    | true=>
      simp only [PX.out];obtain ⟨rd,G,e⟩:=afn (P:=P) (r:=⟨d,g,u,.inv tbl x xs⟩) (s:=s) (c:=c) (tbl:=tbl) (p:=(x.ev s.e).may true/\ah true s.e xs) (vs:=l5 s.e xs) (y:=(x.ev s.e).bare);rw [e]
      rfl
  | nxt x=>cases b<;>rfl
 rw [C] at F;obtain ⟨z,a⟩:=ak F;obtain ⟨a,_⟩:=ak a;unfold PR.out at h l w |-;simp only at h l w z a |-;rw [an9 z];generalize yes s.e g=y at h l w |-;rcases y with _ | b
 ·have h:False:=by cases x<;>exact h
  exact h.elim
 cases x with
 | see o=>
   simp only [PX.out] at h l w |-;rw [auj (show ∀t,t∈o.us->s'.e t=s.e t from a)]
   obtain ⟨A,B⟩:(o.see b s.e s'.ob).ok/\(o.see b s.e s'.ob).v=(o.see b s.e s.ob).v:=by
    cases hadr:o.adr with
    | true=>exact ay4 hadr h w
    | false=>exact aw1 h (l hadr)
   rw [B];exact ⟨A,λ t j=>qt j,λ t j=>fi j,λ i m=>by simp [PR.lg] at m,λ i m=>rfl⟩
 | act o=>replace l:=l rfl; cases b with
   | true=>
     simp only [PX.out] at h l |-;rw [awg (show ∀t,t∈o.us->s'.e t=s.e t from a)];obtain ⟨A,B,D,E⟩:=ay5 h l;simp only at A B D E;rw [B];exact ⟨A,λ t j=>qt j,λ t j=>fi j,D,E⟩
   | false=>exact ⟨trivial,λ t j=>qt j,λ t j=>fi j,λ i m=>by simp [PX.out,PR.lg] at m,λ i m=>rfl⟩
 | call f xs=>replace l:=l rfl; cases b with
   | true=>
     simp only [PX.out] at h l |-;rw [kj (show ∀t,t∈usL xs->s'.e t=s.e t from a),nw (show ∀t,t∈usL xs->s'.e t=s.e t from a)];exact ads h l
   | false=>exact ⟨trivial,λ t j=>qt j,λ t j=>fi j,λ i m=>by simp [PX.out,PR.lg] at m,λ i m=>rfl⟩
 | callv x xs=>replace l:=l rfl; cases b with
   | true=>
     obtain ⟨a,n⟩:=ak a;simp only [PX.out] at h l |-;rw [kj n,nw n,p6 a];exact aqq h l
   | false=>exact ⟨trivial,λ t j=>qt j,λ t j=>fi j,λ i m=>by simp [PX.out,PR.lg] at m,λ i m=>rfl⟩
 | inv tbl x xs=>replace l:=l rfl; cases b with
   | true=>
     obtain ⟨a,n⟩:=ak a;simp only [PX.out] at h l |-;rw [kj n,nw n,p6 a];exact aqr h l
   | false=>exact ⟨trivial,λ t j=>qt j,λ t j=>fi j,λ i m=>by simp [PX.out,PR.lg] at m,λ i m=>rfl⟩
 | nxt x=>cases b with
   | true=>exact (show False from h).elim
   | false=>exact ⟨trivial,λ t j=>qt j,λ t j=>fi j,λ i m=>by simp [PX.out,PR.lg] at m,λ i m=>rfl⟩
theorem aly (h:r.x.sto=true) (i:Nat):pin ((r.out P s c).st.ob i)=pin (s.ob i):=by
 rcases r with ⟨d,g,u,x⟩
 unfold PR.out;simp only;generalize yes s.e g=y;cases x with
 | act o=>cases o with
   | st n x1 x2=>
     rcases y with _ | b
     ·rfl
     cases b with
     | true=>exact aww
     | false=>rfl
   | _=>cases h
 | _=>cases h
theorem apr:(r.out P s c).lg.ad=r.x.adr/\(r.out P s c).lg.st=r.x.sto:=by
 rcases r with ⟨d,g,u,x⟩
 unfold PR.out;simp only;generalize yes s.e g=y;rcases y with _ | b
 ·cases x<;>exact ⟨rfl,rfl⟩
 cases x with
 | see o=>exact ⟨rfl,rfl⟩
 | act o=>cases b<;>exact ⟨rfl,rfl⟩
 | call f xs=>cases b with
   | false=>exact ⟨rfl,rfl⟩
   | true=>
     simp only [PX.out];generalize ai (l5 s.e xs) (m5 s.ob (l5 s.e xs))=q;simp only [y6];generalize s7 _ _ _=po;cases po<;>exact ⟨rfl,rfl⟩
 | callv x xs=>cases b with
   | false=>exact ⟨rfl,rfl⟩
   | true=>
     simp only [PX.out];generalize (x.ev s.e).bare=y;cases y with
     | fn f cap k=>cases f with
       | func f=>
         simp only [sr];generalize ai (cap.take k++(l5 s.e xs++cap.drop k)) (m5 s.ob (cap.take k++(l5 s.e xs++cap.drop k)))=q;simp only [y6];generalize s7 _ _ _=po;cases po<;>exact ⟨rfl,rfl⟩
       | _=>exact ⟨rfl,rfl⟩
     | _=>exact ⟨rfl,rfl⟩
 | inv tbl x xs=>cases b with
   | false=>exact ⟨rfl,rfl⟩
   | true=>
     simp only [PX.out];obtain ⟨rd,a,e⟩:=afn (P:=P) (r:=⟨d,g,u,.inv tbl x xs⟩) (s:=s) (c:=c) (tbl:=tbl) (p:=(x.ev s.e).may true/\ah true s.e xs) (vs:=l5 s.e xs) (y:=(x.ev s.e).bare);rw [e];exact ⟨rfl,rfl⟩
 | nxt x=>cases b<;>exact ⟨rfl,rfl⟩
end

end Go.Ev

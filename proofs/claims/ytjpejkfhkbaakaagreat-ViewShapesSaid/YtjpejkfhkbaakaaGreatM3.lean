import Derived.Lib.DecodeN
import Derived.Test.YtjpejkfhkbaakaaGreatM2
open List renaming getElem?_eq_some_iff → zaa, mem_iff_getElem? → zab, mem_of_getElem? → zae, range → zag, replicate → zah
open Nat renaming le_refl → zac
open Option renaming map_eq_some_iff → zad, some → zaf
namespace Go.Ev
set_option maxHeartbeats 8000000
set_option maxRecDepth 100000
open Go
set_option linter.unusedSectionVars false
set_option linter.unnecessarySimpa false
set_option linter.unusedSimpArgs false
set_option linter.unusedVariables false
abbrev Ren:=Nat->Nat->Option (Nat×Nat)
mutual
def imV (F:Ren):AV->AV
 | .r x=>.r x
 | .agg xs=>.agg (imL F xs)
 | .tup xs=>.tup (imL F xs)
 | .nils sz z=>.nils sz z
 | .own id ver lo len=>match F id ver with | some (i,v)=>.own i v lo len | none=>.undef
 | .ptr id ver off=>match F id ver with | some (i,v)=>.ptr i v off | none=>.undef
 | .oel id ver idx off=>match F id ver with | some (i,v)=>.oel i v idx off | none=>.undef
 | .rp ys=>.rp ys
 | .fn f xs k=>.fn f (imL F xs) k
 | .mp id ver=>match F id ver with | some (i,v)=>.mp i v | none=>.undef
 | .ifc t x=>.ifc t (imV F x)
 | .gd b x=>.gd b (imV F x)
 | .undef=>.undef
def imL (F:Ren):List AV->List AV
 | []=>[]
 | x::xs=>imV F x::imL F xs
end
def imO (F:Ren):Ob->Ob
 | .box cells=>.box (imL F cells)
 | .row sz z app wr xs=>.row sz z app wr xs
 | .abs T=>.abs T
 | .map es c=>.map es c
 | .iter m since seen st=>.iter (imV F m) since seen st
theorem qf (F:Ren):∀(a:List AV) (i:Nat),(imL F a)[i]?=(a[i]?).map (imV F)
 | [],i=>by simp [imL]
 | x::a,0=>by simp [imL]
 | x::a,i+1=>by simp [imL,qf F a i]
theorem cr (F:Ren):∀(a:List AV),(imL F a).length=a.length
 | []=>by simp [imL]
 | x::a=>by simp [imL,cr F a]
section
variable {P:Program} {X Y:Cx} {w w':World} {s:St} {ρ ρ':Pl->Option Nat} {a:Act} {ob ob':Obs} {R R':Nat->Prop} {F:Ren}
def aim (ob b:Obs) (ρ a:Pl->Option Nat) (F:Ren):Prop:=∀id ver i v,F id ver=some (i,v)->∃o o',ob id=some (ver,o)/\b i=some (v,o')/\a i=ρ id/\u3 o o'
theorem u3.own {lo len id j:Nat} {c:Value} {o o':Ob} (h:xq w ρ id lo len c o) (d:u3 o o') (a:ρ' j=ρ id):xq w ρ' j lo len c o':=by
 cases o with
 | box _=>
   cases o' with
   | box _=>
     obtain ⟨A,cap,l,q,i,p⟩:=h;refine ⟨A,cap,l,q,i,fun m=>?_⟩;obtain ⟨b,cs,e,fr,f,n,k,g⟩:=p m;exact ⟨b,cs,e,fr,by rw [a,f],n,k,g⟩
   | _=>exact d.elim
 | abs _=>exact h.elim
 | map _ _=>exact h.elim
 | iter _ _ _ _=>exact h.elim
 | row sz z1 a1 w1 xs=>
   cases o' with
   | box _=>
     obtain rfl:sz=1:=d;obtain ⟨A,cap,l,q,i,r,p⟩:=h;refine ⟨A,cap,l,q,i,fun m=>?_⟩;obtain ⟨b,cs,e,fr,f,n,k,g⟩:=p m;exact ⟨b,cs,e,fr,by rw [a,f],by rw [n,Nat.mul_one],k,by simpa using g⟩
   | abs _=>exact d.elim
   | map _ _=>exact d.elim
   | iter _ _ _ _=>exact d.elim
   | row sz' z2 a2 w2 xs'=>
     obtain ⟨rfl,d⟩:=d;obtain ⟨A,cap,l,q,i,r,p⟩:=h;refine ⟨A,cap,l,q,i,by omega,fun m=>?_⟩;obtain ⟨b,cs,e,fr,f,n,k,g⟩:=p m;exact ⟨b,cs,e,fr,by rw [a,f],n,k,g⟩
theorem RelA.im (B:∀b,R b->R' b) (p:aim ob ob' ρ ρ' F) {x:AV} {c:Value} (h:RelA w R ob ρ x c):RelA w R' ob' ρ' (imV F x) c:=by
 induction h with
 | r h0=>rw [imV]; exact .r (h0.mono fun b s=>⟨B b s,rfl⟩)
 | agg xs cs hl _ ih=>
   rw [imV];refine .agg _ cs (by rw [cr]; exact hl) fun i x c hx hc=>?_;rw [qf,zad] at hx;obtain ⟨y,hy,rfl⟩:=hx;exact ih i y c hy hc
 | tup xs cs hl _ ih=>
   rw [imV];refine .tup _ cs (by rw [cr]; exact hl) fun i x c hx hc=>?_;rw [qf,zad] at hx;obtain ⟨y,hy,rfl⟩:=hx;exact ih i y c hy hc
 | nils sz z=>rw [imV]; exact .nils sz z
 | own id ver lo len c hc ha=>
   rw [imV];split
   ·rename_i i v e;obtain ⟨o,o',m,l,d,a⟩:=p _ _ _ _ e;exact .own _ _ _ _ _ hc ⟨v,o',l,zac _,fun _=>u3.own (ha.live m) a d⟩
   exact .undef _
 | ptr id ver off c hc ha=>
   rw [imV];split
   ·rename_i i v e;obtain ⟨o,o',m,l,d,a⟩:=p _ _ _ _ e;exact .ptr _ _ _ _ hc ⟨v,o',l,zac _,fun _=>by rw [d]; exact ha.live m⟩
   exact .undef _
 | oel id ver idx off c hc ha=>
   rw [imV];split
   ·rename_i i v e;obtain ⟨o,o',m,l,d,a⟩:=p _ _ _ _ e;refine .oel _ _ _ _ _ hc ⟨v,o',l,zac _,fun _=>?_⟩;have n:=ha.live m;cases o with
    | box _=>
      cases o' with
      | box _=>
        obtain ⟨b,A,q⟩:=n;exact ⟨b,by rw [d]; exact A,q⟩
      | _=>exact a.elim
    | abs _=>exact n.elim
    | map _ _=>exact n.elim
    | iter _ _ _ _=>exact n.elim
    | row sz z1 a1 w1 xs=>
      cases o' with
      | box _=>
        obtain rfl:sz=1:=a;obtain ⟨A,q,b,u,D⟩:=n;exact ⟨b,by rw [d]; exact u,by rw [D,Nat.mul_one]⟩
      | abs _=>exact a.elim
      | map _ _=>exact a.elim
      | iter _ _ _ _=>exact a.elim
      | row sz' z2 a2 w2 xs'=>
        obtain ⟨rfl,a⟩:=a;obtain ⟨A,q,u⟩:=n;exact ⟨by omega,q,by rw [d]; exact u⟩
   exact .undef _
 | rp ys b o g hRb hg=>
   rw [imV];exact .rp ys b o g (B b hRb) fun j y C=>⟨(hg j y C).1,(hg j y C).2.1,(hg j y C).2.2.mono fun b s=>⟨B b s,rfl⟩⟩
 | fn f xs k fs cs hk hl _ ih=>
   rw [imV];refine .fn f _ k fs cs hk (by rw [cr]; exact hl) fun i x c hx hc=>?_;rw [qf,zad] at hx;obtain ⟨y,hy,rfl⟩:=hx;exact ih i y c hy hc
 | mp id ver c hc ha=>
   rw [imV];split
   ·rename_i i v e;obtain ⟨o,o',m,l,d,a⟩:=p _ _ _ _ e;exact .mp _ _ _ hc ⟨v,o',l,zac _,fun _=>by rw [d]; exact ha.live m⟩
   exact .undef _
 | ifc t _ ih=>rw [imV]; exact .ifc t ih
 | gd b _ e ih=>rw [imV]; exact .gd b ih e
 | undef c=>rw [imV]; exact .undef c
theorem y8.im (n:∀b,R b->R' b) (o:aim ob ob' ρ ρ' F) {id i:Nat} {x:Ob} (h:y8 w R ob ρ id x) (a:ρ' i=ρ id) (k:∀j,ρ' (.s i j)=ρ (.s id j)):y8 w R' ob' ρ' i (imO F x):=by
 cases x with
 | abs T=>
   obtain ⟨b,f,d⟩:=h;exact ⟨b,by rw [a,f],by simp only [k]; exact d⟩
 | map es clock=>
   obtain ⟨b,f,d⟩:=h;exact ⟨b,by rw [a,f],d⟩
 | iter m since seen st=>
   obtain ⟨b,v,f,d,g⟩:=h;exact ⟨b,v,by rw [a,f],d,g.im n o⟩
 | box cells=>
   obtain ⟨b,cs,e,f,d,g,l⟩:=h;refine ⟨b,cs,e,by rw [a,f],d,by rw [cr]; exact g,fun i x c hx hc=>?_⟩;rw [qf,zad] at hx;obtain ⟨y,hy,rfl⟩:=hx;exact (l i y c hy hc).im n o
 | row sz z app wr xs=>
   rcases h with ⟨f,d,g⟩ | ⟨b,cs,e,fr,f,d,g,l,A,p⟩
   ·exact .inl ⟨f,by rw [a,d],g⟩
   refine .inr ⟨b,cs,e,fr,by rw [a,f],d,g,l,A,fun i x hi=>⟨(p i x hi).1,fun j y B=>?_⟩⟩;obtain ⟨c,t,u,r⟩:=(p i x hi).2 j y B;exact ⟨c,t,u,r.mono fun b q=>⟨n b q,rfl⟩⟩
theorem u3.im (F:Ren) (x:Ob):u3 x (imO F x):=by cases x<;>simp [u3,imO]
theorem w8 (F:Ren) (x:Ob):(imO F x).isAbs=x.isAbs:=by cases x<;>rfl
theorem vl (F:Ren) (x:Ob):(imO F x).pinned=x.pinned:=by cases x<;>rfl
theorem ahu (F:Ren) (x:Ob):(imO F x).isRow=x.isRow:=by cases x<;>rfl
theorem anq (F:Ren) (x:Ob):(imO F x).own=x.own:=by cases x<;>rfl
def idx:Nat->List Nat->Option Nat
 | _,[]=>none
 | i,j::l=>if i=j then some 0 else (idx i l).map (· + 1)
theorem yk {i:Nat}:∀{l:List Nat} {k:Nat},idx i l=some k->l[k]?=some i
 | [],k,h=>by cases h
 | j::l,k,h=>by
   unfold idx at h;split at h
   ·rename_i a; cases h; simp [a]
   rw [zad] at h;obtain ⟨m,b,rfl⟩:=h;simpa using yk b
def obs:Nat->List Ob->Obs
 | _,[]=>fun _=>none
 | k,o::os=>upd k (0,o) (obs (k+1) os)
theorem anu:∀{os:List Ob} {k id:Nat},id<k->obs k os id=none
 | [],k,id,h=>rfl
 | o::os,k,id,h=>by
   unfold obs upd;rw [if_neg (by omega)];exact anu (by omega)
theorem ahg:∀{os:List Ob} {k id:Nat},k<=id->obs k os id=(os[id-k]?).map fun o=>(0,o)
 | [],k,id,h=>by simp [obs]
 | o::os,k,id,h=>by
   unfold obs upd;by_cases a:id=k
   ·subst a; simp
   rw [if_neg a,ahg (by omega),show id-k=(id-(k+1))+1 by omega];simp
abbrev ob0 (po:List Ob):Obs:=obs 1000000 po
theorem yf {po:List Ob} {id:Nat} {x:Nat×Ob} (h:ob0 po id=some x):1000000<=id/\po[id-1000000]?=some x.2/\x.1=0:=by
 by_cases a:1000000<=id
 ·rw [ob0,ahg a,zad] at h;obtain ⟨o,b,rfl⟩:=h;exact ⟨a,b,rfl⟩
 rw [ob0,anu (by omega)] at h;cases h
def jf (ob:Obs) (ρ:Pl->Option Nat) (i b:Nat):Prop:=∃x,ob i=some x/\foot ρ i x.2 b
def om (ob:Obs) (ρ:Pl->Option Nat) (b:Nat):Prop:=∃id x,ob id=some x/\foot ρ id x.2 b
def vm (po:List Ob) (ρ:Pl->Option Nat):Nat->Option Nat:=fun id=>match ob0 po id with
 | some (_,o)=>if o.pinned=true then ρ id else none
 | none=>none
def aa3 (P:Program) (w:World) (I:Nat->Prop) (a:String) (ok:Array Value->Prop):Prop:=
 ∀g,P.globalNamed a=some g->¬I g/\∃cs e fr,w.heap[g]?=some (.cells cs e fr)/\ok cs
def avm:Array Value:=((zag 20).map fun k=>Value.int .u64 (10^k:Nat)).toArray
abbrev ic:Bool:=false
structure Gl (P:Program) (w:World) (I:Nat->Prop):Prop where
 pow : aa3 P w I "internal/strconv.uint64pow10" fun cs => cs = avm
 syn : ic = true → aa3 P w I "strconv.ErrSyntax" fun cs => ∃ t p, cs = #[.iface t p]
 rng : ic = true → aa3 P w I "strconv.ErrRange" fun cs => ∃ t p, cs = #[.iface t p]
 fst : ic = true → aa3 P w I "unicode/utf8.first" fun cs => ∀ i : Nat, i < 256 → cs[i]? = some (.int .u8 (Lib.firstT i))
 acc : ic = true → aa3 P w I "unicode/utf8.acceptRanges" fun cs => ∀ i : Nat, i < 16 → cs[2 * i]? = some (.int .u8 (Lib.accLo i)) ∧ cs[2 * i + 1]? = some (.int .u8 (Lib.accHi i))
theorem aa3.keep {P:Program} {w c:World} {I d:Nat->Prop} {a:String} {ok:Array Value->Prop} (h:aa3 P w I a ok)
 (l:∀g,g<w.heap.size->¬I g->c.heap[g]?=w.heap[g]?/\¬d g):aa3 P c d a ok:=fun g j=>by
 obtain ⟨k,cs,e,fr,b,f⟩:=h g j;obtain ⟨i,m⟩:=l g (Array.getElem?_eq_some_iff.1 b).1 k;exact ⟨m,cs,e,fr,by rw [i,b],f⟩
theorem Gl.keep {P:Program} {w d:World} {I c:Nat->Prop} (h:Gl P w I) (b:∀g,g<w.heap.size->¬I g->d.heap[g]?=w.heap[g]?/\¬c g):Gl P d c:=
 ⟨h.pow.keep b,fun a=>(h.syn a).keep b,fun a=>(h.rng a).keep b,fun a=>(h.fst a).keep b,fun a=>(h.acc a).keep b⟩
class GlC (P:Program) (X:Cx):Prop where
 gl:Gl P X.w0 X.I
def a9 (P:Program) (f:FuncId) (d:List AV) (po:List Ob) (j:AV) (k:List Ob):Prop:=
 ∀(w:World) (a:Array Value) (ρ:Pl->Option Nat) (B:Nat->Prop),Gl P w (om (ob0 po) ρ)->(∀b,om (ob0 po) ρ b\/w.heap.size<=b->B b) ->
  Mem ⟨0,om (ob0 po) ρ,fun _=>none,B,w⟩ (ob0 po) ρ w->a.size=d.length ->
  (∀(i:Nat) (x:AV) (c:Value),d[i]?=some x->a[i]?=some c->RelA w (d7 B (ob0 po) ρ w) (ob0 po) ρ x c) ->
  Calls P f a w fun e h=>∃c g,e=.returned c/\Mem ⟨0,om (ob0 po) ρ,vm po ρ,B,w⟩ (ob0 k) g h/\RelA h (d7 B (ob0 k) g h) (ob0 k) g j c
end

mutual
def kq:RV->Prop
 | .v _=>True
 | .agg xs=>lk xs
 | .sl _ _=>False
def lk:List RV->Prop
 | []=>True
 | x::xs=>kq x/\lk xs
end
mutual
def bu:AV->Prop
 | .r x=>kq x
 | .agg xs=>lm xs
 | .tup xs=>lm xs
 | .rp _=>False
 | .fn _ xs _=>lm xs
 | .gd _ x=>bu x
 | .ifc _ x=>bu x
 | _=>True
def lm:List AV->Prop
 | []=>True
 | x::xs=>bu x/\lm xs
end
def vz:Ob->Prop
 | .box cells=>lm cells
 | .row _ _ _ _ xs=>∀x,x∈xs->kq x
 | .abs _=>True
 | .map _ _=>True
 | .iter m _ _ _=>bu m
theorem lk.at_:∀{a:List RV},lk a->∀{i:Nat} {x:RV},a[i]?=some x->kq x
 | [],_,i,x,hx=>by simp at hx
 | y::ys,h,0,x,hx=>by simp at hx; subst hx; exact h.1
 | y::ys,h,i+1,x,hx=>by simp at hx; exact lk.at_ h.2 hx
theorem lm.at_:∀{a:List AV},lm a->∀{i:Nat} {x:AV},a[i]?=some x->bu x
 | [],_,i,x,hx=>by simp at hx
 | y::ys,h,0,x,hx=>by simp at hx; subst hx; exact h.1
 | y::ys,h,i+1,x,hx=>by simp at hx; exact lm.at_ h.2 hx
section
variable {P:Program} {X:Cx} [GlC P X] {w w':World} {s:St} {ρ ρ':Pl->Option Nat} {a:Act} {ob ob':Obs} {R R':Nat->Prop}
theorem RelV.flat {x:RV} {c:Value} (h:RelV w R x c) (a:kq x):RelV w R' x c:=by
 induction h with
 | v x=>exact .v x
 | agg xs cs hl _ ih=>exact .agg xs cs hl fun i x c hx hc=>ih i x c hx hc (lk.at_ (by simpa [kq] using a) hx)
 | sl sz xs A cap hc hm b o g hA hz hg hr ih=>simp [kq] at a
theorem RelA.flat {x:AV} {c:Value} (h:RelA w R ob ρ x c) (a:bu x):RelA w R' ob ρ x c:=by
 induction h with
 | r h0=>exact .r (h0.flat (by simpa [bu] using a))
 | agg xs cs hl _ ih=>exact .agg xs cs hl fun i x c hx hc=>ih i x c hx hc (lm.at_ (by simpa [bu] using a) hx)
 | tup xs cs hl _ ih=>exact .tup xs cs hl fun i x c hx hc=>ih i x c hx hc (lm.at_ (by simpa [bu] using a) hx)
 | nils sz z=>exact .nils sz z
 | own id ver lo len c hc ha=>exact .own id ver lo len c hc ha
 | ptr id ver off c hc ha=>exact .ptr id ver off c hc ha
 | oel id ver i off c hc ha=>exact .oel id ver i off c hc ha
 | rp ys b o g hR hg=>simp [bu] at a
 | fn f xs k fs cs hk hl _ ih=>exact .fn f xs k fs cs hk hl fun i x c hx hc=>ih i x c hx hc (lm.at_ (by simpa [bu] using a) hx)
 | mp id ver c hc ha=>exact .mp id ver c hc ha
 | ifc t _ ih=>exact .ifc t (ih (by simpa [bu] using a))
 | gd b _ hf' ih=>exact .gd b (fun d=>ih d (by simpa [bu] using a)) hf'
 | undef c=>exact .undef c
theorem lk.cells {x:RV} (h:kq x) {j:Nat} {y:RV} (a:x.cells[j]?=some y):kq y:=by
 cases x with
 | v v=>cases j<;>simp [RV.cells] at a; subst a; trivial
 | agg xs=>simp only [RV.cells] at a; exact lk.at_ (by simpa [kq] using h) a
 | sl k xs=>simp [kq] at h
theorem y8.flat {id:Nat} {x:Ob} (h:y8 w R ob ρ id x) (g:vz x):y8 w R' ob ρ id x:=by
 cases x with
 | abs T=>exact h
 | map es c=>exact h
 | iter m since seen st=>
   obtain ⟨b,r,f,d,a⟩:=h;exact ⟨b,r,f,d,a.flat g⟩
 | box cells=>
   obtain ⟨b,cs,e,f,d,a,k⟩:=h;exact ⟨b,cs,e,f,d,a,fun i x c hx hc=>(k i x c hx hc).flat (lm.at_ g hx)⟩
 | row sz z app wr xs=>
   rcases h with h | ⟨b,cs,e,fr,f,d,a,k,s,l⟩
   ·exact .inl h
   refine .inr ⟨b,cs,e,fr,f,d,a,k,s,fun i x hi=>⟨(l i x hi).1,fun j y n=>?_⟩⟩;obtain ⟨c,p,q,o⟩:=(l i x hi).2 j y n;exact ⟨c,p,q,o.flat (lk.cells (g x (zae hi)) n)⟩
def bp (ob:Obs):AV->Option (AV×List Nat)
 | .own id ver lo len=>match AV.rv ob (.own id ver lo len) with
   | some (y,fz)=>some (.r y,fz)
   | none=>none
 | .nils sz _=>some (.r (.sl sz []),[])
 | .agg xs=>match rvs ob xs with
   | some (ys,fz)=>some (.r (.agg ys),fz)
   | none=>none
 | .gd _ _=>none
 | .oel _ _ _ _=>none
 | x=>some (x,[])
def j9 (ob:Obs):List AV->Option (List AV×List Nat)
 | []=>some ([],[])
 | x::xs=>match bp ob x,j9 ob xs with
   | some (y,i),some (ys,j)=>some (y::ys,i++j)
   | _,_=>none
mutual
def q9:AV->List Nat
 | .own id _ _ _=>[id]
 | .ptr id _ _=>[id]
 | .oel id _ _ _=>[id]
 | .agg xs=>l9 xs
 | .tup xs=>l9 xs
 | .fn _ xs _=>l9 xs
 | .gd _ x=>q9 x
 | .mp id _=>[id]
 | .ifc _ x=>q9 x
 | _=>[]
def l9:List AV->List Nat
 | []=>[]
 | x::xs=>q9 x++l9 xs
end
def wl:Option (Nat×Ob)->List Nat
 | some (_,.box cells)=>l9 cells
 | some (_,.iter m _ _ _)=>q9 m
 | _=>[]
def l6 (ob:Obs):Nat->List Nat->List Nat->List Nat
 | 0,_,acc=>acc
 | _+1,[],acc=>acc
 | n+1,i::todo,acc=>if acc.contains i then l6 ob n todo acc else l6 ob n (wl (ob i)++todo) (acc++[i])
def uu (ver k:Nat):Option (Nat×Ob)->Option (Nat×Nat)
 | some (v,_)=>if ver=v then some (1000000+k,0) else none
 | none=>none
def fwd (ob:Obs) (ids:List Nat):Ren:=fun id ver=>match idx id ids with
 | some k=>uu ver k (ob id)
 | none=>none
def my (F:Ren):Option (Nat×Ob)->Option Ob
 | some (_,o)=>if o.own then some (imO F o) else none
 | none=>none
def o4 (F:Ren) (ob:Obs):List Nat->Option (List Ob)
 | []=>some []
 | i::is=>match my F (ob i),o4 F ob is with
   | some o,some os=>some (o::os)
   | _,_=>none
theorem pm {F:Ren} {ob:Obs}:∀{ids:List Nat} {po:List Ob},o4 F ob ids=some po->po.length=ids.length/\∀(k i:Nat) (o:Ob),ids[k]?=some i->po[k]?=some o->∃v x,ob i=some (v,x)/\x.own=true/\o=imO F x
 | [],po,h=>by simp [o4] at h; subst h; simp
 | j::ids,po,h=>by
   simp only [o4] at h;split at h
   ·rename_i o os a g;cases h;obtain ⟨e,f⟩:=pm g;refine ⟨by simp [e],fun k i q d c=>?_⟩;cases k with
    | zero=>
      simp at d c;subst d; subst c;unfold my at a;split at a
      ·rename_i v x hx;split at a
       ·rename_i b;cases a;exact ⟨v,x,hx,b,rfl⟩
       cases a
      cases a
    | succ k=>simp at d c; exact f k i q d c
   cases h
def g8 (u:Nat) (ids:List Nat) (k:Nat):Nat:=match ids[k]? with
 | some i=>i
 | none=>100000+1000*u+k
def bt (ob:Obs) (i:Nat):Option (Nat×Ob)->Nat
 | some (v,.box _)=>v
 | some (v,.row _ _ app _ _)=>bif app then v+1 else v
 | some (v,.abs _)=>v
 | some (v,.map _ _)=>v
 | some (v,.iter _ _ _ _)=>v
 | none=>0
def bg (ob:Obs) (u:Nat) (ids:List Nat) (k:Nat):Nat:=match ids[k]? with
 | some i=>bt ob i (ob i)
 | none=>nv ob (100000+1000*u+k)
def back (ob:Obs) (u:Nat) (ids:List Nat) (m:Nat):Ren:=fun id ver=>
 if ver=0/\1000000<=id/\id-1000000<m then some (g8 u ids (id-1000000),bg ob u ids (id-1000000)) else none
def v8 (ob:Obs) (u:Nat) (ids:List Nat) (F:Ren):Nat->List Ob->Obs
 | _,[]=>ob
 | k,o::os=>upd (g8 u ids k) (bg ob u ids k,imO F o) (v8 ob u ids F (k+1) os)
theorem ada {u:Nat} {ids:List Nat} {F:Ren} {i:Nat}:∀{os:List Ob} {k:Nat},(∀j,k<=j->j<k+os.length->g8 u ids j≠i)->v8 ob u ids F k os i=ob i
 | [],k,h=>rfl
 | o::os,k,h=>by
   unfold v8 upd;rw [if_neg (fun e=>h k (zac _) (by simp) e.symm)];exact ada fun j b a=>h j (by omega) (by simp; omega)
theorem ajk {u:Nat} {ids:List Nat} {F:Ren} {m:Nat} (a:∀i j,i<m->j<m->g8 u ids i=g8 u ids j->i=j):∀{os:List Ob} {k j:Nat} {o:Ob},k+os.length<=m->os[j]?=some o->v8 ob u ids F k os (g8 u ids (k+j))=some (bg ob u ids (k+j),imO F o)
 | [],k,j,o,h,hj=>by simp at hj
 | q::os,k,0,o,h,hj=>by simp at hj; subst hj; simp [v8,upd]
 | q::os,k,j+1,o,h,hj=>by
   simp at hj h;have b:=(zaa.1 hj).1;unfold v8 upd;rw [if_neg (fun e=>by have:=a _ _ (by omega) (by omega) e; omega),show k+(j+1)=k+1+j by omega];exact ajk a (by omega) hj
theorem bi {po:List Ob} {k:Nat} {o:Ob} (h:po[k]?=some o):ob0 po (1000000+k)=some (0,o):=by
 rw [ob0,ahg (by omega),show 1000000+k-1000000=k by omega,h]
 rfl
def aks:Ob->Ob->Prop
 | .row sz _ app _ xs,o'=>app=true\/∃c b a,o'=.row sz c false b a/\xs.length<=a.length
 | .box cells,.box cells'=>cells'.length=cells.length
 | .abs T,.abs T'=>T'.size=T.size
 | .map _ _,.map _ _=>True
 | .iter _ _ _ _,.iter _ _ _ _=>True
 | _,_=>False
theorem Gam.call {f:FuncId} {as:List AV} {ids:List Nat} {po E:List Ob} {gq:AV} {u:Nat} {h7:Array Value} {Bc Ra:Nat->Prop} (J:Gam X s ρ a w) (w3:o4 (fwd s.ob ids) s.ob ids=some po)
 (hT:a9 P f (imL (fwd s.ob ids) as) po gq E) (vs:ids.length<=E.length) (hu:∀i j,i<E.length->j<E.length->g8 u ids i=g8 u ids j->i=j) (vx:100000+1000*u+E.length<=1000000)
 (wj:h7.size=as.length) (e1:∀(i:Nat) (x:AV) (c:Value),as[i]?=some x->h7[i]?=some c->RelA w Ra s.ob ρ x c)
 (e5:∀b,Ra b->b<w.heap.size/\Bc b/\∀(i:Nat),i∈ids->¬jf s.ob ρ i b) (wf:∀b,d7 X.B s.ob ρ w b->Bc b) (wk:∀b,(∃i,i∈ids/\jf s.ob ρ i b)\/w.heap.size<=b->Bc b)
 (g5:∀(k:Nat) (o o':Ob),po[k]?=some o->E[k]?=some o'->aks o o')
 (ex:(bu gq/\∀o∈E,vz o)\/∀b,Bc b->d7 X.B s.ob ρ w b\/(∃i,i∈ids/\jf s.ob ρ i b)\/w.heap.size<=b) :
 Calls P f h7 w fun e w'=>∃c W,e=.returned c/\Gam X ⟨s.e,v8 s.ob u ids (back s.ob u ids E.length) 0 E⟩ W a w'/\RA X ⟨s.e,v8 s.ob u ids (back s.ob u ids E.length) 0 E⟩ W w' (imV (back s.ob u ids E.length) gq) c:=by
 obtain ⟨d0,ks⟩:=pm w3
 let Y:Pl->Option Nat:=fun p=>match p with
  | .o i=>if 1000000<=i then (ids[i-1000000]?).bind fun i=>ρ (.o i) else none
  | .s i j=>if 1000000<=i then (ids[i-1000000]?).bind fun i=>ρ (.s i j) else none
 have h9:∀(k i:Nat),ids[k]?=some i->qz ρ Y i (1000000+k):=fun k i d=>by
  simp [qz,Y,d]
 have K:∀(k i:Nat),ids[k]?=some i->∃v x o,s.ob i=some (v,x)/\x.own=true/\po[k]?=some o/\o=imO (fwd s.ob ids) x:=fun k i d=>by
  have hn:=(zaa.1 d).1;have hp:po[k]?=some po[k]:=by simp [show k<po.length by omega]
  obtain ⟨v,x,G,D,N⟩:=ks k i _ d hp;exact ⟨v,x,_,G,D,hp,N⟩
 have gv:∀(id:Nat) (x:Nat×Ob),ob0 po id=some x->∃k i,id=1000000+k/\ids[k]?=some i/\po[k]?=some x.2/\x.1=0/\qz ρ Y i id:=fun id x hx=>by
  obtain ⟨G,D,N⟩:=yf hx;have hn:=(zaa.1 D).1;have hi:ids[id-1000000]?=some (ids[id-1000000]'(by omega)):=by simp [show id-1000000<ids.length by omega]
  refine ⟨id-1000000,_,by omega,hi,D,N,?_⟩;have:=h9 _ _ hi;rw [show 1000000+(id-1000000)=id by omega] at this;exact this
 have wz:∀(k l i:Nat),ids[k]?=some i->ids[l]?=some i->k=l:=fun k l i d hl=>by
  have G:=(zaa.1 d).1;have D:=(zaa.1 hl).1;exact hu k l (by omega) (by omega) (by simp [g8,d,hl])
 have O:∀b,om (ob0 po) Y b↔∃i,i∈ids/\jf s.ob ρ i b:=fun b=>by
  constructor
  ·rintro ⟨id,x,G,D⟩;obtain ⟨k,i,rfl,d,e7,_,hs⟩:=gv id x G;obtain ⟨v,y,o,I,_,hp,ho⟩:=K k i d;rw [e7] at hp;refine ⟨i,zae d,_,I,(hs.foot ?_).1 D⟩;rw [zaf.inj hp,ho,w8]
  rintro ⟨i,hi,⟨y,I,r⟩⟩;obtain ⟨k,d⟩:=zab.1 hi;obtain ⟨v,x,o,g2,_,hp,ho⟩:=K k i d;rw [I] at g2;refine ⟨1000000+k,(0,o),bi hp,((h9 k i d).foot ?_).2 r⟩;rw [ho,w8,zaf.inj g2]
 have g6:∀b,Own (ob0 po) Y b->∃i,i∈ids/\jf s.ob ρ i b:=fun b ⟨id,v,o,G,D,N⟩=>(O b).1 ⟨id,_,G,N⟩
 have hq:∀i,i∈ids->∀b,jf s.ob ρ i b->Own s.ob ρ b:=fun i hi b ⟨y,I,r⟩=>by
  obtain ⟨k,d⟩:=zab.1 hi;obtain ⟨v,x,o,G,D,_,_⟩:=K k i d;rw [I] at G;cases G;exact ⟨i,v,x,I,D,r⟩
 have ge:aim s.ob (ob0 po) ρ Y (fwd s.ob ids):=fun id ver i v hF=>by
  unfold fwd at hF;split at hF
  ·rename_i k d;have k5:=yk d;obtain ⟨v0,x,o,G,D,N,h4⟩:=K k id k5;rw [G] at hF;simp only [uu] at hF;split at hF
   ·rename_i hv;cases hF;subst hv;exact ⟨x,o,G,bi N,(h9 k id k5).1,by rw [h4]; exact u3.im _ x⟩
   cases hF
  cases hF
 have w7:∀b,d7 X.B s.ob ρ w b->d7 Bc (ob0 po) Y w b:=fun b r=>⟨r.1,fun ho=>by
  obtain ⟨i,hi,M⟩:=g6 b ho
  exact r.2.1 (hq i hi b M),wf b r⟩
 have eb:Mem ⟨0,om (ob0 po) Y,fun _=>none,Bc,w⟩ (ob0 po) Y w:=by
  refine ⟨fun id v o h=>?_,fun id w6 x x' b G D N h4=>?_,Keeps.refl _ _,fun id v o b G D=>.inl ⟨id,_,G,D⟩,fun id b h=>by cases h⟩
  ·obtain ⟨k,i,rfl,d,hp,_,hs⟩:=gv id _ h;obtain ⟨v0,x,o',G,D,N,h4⟩:=K k i d;simp only at hp;rw [hp] at N;cases N;rw [h4];exact (J.obj i v0 x G).im w7 ge hs.1 hs.2
  obtain ⟨k,i,rfl,d,e7,_,hs⟩:=gv id _ G;obtain ⟨k',i',rfl,e6,e8,_,ev⟩:=gv w6 _ D;obtain ⟨v0,y,o',I,_,hp,ho⟩:=K k i d;obtain ⟨v1,y',vy,w2,_,ed,v2⟩:=K k' i' e6;rw [e7] at hp;rw [e8] at ed;have:=J.inj i i' _ _ b I w2 ((hs.foot (by rw [zaf.inj hp,ho,w8])).1 N) ((ev.foot (by rw [zaf.inj ed,v2,w8])).1 h4);subst this;rw [wz k k' i d e6]
 have wi:Gl P w (om (ob0 po) Y):=(GlC.gl (P:=P) (X:=X)).keep fun g G D=>⟨J.keeps.block g G D,fun hh=>by
  obtain ⟨i,hi,⟨⟨v,x⟩,I,r⟩⟩:=(O g).1 hh;rcases J.own i v x g I r with h | h
  ·exact D h
  omega⟩
 refine (hT w h7 Y Bc wi (fun b r=>wk b (r.imp_left (O b).1)) eb (by rw [cr,wj]) (fun i x c hx hc=>?_)).mono ?_
 ·rw [qf,zad] at hx;obtain ⟨y,hy,rfl⟩:=hx
  exact (e1 i y c hy hc).im (fun b r=>⟨(e5 b r).1,fun ho=>by
   obtain ⟨j,Q,kd⟩:=g6 b ho
   exact (e5 b r).2.2 j Q kd,(e5 b r).2.1⟩) ge
 rintro e w' ⟨c,W,rfl,hM,gy⟩;generalize wa:back s.ob u ids E.length=Fb;generalize k0:v8 s.ob u ids Fb 0 E=L
 let H:Pl->Option Nat:=fun p=>match p with
  | .o i=>open Classical in if h:∃k,k<E.length/\g8 u ids k=i then W (1000000+h.choose:Nat) else ρ i
  | .s i j=>open Classical in if h:∃k,k<E.length/\g8 u ids k=i then W (.s (1000000+h.choose) j) else ρ (.s i j)
 have A:∀k,k<E.length->qz W H (1000000+k) (g8 u ids k):=fun k d=>by
  have gx:∃l,l<E.length/\g8 u ids l=g8 u ids k:=⟨k,d,rfl⟩
  have:=hu _ _ gx.choose_spec.1 d gx.choose_spec.2;refine ⟨?_,fun j=>?_⟩
  ·simp only [H,dif_pos gx,this]
  simp only [H,dif_pos gx,this]
 have hN:∀i,(¬∃k,k<E.length/\g8 u ids k=i)->qz ρ H i i/\L i=s.ob i:=fun i hi=>by
  refine ⟨⟨by simp only [H,dif_neg hi],fun j=>by simp only [H,dif_neg hi]⟩,?_⟩;rw [<- k0];exact ada fun j _ D e=>hi ⟨j,by omega,e⟩
 have hC:∀k o,E[k]?=some o->L (g8 u ids k)=some (bg s.ob u ids k,imO Fb o):=fun k o d=>by
  have:=ajk (ob:=s.ob) (F:=Fb) hu (os:=E) (k:=0) (j:=k) (o:=o) (by omega) d;rw [Nat.zero_add] at this;rw [<- k0];exact this
 have U:∀i x,L i=some x->(∃k o,E[k]?=some o/\i=g8 u ids k/\x=(bg s.ob u ids k,imO Fb o))\/((¬∃k,k<E.length/\g8 u ids k=i)/\s.ob i=some x):=fun i x hx=>by
  by_cases hi:∃k,k<E.length/\g8 u ids k=i
  ·obtain ⟨k,d,rfl⟩:=hi;have hr:E[k]?=some E[k]:=by simp [d]
   rw [hC k _ hr] at hx;exact .inl ⟨k,_,hr,rfl,(zaf.inj hx).symm⟩
  rw [(hN i hi).2] at hx;exact .inr ⟨hi,hx⟩
 have ha:∀i,i∈ids->∃k,k<E.length/\g8 u ids k=i:=fun i hi=>by
  obtain ⟨k,d⟩:=zab.1 hi;have:=(zaa.1 d).1;exact ⟨k,by omega,by simp [g8,d]⟩
 have hn:∀i x b,s.ob i=some x->foot ρ i x.2 b->b<w.heap.size:=fun i x b hi r=>J.foot_lt hi r;have ee:∀k o b,E[k]?=some o->foot W (1000000+k) o b->(∃i,i∈ids/\jf s.ob ρ i b)\/w.heap.size<=b:=fun k o b d r=>(hM.own _ _ _ b (bi d) r).imp_left (O b).1
 have gg:∀b,Own L H b->Own (ob0 E) W b\/∃i v x,(¬∃k,k<E.length/\g8 u ids k=i)/\s.ob i=some (v,x)/\x.own=true/\foot ρ i x b:=fun b ⟨i,v,x,G,D,N⟩=>by
  rcases U i _ G with ⟨k,o,d,rfl,hx⟩ | ⟨hi,hx⟩
  ·cases hx;have:=(zaa.1 d).1;rw [(A k this).foot (w8 Fb o)] at N;exact .inl ⟨_,0,o,bi d,by rw [<- anq Fb]; exact D,N⟩
  rw [(hN i hi).1.foot rfl] at N;exact .inr ⟨i,v,x,hi,hx,D,N⟩
 have h6:aim (ob0 E) L W H Fb:=fun id ver i v hF=>by
  rw [<- wa] at hF;unfold back at hF;split at hF
  ·rename_i hc;obtain ⟨rfl,G,D⟩:=hc;cases hF;have hr:E[id-1000000]?=some E[id-1000000]:=by simp [D]
   have hg:=bi hr;rw [show 1000000+(id-1000000)=id by omega] at hg;refine ⟨_,_,hg,hC _ _ hr,?_,u3.im Fb _⟩;rw [(A _ D).1,show 1000000+(id-1000000)=id by omega]
  cases hF
 have V:∀b,d7 X.B s.ob ρ w b->¬∃i,i∈ids/\jf s.ob ρ i b:=fun b r ⟨i,hi,kv⟩=>r.2.1 (hq i hi b kv);have R:∀b,b<w.heap.size->(¬∃i,i∈ids/\jf s.ob ρ i b)->w'.heap[b]?=w.heap[b]?:=fun b G D=>hM.keeps.block b G fun hh=>D ((O b).1 hh)
 have kt:∀b,d7 X.B s.ob ρ w b->d7 X.B L H w' b:=fun b r=>by
  refine ⟨Nat.lt_of_lt_of_le r.1 hM.keeps.size,fun ho=>?_,r.2.2⟩;rcases gg b ho with ⟨id,v,o,G,D,N⟩ | ⟨i,v,x,_,G,D,N⟩
  ·rcases hM.own id v o b G N with h | h
   ·exact V b r ((O b).1 h)
   have:=r.1; simp only at h; omega
  exact r.2.1 ⟨i,v,x,G,D,N⟩
 have ga:(bu gq/\∀o∈E,vz o)\/∀b,d7 Bc (ob0 E) W w' b->d7 X.B L H w' b:=by
  refine ex.imp_right fun hf b r=>⟨r.1,fun ho=>?_,?_⟩
  ·rcases gg b ho with h | ⟨i,v,x,hi,G,D,N⟩
   ·exact r.2.1 h
   rcases hf b r.2.2 with h | ⟨j,Q,C⟩ | h
   ·exact h.2.1 ⟨i,v,x,G,D,N⟩
   ·obtain ⟨k,d⟩:=zab.1 Q;obtain ⟨⟨v0,y⟩,I,C⟩:=C;have:=J.inj i j _ _ b G I N C;subst this;exact hi (ha i Q)
   have:=hn i _ b G N; omega
  rcases hf b r.2.2 with h | ⟨j,Q,C⟩ | h
  ·exact h.2.2
  ·obtain ⟨k,d⟩:=zab.1 Q;obtain ⟨⟨v0,y⟩,I,C⟩:=C;exact J.base b (J.own j _ _ b I C)
  exact J.base b (.inr (Nat.le_trans J.keeps.size h))
 have eq:Stays w w' (d7 X.B s.ob ρ w) (d7 X.B L H w') s.ob L ρ H:=by
  refine ⟨fun b r=>⟨kt b r,R b r.1 (V b r)⟩,fun i v x hx=>?_⟩;by_cases hi:∃k,k<E.length/\g8 u ids k=i
  ·obtain ⟨k,d,rfl⟩:=hi;have hr:E[k]?=some E[k]:=by simp [d]
   refine ⟨_,_,hC k _ hr,?_,?_⟩
   ·unfold bg;rcases hki:ids[k]? with _ | j
    ·have:g8 u ids k=100000+1000*u+k:=by simp [g8,hki]
     rw [this] at hx;exact Nat.le_of_lt (nk hx)
    have:g8 u ids k=j:=by simp [g8,hki]
    rw [this] at hx;simp only [hx];cases x with
    | row sz z app wr xs=>cases app<;>simp [bt]
    | _=>simp [bt]
   intro hv;unfold bg at hv;rcases hki:ids[k]? with _ | j
   ·have:g8 u ids k=100000+1000*u+k:=by simp [g8,hki]
    rw [this] at hx;simp only [hki] at hv;have:=nk hx;omega
   have hm:g8 u ids k=j:=by simp [g8,hki]
   rw [hm] at hx |-;simp only [hki,hx] at hv;obtain ⟨v0,y,gu,I,g2,g3,g4⟩:=K k j hki;rw [hx] at I;cases I
   have hd:x.pinned=true:=by
    cases x with
    | row sz z app wr xs=>cases app<;>first | rfl | (simp [bt] at hv)
    | _=>rfl
   obtain ⟨b,S⟩:∃b,ρ j=some b:=by
    have Z:=J.obj j v _ hx;cases x with
    | row sz z app wr xs=>
      rcases Z with ⟨_,_,N⟩ | ⟨b,cs,e,fr,h,_⟩
      ·subst N; cases hd
      exact ⟨b,h⟩
    | box cells=>obtain ⟨b,cs,e,h,_⟩:=Z; exact ⟨b,h⟩
    | abs T=>obtain ⟨b,h,_⟩:=Z; exact ⟨b,h⟩
    | map _ _=>obtain ⟨b,h,_⟩:=Z; exact ⟨b,h⟩
    | iter _ _ _ _=>obtain ⟨b,m',h,_⟩:=Z; exact ⟨b,h⟩
   have gb:=hM.pin (1000000+k) b (by
    simp only [vm,bi g3,g4]
    rw [if_pos (by rw [vl]; exact hd),(h9 k j hki).1,S])
   obtain ⟨g0,o',gd,ey,e3⟩:=gb;rw [bi hr] at gd;have ht:E[k]=o':=by have:=zaf.inj gd; exact (Prod.mk.inj this).2
   have hA:=A k d;rw [hm] at hA;refine ⟨by rw [hA.1,g0,S],?_,fun b' wp e' w4 M hz=>?_⟩
   ·have n:=g5 k gu E[k] g3 hr;rw [g4] at n
    revert n
    generalize E[k]=q;intro n;cases x with
    | row sz z app wr xs=>
      rcases n with h | ⟨z',w1,w5,rfl,h⟩
      ·subst h; cases hd
      exact ⟨rfl,h⟩
    | box _=>cases q<;>first | exact n.elim | trivial
    | abs _=>cases q<;>first | exact n.elim | exact n
    | map _ _=>cases q<;>first | exact n.elim | trivial
    | iter _ _ _ _=>cases q<;>first | exact n.elim | trivial
   rw [S] at M;cases M;have n:=g5 k gu E[k] g3 hr;rw [g4,ht] at n;have e0:=hM.obj (1000000+k) 0 o' (by rw [bi hr,ht]);have Z:=J.obj j v _ hx;cases x with
   | row sz z app wr xs=>
     rcases n with h | ⟨z',w1,w5,rfl,h⟩
     ·subst h; cases hd
     exact e3 rfl wp e' w4 hz
   | box cells=>
     cases o' with
     | row _ _ _ _ _=>exact n.elim
     | abs _=>exact n.elim
     | map _ _=>exact n.elim
     | iter _ _ _ _=>exact n.elim
     | box cells'=>
       obtain ⟨b1,cs,e,k1,k2,k3,_⟩:=Z;rw [S] at k1; cases k1;rw [hz] at k2; cases k2;obtain ⟨b2,e4,e2,f1,f2,f3,_⟩:=e0;rw [g0] at f1; cases f1;refine ⟨e4,e2,_,f2,?_⟩;have n:cells'.length=(imL (fwd s.ob ids) cells).length:=n;rw [f3,k3,n,cr]
   | abs T=>
     cases o' with
     | row _ _ _ _ _=>exact n.elim
     | box _=>exact n.elim
     | map _ _=>exact n.elim
     | iter _ _ _ _=>exact n.elim
     | abs T'=>
       obtain ⟨b1,k1,k2⟩:=Z;rw [S] at k1; cases k1;obtain ⟨cs,e,k3,k4⟩:=T.root k2;rw [hz] at k3; cases k3;obtain ⟨b2,f1,f2⟩:=e0;rw [g0] at f1; cases f1;obtain ⟨e4,e2,f3,f4⟩:=T'.root f2;have n:T'.size=T.size:=n;exact ⟨e4,e2,_,f3,by rw [f4,k4,n]⟩
   | map es c=>
     obtain ⟨b1,k1,k2⟩:=Z;rw [S] at k1; cases k1;rw [hz] at k2; cases k2
   | iter m since seen st=>
     obtain ⟨b1,m',k1,k2,_⟩:=Z;rw [S] at k1; cases k1;rw [hz] at k2; cases k2
  refine ⟨v,x,by rw [(hN i hi).2,hx],zac _,fun _=>⟨(hN i hi).1.1,u3.refl x,fun b cs e fr r hh=>⟨cs,e,fr,?_,rfl⟩⟩⟩;have r:foot ρ i x b:=.inl r;rw [R b (hn i _ b hx r),hh];rintro ⟨j,Q,C⟩;obtain ⟨k,d⟩:=zab.1 Q;obtain ⟨⟨v0,y⟩,I,C⟩:=C;have:=J.inj i j _ _ b hx I r C;subst this;exact hi (ha i Q)
 have e9:∀k o,E[k]?=some o->y8 w' (d7 X.B L H w') L H (g8 u ids k) (imO Fb o):=fun k o d=>by
  have gp:=(zaa.1 d).1;have h0:=hM.obj _ _ _ (bi d);rcases ga with ⟨_,hf⟩ | hf
  ·exact (h0.flat (R':=d7 X.B L H w') (hf o (zae d))).im (fun _ h=>h) h6 (A k gp).1 (A k gp).2
  exact h0.im hf h6 (A k gp).1 (A k gp).2
 refine ⟨c,H,rfl,⟨⟨fun i v x hx=>?_,fun i j x y b hx hy r M=>?_,?_,fun i v x b hx r=>?_,fun i b hp=>?_⟩,J.sz,J.df,fun t=>(J.env t).stays eq,J.pnn,J.small,J.base⟩,?_⟩
 ·rcases U i _ hx with ⟨k,o,d,rfl,h5⟩ | ⟨hi,h5⟩
  ·cases h5;exact e9 k o d
  refine (J.obj i v x h5).stays eq (hN i hi).1.1 (hN i hi).1.2 fun b r=>R b (hn i _ b h5 r) ?_;rintro ⟨j,Q,C⟩;obtain ⟨k,d⟩:=zab.1 Q;obtain ⟨⟨v0,y⟩,I,C⟩:=C;have:=J.inj i j _ _ b h5 I r C;subst this;exact hi (ha i Q)
 ·have hw:∀k o i x b,E[k]?=some o->(¬∃l,l<E.length/\g8 u ids l=i)->s.ob i=some x->foot W (1000000+k) o b->foot ρ i x.2 b->False:=fun k o i x b d hi hx G D=>by
   rcases ee k o b d G with ⟨j,Q,C⟩ | h
   ·obtain ⟨l,hl⟩:=zab.1 Q;obtain ⟨⟨v0,y⟩,I,C⟩:=C;have:=J.inj i j _ _ b hx I D C;subst this;exact hi (ha i Q)
   have:=hn i _ b hx D; omega
  rcases U i _ hx with ⟨k,o,d,rfl,rfl⟩ | ⟨hi,h5⟩<;>rcases U j _ hy with ⟨l,q,hl,rfl,rfl⟩ | ⟨Q,ew⟩
  ·have G:=(zaa.1 d).1;have D:=(zaa.1 hl).1;rw [(A k G).foot (w8 Fb _)] at r;rw [(A l D).foot (w8 Fb _)] at M;have:=hM.inj _ _ _ _ b (bi d) (bi hl) r M;rw [show k=l by omega]
  ·have G:=(zaa.1 d).1;rw [(A k G).foot (w8 Fb _)] at r;rw [(hN j Q).1.foot rfl] at M;exact (hw k o j _ b d Q ew r M).elim
  ·have D:=(zaa.1 hl).1;rw [(A l D).foot (w8 Fb _)] at M;rw [(hN i hi).1.foot rfl] at r;exact (hw l q i _ b hl hi h5 M r).elim
  rw [(hN i hi).1.foot rfl] at r;rw [(hN j Q).1.foot rfl] at M;exact J.inj i j _ _ b h5 ew r M
 ·have d:=J.keeps;refine ⟨hM.keeps.os.trans d.os,hM.keeps.tape.trans d.tape,hM.keeps.output.trans d.output,Nat.le_trans d.size hM.keeps.size,fun b r hI=>?_⟩;rw [R b (Nat.lt_of_lt_of_le r d.size),d.block b r hI];rintro ⟨j,Q,C⟩;obtain ⟨k,e6⟩:=zab.1 Q;obtain ⟨⟨v0,y⟩,I,C⟩:=C;rcases J.own j _ _ b I C with h | h
  ·exact hI h
  omega
 ·rcases U i _ hx with ⟨k,o,d,rfl,wn⟩ | ⟨hi,h5⟩
  ·cases wn;rw [(A k (zaa.1 d).1).foot (w8 Fb _)] at r;rcases ee k o b d r with ⟨j,Q,C⟩ | h
   ·obtain ⟨l,hl⟩:=zab.1 Q;obtain ⟨⟨v0,y⟩,I,C⟩:=C;exact J.own j _ _ b I C
   exact .inr (Nat.le_trans J.keeps.size h)
  rw [(hN i hi).1.foot rfl] at r;exact J.own i v x b h5 r
 ·show H i=some b/\∃o,L i=some (0,o)/\o.pinned=true/\(o.isRow=true->lj X.w0 w' b);obtain ⟨G,x,D,hd,em⟩:=J.pin i b hp;by_cases hi:∃k,k<E.length/\g8 u ids k=i
  ·obtain ⟨k,d,rfl⟩:=hi;have hr:E[k]?=some E[k]:=by simp [d]
   rcases hki:ids[k]? with _ | j
   ·have hm:g8 u ids k=100000+1000*u+k:=by simp [g8,hki]
    rw [hm,J.pnn _ (adg (by omega))] at hp;cases hp
   have hm:g8 u ids k=j:=by simp [g8,hki]
   rw [hm] at G D |-;obtain ⟨v0,y,gu,I,g2,g3,g4⟩:=K k j hki;rw [D] at I;cases I
   have gb:=hM.pin (1000000+k) b (by
    simp only [vm,bi g3,g4]
    rw [if_pos (by rw [vl]; exact hd),(h9 k j hki).1,G])
   obtain ⟨g0,o',gd,ey,e3⟩:=gb;rw [bi hr] at gd;have ht:E[k]=o':=by have:=zaf.inj gd; exact (Prod.mk.inj this).2
   have hA:=A k d;have k6:=hC k _ hr;rw [hm] at hA k6;refine ⟨by rw [hA.1,g0],imO Fb o',?_,by rw [vl]; exact ey,fun h8=>?_⟩
   rotate_left
   ·rw [ahu] at h8;have n:=g5 k gu E[k] g3 hr;rw [g4,ht] at n
    have wd:x.isRow=true:=by
     cases x with
     | row _ _ _ _ _=>rfl
     | box _=>cases o'<;>first | exact n.elim | cases h8
     | abs _=>cases o'<;>first | exact n.elim | cases h8
     | map _ _=>cases o'<;>first | exact n.elim | cases h8
     | iter _ _ _ _=>cases o'<;>first | exact n.elim | cases h8
    exact (em wd).trans (e3 h8)
   rw [k6,ht];cases x with
   | row sz z app wr xs=>cases app<;>first | (cases hd; done) | simp [bg,hki,D,bt]
   | box cells=>simp [bg,hki,D,bt]
   | abs T=>simp [bg,hki,D,bt]
   | map es c=>simp [bg,hki,D,bt]
   | iter m since seen st=>simp [bg,hki,D,bt]
  rw [(hN i hi).1.1,(hN i hi).2];refine ⟨G,x,D,hd,fun h8=>(em h8).trans ?_⟩;have r:foot ρ i x b:=.inl G
  have he:w'.heap[b]?=w.heap[b]?:=R b (hn i _ b D r) (by
   rintro ⟨j,Q,C⟩;obtain ⟨k,d⟩:=zab.1 Q;obtain ⟨⟨v0,y⟩,I,C⟩:=C;have:=J.inj i j _ _ b D I r C;subst this
   exact hi (ha i Q))
  intro cs e fr hc;exact ⟨cs,e,fr,by rw [he]; exact hc,rfl⟩
 rcases ga with ⟨hf,_⟩ | hf
 ·exact (gy.flat (R':=d7 X.B L H w') hf).im (fun _ h=>h) h6
 exact gy.im hf h6
end

def ke (ver a:Nat):Option (Nat×Ob)->Option (Nat×Nat)
 | some (v,_)=>if ver=v then some (a,0) else none
 | none=>none
def lr (np lb:Nat) (ob:Obs) (ids:List Nat):Ren:=fun id ver=>
 if 1000000<=id/\id<1000000+np then ke ver id (ob id)
 else match idx id ids with
  | some k=>ke ver (lb+k) (ob id)
  | none=>none
def qr (F:Ren):Option (Nat×Ob)->Option Ob
 | some (_,o)=>some (imO F o)
 | none=>none
def iy (F:Ren) (ob:Obs):List Nat->Option (List Ob)
 | []=>some []
 | i::is=>match qr F (ob i),iy F ob is with
   | some o,some os=>some (o::os)
   | _,_=>none
theorem aev {F:Ren} {ob:Obs}:∀{ids:List Nat} {po:List Ob},iy F ob ids=some po->po.length=ids.length/\∀(k i:Nat) (o:Ob),ids[k]?=some i->po[k]?=some o->∃v x,ob i=some (v,x)/\o=imO F x
 | [],po,h=>by simp [iy] at h; subst h; simp
 | j::ids,po,h=>by
   simp only [iy] at h;split at h
   ·rename_i o os b f;cases h;obtain ⟨d,e⟩:=aev f;refine ⟨by simp [d],fun k i q c a=>?_⟩;cases k with
    | zero=>
      simp at c a;subst c; subst a;rcases hj:ob j with _ | ⟨v,x⟩
      ·rw [hj] at b; cases b
      rw [hj] at b;cases b;exact ⟨v,x,rfl,rfl⟩
    | succ k=>simp at c a; exact e k i q c a
   cases h
def u7 (np:Nat):Nat->List Nat
 | 0=>[]
 | n+1=>(1000000+(np-(n+1)))::u7 np n
theorem afk {np:Nat}:∀{n k:Nat},n<=np->k<n->(u7 np n)[k]?=some (1000000+(np-n+k))
 | 0,k,_,h=>by omega
 | n+1,0,h,_=>by simp [u7]
 | n+1,k+1,h,hk=>by
   simp only [u7,List.getElem?_cons_succ];rw [afk (by omega) (by omega)];congr 1;omega
theorem adf {np:Nat}:∀{n:Nat},(u7 np n).length=n
 | 0=>rfl
 | n+1=>by simp [u7,adf]
def nr (np i:Nat):Bool:=decide (1000000<=i/\i<1000000+np)
def dp (np:Nat) (l:List Nat):List Nat:=l.filter fun i=>!nr np i
def nrm (a np lb:Nat) (vs:List AV) (ob:Obs):Option (List AV×List Ob×List Ob):=
 let ids:=dp np (l6 ob a (l9 vs++u7 np np) [])
 let F:=lr np lb ob ids
 match iy F ob (u7 np np),iy F ob ids with
 | some pos,some los=>some (imL F vs,pos,los)
 | _,_=>none
def t5:Nat->List Ob->Obs->Obs
 | _,[],ob=>ob
 | k,o::os,ob=>upd k (0,o) (t5 (k+1) os ob)
theorem abc:∀{os:List Ob} {k id:Nat} {ob:Obs},(id<k\/k+os.length<=id)->t5 k os ob id=ob id
 | [],k,id,ob,h=>rfl
 | o::os,k,id,ob,h=>by
   simp at h;unfold t5 upd;rw [if_neg (by omega)];exact abc (by omega)
theorem xg:∀{os:List Ob} {k j:Nat} {o:Ob} {ob:Obs},os[j]?=some o->t5 k os ob (k+j)=some (0,o)
 | [],k,j,o,ob,h=>by simp at h
 | q::os,k,0,o,ob,h=>by simp at h; subst h; simp [t5,upd]
 | q::os,k,j+1,o,ob,h=>by
   simp at h;unfold t5 upd;rw [if_neg (by omega),show k+(j+1)=k+1+j by omega];exact xg h
theorem we (ob:Obs):∀(f:Nat) (d c:List Nat),c.Nodup->(l6 ob f d c).Nodup
 | 0,_,c,h=>h
 | _+1,[],c,h=>h
 | n+1,i::d,c,h=>by
   unfold l6;split
   ·exact we ob n d c h
   rename_i hc;refine we ob n _ _ ?_;rw [List.nodup_append];refine ⟨h,by simp,fun a j b g=>?_⟩;simp at g;subst g;intro e;subst e;simp at hc;exact hc j
variable {i:Nat} {l:List Nat}
theorem afm (h:l.Nodup) {j x:Nat} (hi:l[i]?=some x) (k:l[j]?=some x):i=j:=by
 have g:=(zaa.1 hi)
 have f:=(zaa.1 k)
 obtain ⟨b,d⟩:=g;obtain ⟨e,c⟩:=f;rcases Nat.lt_trichotomy i j with a | rfl | a
 ·exact absurd (by rw [d,c]) (List.pairwise_iff_getElem.1 h i j b e a)
 ·rfl
 exact absurd (by rw [d,c]) (List.pairwise_iff_getElem.1 h j i e b a)
section
variable {P:Program} {X:Cx} {w w':World} {s:St} {ρ ρ':Pl->Option Nat} {a:Act} {ob ob':Obs} {R R':Nat->Prop}
theorem Mem.nrm (Q:Mem X ob ρ w) {z np lb:Nat} {vs I:List AV} {pos d:List Ob} (h:nrm z np lb vs ob=some (I,pos,d)) (h9:1000000+np<=lb) (R:∀id b,X.pn id=some b->1000000<=id/\id<1000000+np) :
 ∃K,Mem X (t5 1000000 pos (t5 lb d fun _=>none)) K w/\I.length=vs.length/\pos.length=np /\
  ∀(i:Nat) (x y:AV) (c:Value),vs[i]?=some x->I[i]?=some y->RelA w (d7 X.B ob ρ w) ob ρ x c->RelA w (d7 X.B (t5 1000000 pos (t5 lb d fun _=>none)) K w) (t5 1000000 pos (t5 lb d fun _=>none)) K y c:=by
 unfold Ev.nrm at h;generalize q9:dp np (l6 ob z (l9 vs++u7 np np) [])=ids at h;simp only at h;generalize hF:lr np lb ob ids=F at h;split at h
 ·rename_i h8 h7 hp hl;cases h;obtain ⟨p1,p2⟩:=aev hp;obtain ⟨l1,l2⟩:=aev hl;rw [adf] at p1
  have h6:ids.Nodup:=by
   rw [<- q9];exact (we ob z _ [] (by simp)).filter _
  have N:∀i,i∈ids->¬(1000000<=i/\i<1000000+np):=fun i hi=>by
   rw [<- q9] at hi;simp [dp,nr] at hi;intro hc;have:=hi.2;omega
  generalize A:t5 1000000 pos (t5 lb d fun _=>none)=t
  let g:Pl->Option Nat:=fun p=>match p with
   | .o i=>if 1000000<=i/\i<1000000+np then ρ i else if lb<=i then (ids[i-lb]?).bind fun i=>ρ (.o i) else none
   | .s i j=>if 1000000<=i/\i<1000000+np then ρ (.s i j) else if lb<=i then (ids[i-lb]?).bind fun i=>ρ (.s i j) else none
  have S:∀k o,pos[k]?=some o->t (1000000+k)=some (0,o)/\qz ρ g (1000000+k) (1000000+k)/\∃v x,ob (1000000+k)=some (v,x)/\o=imO F x:=fun k o m=>by
   have J:=(zaa.1 m).1;refine ⟨by rw [<- A]; exact xg m,⟨by simp only [g]; rw [if_pos (by omega)],fun j=>by simp only [g]; rw [if_pos (by omega)]⟩,?_⟩;have:=afk (np:=np) (n:=np) (k:=k) (zac _) (by omega);rw [Nat.sub_self,Nat.zero_add] at this;exact p2 k _ o this m
  have hL:∀k o,d[k]?=some o->t (lb+k)=some (0,o)/\∃i v x,ids[k]?=some i/\qz ρ g i (lb+k)/\ob i=some (v,x)/\o=imO F x:=fun k o m=>by
   have J:=(zaa.1 m).1;have hi:ids[k]?=some (ids[k]'(by omega)):=by simp [show k<ids.length by omega]
   obtain ⟨v,x,l,e⟩:=l2 k _ o hi m;refine ⟨?_,_,v,x,hi,?_,l,e⟩
   ·rw [<- A,abc (by omega)];exact xg m
   refine ⟨?_,fun j=>?_⟩
   ·simp only [g];rw [if_neg (by omega),if_pos (by omega),show lb+k-lb=k by omega,hi]
    rfl
   simp only [g];rw [if_neg (by omega),if_pos (by omega),show lb+k-lb=k by omega,hi]
   rfl
  have G:∀id x,t id=some x->(∃k,pos[k]?=some x.2/\id=1000000+k/\x.1=0)\/(∃k,d[k]?=some x.2/\id=lb+k/\x.1=0):=fun id x hx=>by
   rw [<- A] at hx;by_cases r:1000000<=id/\id<1000000+np
   ·have m:pos[id-1000000]?=some (pos[id-1000000]'(by omega)):=by simp [show id-1000000<pos.length by omega]
    have:=xg (k:=1000000) (ob:=t5 lb d fun _=>none) m;rw [show 1000000+(id-1000000)=id by omega,hx] at this;cases this;exact .inl ⟨_,m,by omega,rfl⟩
   rw [abc (by omega)] at hx;by_cases H:lb<=id/\id<lb+d.length
   ·have m:d[id-lb]?=some (d[id-lb]'(by omega)):=by simp [show id-lb<d.length by omega]
    have:=xg (k:=lb) (ob:=fun _=>none) m;rw [show lb+(id-lb)=id by omega,hx] at this;cases this;exact .inr ⟨_,m,by omega,rfl⟩
   rw [abc (by omega)] at hx;cases hx
  have q:∀id x,t id=some x->∃i v y,ob i=some (v,y)/\x=(0,imO F y)/\qz ρ g i id/\((id=i/\1000000<=i/\i<1000000+np)\/(∃k,ids[k]?=some i/\id=lb+k)):=fun id x hx=>by
   rcases G id x hx with ⟨k,r,rfl,E⟩ | ⟨k,r,rfl,E⟩
   ·obtain ⟨l,e,v,y,f,u⟩:=S k _ r;have J:=(zaa.1 r).1;exact ⟨_,v,y,f,Prod.ext E u,e,.inl ⟨rfl,by omega,by omega⟩⟩
   obtain ⟨l,i,v,y,e,f,u,V⟩:=hL k _ r;exact ⟨i,v,y,u,Prod.ext E V,f,.inr ⟨k,e,rfl⟩⟩
  have D:aim ob t ρ g F:=fun id ver i v a=>by
   rw [<- hF] at a;unfold lr at a;split at a
   ·rename_i hc;rcases ho:ob id with _ | ⟨v0,y⟩
    ·rw [ho] at a; cases a
    rw [ho] at a;simp only [ke] at a;split at a
    ·rename_i hv;cases a;subst hv;have m:pos[id-1000000]?=some (pos[id-1000000]'(by omega)):=by simp [show id-1000000<pos.length by omega]
     obtain ⟨l,e,v1,y1,f,u⟩:=S _ _ m;rw [show 1000000+(id-1000000)=id by omega] at l e f;rw [ho] at f;cases f;exact ⟨_,_,rfl,l,e.1,by rw [u]; exact u3.im F _⟩
    cases a
   split at a
   ·rename_i k m;have P:=yk m;rcases ho:ob id with _ | ⟨v0,y⟩
    ·rw [ho] at a; cases a
    rw [ho] at a;simp only [ke] at a;split at a
    ·rename_i hv;cases a;subst hv;have J:=(zaa.1 P).1;have W:d[k]?=some (d[k]'(by omega)):=by simp [show k<d.length by omega]
     obtain ⟨l,i,v1,y1,e,f,u,V⟩:=hL k _ W;rw [P] at e;cases e;rw [ho] at u;cases u;exact ⟨_,_,rfl,l,f.1,by rw [V]; exact u3.im F _⟩
    cases a
   cases a
  have hR:∀b,d7 X.B ob ρ w b->d7 X.B t g w b:=fun b hb=>⟨hb.1,fun ⟨id,v,o,r,H,E⟩=>by
   obtain ⟨i,M,y,l,e,f,_⟩:=q id _ r;cases e;rw [anq] at H
   exact hb.2.1 ⟨i,M,y,l,H,(f.foot (w8 F y)).1 E⟩,hb.2.2⟩
  refine ⟨g,⟨fun id v o hx=>?_,fun id U x x' b r H E h4=>?_,Q.keeps,fun id v o b r H=>?_,fun id b r=>?_⟩,by rw [cr],p1,fun i x y c hx hy hr=>?_⟩
  ·obtain ⟨i,M,y,l,e,f,_⟩:=q id _ hx;cases e;exact (Q.obj i M y l).im hR D f.1 f.2
  ·obtain ⟨i,v,y,l,e,f,u⟩:=q id _ r;obtain ⟨i',M,y',T,h5,Z,h0⟩:=q U _ H;have:=Q.inj i i' _ _ b l T ((f.foot (by rw [e]; exact w8 F y)).1 E) ((Z.foot (by rw [h5]; exact w8 F y')).1 h4);subst this;rcases u with ⟨rfl,O,q2⟩ | ⟨k,O,rfl⟩<;>rcases h0 with ⟨rfl,C,Y⟩ | ⟨k',C,rfl⟩
   ·rfl
   ·exact absurd ⟨O,q2⟩ (N _ (zae C))
   ·exact absurd ⟨C,Y⟩ (N _ (zae O))
   rw [afm h6 O C]
  ·obtain ⟨i,M,y,l,e,f,_⟩:=q id _ r;exact Q.own i M y b l ((f.foot (by rw [show o=imO F y from congrArg Prod.snd e]; exact w8 F y)).1 H)
  ·obtain ⟨O,q2⟩:=R id b r;obtain ⟨e1,L,e2,e3⟩:=Q.pin id b r;have m:pos[id-1000000]?=some (pos[id-1000000]'(by omega)):=by simp [show id-1000000<pos.length by omega]
   obtain ⟨l,e,v1,y1,f,u⟩:=S _ _ m;rw [show 1000000+(id-1000000)=id by omega] at l e f;rw [e2] at f;cases f;exact ⟨by rw [e.1,e1],imO F L,by rw [l,u],by rw [vl]; exact e3.1,by rw [ahu]; exact e3.2⟩
  rw [qf,hx] at hy;cases hy;exact hr.im hR D
 cases h
end

inductive PX where
 | see (o:PO)
 | act (o:PO)
 | call (f:FuncId) (args:List Opd)
 | callv (x:Opd) (args:List Opd)
 | inv (tbl:List (TypeId×FuncId)) (x:Opd) (args:List Opd)
 | nxt (x:Opd)
structure PR where
 d:Option Nat
 g:Option (Nat×Bool)
 u:Nat
 x:PX
inductive PC where
 | skip
 | reg (ops:List PR)
 | seq (a b:PC)
 | cond (x:Opd) (a b:PC)
 | block (id:Nat) (c:PC)
 | loop (c:PC)
 | exit (id:Nat)
 | ret
 | drw (ops:List PR) (pre:List (List Nat))
inductive Ex where
 | nor
 | ex (id:Nat)
 | rt
def l8 (d:Option Nat) (x:AV) (e:Env):Env:=match d with
 | some d=>put d x e
 | none=>e
def ug (b:Bool):AV->Option Bool
 | .r (.v (.bool x))=>some (bif b then x else !x)
 | .gd h (.r (.v (.bool x)))=>some (h&&(bif b then x else !x))
 | _=>none
def yes (e:Env):Option (Nat×Bool)->Option Bool
 | none=>some true
 | some (t,b)=>ug b (e t)
def gdv (g:Option (Nat×Bool)) (b:Bool) (x:AV):AV:=match g with
 | none=>x
 | some _=>.gd b x
def okC (u:Nat) (ids:List Nat) (m:Nat) (l:List Nat) (a:Bool):Bool:=
 decide (ids.length<=m)&&decide (((zag m).map (g8 u ids)).Nodup)&&decide (100000+1000*u+m<=1000000)&&(a||l.all fun i=>!ids.contains i)
def al:List Ob->List Ob->Prop
 | .box a::xs,.box b::ys=>b.length=a.length/\al xs ys
 | .abs T::xs,.abs T'::ys=>T'.size=T.size/\al xs ys
 | .map _ _::xs,.map _ _::ys=>True/\al xs ys
 | .iter _ _ _ _::xs,.iter _ _ _ _::ys=>True/\al xs ys
 | .box _::_,_::_=>False
 | .abs _::_,_::_=>False
 | .map _ _::_,_::_=>False
 | .iter _ _ _ _::_,_::_=>False
 | .row sz _ false _ l::xs,.row sz' _ false _ l'::ys=>(sz'=sz/\l.length<=l'.length)/\al xs ys
 | .row _ _ false _ _::_,_::_=>False
 | _::xs,_::ys=>al xs ys
 | _,_=>True
def tx (P:Program) (f:FuncId) (u:Nat) (ob:Obs) (ids:List Nat) (as:List AV) (l:List Nat) (c:Bool) (K:AV->Obs->Prop):Option (List Ob)->Prop
 | none=>False
 | some po=>∃a b,a9 P f as po a b/\okC u ids b.length l c=true/\al po b/\(c=false->bu a/\∀o∈b,vz o)/\K (imV (back ob u ids b.length) a) (v8 ob u ids (back ob u ids b.length) 0 b)
def dh (P:Program) (f:FuncId) (u:Nat) (ob:Obs) (as:List AV) (l:List Nat) (a:Bool) (K:AV->Obs->Prop):Prop:=
 tx P f u ob (l6 ob 64 (l9 as) []) (imL (fwd ob (l6 ob 64 (l9 as) [])) as) l a K (o4 (fwd ob (l6 ob 64 (l9 as) [])) ob (l6 ob 64 (l9 as) []))
def ax3 (P:Program) (f:FuncId) (u:Nat) (ob:Obs) (vs:List AV) (K:AV->Obs->Prop):Prop:=
 ∃id v z a,ob id=some (v,.row 1 z true true (a.map RV.v))/\a≠[]/\∀m,dh P f u (upd id (v,.box (a.map (fun x=>AV.r (.v x))++zah m .undef)) ob) vs [] true K
def ax4 (P:Program) (f:FuncId) (u:Nat) (ob:Obs) (vs:List AV) (K:AV->Obs->Prop):Prop:=
 ∃id v sz z a,ob id=some (v,.row sz z true true a)/\a≠[]/\dh P f u (upd id (v,.row sz z false true a) ob) vs [] true K
def wb (P:Program) (f:FuncId) (u:Nat) (ob:Obs) (K:AV->Obs->Prop) (vs:List AV):Option (List AV×List Nat)->Prop
 | none=>dh P f u ob vs [] true K
 | some (as,[])=>dh P f u ob as [] true K
 | some (as,i::l)=>dh P f u (freeze ob (i::l)) as (i::l) true K\/dh P f u ob as (i::l) false K\/dh P f u ob vs [] true K\/ax3 P f u ob vs K\/ax4 P f u ob vs K
def uq (P:Program) (f:FuncId):Bool:=match P.funcs[f]? with
 | some fn => fn.body.isSome && !(fn.name == "runtime.NumGoroutine")
 | none=>false
def al9 (P:Program) (u:Nat) (ob:Obs) (vs:List AV) (K:AV->Obs->Prop):AV->Prop
 | .fn (.func f) cap k=>uq P f=true/\wb P f u ob K (cap.take k++(vs++cap.drop k)) (j9 ob (cap.take k++(vs++cap.drop k)))
 | _=>False
def y7 (t:TypeId):List (TypeId×FuncId)->Option FuncId
 | []=>none
 | (t',f)::r=>if t'=t then some f else y7 t r
def abn (P:Program) (tbl:List (TypeId×FuncId)) (u:Nat) (ob:Obs) (vs:List AV) (K:AV->Obs->Prop):AV->Prop
 | .ifc t x=>match y7 t tbl with
   | some f=>wb P f u ob K (x::vs) (j9 ob (x::vs))
   | none=>False
 | _=>False
def af6 (b:List MapEntry) (a:List Nat):List MapEntry:=b.filter fun e=>!a.contains e.born
def aqe (id ver:Nat) (ob:Obs) (m:AV) (a:Nat) (b:List Nat) (d:Nat) (K:AV->Obs->Prop):Option (List MapEntry×Nat)->Prop
 | some (es,c)=>(∀e,e∈es->e.born<a)/\a<=d/\(af6 es b=[]->K (.tup [bl false]) ob) /\
  ∀e,e∈af6 es b->K (.tup [bl true,.r (gs e.key),.r (gs e.val)]) (upd id (ver,.iter m a (b++[e.born]) c) ob)
 | none=>False
def ak8 (id ver:Nat) (ob:Obs) (K:AV->Obs->Prop):Option (AV×Nat×List Nat×Nat)->Prop
 | some (.mp mid mver,since,seen,st)=>aqe id ver ob (.mp mid mver) since seen st K (n8 ob mid mver)
 | _=>False
def ahh (ob:Obs) (K:AV->Obs->Prop):AV->Prop
 | .ptr id ver 0=>ak8 id ver ob K (v9 ob id ver)
 | _=>False
def PX.wp (P:Program) (r:PR) (s:St) (K:St->Prop) (b:Bool):PX->Prop
 | .see o=>(o.see b s.e s.ob).ok/\K ⟨l8 r.d (gdv r.g b (o.see b s.e s.ob).v) s.e,s.ob⟩
 | .act o=>(b=true->(o.act (r.d.getD 0) s.e s.ob).ok/\K ⟨l8 r.d (o.act (r.d.getD 0) s.e s.ob).v s.e,(o.act (r.d.getD 0) s.e s.ob).ob⟩)/\(b=false->K ⟨l8 r.d .undef s.e,s.ob⟩)
 | .call f args=>(b=true->t9 true s.e args/\wb P f r.u s.ob (fun v ob=>K ⟨l8 r.d v s.e,ob⟩) (i8 s.e args) (j9 s.ob (i8 s.e args)))/\(b=false->K ⟨l8 r.d .undef s.e,s.ob⟩)
 | .callv x args=>(b=true->(x.ev s.e).may true/\t9 true s.e args/\al9 P r.u s.ob (i8 s.e args) (fun v ob=>K ⟨l8 r.d v s.e,ob⟩) (x.ev s.e).bare)/\(b=false->K ⟨l8 r.d .undef s.e,s.ob⟩)
 | .inv tbl x args=>(b=true->(x.ev s.e).may true/\t9 true s.e args/\abn P tbl r.u s.ob (i8 s.e args) (fun v ob=>K ⟨l8 r.d v s.e,ob⟩) (x.ev s.e).bare)/\(b=false->K ⟨l8 r.d .undef s.e,s.ob⟩)
 | .nxt x=>(b=true->(x.ev s.e).may true/\ahh s.ob (fun v ob=>K ⟨l8 r.d v s.e,ob⟩) (x.ev s.e).bare)/\(b=false->K ⟨l8 r.d .undef s.e,s.ob⟩)
def PR.wp (P:Program) (r:PR) (s:St) (K:St->Prop):Option Bool->Prop
 | some b=>r.x.wp P r s K b
 | none=>False
def wpR (P:Program):List PR->(St->Prop)->St->Prop
 | [],K,s=>K s
 | r::rs,K,s=>r.wp P s (wpR P rs K) (yes s.e r.g)
def af7 (P:Program) (m:String) (p:TypeId×FuncId):Bool:=uq P p.2&&(match P.info? p.1 with
 | some i=>match i.methods.find? (·.name == m) with
   | some q=>q.path.isEmpty&&(match q.func with | some (f,b)=>f == p.2&&b | none=>false)
   | none=>false
 | none=>false)&&r3 P p.1 (fun d=>match d with | .pointer _=>true | _=>false)
def tq (P:Program) (o:Oper):PX->Bool
 | .see po=>aic P o po
 | .act po=>aaz P o po
 | .call f args=>match o.op with
   | .call c=>match c.callee with
     | .value (.func f')=>f == f'&&o6 opd c.args.toList args&&uq P f
     | _=>false
   | _=>false
 | .callv x args=>match o.op with
   | .call c=>match c.callee with
     | .value x'=>opd x' x&&o6 opd c.args.toList args
     | _=>false
   | _=>false
 | .inv tbl x args=>match o.op with
   | .call c=>match c.callee with
     | .invoke r m=>opd r x&&o6 opd c.args.toList args&&tbl.all (af7 P m)
     | _=>false
   | _=>false
 | .nxt x=>match o.op with
   | .next it str=>opd it x && !str
   | _=>false
def aq9 (a:Array Oper):Option (Nat×Bool)->Option (Nat×Bool)->Bool
 | none,none=>true
 | some (j,b),some (t,b')=>b == b'&&((a[j]?).bind (·.dst)) == some t
 | _,_=>false
def aln:PX->Bool
 | .see _=>true
 | _=>false
def an8:PX->Bool
 | .act o=>!o.nod
 | _=>false
def yr (P:Program) (n:Nat) (a:Array Oper) (o:Oper) (r:PR):Bool:=
 o.dst == r.d&&(match r.d with | some d=>decide (d<n) | none=>!aln r.x && !an8 r.x)&&aq9 a o.guard r.g&&tq P o r.x
def ad7 (b:Array Oper) (a:List (List Nat)):Bool:=
 a.length == b.size&&(zag b.size).all fun j=>match b[j]?,a[j]? with
  | some o,some p=>o.after.all (fun e=>!Region.binds .any e||decide (e.on<j)) &&
   p.all (fun k=>decide (k<j)&&o.after.any fun e=>Region.binds .any e&&(e.on == k||(a.getD e.on []).contains k))
  | _,_=>false
def dt (P:Program) (n:Nat):Code->PC->Bool
 | .skip,.skip=>true
 | .region _ ops d,.reg rs=>!d&&o6 (yr P n ops) ops.toList rs
 | .region _ ops d,.drw rs pre=>d&&P.follows .mixedOrders&&o6 (yr P n ops) ops.toList rs&&ad7 ops pre
 | .seq a b,.seq a' b'=>dt P n a a'&&dt P n b b'
 | .cond x a b,.cond x' a' b'=>opd x x'&&dt P n a a'&&dt P n b b'
 | .block i c,.block j c'=>i == j&&dt P n c c'
 | .loop c,.loop c'=>dt P n c c'
 | .exit i,.exit j=>i == j
 | .ret,.ret=>true
 | _,_=>false
section
variable {P:Program} {X:Cx} [GlC P X] {w w':World} {s:St} {ρ ρ':Pl->Option Nat} {a:Act} {o:Oper} {ob ob':Obs} {R R':Nat->Prop}
theorem avk (K:Gam X s ρ a w) {id ver lo len sz:Nat} {z:RV} {r M:Bool} {g:List RV} {c:Value} (k:s.ob id=some (ver,.row sz z r M g)) (h:RA X s ρ w (.own id ver lo len) c) (I:∀b,d7 X.B s.ob ρ w b->R b)
 (D:∀b,ρ id=some b->b<w.heap.size->R b):RelV w R (.sl sz ((g.drop lo).take len)) c:=by
 cases h;rename_i h;obtain ⟨A,cap,rfl,V,F,G,L⟩:=h.live k;have l:((g.drop lo).take len).length=len:=by simp; omega
 have f:=RelV.sl (w:=w) (R:=R) sz ((g.drop lo).take len) A cap (by omega) F;rw [l] at f
 have d:∀(i:Nat) (x:RV),((g.drop lo).take len)[i]?=some x->g[lo+i]?=some x:=fun i x hi=>by
  rw [List.getElem?_take] at hi;split at hi
  ·rwa [List.getElem?_drop] at hi
  cases hi
 rcases K.obj id ver _ k with ⟨n,q⟩ | ⟨b,cs,e,fr,n,q,N,Q,S,o⟩
 ·subst n;have:len=0:=by have:lo+len<=0:=G; omega
  subst this;exact f 0 0 (fun _ _=>undef) (by simp) (by simp) (by simp) (by simp)
 refine f b (lo*sz) (fun i j=>(cs[(lo+i)*sz+j]?).getD undef) (fun U=>?_) (fun i x hi=>(o _ x (d i x hi)).1) (fun i x j y hi t=>?_) (fun i x j y hi t=>?_)
 ·obtain ⟨P,H,e',E,u,J,T,O⟩:=L (by omega);rw [n] at u;cases u;exact ⟨J,D b n (Array.getElem?_eq_some_iff.1 q).1⟩
 ·obtain ⟨c,m,C,v⟩:=(o _ x (d i x hi)).2 j y t;rw [m];refine ⟨?_,C⟩;simp only [World.cell?,q,Option.isSome_none,Bool.false_eq_true,if_false,Option.getD_some];rw [<- m,Nat.add_mul]
 obtain ⟨c,m,C,v⟩:=(o _ x (d i x hi)).2 j y t;rw [m];exact v.mono fun b p=>⟨I b p,rfl⟩
theorem amx (j:Gam X s ρ a w) {x:AV} {y:RV} {c:Value} (h:x.rv s.ob=some (y,l)) (hx:RA X s ρ w x c) (e:∀b,d7 X.B s.ob ρ w b->R b) (f:∀i,i∈l->∀b,ρ i=some b->b<w.heap.size->R b):RelV w R y c:=by
 unfold AV.rv at h;split at h
 ·cases h; cases hx; rename_i h; exact h.mono fun b d=>⟨e b d,rfl⟩
 ·cases h; cases hx;exact .sl _ [] none 0 (by simp) (by simp) 0 0 (fun _ _=>undef) (by simp) (by simp) (by simp) (by simp)
 ·split at h
  ·rename_i g;cases h;exact avk j (m0 g) hx e (f _ (by simp))
  cases h
 cases h
theorem aje (g:Gam X s ρ a w) (f:∀b,d7 X.B s.ob ρ w b->R b):∀{e:List AV} {ys:List RV} {l:List Nat},rvs s.ob e=some (ys,l)->(∀i,i∈l->∀b,ρ i=some b->b<w.heap.size->R b) ->
 ∀(i:Nat) (x:AV) (y:RV) (c:Value),e[i]?=some x->ys[i]?=some y->RA X s ρ w x c->RelV w R y c
 | [],ys,l,h,hs,i,x,y,c,hx,hy,hr=>by simp at hx
 | z::e,ys,l,h,hs,i,x,y,c,hx,hy,hr=>by
   simp only [rvs] at h;split at h
   ·rename_i q k o j n m;cases h;cases i with
    | zero=>
      simp at hx hy;subst hx; subst hy;exact amx g n hr f (fun p d=>hs p (by simp [d]))
    | succ i=>
      simp at hx hy;exact aje g f m (fun p d=>hs p (by simp [d])) i x y c hx hy hr
   cases h
theorem arf (q:Gam X s ρ a w) (m:∀b,d7 X.B s.ob ρ w b->R b) {x y:AV} {c:Value} (h:bp s.ob x=some (y,l)) (p:∀i,i∈l->∀b,ρ i=some b->b<w.heap.size->R b) (hx:RA X s ρ w x c):RelA w R s.ob ρ y c:=by
 have keep:∀z:AV,RA X s ρ w z c->RelA w R s.ob ρ z c:=fun z u=>u.stays ⟨fun b j=>⟨m b j,rfl⟩,fun id v o h=>⟨v,o,h,zac _,fun _=>⟨rfl,u3.refl o,fun b cs e fr _ h=>⟨cs,e,fr,h,rfl⟩⟩⟩⟩;unfold bp at h;split at h
 ·split at h
  ·rename_i t;cases h;exact .r (amx q t hx m p)
  cases h
 ·cases h; cases hx;exact .r (.sl _ [] none 0 (by simp) (by simp) 0 0 (fun _ _=>undef) (by simp) (by simp) (by simp) (by simp))
 ·rename_i n;split at h
  ·rename_i ys C d;cases h;cases hx;rename_i cs A g;refine .r (.agg _ _ (by rw [gj d]; exact A) fun i y c hy hc=>?_);have k:i<n.length:=by have:=(zaa.1 hy).1; have:=gj d; omega
   have f:n[i]?=some n[i]:=by simp [k]
   exact aje q m d p i _ y c f hy (g i _ c f hc)
  cases h
 ·cases h
 ·cases h
 cases h;exact keep _ hx
theorem aif (m:Gam X s ρ a w) (g:∀b,d7 X.B s.ob ρ w b->R b):∀{d ys:List AV} {l:List Nat},j9 s.ob d=some (ys,l)->(∀i,i∈l->∀b,ρ i=some b->b<w.heap.size->R b) ->
 ys.length=d.length/\∀(i:Nat) (x y:AV) (c:Value),d[i]?=some x->ys[i]?=some y->RA X s ρ w x c->RelA w R s.ob ρ y c
 | [],ys,l,h,hs=>by simp [j9] at h; obtain ⟨rfl,rfl⟩:=h; simp
 | z::d,ys,l,h,hs=>by
   simp only [j9] at h;split at h
   ·rename_i u k t j r q;cases h;obtain ⟨n,o⟩:=aif m g q (fun p e=>hs p (by simp [e]));refine ⟨by simp [n],fun i x y c hx hy f=>?_⟩;cases i with
    | zero=>
      simp at hx hy;subst hx; subst hy;exact arf m g r (fun p e=>hs p (by simp [e])) f
    | succ i=>
      simp at hx hy;exact o i x y c hx hy f
   cases h
theorem amy {x:AV} {y:RV} (h:x.rv ob=some (y,l)):∀i,i∈l->∃q,ob i=some q:=by
 unfold AV.rv at h;split at h
 ·cases h; simp
 ·cases h; simp
 ·split at h
  ·rename_i a;cases h;intro i hi;simp at hi;subst hi;exact ⟨_,m0 a⟩
  cases h
 cases h
theorem ajf:∀{a:List AV} {ys:List RV} {l:List Nat},rvs ob a=some (ys,l)->∀i,i∈l->∃q,ob i=some q
 | [],ys,l,h=>by simp [rvs] at h; simp [h.2]
 | z::a,ys,l,h=>by
   simp only [rvs] at h;split at h
   ·rename_i e k d j c b;cases h;intro i hi;rcases List.mem_append.1 hi with hi | hi
    ·exact amy c i hi
    exact ajf b i hi
   cases h
theorem aig:∀{c ys:List AV} {l:List Nat},j9 ob c=some (ys,l)->∀i,i∈l->∃q,ob i=some q
 | [],ys,l,h=>by simp [j9] at h; simp [h.2]
 | z::c,ys,l,h=>by
   simp only [j9] at h;split at h
   ·rename_i f k e j a d;cases h;intro i hi;rcases List.mem_append.1 hi with hi | hi
    ·unfold bp at a;split at a
     ·split at a
      ·rename_i b;cases a;exact amy b i hi
      cases a
     ·cases a; simp at hi
     ·split at a
      ·rename_i b;cases a;exact ajf b i hi
      cases a
     ·cases a
     ·cases a
     cases a; simp at hi
    exact aig d i hi
   cases h
theorem at2 (i:Nat) {x:AV} {c:Value} (h:RelA w (d7 X.B ob ρ w) ob ρ x c):RelA w (d7 X.B (frz ob i (ob i)) ρ w) (frz ob i (ob i)) ρ x c:=by
 rcases hi:ob i with _ | ⟨v,a | ⟨sz,z,b,d,e⟩ | T | _ | _⟩
 ·exact h
 ·exact h
 ·exact h.stays (Stays.freeze1 (X:=X) (s:=⟨fun _=>.undef,ob⟩) hi)
 ·exact h
 ·exact h
 exact h
theorem yn:∀(l:List Nat) {ob:Obs} {x:AV} {c:Value},RelA w (d7 X.B ob ρ w) ob ρ x c->RelA w (d7 X.B (freeze ob l) ρ w) (freeze ob l) ρ x c
 | [],_,_,_,h=>h
 | i::is,_,_,_,h=>yn is (at2 i h)
theorem arg (n:Gam X s ρ a w) {ob:Obs} {b:List Nat} (g:s.ob=Ev.freeze ob b) {x y:AV} {c:Value} (h:bp ob x=some (y,l)) (d:∀i,i∈l->i∈b) (hx:RA X s ρ w x c):RA X s ρ w y c:=by
 unfold bp at h;split at h
 ·split at h
  ·rename_i o;cases h;exact .r (ac7 n o d g hx)
  cases h
 ·cases h; cases hx;exact .r (.sl _ [] none 0 (by simp) (by simp) 0 0 (fun _ _=>undef) (by simp) (by simp) (by simp) (by simp))
 ·rename_i m;split at h
  ·rename_i ys q e;cases h;cases hx;rename_i cs p j;refine .r (.agg _ _ (by rw [gj e]; exact p) fun i y c hy hc=>?_);have k:i<m.length:=by have:=(zaa.1 hy).1; have:=gj e; omega
   have f:m[i]?=some m[i]:=by simp [k]
   exact xc n g e d i _ y c f hy (j i _ c f hc)
  cases h
 ·cases h
 ·cases h
 cases h; exact hx
theorem aih (m:Gam X s ρ a w) {ob:Obs} {b:List Nat} (d:s.ob=Ev.freeze ob b):∀{e ys:List AV} {l:List Nat},j9 ob e=some (ys,l)->(∀i,i∈l->i∈b) ->
 ys.length=e.length/\∀(i:Nat) (x y:AV) (c:Value),e[i]?=some x->ys[i]?=some y->RA X s ρ w x c->RA X s ρ w y c
 | [],ys,l,h,hs=>by simp [j9] at h; obtain ⟨rfl,rfl⟩:=h; simp
 | z::e,ys,l,h,hs=>by
   simp only [j9] at h;split at h
   ·rename_i u k t j r q;cases h;obtain ⟨n,o⟩:=aih m d q (fun p f=>hs p (by simp [f]));refine ⟨by simp [n],fun i x y c hx hy g=>?_⟩;cases i with
    | zero=>
      simp at hx hy;subst hx; subst hy;exact arg m d r (fun p f=>hs p (by simp [f])) g
    | succ i=>
      simp at hx hy;exact o i x y c hx hy g
   cases h
theorem ace {u m:Nat} {ids:List Nat} {b:Bool} (h:okC u ids m l b=true):ids.length<=m/\(∀i j,i<m->j<m->g8 u ids i=g8 u ids j->i=j)/\100000+1000*u+m<=1000000/\(b=false->∀i,i∈l->i∉ids):=by
 simp only [okC,Bool.and_eq_true,decide_eq_true_eq,Bool.or_eq_true] at h;obtain ⟨⟨⟨o,k⟩,n⟩,a⟩:=h;refine ⟨o,fun i j hi p e=>?_,n,fun c i hi d=>?_⟩
 ·have f:((zag m).map (g8 u ids))[i]?=some (g8 u ids i):=by simp [hi]
  have g:((zag m).map (g8 u ids))[j]?=some (g8 u ids i):=by simp [p,e]
  exact afm k f g
 rw [c] at a;simp at a;exact a i hi d
theorem ti:∀{a ys:List Ob},al a ys->∀(k:Nat) (o o':Ob),a[k]?=some o->ys[k]?=some o'->aks o o'
 | [],_,_,k,c,c',h,_=>by simp at h
 | _::_,[],_,k,c,c',_,h=>by simp at h
 | x::a,y::ys,hs,0,c,c',h,h'=>by
   simp at h h';subst h; subst h';cases x with
   | row sz z app wr l=>
     cases app with
     | true=>exact .inl rfl
     | false=>
       cases y with
       | row sz' z' app' wr' l'=>
         cases app' with
         | true=>exact hs.elim
         | false=>obtain ⟨⟨rfl,h⟩,_⟩:=hs; exact .inr ⟨_,_,_,rfl,h⟩
       | _=>exact hs.elim
   | _=>cases y<;>first | exact hs.1 | exact hs.elim | trivial
 | x::a,y::ys,hs,k+1,c,c',h,h'=>by
   simp at h h'
   have:al a ys:=by
    cases x with
    | row sz z app wr l=>
      cases app with
      | true=>cases y<;>exact hs
      | false=>
        cases y with
        | row sz' z' app' wr' l'=>
          cases app' with
          | true=>exact hs.elim
          | false=>exact hs.2
        | _=>exact hs.elim
    | _=>cases y<;>first | exact hs.2 | exact hs.elim | exact hs
   exact ti this k c c' h h'
theorem vk {f:FuncId} {u:Nat} {K:AV->Obs->Prop} {vs:List AV} {d:Array Value} (V:Gam X s ρ a w) (l:dh P f u s.ob vs [] true K) (L:d.size=vs.length) (F:∀(i:Nat) (x:AV) (c:Value),vs[i]?=some x->d[i]?=some c->RA X s ρ w x c) :
 Calls P f d w fun e z=>∃c v j g,e=.returned c/\K v j/\Gam X ⟨s.e,j⟩ g a z/\RA X ⟨s.e,j⟩ g z v c:=by
 unfold dh at l;generalize q9:l6 s.ob 64 (l9 vs) []=ids at l;unfold tx at l;split at l
 ·cases l
 rename_i po n;obtain ⟨R,W,H,r,o,T,G⟩:=l;obtain ⟨O,S,N,Y⟩:=ace r
 have q:∀b,d7 X.B s.ob ρ w b->∀i,i∈ids->¬jf s.ob ρ i b:=fun b m i hi t=>by
  obtain ⟨E,p⟩:=pm n;obtain ⟨k,D⟩:=zab.1 hi;have M:=(zaa.1 D).1;obtain ⟨v,x,A,I,Z⟩:=p k i (po[k]'(by omega)) D (by simp [show k<po.length by omega]);obtain ⟨y,C,U⟩:=t;rw [A] at C;cases C;exact m.2.1 ⟨i,v,x,A,I,U⟩
 refine (Gam.call (s:=s) (Bc:=fun b=>d7 X.B s.ob ρ w b\/(∃i,i∈ids/\jf s.ob ρ i b)\/w.heap.size<=b) (Ra:=d7 X.B s.ob ρ w) V n H O S N L (fun i x c hx hc=>F i x c hx hc)
  (fun b m=>⟨m.1,.inl m,q b m⟩) (fun _ h=>.inl h) (fun _ h=>.inr h) (ti o) (.inr fun _ h=>h)).mono ?_
 rintro e z ⟨c,g,rfl,Q,J⟩;exact ⟨c,_,_,g,rfl,G,Q,J⟩
theorem Gam.boxify (u:Gam X s ρ a w) {id v:Nat} {z:RV} {vs:List Value} (k:s.ob id=some (v,.row 1 z true true (vs.map RV.v))) (I:vs≠[]) :
 ∃m,Gam X ⟨s.e,upd id (v,.box (vs.map (fun x=>AV.r (.v x))++zah m .undef)) s.ob⟩ ρ a w /\
  Stays w w (d7 X.B s.ob ρ w) (d7 X.B (upd id (v,.box (vs.map (fun x=>AV.r (.v x))++zah m .undef)) s.ob) ρ w) s.ob (upd id (v,.box (vs.map (fun x=>AV.r (.v x))++zah m .undef)) s.ob) ρ ρ:=by
 rcases u.obj id v _ k with ⟨O,_⟩ | ⟨b,cs,e,fr,V,R,Y,S,T,Q⟩
 ·simp at O; exact absurd O I
 obtain rfl:fr=(0,0):=S rfl;have P:vs.length<=cs.size:=by simpa using T
 refine ⟨cs.size-vs.length,?_⟩;generalize E:vs.map (fun x=>AV.r (.v x))++zah (cs.size-vs.length) AV.undef=p;have M:p.length=cs.size:=by rw [<- E]; simp; omega
 have C:∀c,d7 X.B s.ob ρ w c->d7 X.B (upd id (v,.box p) s.ob) ρ w c:=fun c hc=>⟨hc.1,fun ⟨j,D,o,f,t,A⟩=>by
  by_cases q:j=id
  ·subst q;simp [upd] at f;obtain ⟨rfl,rfl⟩:=f;rw [dr rfl] at A;exact hc.2.1 ⟨j,v,_,k,rfl,by rw [dr rfl]; exact A⟩
  simp only [upd,q,if_false] at f
  exact hc.2.1 ⟨j,D,o,f,t,A⟩,hc.2.2⟩
 have N:Stays w w (d7 X.B s.ob ρ w) (d7 X.B (upd id (v,.box p) s.ob) ρ w) s.ob (upd id (v,.box p) s.ob) ρ ρ:=by
  refine ⟨fun c hc=>⟨C c hc,rfl⟩,fun j D o q=>?_⟩;by_cases d:j=id
  ·subst d;rw [k] at q;cases q;exact ⟨v,.box p,by simp [upd],zac _,fun _=>⟨rfl,rfl,fun b cs e fr _ h=>⟨cs,e,fr,h,rfl⟩⟩⟩
  exact ⟨D,o,by simp [upd,d,q],zac _,fun _=>⟨rfl,u3.refl o,fun b cs e fr _ h=>⟨cs,e,fr,h,rfl⟩⟩⟩
 have l:∀j x c,upd id (v,Ob.box p) s.ob j=some x->foot ρ j x.2 c->∃y,s.ob j=some y/\foot ρ j y.2 c:=fun j x c hx n=>by
  by_cases d:j=id
  ·subst d;simp [upd] at hx;subst hx;rw [dr rfl] at n;exact ⟨_,k,by rw [dr rfl]; exact n⟩
  simp only [upd,d,if_false] at hx;exact ⟨x,hx,n⟩
 refine ⟨u.step N (fun j D o h=>?_) (fun i j x x' c hx G n L=>?_) u.keeps (fun j D o c h n=>?_) (fun j c o h hc U H=>?_),N⟩
 ·by_cases d:j=id
  ·subst d;simp [upd] at h;obtain ⟨rfl,rfl⟩:=h;refine .inr ⟨b,cs,e,V,R,M.symm,fun i x c hx hc=>?_⟩;rw [<- E] at hx;by_cases hi:i<vs.length
   ·rw [List.getElem?_append_left (by simpa using hi)] at hx;have F:(vs.map RV.v)[i]?=some (.v vs[i]):=by simp [hi]
    obtain ⟨_,g⟩:=Q i _ F;obtain ⟨c',f,t,A⟩:=g 0 (.v vs[i]) rfl;rw [Nat.mul_one,Nat.add_zero,hc] at f;cases f;simp [hi] at hx;subst hx;exact .r (A.mono fun b H=>⟨C b H,rfl⟩)
   rw [List.getElem?_append_right (by simpa using hi)] at hx;have:=zae hx;rw [List.mem_replicate] at this;rw [this.2];exact .undef _
  simp only [upd,d,if_false] at h;exact .inl ⟨h,rfl,fun _=>rfl,fun _ _=>rfl⟩
 ·obtain ⟨y,f,t⟩:=l i x c hx n;obtain ⟨W,J,K⟩:=l j x' c G L;exact u.inj i j y W c f J t K
 ·obtain ⟨y,f,t⟩:=l j _ c h n;exact u.own j y.1 y.2 c f t
 by_cases d:j=id
 ·subst d;rw [u.unpinned k rfl] at h;cases h
 exact ⟨H,o,by simp [upd,d,hc],U⟩
theorem yt {f:FuncId} {u:Nat} {K:AV->Obs->Prop} {vs:List AV} {n:Array Value} (L:Gam X s ρ a w) (h:wb P f u s.ob K vs (j9 s.ob vs)) (V:n.size=vs.length) (U:∀(i:Nat) (x:AV) (c:Value),vs[i]?=some x->n[i]?=some c->RA X s ρ w x c) :
 Calls P f n w fun e H=>∃c v g d,e=.returned c/\K v g/\Gam X ⟨s.e,g⟩ d a H/\RA X ⟨s.e,g⟩ d H v c:=by
 have p:∀(as:List AV) (l:List Nat),j9 s.ob vs=some (as,l)->dh P f u (freeze s.ob l) as l true K->Calls P f n w fun e H=>∃c v g d,e=.returned c/\K v g/\Gam X ⟨s.e,g⟩ d a H/\RA X ⟨s.e,g⟩ d H v c:=by
  intro as l F o;have Y:=Gam.freeze (s:=s) l (ob:=s.ob) L;unfold dh at o;generalize q9:l6 (freeze s.ob l) 64 (l9 as) []=ids at o;unfold tx at o;split at o
  ·cases o
  rename_i po A;obtain ⟨h6,ro,hT,S,M,h4,hK⟩:=o;obtain ⟨k1,k2,k3,k4⟩:=ace S
  have Q:∀b,d7 X.B (freeze s.ob l) ρ w b->∀i,i∈ids->¬jf (freeze s.ob l) ρ i b:=fun b t i hi T=>by
   obtain ⟨W,E⟩:=pm A;obtain ⟨k,I⟩:=zab.1 hi;have C:=(zaa.1 I).1;obtain ⟨v,x,D,G,g3⟩:=E k i (po[k]'(by omega)) I (by simp [show k<po.length by omega]);obtain ⟨y,N,q2⟩:=T;rw [D] at N;cases N;exact t.2.1 ⟨i,v,x,D,G,q2⟩
  obtain ⟨D,G⟩:=aih (s:=⟨s.e,freeze s.ob l⟩) Y rfl F (fun _ h=>h)
  refine (Gam.call (s:=⟨s.e,freeze s.ob l⟩) (Bc:=fun b=>d7 X.B (freeze s.ob l) ρ w b\/(∃i,i∈ids/\jf (freeze s.ob l) ρ i b)\/w.heap.size<=b) (Ra:=d7 X.B (freeze s.ob l) ρ w) Y A hT k1 k2 k3 (by rw [D,V]) (fun i x c hx hc=>?_)
   (fun b t=>⟨t.1,.inl t,Q b t⟩) (fun _ h=>.inl h) (fun _ h=>.inr h) (ti M) (.inr fun _ h=>h)).mono ?_
  ·have C:=(zaa.1 hx).1;have hv:vs[i]?=some (vs[i]'(by omega)):=by simp [show i<vs.length by omega]
   exact G i _ x c hv hx (yn l (U i _ c hv hc))
  rintro e H ⟨c,d,rfl,J,O⟩;exact ⟨c,_,_,d,rfl,hK,J,O⟩
 have Z:∀(as:List AV) (l:List Nat),j9 s.ob vs=some (as,l)->dh P f u s.ob as l false K->Calls P f n w fun e H=>∃c v g d,e=.returned c/\K v g/\Gam X ⟨s.e,g⟩ d a H/\RA X ⟨s.e,g⟩ d H v c:=by
  intro as l F o;unfold dh at o;generalize q9:l6 s.ob 64 (l9 as) []=ids at o;unfold tx at o;split at o
  ·cases o
  rename_i po A;obtain ⟨h6,ro,hT,S,M,h4,hK⟩:=o;obtain ⟨k1,k2,k3,k4⟩:=ace S
  have Q:∀b,d7 X.B s.ob ρ w b->b<w.heap.size/\∀i,i∈ids->¬jf s.ob ρ i b:=fun b t=>⟨t.1,fun i hi T=>by
   obtain ⟨W,E⟩:=pm A;obtain ⟨k,I⟩:=zab.1 hi;have C:=(zaa.1 I).1;obtain ⟨v,x,D,G,g3⟩:=E k i (po[k]'(by omega)) I (by simp [show k<po.length by omega]);obtain ⟨y,N,q2⟩:=T;rw [D] at N;cases N
   exact t.2.1 ⟨i,v,x,D,G,q2⟩⟩
  have h0:∀i,i∈l->∀b,ρ i=some b->b<w.heap.size->b<w.heap.size/\∀j,j∈ids->¬jf s.ob ρ j b:=fun i hi b t C=>⟨C,fun j hj h5=>by
   obtain ⟨q,o⟩:=aig F i hi;obtain ⟨W,E⟩:=pm A;obtain ⟨k,I⟩:=zab.1 hj;have C:=(zaa.1 I).1;obtain ⟨v,x,D,G,g3⟩:=E k j (po[k]'(by omega)) I (by simp [show k<po.length by omega]);obtain ⟨y,N,q2⟩:=h5;have:=L.inj i j _ _ b o N (.inl t) q2;subst this
   exact k4 rfl i hi hj⟩
  obtain ⟨D,G⟩:=aif L (R:=fun b=>b<w.heap.size/\∀i,i∈ids->¬jf s.ob ρ i b) Q F h0;refine (Gam.call (Bc:=fun _=>True) (Ra:=fun b=>b<w.heap.size/\∀i,i∈ids->¬jf s.ob ρ i b) L A hT k1 k2 k3 (by rw [D,V]) (fun i x c hx hc=>?_) (fun b t=>⟨t.1,trivial,t.2⟩) (fun _ _=>trivial) (fun _ _=>trivial) (ti M) (.inl (h4 rfl))).mono ?_
  ·have C:=(zaa.1 hx).1;have hv:vs[i]?=some (vs[i]'(by omega)):=by simp [show i<vs.length by omega]
   exact G i _ x c hv hx (U i _ c hv hc)
  rintro e H ⟨c,d,rfl,J,O⟩;exact ⟨c,_,_,d,rfl,hK,J,O⟩
 rcases F:j9 s.ob vs with _ | ⟨as,_ | ⟨i,l⟩⟩
 ·rw [F] at h; exact vk L h V U
 ·rw [F] at h; exact p as [] F h
 rw [F] at h;rcases h with h | h | h | h | h
 ·exact p as _ F h
 ·exact Z as _ F h
 ·exact vk L h V U
 ·obtain ⟨id,v,z,xs,J,O,h3⟩:=h;obtain ⟨m,D,G⟩:=L.boxify J O;exact vk (s:=⟨s.e,upd id (v,.box (xs.map (fun x=>AV.r (.v x))++zah m .undef)) s.ob⟩) D (h3 m) V fun i x c hx hc=>(U i x c hx hc).stays G
 obtain ⟨id,v,sz,z,xs,J,O,h3⟩:=h;exact vk (s:=⟨s.e,upd id (v,.row sz z false true xs) s.ob⟩) (L.shut1 J O) h3 V fun i x c hx hc=>(U i x c hx hc).stays (Stays.shut1 (X:=X) (w:=w) (ρ:=ρ) J)
end

structure Lg where
 us:List Nat
 d:List Nat
 rd:List Nat
 wr:List Nat
 ad:Bool
 st:Bool
instance:Inhabited Lg:=⟨⟨[],[],[],[],false,false⟩⟩
def PX.adr:PX->Bool
 | .see o=>o.adr
 | _=>false
def PX.sto:PX->Bool
 | .act (.st _ _ _)=>true
 | _=>false
structure Out where
 ok:Prop
 st:St
 lg:Lg
abbrev Ans:=AV×List Ob
def PX.us:PX->List Nat
 | .see o=>o.us
 | .act o=>o.us
 | .call _ xs=>usL xs
 | .callv x xs=>x.us++usL xs
 | .inv _ x xs=>x.us++usL xs
 | .nxt x=>x.us
def gus:Option (Nat×Bool)->List Nat
 | none=>[]
 | some (t,_)=>[t]
def PR.lg (r:PR) (rd a:List Nat):Lg:=⟨gus r.g++(r.x.us++r.d.toList),r.d.toList,rd,a,r.x.adr,r.x.sto⟩
def y6 (u:Nat) (ids:List Nat) (m:Nat):List Nat:=(zag m).map (g8 u ids)
def xp (P:Program) (r:PR) (s:St) (f:FuncId) (p:Prop) (c:Ans) (as:List AV) (l:List Nat) (a:Bool) (ids:List Nat):Option (List Ob)->Out
 | none=>⟨False,s,r.lg [] []⟩
 | some po=>⟨p/\a9 P f (imL (fwd s.ob ids) as) po c.1 c.2/\okC r.u ids c.2.length l a=true/\al po c.2/\(a=false->bu c.1/\∀o∈c.2,vz o),
  ⟨l8 r.d (imV (back s.ob r.u ids c.2.length) c.1) s.e,v8 s.ob r.u ids (back s.ob r.u ids c.2.length) 0 c.2⟩,r.lg (l++(ids++y6 r.u ids c.2.length)) (y6 r.u ids c.2.length)⟩
def u0 (vs:List AV):Option (List AV×List Nat)->List AV×List Nat×Bool
 | none=>(vs,l9 vs,true)
 | some (as,[])=>(as,[],true)
 | some (as,i::l)=>(as,i::l,false)
def r8 (P:Program) (r:PR) (s:St) (f:FuncId) (p:Prop) (c:Ans) (a:List AV×List Nat×Bool):Out:=
 xp P r s f p c a.1 a.2.1 a.2.2 (l6 s.ob 64 (l9 a.1) []) (o4 (fwd s.ob (l6 s.ob 64 (l9 a.1) [])) s.ob (l6 s.ob 64 (l9 a.1) []))
def od (P:Program) (r:PR) (s:St) (p:Prop) (c:Ans) (vs:List AV):AV->Out
 | .fn (.func f) cap k=>r8 P r s f (p/\uq P f=true) c (u0 (cap.take k++(vs++cap.drop k)) (j9 s.ob (cap.take k++(vs++cap.drop k))))
 | _=>⟨False,s,r.lg [] []⟩
def km (P:Program) (r:PR) (s:St) (tbl:List (TypeId×FuncId)) (p:Prop) (c:Ans) (vs:List AV):AV->Out
 | .ifc t x=>match y7 t tbl with
   | some f=>r8 P r s f p c (u0 (x::vs) (j9 s.ob (x::vs)))
   | none=>⟨False,s,r.lg [] []⟩
 | _=>⟨False,s,r.lg [] []⟩
def PX.out (P:Program) (r:PR) (s:St) (c:Ans):PX->Option Bool->Out
 | _,none=>⟨False,s,r.lg [] []⟩
 | .see o,some b=>⟨(o.see b s.e s.ob).ok,⟨l8 r.d (gdv r.g b (o.see b s.e s.ob).v) s.e,s.ob⟩,r.lg (o.see b s.e s.ob).rd []⟩
 | .act o,some true=>⟨(o.act (r.d.getD 0) s.e s.ob).ok,⟨l8 r.d (o.act (r.d.getD 0) s.e s.ob).v s.e,(o.act (r.d.getD 0) s.e s.ob).ob⟩,r.lg (o.act (r.d.getD 0) s.e s.ob).rd (o.act (r.d.getD 0) s.e s.ob).wr⟩
 | .call f xs,some true=>r8 P r s f (t9 true s.e xs) c (u0 (i8 s.e xs) (j9 s.ob (i8 s.e xs)))
 | .callv x xs,some true=>od P r s ((x.ev s.e).may true/\t9 true s.e xs) c (i8 s.e xs) (x.ev s.e).bare
 | .inv tbl x xs,some true=>km P r s tbl ((x.ev s.e).may true/\t9 true s.e xs) c (i8 s.e xs) (x.ev s.e).bare
 | .nxt _,some true=>⟨False,s,r.lg [] []⟩
 | _,some false=>⟨True,⟨l8 r.d .undef s.e,s.ob⟩,r.lg [] []⟩
def PR.out (P:Program) (r:PR) (s:St) (c:Ans):Out:=r.x.out P r s c (yes s.e r.g)
section
variable {P:Program} {s s':St} {ob ob':Obs} {c:Ans} {r:PR}
theorem acv {f:FuncId} {p:Prop} {K:St->Prop} {vs:List AV} {a:Option (List AV×List Nat)} (h:(r8 P r s f p c (u0 vs a)).ok) (b:K (r8 P r s f p c (u0 vs a)).st):p/\wb P f r.u s.ob (fun v ob=>K ⟨l8 r.d v s.e,ob⟩) vs a:=by
 have j:∀(as:List AV) (l:List Nat) (m:Bool),(r8 P r s f p c (as,l,m)).ok->K (r8 P r s f p c (as,l,m)).st->p/\dh P f r.u s.ob as l m (fun v ob=>K ⟨l8 r.d v s.e,ob⟩):=fun as l m h b=>by
  simp only [r8] at h b;generalize q9:l6 s.ob 64 (l9 as) []=ids at h b;rcases hpo:o4 (fwd s.ob ids) s.ob ids with _ | po
  ·rw [hpo] at h; exact h.elim
  rw [hpo] at h b;obtain ⟨k,g,w,q,x⟩:=h;refine ⟨k,?_⟩;unfold dh;rw [q9,hpo];exact ⟨_,_,g,w,q,x,b⟩
 rcases a with _ | ⟨as,_ | ⟨i,l⟩⟩
 ·obtain ⟨k,g⟩:=j vs (l9 vs) true h b;refine ⟨k,?_⟩;show dh P f r.u s.ob vs [] true _;unfold dh tx at g |-;split at g
  ·exact g.elim
  obtain ⟨o,y,t,n,z⟩:=g;refine ⟨o,y,t,?_,z⟩;unfold okC at n |-;simpa using n
 ·exact j as [] true h b
 obtain ⟨k,g⟩:=j as (i::l) false h b;exact ⟨k,Or.inr (Or.inl g)⟩
theorem avq {K:St->Prop} (h:(r.out P s c).ok) (a:K (r.out P s c).st):r.wp P s K (yes s.e r.g):=by
 rcases r with ⟨d,g,u,x⟩
 unfold PR.out at h a;simp only at h a |-;generalize yes s.e g=y at h a |-;rcases y with _ | b
 ·have h:False:=by cases x<;>exact h
  exact h.elim
 simp only [PR.wp];cases x with
 | see o=>exact ⟨h,a⟩
 | act o=>cases b with
   | true=>exact ⟨fun _=>⟨h,a⟩,by simp⟩
   | false=>exact ⟨by simp,fun _=>a⟩
 | call f xs=>cases b with
   | true=>exact ⟨fun _=>acv h a,by simp⟩
   | false=>exact ⟨by simp,fun _=>a⟩
 | callv x xs=>cases b with
   | true=>
     refine ⟨fun _=>?_,by simp⟩;simp only [PX.out] at h a;generalize (x.ev s.e).bare=y at h a |-;cases y with
     | fn f cap k=>cases f with
       | func f=>
         have:=acv (vs:=cap.take k++(i8 s.e xs++cap.drop k)) h a;exact ⟨this.1.1.1,this.1.1.2,this.1.2,this.2⟩
       | _=>exact (show False from h).elim
     | _=>exact (show False from h).elim
   | false=>exact ⟨by simp,fun _=>a⟩
 | inv tbl x xs=>cases b with
   | true=>
     refine ⟨fun _=>?_,by simp⟩;simp only [PX.out] at h a;generalize (x.ev s.e).bare=y at h a |-;cases y with
     | ifc t y=>
       simp only [km,abn] at h a |-;generalize y7 t tbl=q at h a |-;cases q with
       | some f=>
         have:=acv (vs:=y::i8 s.e xs) h a;exact ⟨this.1.1,this.1.2,this.2⟩
       | none=>exact (show False from h).elim
     | _=>exact (show False from h).elim
   | false=>exact ⟨by simp,fun _=>a⟩
 | nxt x=>cases b with
   | true=>exact (show False from h).elim
   | false=>exact ⟨by simp,fun _=>a⟩
theorem al6 {x y:AV} (h:bp ob x=some (y,l)) (b:x8 ob ob' l):bp ob' x=some (y,l):=by
 cases x with
 | own id ver lo len=>
   simp only [bp] at h |-;split at h
   ·rename_i d c a;cases h;rw [ab9 a b]
   cases h
 | agg xs=>
   simp only [bp] at h |-;split at h
   ·rename_i d c a;cases h;rw [vi a b]
   cases h
 | _=>exact h
theorem yw:∀{a ys:List AV} {l:List Nat},j9 ob a=some (ys,l)->x8 ob ob' l->j9 ob' a=some (ys,l)
 | [],ys,l,h,hs=>h
 | x::a,ys,l,h,hs=>by
   simp only [j9] at h |-;split at h
   ·rename_i y k f j e d;cases h;obtain ⟨b,c⟩:=uh hs;rw [al6 e b,yw d c]
   cases h
theorem yc:∀(n:Nat) (a b:List Nat) (i:Nat),i∈b->i∈l6 ob n a b
 | 0,a,b,i,h=>h
 | n+1,[],b,i,h=>h
 | n+1,j::a,b,i,h=>by
   unfold l6;split
   ·exact yc n a b i h
   exact yc n _ _ i (by simp [h])
theorem wg:∀(n:Nat) (a b:List Nat),x8 ob ob' (l6 ob n a b)->l6 ob' n a b=l6 ob n a b
 | 0,a,b,hs=>rfl
 | n+1,[],b,hs=>rfl
 | n+1,j::a,b,hs=>by
   unfold l6 at hs |-;split
   ·rename_i hc;rw [if_pos hc] at hs;exact wg n a b hs
   rename_i hc;rw [if_neg hc] at hs;rw [hs j (yc n _ _ j (by simp))];exact wg n _ _ hs
theorem atw {k:Nat} (h:idx i l=some k):i∈l:=zae (yk h)
theorem afq {ids:List Nat} (a:x8 ob ob' ids):fwd ob' ids=fwd ob ids:=by
 funext id ver;unfold fwd;split
 ·rename_i k b;rw [a id (atw b)]
 rfl
theorem abp {F:Ren}:∀{ids:List Nat},x8 ob ob' ids->o4 F ob' ids=o4 F ob ids
 | [],hs=>rfl
 | i::ids,hs=>by
   simp only [o4];rw [hs i (by simp),abp (fun j a=>hs j (by simp [a]))]
theorem an2 {u m k:Nat} {ids:List Nat} (h:k<m):g8 u ids k∈y6 u ids m:=by
 simp only [y6,List.mem_map,List.mem_range];exact ⟨k,h,rfl⟩
theorem aed {u m k:Nat} {ids:List Nat} (a:x8 ob ob' (y6 u ids m)) (h:k<m):bg ob' u ids k=bg ob u ids k:=by
 have:=a _ (an2 (u:=u) (ids:=ids) h);unfold bg;unfold g8 at this;split
 ·rename_i i hi;rw [hi] at this;simp only at this;rw [this];rcases ob i with _ | ⟨v,_ | _⟩<;>rfl
 rename_i hi;rw [hi] at this;exact um this
theorem al5 {u m:Nat} {ids:List Nat} (a:x8 ob ob' (y6 u ids m)):back ob' u ids m=back ob u ids m:=by
 funext id ver;unfold back;split
 ·rename_i h;rw [aed a h.2.2]
 rfl
theorem adb {u m:Nat} {ids:List Nat} {F:Ren} (c:x8 ob ob' (y6 u ids m)):∀{os:List Ob} {k:Nat},k+os.length<=m ->
 (∀j,k<=j->j<k+os.length->v8 ob' u ids F k os (g8 u ids j)=v8 ob u ids F k os (g8 u ids j))/\(∀i,(∀j,k<=j->j<k+os.length->i≠g8 u ids j)->v8 ob' u ids F k os i=ob' i)
 | [],k,h=>⟨fun j d a=>by simp at a; omega,fun i h=>rfl⟩
 | o::os,k,h=>by
   simp at h;obtain ⟨e,f⟩:=adb (F:=F) c (os:=os) (k:=k+1) (by omega);refine ⟨fun j d a=>?_,fun i hi=>?_⟩
   ·simp at a;simp only [v8,upd,aed c (show k<m by omega)];split
    ·rfl
    rename_i b;refine e j ?_ (by omega);rcases Nat.lt_or_ge k j with h | h
    ·omega
    have:j=k:=by omega
    subst this; exact (b rfl).elim
   simp only [v8,upd];rw [if_neg (hi k (zac _) (by simp))];exact f i fun j d a=>hi j (by omega) (by simp; omega)
theorem mj {d:Option Nat} {x:AV} {e e':Env} {t:Nat} (h:t∈d.toList):l8 d x e' t=l8 d x e t:=by
 cases d with
 | none=>simp at h
 | some d=>simp at h; subst h; simp [l8,put]
theorem cj {d:Option Nat} {x:AV} {e:Env} {t:Nat} (h:t∉d.toList):l8 d x e t=e t:=by
 cases d with
 | none=>rfl
 | some d=>simp at h; simp [l8,put,h]
theorem amb {g:Option (Nat×Bool)} {e e':Env} (h:∀t,t∈gus g->e' t=e t):yes e' g=yes e g:=by
 cases g with
 | none=>rfl
 | some p=>simp only [yes,h p.1 (by simp [gus])]
def ail (r:PR) (s s':St) (o o':Out):Prop:=
 o'.ok/\(∀t,t∈r.d.toList->o'.st.e t=o.st.e t)/\(∀t,t∉r.d.toList->o'.st.e t=s'.e t) /\
 (∀i,i∈o.lg.wr->i∈o.lg.rd/\o'.st.ob i=o.st.ob i)/\(∀i,i∉o.lg.wr->o'.st.ob i=s'.ob i)
theorem arx {x:AV} (h:∀i,i∈q9 x->ob' i=ob i):x.rv ob'=x.rv ob:=by
 cases x with
 | own id ver lo len=>simp only [AV.rv,g7,h id (by simp [q9])]
 | _=>rfl
theorem amw:∀{a:List AV},(∀i,i∈l9 a->ob' i=ob i)->rvs ob' a=rvs ob a
 | [],_=>rfl
 | x::a,h=>by
   simp only [rvs];rw [arx (fun i hi=>h i (by simp [l9,hi])),amw (fun i hi=>h i (by simp [l9,hi]))]
theorem auj {x:AV} (h:∀i,i∈q9 x->ob' i=ob i):bp ob' x=bp ob x:=by
 cases x with
 | own id ver lo len=>simp only [bp]; rw [arx h]
 | agg xs=>simp only [bp]; rw [amw (fun i hi=>h i (by simpa [q9] using hi))]
 | _=>rfl
theorem akp:∀{a:List AV},(∀i,i∈l9 a->ob' i=ob i)->j9 ob' a=j9 ob a
 | [],_=>rfl
 | x::a,h=>by
   simp only [j9];rw [auj (fun i hi=>h i (by simp [l9,hi])),akp (fun i hi=>h i (by simp [l9,hi]))]
theorem aa0 {f:FuncId} {p:Prop} {as:List AV} (h:(r8 P r s f p c (u0 as (j9 s.ob as))).ok) (d:x8 s.ob s'.ob (r8 P r s f p c (u0 as (j9 s.ob as))).lg.rd) :
 ail r s s' (r8 P r s f p c (u0 as (j9 s.ob as))) (r8 P r s' f p c (u0 as (j9 s'.ob as))):=by
 have n:∀(a:List AV×List Nat×Bool),(r8 P r s f p c a).ok->x8 s.ob s'.ob (r8 P r s f p c a).lg.rd->(x8 s.ob s'.ob a.2.1->u0 as (j9 s'.ob as)=a)->ail r s s' (r8 P r s f p c a) (r8 P r s' f p c (u0 as (j9 s'.ob as))):=fun a h d b=>by
  obtain ⟨g,l,B⟩:=a;simp only [r8] at h d |-;rcases hpo:o4 (fwd s.ob (l6 s.ob 64 (l9 g) [])) s.ob (l6 s.ob 64 (l9 g) []) with _ | po
  ·rw [hpo] at h; exact (show False from h).elim
  rw [hpo] at h d;simp only [xp,PR.lg] at d;obtain ⟨z,e⟩:=uh d;obtain ⟨e,v⟩:=uh e;rw [b z];simp only;rw [wg 64 (l9 g) [] e];generalize l6 s.ob 64 (l9 g) []=ids at *;rw [afq e,abp e,hpo];simp only [xp,PR.lg] at h |-;rw [afq e,al5 v];have w:=adb (F:=back s.ob r.u ids c.2.length) v (os:=c.2) (k:=0) (by simp);have x:∀i,i∈y6 r.u ids c.2.length↔∃j,j<c.2.length/\g8 r.u ids j=i:=fun i=>by simp [y6]
  refine ⟨h,fun t q=>mj q,fun t q=>cj q,fun i hi=>⟨by simp [hi],?_⟩,fun i hi=>?_⟩
  ·obtain ⟨j,A,rfl⟩:=(x i).1 hi;exact w.1 j (Nat.zero_le _) (by simpa using A)
  refine w.2 i fun j m y o=>hi ((x i).2 ⟨j,by simpa using y,o.symm⟩)
 refine n _ h d fun m=>?_;rcases b:j9 s.ob as with _ | ⟨g,_ | ⟨i,l⟩⟩
 ·rw [b] at m;rw [akp (ob:=s.ob) (fun i hi=>m i hi),b]
 ·rw [yw b (fun i hi=>by simp at hi)]
 rw [b] at m;rw [yw b m]
theorem ao1 {p:Prop} {vs:List AV} {y:AV} (h:(od P r s p c vs y).ok) (a:x8 s.ob s'.ob (od P r s p c vs y).lg.rd):ail r s s' (od P r s p c vs y) (od P r s' p c vs y):=by
 cases y with
 | fn f cap k=>cases f with
   | func f=>exact aa0 h a
   | _=>exact (show False from h).elim
 | _=>exact (show False from h).elim
theorem ao2 {tbl:List (TypeId×FuncId)} {p:Prop} {vs:List AV} {y:AV} (h:(km P r s tbl p c vs y).ok) (a:x8 s.ob s'.ob (km P r s tbl p c vs y).lg.rd):ail r s s' (km P r s tbl p c vs y) (km P r s' tbl p c vs y):=by
 cases y with
 | ifc t y=>
   simp only [km] at h a |-;generalize y7 t tbl=q at h a |-;cases q with
   | some f=>exact aa0 h a
   | none=>exact (show False from h).elim
 | _=>exact (show False from h).elim
theorem acw {tbl:List (TypeId×FuncId)} {p:Prop} {vs:List AV} {y:AV}:∃rd a,(km P r s tbl p c vs y).lg=r.lg rd a:=by
 cases y with
 | ifc t y=>
   simp only [km];generalize y7 t tbl=q;cases q with
   | some f=>
     simp only;generalize u0 (y::vs) (j9 s.ob (y::vs))=q;simp only [r8];generalize o4 _ _ _=po;cases po<;>exact ⟨_,_,rfl⟩
   | none=>exact ⟨_,_,rfl⟩
 | _=>exact ⟨_,_,rfl⟩
theorem aeo (h:(r.out P s c).ok) (D:∀t,t∈(r.out P s c).lg.us->s'.e t=s.e t) (l:r.x.adr=false->x8 s.ob s'.ob (r.out P s c).lg.rd) (m:apd s.ob s'.ob (r.out P s c).lg.rd):ail r s s' (r.out P s c) (r.out P s' c):=by
 rcases r with ⟨d,g,u,x⟩
 have B:(PR.out P ⟨d,g,u,x⟩ s c).lg.us=gus g++(x.us++d.toList):=by
  unfold PR.out;simp only;generalize yes s.e g=y;rcases y with _ | b
  ·cases x<;>rfl
  cases x with
  | see o=>rfl
  | act o=>cases b<;>rfl
  | call f xs=>cases b with
    | false=>rfl
    | true=>
      simp only [PX.out];generalize u0 (i8 s.e xs) (j9 s.ob (i8 s.e xs))=q;simp only [r8];generalize o4 _ _ _=po;cases po<;>rfl
  | callv x xs=>cases b with
    | false=>rfl
    | true=>
      simp only [PX.out];generalize (x.ev s.e).bare=y;cases y with
      | fn f cap k=>cases f with
        | func f=>
          simp only [od];generalize u0 (cap.take k++(i8 s.e xs++cap.drop k)) (j9 s.ob (cap.take k++(i8 s.e xs++cap.drop k)))=q;simp only [r8];generalize o4 _ _ _=po;cases po<;>rfl
        | _=>rfl
      | _=>rfl
  | inv tbl x xs=>cases b with
    | false=>rfl
    | true=>
      simp only [PX.out];obtain ⟨rd,F,e⟩:=acw (P:=P) (r:=⟨d,g,u,.inv tbl x xs⟩) (s:=s) (c:=c) (tbl:=tbl) (p:=(x.ev s.e).may true/\t9 true s.e xs) (vs:=i8 s.e xs) (y:=(x.ev s.e).bare);rw [e]
      rfl
  | nxt x=>cases b<;>rfl
 rw [B] at D;obtain ⟨w,a⟩:=u9 D;obtain ⟨a,_⟩:=u9 a;unfold PR.out at h l m |-;simp only at h l m w a |-;rw [amb w];generalize yes s.e g=y at h l m |-;rcases y with _ | b
 ·have h:False:=by cases x<;>exact h
  exact h.elim
 cases x with
 | see o=>
   simp only [PX.out] at h l m |-;rw [as8 (show ∀t,t∈o.us->s'.e t=s.e t from a)]
   obtain ⟨z,A⟩:(o.see b s.e s'.ob).ok/\(o.see b s.e s'.ob).v=(o.see b s.e s.ob).v:=by
    cases hadr:o.adr with
    | true=>exact aw3 hadr h m
    | false=>exact avd h (l hadr)
   rw [A];exact ⟨z,fun t j=>mj j,fun t j=>cj j,fun i hi=>by simp [PR.lg] at hi,fun i hi=>rfl⟩
 | act o=>replace l:=l rfl; cases b with
   | true=>
     simp only [PX.out] at h l |-;rw [aur (show ∀t,t∈o.us->s'.e t=s.e t from a)];obtain ⟨z,A,C,E⟩:=aw5 h l;simp only at z A C E;rw [A];exact ⟨z,fun t j=>mj j,fun t j=>cj j,C,E⟩
   | false=>exact ⟨trivial,fun t j=>mj j,fun t j=>cj j,fun i hi=>by simp [PX.out,PR.lg] at hi,fun i hi=>rfl⟩
 | call f xs=>replace l:=l rfl; cases b with
   | true=>
     simp only [PX.out] at h l |-;rw [gr (show ∀t,t∈usL xs->s'.e t=s.e t from a),kf (show ∀t,t∈usL xs->s'.e t=s.e t from a)];exact aa0 h l
   | false=>exact ⟨trivial,fun t j=>mj j,fun t j=>cj j,fun i hi=>by simp [PX.out,PR.lg] at hi,fun i hi=>rfl⟩
 | callv x xs=>replace l:=l rfl; cases b with
   | true=>
     obtain ⟨a,n⟩:=u9 a;simp only [PX.out] at h l |-;rw [gr n,kf n,n6 a];exact ao1 h l
   | false=>exact ⟨trivial,fun t j=>mj j,fun t j=>cj j,fun i hi=>by simp [PX.out,PR.lg] at hi,fun i hi=>rfl⟩
 | inv tbl x xs=>replace l:=l rfl; cases b with
   | true=>
     obtain ⟨a,n⟩:=u9 a;simp only [PX.out] at h l |-;rw [gr n,kf n,n6 a];exact ao2 h l
   | false=>exact ⟨trivial,fun t j=>mj j,fun t j=>cj j,fun i hi=>by simp [PX.out,PR.lg] at hi,fun i hi=>rfl⟩
 | nxt x=>cases b with
   | true=>exact (show False from h).elim
   | false=>exact ⟨trivial,fun t j=>mj j,fun t j=>cj j,fun i hi=>by simp [PX.out,PR.lg] at hi,fun i hi=>rfl⟩
theorem ajr (h:r.x.sto=true) (i:Nat):pin ((r.out P s c).st.ob i)=pin (s.ob i):=by
 rcases r with ⟨d,g,u,x⟩
 unfold PR.out;simp only;generalize yes s.e g=y;cases x with
 | act o=>cases o with
   | st n x1 x2=>
     rcases y with _ | b
     ·rfl
     cases b with
     | true=>exact au5
     | false=>rfl
   | _=>cases h
 | _=>cases h
theorem ant:(r.out P s c).lg.ad=r.x.adr/\(r.out P s c).lg.st=r.x.sto:=by
 rcases r with ⟨d,g,u,x⟩
 unfold PR.out;simp only;generalize yes s.e g=y;rcases y with _ | b
 ·cases x<;>exact ⟨rfl,rfl⟩
 cases x with
 | see o=>exact ⟨rfl,rfl⟩
 | act o=>cases b<;>exact ⟨rfl,rfl⟩
 | call f xs=>cases b with
   | false=>exact ⟨rfl,rfl⟩
   | true=>
     simp only [PX.out];generalize u0 (i8 s.e xs) (j9 s.ob (i8 s.e xs))=q;simp only [r8];generalize o4 _ _ _=po;cases po<;>exact ⟨rfl,rfl⟩
 | callv x xs=>cases b with
   | false=>exact ⟨rfl,rfl⟩
   | true=>
     simp only [PX.out];generalize (x.ev s.e).bare=y;cases y with
     | fn f cap k=>cases f with
       | func f=>
         simp only [od];generalize u0 (cap.take k++(i8 s.e xs++cap.drop k)) (j9 s.ob (cap.take k++(i8 s.e xs++cap.drop k)))=q;simp only [r8];generalize o4 _ _ _=po;cases po<;>exact ⟨rfl,rfl⟩
       | _=>exact ⟨rfl,rfl⟩
     | _=>exact ⟨rfl,rfl⟩
 | inv tbl x xs=>cases b with
   | false=>exact ⟨rfl,rfl⟩
   | true=>
     simp only [PX.out];obtain ⟨rd,a,e⟩:=acw (P:=P) (r:=⟨d,g,u,.inv tbl x xs⟩) (s:=s) (c:=c) (tbl:=tbl) (p:=(x.ev s.e).may true/\t9 true s.e xs) (vs:=i8 s.e xs) (y:=(x.ev s.e).bare);rw [e];exact ⟨rfl,rfl⟩
 | nxt x=>cases b<;>exact ⟨rfl,rfl⟩
end

end Go.Ev

import Derived.Lib.DecodeN
import Derived.Test.YtpibfnekkfhkmaaGreatM2
open List renaming getElem?_eq_some_iff → zaa, mem_iff_getElem? → zab, mem_of_getElem? → zae, range → zah, replicate → zai
open Nat renaming le_refl → zac
open Option renaming map_eq_some_iff → zad, some → zaf
namespace Go.Ev
set_option maxHeartbeats 8000000
set_option maxRecDepth 100000
open Go
set_option linter.unusedSectionVars false
set_option linter.unnecessarySimpa false
set_option linter.unusedVariables false
abbrev Ren:=Nat->Nat->Option (Nat×Nat)
mutual
def imV (F:Ren):AV->AV
 | .r x=>.r x
 | .agg xs=>.agg (imL F xs)
 | .tup xs=>.tup (imL F xs)
 | .nils sz z=>.nils sz z
 | .own id ver lo len=>match F id ver with | some (i,v)=>.own i v lo len | none=>.undef
 | .ptr id ver off=>match F id ver with | some (i,v)=>.ptr i v off | none=>.undef
 | .oel id ver idx off=>match F id ver with | some (i,v)=>.oel i v idx off | none=>.undef
 | .rp ys=>.rp ys
 | .fn f xs k=>.fn f (imL F xs) k
 | .mp id ver=>match F id ver with | some (i,v)=>.mp i v | none=>.undef
 | .ifc t x=>.ifc t (imV F x)
 | .gd b x=>.gd b (imV F x)
 | .undef=>.undef
def imL (F:Ren):List AV->List AV
 | []=>[]
 | x::xs=>imV F x::imL F xs
end
def imO (F:Ren):Ob->Ob
 | .box cells=>.box (imL F cells)
 | .row sz z app wr xs=>.row sz z app wr xs
 | .abs T=>.abs T
 | .map es c=>.map es c
 | .iter m since seen st=>.iter (imV F m) since seen st
theorem aa7 (F:Ren):∀(a:List AV) (i:Nat),(imL F a)[i]?=(a[i]?).map (imV F)
 | [],i=>by simp [imL]
 | x::a,0=>by simp [imL]
 | x::a,i+1=>by simp [imL,aa7 F a i]
theorem kn (F:Ren):∀(a:List AV),(imL F a).length=a.length
 | []=>by simp [imL]
 | x::a=>by simp [imL,kn F a]
section
variable {P:Program} {X Y:Cx} {w w':World} {s:St} {ρ ρ':Pl->Option Nat} {a:Act} {ob ob':Obs} {R R':Nat->Prop} {F:Ren}
def ago (ob ob':Obs) (ρ ρ':Pl->Option Nat) (F:Ren):Prop:=∀id ver i v,F id ver=some (i,v)->∃o o',ob id=some (ver,o)/\ob' i=some (v,o')/\ρ' i=ρ id/\bt o o'
theorem bt.own {lo len id i:Nat} {c:Value} {o o':Ob} (h:akx w ρ id lo len c o) (d:bt o o') (a:ρ' i=ρ id):akx w ρ' i lo len c o':=by
 cases o with
 | box _=>
   cases o' with
   | box _=>
     obtain ⟨A,cap,k,m,q,g⟩:=h;refine ⟨A,cap,k,m,q,λ l=>?_⟩;obtain ⟨b,cs,e,fr,n,p,f,j⟩:=g l;exact ⟨b,cs,e,fr,by rw [a,n],p,f,j⟩
   | _=>exact d.elim
 | abs _=>exact h.elim
 | map _ _=>exact h.elim
 | iter _ _ _ _=>exact h.elim
 | row sz z1 a1 w1 xs=>
   cases o' with
   | box _=>
     obtain rfl:sz=1:=d;obtain ⟨A,cap,k,m,q,r,g⟩:=h;refine ⟨A,cap,k,m,q,λ l=>?_⟩;obtain ⟨b,cs,e,fr,n,p,f,j⟩:=g l;exact ⟨b,cs,e,fr,by rw [a,n],by rw [p,Nat.mul_one],f,by simpa using j⟩
   | abs _=>exact d.elim
   | map _ _=>exact d.elim
   | iter _ _ _ _=>exact d.elim
   | row sz' z2 a2 w2 xs'=>
     obtain ⟨rfl,d⟩:=d;obtain ⟨A,cap,k,m,q,r,g⟩:=h;refine ⟨A,cap,k,m,q,by omega,λ l=>?_⟩;obtain ⟨b,cs,e,fr,n,p,f,j⟩:=g l;exact ⟨b,cs,e,fr,by rw [a,n],p,f,j⟩
theorem RelA.im (u:∀b,R b->R' b) (p:ago ob ob' ρ ρ' F) {x:AV} {c:Value} (h:RelA w R ob ρ x c):RelA w R' ob' ρ' (imV F x) c:=by
 induction h with
 | r h0=>rw [imV]; exact .r (h0.mono λ b B=>⟨u b B,rfl⟩)
 | agg xs cs hl _ ih=>
   rw [imV];refine .agg _ cs (by rw [kn]; exact hl) λ i x c hx hc=>?_;rw [aa7,zad] at hx;obtain ⟨y,hy,rfl⟩:=hx;exact ih i y c hy hc
 | tup xs cs hl _ ih=>
   rw [imV];refine .tup _ cs (by rw [kn]; exact hl) λ i x c hx hc=>?_;rw [aa7,zad] at hx;obtain ⟨y,hy,rfl⟩:=hx;exact ih i y c hy hc
 | nils sz z=>rw [imV]; exact .nils sz z
 | own id ver lo len c hc ha=>
   rw [imV];split
   ·rename_i i v e;obtain ⟨o,o',l,m,d,a⟩:=p _ _ _ _ e;exact .own _ _ _ _ _ hc ⟨v,o',m,zac _,λ _=>bt.own (ha.live l) a d⟩
   exact .undef _
 | ptr id ver off c hc ha=>
   rw [imV];split
   ·rename_i i v e;obtain ⟨o,o',l,m,d,a⟩:=p _ _ _ _ e;exact .ptr _ _ _ _ hc ⟨v,o',m,zac _,λ _=>by rw [d]; exact ha.live l⟩
   exact .undef _
 | oel id ver idx off c hc ha=>
   rw [imV];split
   ·rename_i i v e;obtain ⟨o,o',l,m,d,a⟩:=p _ _ _ _ e;refine .oel _ _ _ _ _ hc ⟨v,o',m,zac _,λ _=>?_⟩;have n:=ha.live l;cases o with
    | box _=>
      cases o' with
      | box _=>
        obtain ⟨b,A,q⟩:=n;exact ⟨b,by rw [d]; exact A,q⟩
      | _=>exact a.elim
    | abs _=>exact n.elim
    | map _ _=>exact n.elim
    | iter _ _ _ _=>exact n.elim
    | row sz z1 a1 w1 xs=>
      cases o' with
      | box _=>
        obtain rfl:sz=1:=a;obtain ⟨A,q,b,C,D⟩:=n;exact ⟨b,by rw [d]; exact C,by rw [D,Nat.mul_one]⟩
      | abs _=>exact a.elim
      | map _ _=>exact a.elim
      | iter _ _ _ _=>exact a.elim
      | row sz' z2 a2 w2 xs'=>
        obtain ⟨rfl,a⟩:=a;obtain ⟨A,q,C⟩:=n;exact ⟨by omega,q,by rw [d]; exact C⟩
   exact .undef _
 | rp ys b o g hRb hg=>
   rw [imV];exact .rp ys b o g (u b hRb) λ j y s=>⟨(hg j y s).1,(hg j y s).2.1,(hg j y s).2.2.mono λ b B=>⟨u b B,rfl⟩⟩
 | fn f xs k fs cs hk hl _ ih=>
   rw [imV];refine .fn f _ k fs cs hk (by rw [kn]; exact hl) λ i x c hx hc=>?_;rw [aa7,zad] at hx;obtain ⟨y,hy,rfl⟩:=hx;exact ih i y c hy hc
 | mp id ver c hc ha=>
   rw [imV];split
   ·rename_i i v e;obtain ⟨o,o',l,m,d,a⟩:=p _ _ _ _ e;exact .mp _ _ _ hc ⟨v,o',m,zac _,λ _=>by rw [d]; exact ha.live l⟩
   exact .undef _
 | ifc t _ ih=>rw [imV]; exact .ifc t ih
 | gd b _ e ih=>rw [imV]; exact .gd b ih e
 | undef c=>rw [imV]; exact .undef c
theorem il.im (l:∀b,R b->R' b) (p:ago ob ob' ρ ρ' F) {id i:Nat} {x:Ob} (h:il w R ob ρ id x) (a:ρ' i=ρ id) (k:∀j,ρ' (.s i j)=ρ (.s id j)):il w R' ob' ρ' i (imO F x):=by
 cases x with
 | abs T=>
   obtain ⟨b,d,f⟩:=h;exact ⟨b,by rw [a,d],by simp only [k]; exact f⟩
 | map es clock=>
   obtain ⟨b,d,f⟩:=h;exact ⟨b,by rw [a,d],f⟩
 | iter m since seen st=>
   obtain ⟨b,m',d,f,g⟩:=h;exact ⟨b,m',by rw [a,d],f,g.im l p⟩
 | box cells=>
   obtain ⟨b,cs,e,d,f,g,n⟩:=h;refine ⟨b,cs,e,by rw [a,d],f,by rw [kn]; exact g,λ i x c hx hc=>?_⟩;rw [aa7,zad] at hx;obtain ⟨y,hy,rfl⟩:=hx;exact (n i y c hy hc).im l p
 | row sz z app wr xs=>
   rcases h with ⟨d,f,g⟩ | ⟨b,cs,e,fr,d,f,g,n,v,o⟩
   ·exact .inl ⟨d,by rw [a,f],g⟩
   refine .inr ⟨b,cs,e,fr,by rw [a,d],f,g,n,v,λ i x hi=>⟨(o i x hi).1,λ j y t=>?_⟩⟩;obtain ⟨c,r,u,q⟩:=(o i x hi).2 j y t;exact ⟨c,r,u,q.mono λ b A=>⟨l b A,rfl⟩⟩
theorem bt.im (F:Ren) (x:Ob):bt x (imO F x):=by cases x<;>simp [bt,imO]
theorem gt (F:Ren) (x:Ob):(imO F x).isAbs=x.isAbs:=by cases x<;>rfl
theorem ai4 (F:Ren) (x:Ob):(imO F x).pinned=x.pinned:=by cases x<;>rfl
theorem ara (F:Ren) (x:Ob):(imO F x).isRow=x.isRow:=by cases x<;>rfl
theorem a7o (F:Ren) (x:Ob):(imO F x).own=x.own:=by cases x<;>rfl
def idx:Nat->List Nat->Option Nat
 | _,[]=>none
 | i,j::l=>if i=j then some 0 else (idx i l).map (· + 1)
theorem alr {i:Nat}:∀{l:List Nat} {k:Nat},idx i l=some k->l[k]?=some i
 | [],k,h=>by cases h
 | j::l,k,h=>by
   unfold idx at h;split at h
   ·rename_i a; cases h; simp [a]
   rw [zad] at h;obtain ⟨m,b,rfl⟩:=h;simpa using alr b
def obs:Nat->List Ob->Obs
 | _,[]=>λ _=>none
 | k,o::os=>upd k (0,o) (obs (k+1) os)
theorem a7t:∀{os:List Ob} {k id:Nat},id<k->obs k os id=none
 | [],k,id,h=>rfl
 | o::os,k,id,h=>by
   unfold obs upd;rw [if_neg (by omega)];exact a7t (by omega)
theorem ayp:∀{os:List Ob} {k id:Nat},k<=id->obs k os id=(os[id-k]?).map λ o=>(0,o)
 | [],k,id,h=>by simp [obs]
 | o::os,k,id,h=>by
   unfold obs upd;by_cases a:id=k
   ·subst a; simp
   rw [if_neg a,ayp (by omega),show id-k=(id-(k+1))+1 by omega];simp
abbrev ob0 (po:List Ob):Obs:=obs 1000000 po
theorem aad {po:List Ob} {id:Nat} {x:Nat×Ob} (h:ob0 po id=some x):1000000<=id/\po[id-1000000]?=some x.2/\x.1=0:=by
 by_cases a:1000000<=id
 ·rw [ob0,ayp a,zad] at h;obtain ⟨o,b,rfl⟩:=h;exact ⟨a,b,rfl⟩
 rw [ob0,a7t (by omega)] at h;cases h
def xb (ob:Obs) (ρ:Pl->Option Nat) (i b:Nat):Prop:=∃x,ob i=some x/\foot ρ i x.2 b
def ng (ob:Obs) (ρ:Pl->Option Nat) (b:Nat):Prop:=∃id x,ob id=some x/\foot ρ id x.2 b
def pu (po:List Ob) (ρ:Pl->Option Nat):Nat->Option Nat:=λ id=>match ob0 po id with
 | some (_,o)=>if o.pinned=true then ρ id else none
 | none=>none
def aos (P:Program) (w:World) (I:Nat->Prop) (a:String) (ok:Array Value->Prop):Prop:=
 ∀g,P.globalNamed a=some g->¬I g/\∃cs e fr,w.heap[g]?=some (.cells cs e fr)/\ok cs
def bjv:Array Value:=((zah 20).map λ k=>Value.int .u64 (10^k:Nat)).toArray
abbrev ur:Bool:=false
structure Gl (P:Program) (w:World) (I:Nat->Prop):Prop where
 pow : aos P w I "internal/strconv.uint64pow10" fun cs => cs = bjv
 syn : ur = true → aos P w I "strconv.ErrSyntax" fun cs => ∃ t p, cs = #[.iface t p]
 rng : ur = true → aos P w I "strconv.ErrRange" fun cs => ∃ t p, cs = #[.iface t p]
 fst : ur = true → aos P w I "unicode/utf8.first" fun cs => ∀ i : Nat, i < 256 → cs[i]? = some (.int .u8 (Lib.firstT i))
 acc : ur = true → aos P w I "unicode/utf8.acceptRanges" fun cs => ∀ i : Nat, i < 16 → cs[2 * i]? = some (.int .u8 (Lib.accLo i)) ∧ cs[2 * i + 1]? = some (.int .u8 (Lib.accHi i))
theorem aos.keep {P:Program} {w b:World} {I c:Nat->Prop} {a:String} {ok:Array Value->Prop} (h:aos P w I a ok)
 (m:∀g,g<w.heap.size->¬I g->b.heap[g]?=w.heap[g]?/\¬c g):aos P b c a ok:=λ g l=>by
 obtain ⟨i,cs,e,fr,d,f⟩:=h g l;obtain ⟨k,j⟩:=m g (Array.getElem?_eq_some_iff.1 d).1 i;exact ⟨j,cs,e,fr,by rw [k,d],f⟩
theorem Gl.keep {P:Program} {w c:World} {I d:Nat->Prop} (h:Gl P w I) (b:∀g,g<w.heap.size->¬I g->c.heap[g]?=w.heap[g]?/\¬d g):Gl P c d:=
 ⟨h.pow.keep b,λ a=>(h.syn a).keep b,λ a=>(h.rng a).keep b,λ a=>(h.fst a).keep b,λ a=>(h.acc a).keep b⟩
class GlC (P:Program) (X:Cx):Prop where
 gl:Gl P X.w0 X.I
def a8 (P:Program) (f:FuncId) (args:List AV) (po:List Ob) (res:AV) (ro:List Ob):Prop:=
 ∀(w:World) (a:Array Value) (ρ:Pl->Option Nat) (B:Nat->Prop),Gl P w (ng (ob0 po) ρ)->(∀b,ng (ob0 po) ρ b\/w.heap.size<=b->B b) ->
  Mem ⟨0,ng (ob0 po) ρ,λ _=>none,B,w⟩ (ob0 po) ρ w->a.size=args.length ->
  (∀(i:Nat) (x:AV) (c:Value),args[i]?=some x->a[i]?=some c->RelA w (g9 B (ob0 po) ρ w) (ob0 po) ρ x c) ->
  Calls P f a w λ e d=>∃c ρ',e=.returned c/\Mem ⟨0,ng (ob0 po) ρ,pu po ρ,B,w⟩ (ob0 ro) ρ' d/\RelA d (g9 B (ob0 ro) ρ' d) (ob0 ro) ρ' res c
end

mutual
def ft:RV->Prop
 | .v _=>True
 | .agg xs=>uc xs
 | .sl _ _=>False
def uc:List RV->Prop
 | []=>True
 | x::xs=>ft x/\uc xs
end
mutual
def bj:AV->Prop
 | .r x=>ft x
 | .agg xs=>pb xs
 | .tup xs=>pb xs
 | .rp _=>False
 | .fn _ xs _=>pb xs
 | .gd _ x=>bj x
 | .ifc _ x=>bj x
 | _=>True
def pb:List AV->Prop
 | []=>True
 | x::xs=>bj x/\pb xs
end
def jt:Ob->Prop
 | .box cells=>pb cells
 | .row _ _ _ _ xs=>∀x,x∈xs->ft x
 | .abs _=>True
 | .map _ _=>True
 | .iter m _ _ _=>bj m
theorem uc.at_:∀{a:List RV},uc a->∀{i:Nat} {x:RV},a[i]?=some x->ft x
 | [],_,i,x,hx=>by simp at hx
 | y::ys,h,0,x,hx=>by simp at hx; subst hx; exact h.1
 | y::ys,h,i+1,x,hx=>by simp at hx; exact uc.at_ h.2 hx
theorem pb.at_:∀{a:List AV},pb a->∀{i:Nat} {x:AV},a[i]?=some x->bj x
 | [],_,i,x,hx=>by simp at hx
 | y::ys,h,0,x,hx=>by simp at hx; subst hx; exact h.1
 | y::ys,h,i+1,x,hx=>by simp at hx; exact pb.at_ h.2 hx
section
variable {P:Program} {X:Cx} [GlC P X] {w w':World} {s:St} {ρ ρ':Pl->Option Nat} {a:Act} {ob ob':Obs} {R R':Nat->Prop}
theorem RelV.flat {x:RV} {c:Value} (h:RelV w R x c) (a:ft x):RelV w R' x c:=by
 induction h with
 | v x=>exact .v x
 | agg xs cs hl _ ih=>exact .agg xs cs hl λ i x c hx hc=>ih i x c hx hc (uc.at_ (by simpa [ft] using a) hx)
 | sl sz xs A cap hc hm b o g hA hz hg hr ih=>simp [ft] at a
theorem RelA.flat {x:AV} {c:Value} (h:RelA w R ob ρ x c) (a:bj x):RelA w R' ob ρ x c:=by
 induction h with
 | r h0=>exact .r (h0.flat (by simpa [bj] using a))
 | agg xs cs hl _ ih=>exact .agg xs cs hl λ i x c hx hc=>ih i x c hx hc (pb.at_ (by simpa [bj] using a) hx)
 | tup xs cs hl _ ih=>exact .tup xs cs hl λ i x c hx hc=>ih i x c hx hc (pb.at_ (by simpa [bj] using a) hx)
 | nils sz z=>exact .nils sz z
 | own id ver lo len c hc ha=>exact .own id ver lo len c hc ha
 | ptr id ver off c hc ha=>exact .ptr id ver off c hc ha
 | oel id ver i off c hc ha=>exact .oel id ver i off c hc ha
 | rp ys b o g hR hg=>simp [bj] at a
 | fn f xs k fs cs hk hl _ ih=>exact .fn f xs k fs cs hk hl λ i x c hx hc=>ih i x c hx hc (pb.at_ (by simpa [bj] using a) hx)
 | mp id ver c hc ha=>exact .mp id ver c hc ha
 | ifc t _ ih=>exact .ifc t (ih (by simpa [bj] using a))
 | gd b _ hf' ih=>exact .gd b (λ d=>ih d (by simpa [bj] using a)) hf'
 | undef c=>exact .undef c
theorem uc.cells {x:RV} (h:ft x) {j:Nat} {y:RV} (a:x.cells[j]?=some y):ft y:=by
 cases x with
 | v v=>cases j<;>simp [RV.cells] at a; subst a; trivial
 | agg xs=>simp only [RV.cells] at a; exact uc.at_ (by simpa [ft] using h) a
 | sl k xs=>simp [ft] at h
theorem il.flat {id:Nat} {x:Ob} (h:il w R ob ρ id x) (g:jt x):il w R' ob ρ id x:=by
 cases x with
 | abs T=>exact h
 | map es c=>exact h
 | iter m since seen st=>
   obtain ⟨b,m',d,f,a⟩:=h;exact ⟨b,m',d,f,a.flat g⟩
 | box cells=>
   obtain ⟨b,cs,e,d,f,a,k⟩:=h;exact ⟨b,cs,e,d,f,a,λ i x c hx hc=>(k i x c hx hc).flat (pb.at_ g hx)⟩
 | row sz z app wr xs=>
   rcases h with h | ⟨b,cs,e,fr,d,f,a,k,r,l⟩
   ·exact .inl h
   refine .inr ⟨b,cs,e,fr,d,f,a,k,r,λ i x hi=>⟨(l i x hi).1,λ j y n=>?_⟩⟩;obtain ⟨c,p,q,o⟩:=(l i x hi).2 j y n;exact ⟨c,p,q,o.flat (uc.cells (g x (zae hi)) n)⟩
def mn (ob:Obs):AV->Option (AV×List Nat)
 | .own id ver lo len=>match AV.rv ob (.own id ver lo len) with
   | some (y,fz)=>some (.r y,fz)
   | none=>none
 | .nils sz _=>some (.r (.sl sz []),[])
 | .agg xs=>match rvs ob xs with
   | some (ys,fz)=>some (.r (.agg ys),fz)
   | none=>none
 | .gd _ _=>none
 | .oel _ _ _ _=>none
 | x=>some (x,[])
def q7 (ob:Obs):List AV->Option (List AV×List Nat)
 | []=>some ([],[])
 | x::xs=>match mn ob x,q7 ob xs with
   | some (y,i),some (ys,j)=>some (y::ys,i++j)
   | _,_=>none
mutual
def br:AV->List Nat
 | .own id _ _ _=>[id]
 | .ptr id _ _=>[id]
 | .oel id _ _ _=>[id]
 | .agg xs=>o6 xs
 | .tup xs=>o6 xs
 | .fn _ xs _=>o6 xs
 | .gd _ x=>br x
 | .mp id _=>[id]
 | .ifc _ x=>br x
 | _=>[]
def o6:List AV->List Nat
 | []=>[]
 | x::xs=>br x++o6 xs
end
def ajv:Option (Nat×Ob)->List Nat
 | some (_,.box cells)=>o6 cells
 | some (_,.iter m _ _ _)=>br m
 | _=>[]
def s9 (ob:Obs):Nat->List Nat->List Nat->List Nat
 | 0,_,acc=>acc
 | _+1,[],acc=>acc
 | n+1,i::todo,acc=>if acc.contains i then s9 ob n todo acc else s9 ob n (ajv (ob i)++todo) (acc++[i])
def aig (ver k:Nat):Option (Nat×Ob)->Option (Nat×Nat)
 | some (v,_)=>if ver=v then some (1000000+k,0) else none
 | none=>none
def fwd (ob:Obs) (ids:List Nat):Ren:=λ id ver=>match idx id ids with
 | some k=>aig ver k (ob id)
 | none=>none
def abo (F:Ren):Option (Nat×Ob)->Option Ob
 | some (_,o)=>if o.own then some (imO F o) else none
 | none=>none
def ao (F:Ren) (ob:Obs):List Nat->Option (List Ob)
 | []=>some []
 | i::is=>match abo F (ob i),ao F ob is with
   | some o,some os=>some (o::os)
   | _,_=>none
theorem ad1 {F:Ren} {ob:Obs}:∀{ids:List Nat} {po:List Ob},ao F ob ids=some po->po.length=ids.length/\∀(k i:Nat) (o:Ob),ids[k]?=some i->po[k]?=some o->∃v x,ob i=some (v,x)/\x.own=true/\o=imO F x
 | [],po,h=>by simp [ao] at h; subst h; simp
 | j::ids,po,h=>by
   simp only [ao] at h;split at h
   ·rename_i o os a g;cases h;obtain ⟨e,f⟩:=ad1 g;refine ⟨by simp [e],λ k i q d c=>?_⟩;cases k with
    | zero=>
      simp at d c;subst d; subst c;unfold abo at a;split at a
      ·rename_i v x hx;split at a
       ·rename_i b;cases a;exact ⟨v,x,hx,b,rfl⟩
       cases a
      cases a
    | succ k=>simp at d c; exact f k i q d c
   cases h
def m0 (u:Nat) (ids:List Nat) (k:Nat):Nat:=match ids[k]? with
 | some i=>i
 | none=>100000+1000*u+k
def mv (ob:Obs) (i:Nat):Option (Nat×Ob)->Nat
 | some (v,.box _)=>v
 | some (v,.row _ _ app _ _)=>bif app then v+1 else v
 | some (v,.abs _)=>v
 | some (v,.map _ _)=>v
 | some (v,.iter _ _ _ _)=>v
 | none=>0
def lf (ob:Obs) (u:Nat) (ids:List Nat) (k:Nat):Nat:=match ids[k]? with
 | some i=>mv ob i (ob i)
 | none=>nv ob (100000+1000*u+k)
def back (ob:Obs) (u:Nat) (ids:List Nat) (m:Nat):Ren:=λ id ver=>
 if ver=0/\1000000<=id/\id-1000000<m then some (m0 u ids (id-1000000),lf ob u ids (id-1000000)) else none
def gk (ob:Obs) (u:Nat) (ids:List Nat) (F:Ren):Nat->List Ob->Obs
 | _,[]=>ob
 | k,o::os=>upd (m0 u ids k) (lf ob u ids k,imO F o) (gk ob u ids F (k+1) os)
theorem asd {u:Nat} {ids:List Nat} {F:Ren} {i:Nat}:∀{os:List Ob} {k:Nat},(∀j,k<=j->j<k+os.length->m0 u ids j≠i)->gk ob u ids F k os i=ob i
 | [],k,h=>rfl
 | o::os,k,h=>by
   unfold gk upd;rw [if_neg (λ e=>h k (zac _) (by simp) e.symm)];exact asd λ j b a=>h j (by omega) (by simp; omega)
theorem a1n {u:Nat} {ids:List Nat} {F:Ren} {m:Nat} (a:∀i j,i<m->j<m->m0 u ids i=m0 u ids j->i=j):∀{os:List Ob} {k j:Nat} {o:Ob},k+os.length<=m->os[j]?=some o->gk ob u ids F k os (m0 u ids (k+j))=some (lf ob u ids (k+j),imO F o)
 | [],k,j,o,h,hj=>by simp at hj
 | q::os,k,0,o,h,hj=>by simp at hj; subst hj; simp [gk,upd]
 | q::os,k,j+1,o,h,hj=>by
   simp at hj h;have b:=(zaa.1 hj).1;unfold gk upd;rw [if_neg (λ e=>by have:=a _ _ (by omega) (by omega) e; omega),show k+(j+1)=k+1+j by omega];exact a1n a (by omega) hj
theorem l7 {po:List Ob} {k:Nat} {o:Ob} (h:po[k]?=some o):ob0 po (1000000+k)=some (0,o):=by
 rw [ob0,ayp (by omega),show 1000000+k-1000000=k by omega,h]
 rfl
def a25:Ob->Ob->Prop
 | .row sz _ app _ xs,o'=>app=true\/∃c b a,o'=.row sz c false b a/\xs.length<=a.length
 | .box cells,.box cells'=>cells'.length=cells.length
 | .abs T,.abs T'=>T'.size=T.size
 | .map _ _,.map _ _=>True
 | .iter _ _ _ _,.iter _ _ _ _=>True
 | _,_=>False
theorem Gam.call {f:FuncId} {as:List AV} {ids:List Nat} {po ro:List Ob} {res:AV} {u:Nat} {Z:Array Value} {Bc Ra:Nat->Prop} (I:Gam X s ρ a w) (w1:ao (fwd s.ob ids) s.ob ids=some po)
 (hT:a8 P f (imL (fwd s.ob ids) as) po res ro) (w6:ids.length<=ro.length) (gd:∀i j,i<ro.length->j<ro.length->m0 u ids i=m0 u ids j->i=j) (w8:100000+1000*u+ro.length<=1000000)
 (k8:Z.size=as.length) (gw:∀(i:Nat) (x:AV) (c:Value),as[i]?=some x->Z[i]?=some c->RelA w Ra s.ob ρ x c)
 (e0:∀b,Ra b->b<w.heap.size/\Bc b/\∀(i:Nat),i∈ids->¬xb s.ob ρ i b) (ev:∀b,g9 X.B s.ob ρ w b->Bc b) (kf:∀b,(∃i,i∈ids/\xb s.ob ρ i b)\/w.heap.size<=b->Bc b)
 (g5:∀(k:Nat) (o o':Ob),po[k]?=some o->ro[k]?=some o'->a25 o o')
 (e4:(bj res/\∀o∈ro,jt o)\/∀b,Bc b->g9 X.B s.ob ρ w b\/(∃i,i∈ids/\xb s.ob ρ i b)\/w.heap.size<=b) :
 Calls P f Z w λ e w'=>∃c ρ',e=.returned c/\Gam X ⟨s.e,gk s.ob u ids (back s.ob u ids ro.length) 0 ro⟩ ρ' a w'/\RA X ⟨s.e,gk s.ob u ids (back s.ob u ids ro.length) 0 ro⟩ ρ' w' (imV (back s.ob u ids ro.length) res) c:=by
 obtain ⟨w7,eo⟩:=ad1 w1
 let Q:Pl->Option Nat:=λ p=>match p with
  | .o i=>if 1000000<=i then (ids[i-1000000]?).bind λ i=>ρ (.o i) else none
  | .s i j=>if 1000000<=i then (ids[i-1000000]?).bind λ i=>ρ (.s i j) else none
 have h8:∀(k i:Nat),ids[k]?=some i->ae5 ρ Q i (1000000+k):=λ k i d=>by
  simp [ae5,Q,d]
 have J:∀(k i:Nat),ids[k]?=some i->∃v x o,s.ob i=some (v,x)/\x.own=true/\po[k]?=some o/\o=imO (fwd s.ob ids) x:=λ k i d=>by
  have ha:=(zaa.1 d).1;have hp:po[k]?=some po[k]:=by simp [show k<po.length by omega]
  obtain ⟨v,x,E,D,L⟩:=eo k i _ d hp;exact ⟨v,x,_,E,D,hp,L⟩
 have gg:∀(id:Nat) (x:Nat×Ob),ob0 po id=some x->∃k i,id=1000000+k/\ids[k]?=some i/\po[k]?=some x.2/\x.1=0/\ae5 ρ Q i id:=λ id x hx=>by
  obtain ⟨E,D,L⟩:=aad hx;have ha:=(zaa.1 D).1;have hi:ids[id-1000000]?=some (ids[id-1000000]'(by omega)):=by simp [show id-1000000<ids.length by omega]
  refine ⟨id-1000000,_,by omega,hi,D,L,?_⟩;have:=h8 _ _ hi;rw [show 1000000+(id-1000000)=id by omega] at this;exact this
 have k6:∀(k l i:Nat),ids[k]?=some i->ids[l]?=some i->k=l:=λ k l i d hl=>by
  have E:=(zaa.1 d).1;have D:=(zaa.1 hl).1;exact gd k l (by omega) (by omega) (by simp [m0,d,hl])
 have N:∀b,ng (ob0 po) Q b↔∃i,i∈ids/\xb s.ob ρ i b:=λ b=>by
  constructor
  ·rintro ⟨id,x,E,D⟩;obtain ⟨k,i,rfl,d,gv,_,hn⟩:=gg id x E;obtain ⟨v,y,o,H,_,hp,ho⟩:=J k i d;rw [gv] at hp;refine ⟨i,zae d,_,H,(hn.foot ?_).1 D⟩;rw [zaf.inj hp,ho,gt]
  rintro ⟨i,hi,⟨y,H,r⟩⟩;obtain ⟨k,d⟩:=zab.1 hi;obtain ⟨v,x,o,g2,_,hp,ho⟩:=J k i d;rw [H] at g2;refine ⟨1000000+k,(0,o),l7 hp,((h8 k i d).foot ?_).2 r⟩;rw [ho,gt,zaf.inj g2]
 have hz:∀b,Own (ob0 po) Q b->∃i,i∈ids/\xb s.ob ρ i b:=λ b ⟨id,v,o,E,D,L⟩=>(N b).1 ⟨id,_,E,L⟩
 have hm:∀i,i∈ids->∀b,xb s.ob ρ i b->Own s.ob ρ b:=λ i hi b ⟨y,H,r⟩=>by
  obtain ⟨k,d⟩:=zab.1 hi;obtain ⟨v,x,o,E,D,_,_⟩:=J k i d;rw [H] at E;cases E;exact ⟨i,v,x,H,D,r⟩
 have hs:ago s.ob (ob0 po) ρ Q (fwd s.ob ids):=λ id ver i v hF=>by
  unfold fwd at hF;split at hF
  ·rename_i k d;have e7:=alr d;obtain ⟨v0,x,o,E,D,L,h4⟩:=J k id e7;rw [E] at hF;simp only [aig] at hF;split at hF
   ·rename_i hv;cases hF;subst hv;exact ⟨x,o,E,l7 L,(h8 k id e7).1,by rw [h4]; exact bt.im _ x⟩
   cases hF
  cases hF
 have kt:∀b,g9 X.B s.ob ρ w b->g9 Bc (ob0 po) Q w b:=λ b r=>⟨r.1,λ ho=>by
  obtain ⟨i,hi,M⟩:=hz b ho
  exact r.2.1 (hm i hi b M),ev b r⟩
 have ee:Mem ⟨0,ng (ob0 po) Q,λ _=>none,Bc,w⟩ (ob0 po) Q w:=by
  refine ⟨λ id v o h=>?_,λ id ey x x' b E D L h4=>?_,Keeps.refl _ _,λ id v o b E D=>.inl ⟨id,_,E,D⟩,λ id b h=>by cases h⟩
  ·obtain ⟨k,i,rfl,d,hp,_,hn⟩:=gg id _ h;obtain ⟨v0,x,o',E,D,L,h4⟩:=J k i d;simp only at hp;rw [hp] at L;cases L;rw [h4];exact (I.obj i v0 x E).im kt hs hn.1 hn.2
  obtain ⟨k,i,rfl,d,gv,_,hn⟩:=gg id _ E;obtain ⟨k',i',rfl,gy,e3,_,en⟩:=gg ey _ D;obtain ⟨v0,y,o',H,_,hp,ho⟩:=J k i d;obtain ⟨v1,y',w9,w4,_,e5,eq⟩:=J k' i' gy;rw [gv] at hp;rw [e3] at e5;have:=I.inj i i' _ _ b H w4 ((hn.foot (by rw [zaf.inj hp,ho,gt])).1 L) ((en.foot (by rw [zaf.inj e5,eq,gt])).1 h4);subst this;rw [k6 k k' i d gy]
 have k0:Gl P w (ng (ob0 po) Q):=(GlC.gl (P:=P) (X:=X)).keep λ g E D=>⟨I.keeps.block g E D,λ hh=>by
  obtain ⟨i,hi,⟨⟨v,x⟩,H,r⟩⟩:=(N g).1 hh;rcases I.own i v x g H r with h | h
  ·exact D h
  omega⟩
 refine (hT w Z Q Bc k0 (λ b r=>kf b (r.imp_left (N b).1)) ee (by rw [kn,k8]) (λ i x c hx hc=>?_)).mono ?_
 ·rw [aa7,zad] at hx;obtain ⟨y,hy,rfl⟩:=hx
  exact (gw i y c hy hc).im (λ b r=>⟨(e0 b r).1,λ ho=>by
   obtain ⟨j,O,w3⟩:=hz b ho
   exact (e0 b r).2.2 j O w3,(e0 b r).2.1⟩) hs
 rintro e w' ⟨c,ρ',rfl,hM,gs⟩;generalize k5:back s.ob u ids ro.length=Fb;generalize ea:gk s.ob u ids Fb 0 ro=K
 let G:Pl->Option Nat:=λ p=>match p with
  | .o i=>open Classical in if h:∃k,k<ro.length/\m0 u ids k=i then ρ' (1000000+h.choose:Nat) else ρ i
  | .s i j=>open Classical in if h:∃k,k<ro.length/\m0 u ids k=i then ρ' (.s (1000000+h.choose) j) else ρ (.s i j)
 have A:∀k,k<ro.length->ae5 ρ' G (1000000+k) (m0 u ids k):=λ k d=>by
  have gp:∃l,l<ro.length/\m0 u ids l=m0 u ids k:=⟨k,d,rfl⟩
  have:=gd _ _ gp.choose_spec.1 d gp.choose_spec.2;refine ⟨?_,λ j=>?_⟩
  ·simp only [G,dif_pos gp,this]
  simp only [G,dif_pos gp,this]
 have hN:∀i,(¬∃k,k<ro.length/\m0 u ids k=i)->ae5 ρ G i i/\K i=s.ob i:=λ i hi=>by
  refine ⟨⟨by simp only [G,dif_neg hi],λ j=>by simp only [G,dif_neg hi]⟩,?_⟩;rw [<- ea];exact asd λ j _ D e=>hi ⟨j,by omega,e⟩
 have hC:∀k o,ro[k]?=some o->K (m0 u ids k)=some (lf s.ob u ids k,imO Fb o):=λ k o d=>by
  have:=a1n (ob:=s.ob) (F:=Fb) gd (os:=ro) (k:=0) (j:=k) (o:=o) (by omega) d;rw [Nat.zero_add] at this;rw [<- ea];exact this
 have V:∀i x,K i=some x->(∃k o,ro[k]?=some o/\i=m0 u ids k/\x=(lf s.ob u ids k,imO Fb o))\/((¬∃k,k<ro.length/\m0 u ids k=i)/\s.ob i=some x):=λ i x hx=>by
  by_cases hi:∃k,k<ro.length/\m0 u ids k=i
  ·obtain ⟨k,d,rfl⟩:=hi;have hr:ro[k]?=some ro[k]:=by simp [d]
   rw [hC k _ hr] at hx;exact .inl ⟨k,_,hr,rfl,(zaf.inj hx).symm⟩
  rw [(hN i hi).2] at hx;exact .inr ⟨hi,hx⟩
 have h9:∀i,i∈ids->∃k,k<ro.length/\m0 u ids k=i:=λ i hi=>by
  obtain ⟨k,d⟩:=zab.1 hi;have:=(zaa.1 d).1;exact ⟨k,by omega,by simp [m0,d]⟩
 have ha:∀i x b,s.ob i=some x->foot ρ i x.2 b->b<w.heap.size:=λ i x b hi r=>I.foot_lt hi r;have ed:∀k o b,ro[k]?=some o->foot ρ' (1000000+k) o b->(∃i,i∈ids/\xb s.ob ρ i b)\/w.heap.size<=b:=λ k o b d r=>(hM.own _ _ _ b (l7 d) r).imp_left (N b).1
 have hw:∀b,Own K G b->Own (ob0 ro) ρ' b\/∃i v x,(¬∃k,k<ro.length/\m0 u ids k=i)/\s.ob i=some (v,x)/\x.own=true/\foot ρ i x b:=λ b ⟨i,v,x,E,D,L⟩=>by
  rcases V i _ E with ⟨k,o,d,rfl,hx⟩ | ⟨hi,hx⟩
  ·cases hx;have:=(zaa.1 d).1;rw [(A k this).foot (gt Fb o)] at L;exact .inl ⟨_,0,o,l7 d,by rw [<- a7o Fb]; exact D,L⟩
  rw [(hN i hi).1.foot rfl] at L;exact .inr ⟨i,v,x,hi,hx,D,L⟩
 have h5:ago (ob0 ro) K ρ' G Fb:=λ id ver i v hF=>by
  rw [<- k5] at hF;unfold back at hF;split at hF
  ·rename_i hc;obtain ⟨rfl,E,D⟩:=hc;cases hF;have hr:ro[id-1000000]?=some ro[id-1000000]:=by simp [D]
   have hg:=l7 hr;rw [show 1000000+(id-1000000)=id by omega] at hg;refine ⟨_,_,hg,hC _ _ hr,?_,bt.im Fb _⟩;rw [(A _ D).1,show 1000000+(id-1000000)=id by omega]
  cases hF
 have U:∀b,g9 X.B s.ob ρ w b->¬∃i,i∈ids/\xb s.ob ρ i b:=λ b r ⟨i,hi,w5⟩=>r.2.1 (hm i hi b w5);have R:∀b,b<w.heap.size->(¬∃i,i∈ids/\xb s.ob ρ i b)->w'.heap[b]?=w.heap[b]?:=λ b E D=>hM.keeps.block b E λ hh=>D ((N b).1 hh)
 have ka:∀b,g9 X.B s.ob ρ w b->g9 X.B K G w' b:=λ b r=>by
  refine ⟨Nat.lt_of_lt_of_le r.1 hM.keeps.size,λ ho=>?_,r.2.2⟩;rcases hw b ho with ⟨id,v,o,E,D,L⟩ | ⟨i,v,x,_,E,D,L⟩
  ·rcases hM.own id v o b E L with h | h
   ·exact U b r ((N b).1 h)
   have:=r.1; simp only at h; omega
  exact r.2.1 ⟨i,v,x,E,D,L⟩
 have hq:(bj res/\∀o∈ro,jt o)\/∀b,g9 Bc (ob0 ro) ρ' w' b->g9 X.B K G w' b:=by
  refine e4.imp_right λ hf b r=>⟨r.1,λ ho=>?_,?_⟩
  ·rcases hw b ho with h | ⟨i,v,x,hi,E,D,L⟩
   ·exact r.2.1 h
   rcases hf b r.2.2 with h | ⟨j,O,C⟩ | h
   ·exact h.2.1 ⟨i,v,x,E,D,L⟩
   ·obtain ⟨k,d⟩:=zab.1 O;obtain ⟨⟨v0,y⟩,H,C⟩:=C;have:=I.inj i j _ _ b E H L C;subst this;exact hi (h9 i O)
   have:=ha i _ b E L; omega
  rcases hf b r.2.2 with h | ⟨j,O,C⟩ | h
  ·exact h.2.2
  ·obtain ⟨k,d⟩:=zab.1 O;obtain ⟨⟨v0,y⟩,H,C⟩:=C;exact I.base b (I.own j _ _ b H C)
  exact I.base b (.inr (Nat.le_trans I.keeps.size h))
 have e1:Stays w w' (g9 X.B s.ob ρ w) (g9 X.B K G w') s.ob K ρ G:=by
  refine ⟨λ b r=>⟨ka b r,R b r.1 (U b r)⟩,λ i v x hx=>?_⟩;by_cases hi:∃k,k<ro.length/\m0 u ids k=i
  ·obtain ⟨k,d,rfl⟩:=hi;have hr:ro[k]?=some ro[k]:=by simp [d]
   refine ⟨_,_,hC k _ hr,?_,?_⟩
   ·unfold lf;rcases hki:ids[k]? with _ | j
    ·have:m0 u ids k=100000+1000*u+k:=by simp [m0,hki]
     rw [this] at hx;exact Nat.le_of_lt (ab2 hx)
    have:m0 u ids k=j:=by simp [m0,hki]
    rw [this] at hx;simp only [hx];cases x with
    | row sz z app wr xs=>cases app<;>simp [mv]
    | _=>simp [mv]
   intro hv;unfold lf at hv;rcases hki:ids[k]? with _ | j
   ·have:m0 u ids k=100000+1000*u+k:=by simp [m0,hki]
    rw [this] at hx;simp only [hki] at hv;have:=ab2 hx;omega
   have hd:m0 u ids k=j:=by simp [m0,hki]
   rw [hd] at hx |-;simp only [hki,hx] at hv;obtain ⟨v0,y,ge,H,g2,g3,g4⟩:=J k j hki;rw [hx] at H;cases H
   have h6:x.pinned=true:=by
    cases x with
    | row sz z app wr xs=>cases app<;>first | rfl | (simp [mv] at hv)
    | _=>rfl
   obtain ⟨b,S⟩:∃b,ρ j=some b:=by
    have W:=I.obj j v _ hx;cases x with
    | row sz z app wr xs=>
      rcases W with ⟨_,_,L⟩ | ⟨b,cs,e,fr,h,_⟩
      ·subst L; cases h6
      exact ⟨b,h⟩
    | box cells=>obtain ⟨b,cs,e,h,_⟩:=W; exact ⟨b,h⟩
    | abs T=>obtain ⟨b,h,_⟩:=W; exact ⟨b,h⟩
    | map _ _=>obtain ⟨b,h,_⟩:=W; exact ⟨b,h⟩
    | iter _ _ _ _=>obtain ⟨b,m',h,_⟩:=W; exact ⟨b,h⟩
   have g6:=hM.pin (1000000+k) b (by
    simp only [pu,l7 g3,g4]
    rw [if_pos (by rw [ai4]; exact h6),(h8 k j hki).1,S])
   obtain ⟨ht,o',ga,e8,gu⟩:=g6;rw [l7 hr] at ga;have gb:ro[k]=o':=by have:=zaf.inj ga; exact (Prod.mk.inj this).2
   have hA:=A k d;rw [hd] at hA;refine ⟨by rw [hA.1,ht,S],?_,λ b' kd e' ex M hu=>?_⟩
   ·have n:=g5 k ge ro[k] g3 hr;rw [g4] at n
    revert n
    generalize ro[k]=q;intro n;cases x with
    | row sz z app wr xs=>
      rcases n with h | ⟨z',ks,kv,rfl,h⟩
      ·subst h; cases h6
      exact ⟨rfl,h⟩
    | box _=>cases q<;>first | exact n.elim | trivial
    | abs _=>cases q<;>first | exact n.elim | exact n
    | map _ _=>cases q<;>first | exact n.elim | trivial
    | iter _ _ _ _=>cases q<;>first | exact n.elim | trivial
   rw [S] at M;cases M;have n:=g5 k ge ro[k] g3 hr;rw [g4,gb] at n;have gq:=hM.obj (1000000+k) 0 o' (by rw [l7 hr,gb]);have W:=I.obj j v _ hx;cases x with
   | row sz z app wr xs=>
     rcases n with h | ⟨z',ks,kv,rfl,h⟩
     ·subst h; cases h6
     exact gu rfl kd e' ex hu
   | box cells=>
     cases o' with
     | row _ _ _ _ _=>exact n.elim
     | abs _=>exact n.elim
     | map _ _=>exact n.elim
     | iter _ _ _ _=>exact n.elim
     | box cells'=>
       obtain ⟨b1,cs,e,k1,k2,k3,_⟩:=W;rw [S] at k1; cases k1;rw [hu] at k2; cases k2;obtain ⟨b2,gx,e2,f1,f2,f3,_⟩:=gq;rw [ht] at f1; cases f1;refine ⟨gx,e2,_,f2,?_⟩;have n:cells'.length=(imL (fwd s.ob ids) cells).length:=n;rw [f3,k3,n,kn]
   | abs T=>
     cases o' with
     | row _ _ _ _ _=>exact n.elim
     | box _=>exact n.elim
     | map _ _=>exact n.elim
     | iter _ _ _ _=>exact n.elim
     | abs T'=>
       obtain ⟨b1,k1,k2⟩:=W;rw [S] at k1; cases k1;obtain ⟨cs,e,k3,k4⟩:=T.root k2;rw [hu] at k3; cases k3;obtain ⟨b2,f1,f2⟩:=gq;rw [ht] at f1; cases f1;obtain ⟨gx,e2,f3,f4⟩:=T'.root f2;have n:T'.size=T.size:=n;exact ⟨gx,e2,_,f3,by rw [f4,k4,n]⟩
   | map es c=>
     obtain ⟨b1,k1,k2⟩:=W;rw [S] at k1; cases k1;rw [hu] at k2; cases k2
   | iter m since seen st=>
     obtain ⟨b1,m',k1,k2,_⟩:=W;rw [S] at k1; cases k1;rw [hu] at k2; cases k2
  refine ⟨v,x,by rw [(hN i hi).2,hx],zac _,λ _=>⟨(hN i hi).1.1,bt.refl x,λ b cs e fr r hh=>⟨cs,e,fr,?_,rfl⟩⟩⟩;have r:foot ρ i x b:=.inl r;rw [R b (ha i _ b hx r),hh];rintro ⟨j,O,C⟩;obtain ⟨k,d⟩:=zab.1 O;obtain ⟨⟨v0,y⟩,H,C⟩:=C;have:=I.inj i j _ _ b hx H r C;subst this;exact hi (h9 i O)
 have e9:∀k o,ro[k]?=some o->il w' (g9 X.B K G w') K G (m0 u ids k) (imO Fb o):=λ k o d=>by
  have gn:=(zaa.1 d).1;have h0:=hM.obj _ _ _ (l7 d);rcases hq with ⟨_,hf⟩ | hf
  ·exact (h0.flat (R':=g9 X.B K G w') (hf o (zae d))).im (λ _ h=>h) h5 (A k gn).1 (A k gn).2
  exact h0.im hf h5 (A k gn).1 (A k gn).2
 refine ⟨c,G,rfl,⟨⟨λ i v x hx=>?_,λ i j x y b hx hy r M=>?_,?_,λ i v x b hx r=>?_,λ i b hp=>?_⟩,I.sz,I.df,λ t=>(I.env t).stays e1,I.pnn,I.small,I.base⟩,?_⟩
 ·rcases V i _ hx with ⟨k,o,d,rfl,Y⟩ | ⟨hi,Y⟩
  ·cases Y;exact e9 k o d
  refine (I.obj i v x Y).stays e1 (hN i hi).1.1 (hN i hi).1.2 λ b r=>R b (ha i _ b Y r) ?_;rintro ⟨j,O,C⟩;obtain ⟨k,d⟩:=zab.1 O;obtain ⟨⟨v0,y⟩,H,C⟩:=C;have:=I.inj i j _ _ b Y H r C;subst this;exact hi (h9 i O)
 ·have g0:∀k o i x b,ro[k]?=some o->(¬∃l,l<ro.length/\m0 u ids l=i)->s.ob i=some x->foot ρ' (1000000+k) o b->foot ρ i x.2 b->False:=λ k o i x b d hi hx E D=>by
   rcases ed k o b d E with ⟨j,O,C⟩ | h
   ·obtain ⟨l,hl⟩:=zab.1 O;obtain ⟨⟨v0,y⟩,H,C⟩:=C;have:=I.inj i j _ _ b hx H D C;subst this;exact hi (h9 i O)
   have:=ha i _ b hx D; omega
  rcases V i _ hx with ⟨k,o,d,rfl,rfl⟩ | ⟨hi,Y⟩<;>rcases V j _ hy with ⟨l,q,hl,rfl,rfl⟩ | ⟨O,eb⟩
  ·have E:=(zaa.1 d).1;have D:=(zaa.1 hl).1;rw [(A k E).foot (gt Fb _)] at r;rw [(A l D).foot (gt Fb _)] at M;have:=hM.inj _ _ _ _ b (l7 d) (l7 hl) r M;rw [show k=l by omega]
  ·have E:=(zaa.1 d).1;rw [(A k E).foot (gt Fb _)] at r;rw [(hN j O).1.foot rfl] at M;exact (g0 k o j _ b d O eb r M).elim
  ·have D:=(zaa.1 hl).1;rw [(A l D).foot (gt Fb _)] at M;rw [(hN i hi).1.foot rfl] at r;exact (g0 l q i _ b hl hi Y M r).elim
  rw [(hN i hi).1.foot rfl] at r;rw [(hN j O).1.foot rfl] at M;exact I.inj i j _ _ b Y eb r M
 ·have d:=I.keeps;refine ⟨hM.keeps.os.trans d.os,hM.keeps.tape.trans d.tape,hM.keeps.output.trans d.output,Nat.le_trans d.size hM.keeps.size,λ b r hI=>?_⟩;rw [R b (Nat.lt_of_lt_of_le r d.size),d.block b r hI];rintro ⟨j,O,C⟩;obtain ⟨k,gy⟩:=zab.1 O;obtain ⟨⟨v0,y⟩,H,C⟩:=C;rcases I.own j _ _ b H C with h | h
  ·exact hI h
  omega
 ·rcases V i _ hx with ⟨k,o,d,rfl,ew⟩ | ⟨hi,Y⟩
  ·cases ew;rw [(A k (zaa.1 d).1).foot (gt Fb _)] at r;rcases ed k o b d r with ⟨j,O,C⟩ | h
   ·obtain ⟨l,hl⟩:=zab.1 O;obtain ⟨⟨v0,y⟩,H,C⟩:=C;exact I.own j _ _ b H C
   exact .inr (Nat.le_trans I.keeps.size h)
  rw [(hN i hi).1.foot rfl] at r;exact I.own i v x b Y r
 ·show G i=some b/\∃o,K i=some (0,o)/\o.pinned=true/\(o.isRow=true->zl X.w0 w' b);obtain ⟨E,x,D,h6,em⟩:=I.pin i b hp;by_cases hi:∃k,k<ro.length/\m0 u ids k=i
  ·obtain ⟨k,d,rfl⟩:=hi;have hr:ro[k]?=some ro[k]:=by simp [d]
   rcases hki:ids[k]? with _ | j
   ·have hd:m0 u ids k=100000+1000*u+k:=by simp [m0,hki]
    rw [hd,I.pnn _ (asm (by omega))] at hp;cases hp
   have hd:m0 u ids k=j:=by simp [m0,hki]
   rw [hd] at E D |-;obtain ⟨v0,y,ge,H,g2,g3,g4⟩:=J k j hki;rw [D] at H;cases H
   have g6:=hM.pin (1000000+k) b (by
    simp only [pu,l7 g3,g4]
    rw [if_pos (by rw [ai4]; exact h6),(h8 k j hki).1,E])
   obtain ⟨ht,o',ga,e8,gu⟩:=g6;rw [l7 hr] at ga;have gb:ro[k]=o':=by have:=zaf.inj ga; exact (Prod.mk.inj this).2
   have hA:=A k d;have e6:=hC k _ hr;rw [hd] at hA e6;refine ⟨by rw [hA.1,ht],imO Fb o',?_,by rw [ai4]; exact e8,λ h7=>?_⟩
   rotate_left
   ·rw [ara] at h7;have n:=g5 k ge ro[k] g3 hr;rw [g4,gb] at n
    have w2:x.isRow=true:=by
     cases x with
     | row _ _ _ _ _=>rfl
     | box _=>cases o'<;>first | exact n.elim | cases h7
     | abs _=>cases o'<;>first | exact n.elim | cases h7
     | map _ _=>cases o'<;>first | exact n.elim | cases h7
     | iter _ _ _ _=>cases o'<;>first | exact n.elim | cases h7
    exact (em w2).trans (gu h7)
   rw [e6,gb];cases x with
   | row sz z app wr xs=>cases app<;>first | (cases h6; done) | simp [lf,hki,D,mv]
   | box cells=>simp [lf,hki,D,mv]
   | abs T=>simp [lf,hki,D,mv]
   | map es c=>simp [lf,hki,D,mv]
   | iter m since seen st=>simp [lf,hki,D,mv]
  rw [(hN i hi).1.1,(hN i hi).2];refine ⟨E,x,D,h6,λ h7=>(em h7).trans ?_⟩;have r:foot ρ i x b:=.inl E
  have he:w'.heap[b]?=w.heap[b]?:=R b (ha i _ b D r) (by
   rintro ⟨j,O,C⟩;obtain ⟨k,d⟩:=zab.1 O;obtain ⟨⟨v0,y⟩,H,C⟩:=C;have:=I.inj i j _ _ b D H r C;subst this
   exact hi (h9 i O))
  intro cs e fr hc;exact ⟨cs,e,fr,by rw [he]; exact hc,rfl⟩
 rcases hq with ⟨hf,_⟩ | hf
 ·exact (gs.flat (R':=g9 X.B K G w') hf).im (λ _ h=>h) h5
 exact gs.im hf h5
end

def xz (ver a:Nat):Option (Nat×Ob)->Option (Nat×Nat)
 | some (v,_)=>if ver=v then some (a,0) else none
 | none=>none
def aae (np lb:Nat) (ob:Obs) (ids:List Nat):Ren:=λ id ver=>
 if 1000000<=id/\id<1000000+np then xz ver id (ob id)
 else match idx id ids with
  | some k=>xz ver (lb+k) (ob id)
  | none=>none
def aex (F:Ren):Option (Nat×Ob)->Option Ob
 | some (_,o)=>some (imO F o)
 | none=>none
def vz (F:Ren) (ob:Obs):List Nat->Option (List Ob)
 | []=>some []
 | i::is=>match aex F (ob i),vz F ob is with
   | some o,some os=>some (o::os)
   | _,_=>none
theorem auw {F:Ren} {ob:Obs}:∀{ids:List Nat} {po:List Ob},vz F ob ids=some po->po.length=ids.length/\∀(k i:Nat) (o:Ob),ids[k]?=some i->po[k]?=some o->∃v x,ob i=some (v,x)/\o=imO F x
 | [],po,h=>by simp [vz] at h; subst h; simp
 | j::ids,po,h=>by
   simp only [vz] at h;split at h
   ·rename_i o os a d;cases h;obtain ⟨e,f⟩:=auw d;refine ⟨by simp [e],λ k i q c b=>?_⟩;cases k with
    | zero=>
      simp at c b;subst c; subst b;rcases hj:ob j with _ | ⟨v,x⟩
      ·rw [hj] at a; cases a
      rw [hj] at a;cases a;exact ⟨v,x,rfl,rfl⟩
    | succ k=>simp at c b; exact f k i q c b
   cases h
def fj (np:Nat):Nat->List Nat
 | 0=>[]
 | n+1=>(1000000+(np-(n+1)))::fj np n
theorem av5 {np:Nat}:∀{n k:Nat},n<=np->k<n->(fj np n)[k]?=some (1000000+(np-n+k))
 | 0,k,_,h=>by omega
 | n+1,0,h,_=>by simp [fj]
 | n+1,k+1,h,hk=>by
   simp only [fj,List.getElem?_cons_succ];rw [av5 (by omega) (by omega)];congr 1;omega
theorem asl {np:Nat}:∀{n:Nat},(fj np n).length=n
 | 0=>rfl
 | n+1=>by simp [fj,asl]
def ab8 (np i:Nat):Bool:=decide (1000000<=i/\i<1000000+np)
def ql (np:Nat) (l:List Nat):List Nat:=l.filter λ i=>!ab8 np i
def nrm (a np lb:Nat) (vs:List AV) (ob:Obs):Option (List AV×List Ob×List Ob):=
 let ids:=ql np (s9 ob a (o6 vs++fj np np) [])
 let F:=aae np lb ob ids
 match vz F ob (fj np np),vz F ob ids with
 | some pos,some los=>some (imL F vs,pos,los)
 | _,_=>none
def ef:Nat->List Ob->Obs->Obs
 | _,[],ob=>ob
 | k,o::os,ob=>upd k (0,o) (ef (k+1) os ob)
theorem ao8:∀{os:List Ob} {k id:Nat} {ob:Obs},(id<k\/k+os.length<=id)->ef k os ob id=ob id
 | [],k,id,ob,h=>rfl
 | o::os,k,id,ob,h=>by
   simp at h;unfold ef upd;rw [if_neg (by omega)];exact ao8 (by omega)
theorem akh:∀{os:List Ob} {k j:Nat} {o:Ob} {ob:Obs},os[j]?=some o->ef k os ob (k+j)=some (0,o)
 | [],k,j,o,ob,h=>by simp at h
 | q::os,k,0,o,ob,h=>by simp at h; subst h; simp [ef,upd]
 | q::os,k,j+1,o,ob,h=>by
   simp at h;unfold ef upd;rw [if_neg (by omega),show k+(j+1)=k+1+j by omega];exact akh h
theorem ajq (ob:Obs):∀(f:Nat) (d c:List Nat),c.Nodup->(s9 ob f d c).Nodup
 | 0,_,c,h=>h
 | _+1,[],c,h=>h
 | n+1,i::d,c,h=>by
   unfold s9;split
   ·exact ajq ob n d c h
   rename_i hc;refine ajq ob n _ _ ?_;rw [List.nodup_append];refine ⟨h,by simp,λ a j b g=>?_⟩;simp at g;subst g;intro e;subst e;simp at hc;exact hc j
variable {i:Nat} {l:List Nat}
theorem anl (h:l.Nodup) {j x:Nat} (hi:l[i]?=some x) (k:l[j]?=some x):i=j:=by
 have g:=(zaa.1 hi)
 have f:=(zaa.1 k)
 obtain ⟨e,b⟩:=g;obtain ⟨d,c⟩:=f;rcases Nat.lt_trichotomy i j with a | rfl | a
 ·exact absurd (by rw [b,c]) (List.pairwise_iff_getElem.1 h i j e d a)
 ·rfl
 exact absurd (by rw [b,c]) (List.pairwise_iff_getElem.1 h j i d e a)
section
variable {P:Program} {X:Cx} {w w':World} {s:St} {ρ ρ':Pl->Option Nat} {a:Act} {ob ob':Obs} {R R':Nat->Prop}
theorem Mem.nrm (M:Mem X ob ρ w) {z np lb:Nat} {vs H:List AV} {pos d:List Ob} (h:nrm z np lb vs ob=some (H,pos,d)) (h8:1000000+np<=lb) (U:∀id b,X.pn id=some b->1000000<=id/\id<1000000+np) :
 ∃ρ',Mem X (ef 1000000 pos (ef lb d λ _=>none)) ρ' w/\H.length=vs.length/\pos.length=np /\
  ∀(i:Nat) (x y:AV) (c:Value),vs[i]?=some x->H[i]?=some y->RelA w (g9 X.B ob ρ w) ob ρ x c->RelA w (g9 X.B (ef 1000000 pos (ef lb d λ _=>none)) ρ' w) (ef 1000000 pos (ef lb d λ _=>none)) ρ' y c:=by
 unfold Ev.nrm at h;generalize br:ql np (s9 ob z (o6 vs++fj np np) [])=ids at h;simp only at h;generalize hF:aae np lb ob ids=F at h;split at h
 ·rename_i h6 h7 hp hl;cases h;obtain ⟨p1,p2⟩:=auw hp;obtain ⟨l1,l2⟩:=auw hl;rw [asl] at p1
  have W:ids.Nodup:=by
   rw [<- br];exact (ajq ob z _ [] (by simp)).filter _
  have P:∀i,i∈ids->¬(1000000<=i/\i<1000000+np):=λ i hi=>by
   rw [<- br] at hi;simp [ql,ab8] at hi;intro hc;have:=hi.2;omega
  generalize A:ef 1000000 pos (ef lb d λ _=>none)=t
  let g:Pl->Option Nat:=λ p=>match p with
   | .o i=>if 1000000<=i/\i<1000000+np then ρ i else if lb<=i then (ids[i-lb]?).bind λ i=>ρ (.o i) else none
   | .s i j=>if 1000000<=i/\i<1000000+np then ρ (.s i j) else if lb<=i then (ids[i-lb]?).bind λ i=>ρ (.s i j) else none
  have S:∀k o,pos[k]?=some o->t (1000000+k)=some (0,o)/\ae5 ρ g (1000000+k) (1000000+k)/\∃v x,ob (1000000+k)=some (v,x)/\o=imO F x:=λ k o m=>by
   have E:=(zaa.1 m).1;refine ⟨by rw [<- A]; exact akh m,⟨by simp only [g]; rw [if_pos (by omega)],λ j=>by simp only [g]; rw [if_pos (by omega)]⟩,?_⟩;have:=av5 (np:=np) (n:=np) (k:=k) (zac _) (by omega);rw [Nat.sub_self,Nat.zero_add] at this;exact p2 k _ o this m
  have hL:∀k o,d[k]?=some o->t (lb+k)=some (0,o)/\∃i v x,ids[k]?=some i/\ae5 ρ g i (lb+k)/\ob i=some (v,x)/\o=imO F x:=λ k o m=>by
   have E:=(zaa.1 m).1;have hi:ids[k]?=some (ids[k]'(by omega)):=by simp [show k<ids.length by omega]
   obtain ⟨v,x,l,f⟩:=l2 k _ o hi m;refine ⟨?_,_,v,x,hi,?_,l,f⟩
   ·rw [<- A,ao8 (by omega)];exact akh m
   refine ⟨?_,λ j=>?_⟩
   ·simp only [g];rw [if_neg (by omega),if_pos (by omega),show lb+k-lb=k by omega,hi]
    rfl
   simp only [g];rw [if_neg (by omega),if_pos (by omega),show lb+k-lb=k by omega,hi]
   rfl
  have J:∀id x,t id=some x->(∃k,pos[k]?=some x.2/\id=1000000+k/\x.1=0)\/(∃k,d[k]?=some x.2/\id=lb+k/\x.1=0):=λ id x hx=>by
   rw [<- A] at hx;by_cases r:1000000<=id/\id<1000000+np
   ·have m:pos[id-1000000]?=some (pos[id-1000000]'(by omega)):=by simp [show id-1000000<pos.length by omega]
    have:=akh (k:=1000000) (ob:=ef lb d λ _=>none) m;rw [show 1000000+(id-1000000)=id by omega,hx] at this;cases this;exact .inl ⟨_,m,by omega,rfl⟩
   rw [ao8 (by omega)] at hx;by_cases K:lb<=id/\id<lb+d.length
   ·have m:d[id-lb]?=some (d[id-lb]'(by omega)):=by simp [show id-lb<d.length by omega]
    have:=akh (k:=lb) (ob:=λ _=>none) m;rw [show lb+(id-lb)=id by omega,hx] at this;cases this;exact .inr ⟨_,m,by omega,rfl⟩
   rw [ao8 (by omega)] at hx;cases hx
  have q:∀id x,t id=some x->∃i v y,ob i=some (v,y)/\x=(0,imO F y)/\ae5 ρ g i id/\((id=i/\1000000<=i/\i<1000000+np)\/(∃k,ids[k]?=some i/\id=lb+k)):=λ id x hx=>by
   rcases J id x hx with ⟨k,r,rfl,I⟩ | ⟨k,r,rfl,I⟩
   ·obtain ⟨l,f,v,y,e,u⟩:=S k _ r;have E:=(zaa.1 r).1;exact ⟨_,v,y,e,Prod.ext I u,f,.inl ⟨rfl,by omega,by omega⟩⟩
   obtain ⟨l,i,v,y,f,e,u,R⟩:=hL k _ r;exact ⟨i,v,y,u,Prod.ext I R,e,.inr ⟨k,f,rfl⟩⟩
  have D:ago ob t ρ g F:=λ id ver i v a=>by
   rw [<- hF] at a;unfold aae at a;split at a
   ·rename_i hc;rcases ho:ob id with _ | ⟨v0,y⟩
    ·rw [ho] at a; cases a
    rw [ho] at a;simp only [xz] at a;split at a
    ·rename_i hv;cases a;subst hv;have m:pos[id-1000000]?=some (pos[id-1000000]'(by omega)):=by simp [show id-1000000<pos.length by omega]
     obtain ⟨l,f,v1,y1,e,u⟩:=S _ _ m;rw [show 1000000+(id-1000000)=id by omega] at l f e;rw [ho] at e;cases e;exact ⟨_,_,rfl,l,f.1,by rw [u]; exact bt.im F _⟩
    cases a
   split at a
   ·rename_i k m;have N:=alr m;rcases ho:ob id with _ | ⟨v0,y⟩
    ·rw [ho] at a; cases a
    rw [ho] at a;simp only [xz] at a;split at a
    ·rename_i hv;cases a;subst hv;have E:=(zaa.1 N).1;have Q:d[k]?=some (d[k]'(by omega)):=by simp [show k<d.length by omega]
     obtain ⟨l,i,v1,y1,f,e,u,R⟩:=hL k _ Q;rw [N] at f;cases f;rw [ho] at u;cases u;exact ⟨_,_,rfl,l,e.1,by rw [R]; exact bt.im F _⟩
    cases a
   cases a
  have hR:∀b,g9 X.B ob ρ w b->g9 X.B t g w b:=λ b hb=>⟨hb.1,λ ⟨id,v,o,r,K,I⟩=>by
   obtain ⟨i,L,y,l,f,e,_⟩:=q id _ r;cases f;rw [a7o] at K
   exact hb.2.1 ⟨i,L,y,l,K,(e.foot (gt F y)).1 I⟩,hb.2.2⟩
  refine ⟨g,⟨λ id v o hx=>?_,λ id T x x' b r K I h4=>?_,M.keeps,λ id v o b r K=>?_,λ id b r=>?_⟩,by rw [kn],p1,λ i x y c hx hy hr=>?_⟩
  ·obtain ⟨i,L,y,l,f,e,_⟩:=q id _ hx;cases f;exact (M.obj i L y l).im hR D e.1 e.2
  ·obtain ⟨i,v,y,l,f,e,u⟩:=q id _ r;obtain ⟨i',L,y',h0,h5,Z,Y⟩:=q T _ K;have:=M.inj i i' _ _ b l h0 ((e.foot (by rw [f]; exact gt F y)).1 I) ((Z.foot (by rw [h5]; exact gt F y')).1 h4);subst this;rcases u with ⟨rfl,O,q2⟩ | ⟨k,O,rfl⟩<;>rcases Y with ⟨rfl,C,V⟩ | ⟨k',C,rfl⟩
   ·rfl
   ·exact absurd ⟨O,q2⟩ (P _ (zae C))
   ·exact absurd ⟨C,V⟩ (P _ (zae O))
   rw [anl W O C]
  ·obtain ⟨i,L,y,l,f,e,_⟩:=q id _ r;exact M.own i L y b l ((e.foot (by rw [show o=imO F y from congrArg Prod.snd f]; exact gt F y)).1 K)
  ·obtain ⟨O,q2⟩:=U id b r;obtain ⟨e1,G,e2,e3⟩:=M.pin id b r;have m:pos[id-1000000]?=some (pos[id-1000000]'(by omega)):=by simp [show id-1000000<pos.length by omega]
   obtain ⟨l,f,v1,y1,e,u⟩:=S _ _ m;rw [show 1000000+(id-1000000)=id by omega] at l f e;rw [e2] at e;cases e;exact ⟨by rw [f.1,e1],imO F G,by rw [l,u],by rw [ai4]; exact e3.1,by rw [ara]; exact e3.2⟩
  rw [aa7,hx] at hy;cases hy;exact hr.im hR D
 cases h
end

inductive PX where
 | see (o:PO)
 | act (o:PO)
 | call (f:FuncId) (args:List Opd)
 | callv (x:Opd) (args:List Opd)
 | inv (tbl:List (TypeId×FuncId)) (x:Opd) (args:List Opd)
 | nxt (x:Opd)
structure PR where
 d:Option Nat
 g:Option (Nat×Bool)
 u:Nat
 x:PX
inductive PC where
 | skip
 | reg (ops:List PR)
 | seq (a b:PC)
 | cond (x:Opd) (a b:PC)
 | block (id:Nat) (c:PC)
 | loop (c:PC)
 | exit (id:Nat)
 | ret
 | drw (ops:List PR) (pre:List (List Nat))
inductive Ex where
 | nor
 | ex (id:Nat)
 | rt
def t5 (d:Option Nat) (x:AV) (e:Env):Env:=match d with
 | some d=>put d x e
 | none=>e
def ah0 (b:Bool):AV->Option Bool
 | .r (.v (.bool x))=>some (bif b then x else !x)
 | .gd h (.r (.v (.bool x)))=>some (h&&(bif b then x else !x))
 | _=>none
def yes (e:Env):Option (Nat×Bool)->Option Bool
 | none=>some true
 | some (t,b)=>ah0 b (e t)
def gdv (g:Option (Nat×Bool)) (b:Bool) (x:AV):AV:=match g with
 | none=>x
 | some _=>.gd b x
def okC (u:Nat) (ids:List Nat) (m:Nat) (l:List Nat) (a:Bool):Bool:=
 decide (ids.length<=m)&&decide (((zah m).map (m0 u ids)).Nodup)&&decide (100000+1000*u+m<=1000000)&&(a||l.all λ i=>!ids.contains i)
def ct:List Ob->List Ob->Prop
 | .box a::xs,.box b::ys=>b.length=a.length/\ct xs ys
 | .abs T::xs,.abs T'::ys=>T'.size=T.size/\ct xs ys
 | .map _ _::xs,.map _ _::ys=>True/\ct xs ys
 | .iter _ _ _ _::xs,.iter _ _ _ _::ys=>True/\ct xs ys
 | .box _::_,_::_=>False
 | .abs _::_,_::_=>False
 | .map _ _::_,_::_=>False
 | .iter _ _ _ _::_,_::_=>False
 | .row sz _ false _ l::xs,.row sz' _ false _ l'::ys=>(sz'=sz/\l.length<=l'.length)/\ct xs ys
 | .row _ _ false _ _::_,_::_=>False
 | _::xs,_::ys=>ct xs ys
 | _,_=>True
def aht (P:Program) (f:FuncId) (u:Nat) (ob:Obs) (ids:List Nat) (as:List AV) (l:List Nat) (a:Bool) (K:AV->Obs->Prop):Option (List Ob)->Prop
 | none=>False
 | some po=>∃res ro,a8 P f as po res ro/\okC u ids ro.length l a=true/\ct po ro/\(a=false->bj res/\∀o∈ro,jt o)/\K (imV (back ob u ids ro.length) res) (gk ob u ids (back ob u ids ro.length) 0 ro)
def pd (P:Program) (f:FuncId) (u:Nat) (ob:Obs) (as:List AV) (l:List Nat) (a:Bool) (K:AV->Obs->Prop):Prop:=
 aht P f u ob (s9 ob 64 (o6 as) []) (imL (fwd ob (s9 ob 64 (o6 as) [])) as) l a K (ao (fwd ob (s9 ob 64 (o6 as) [])) ob (s9 ob 64 (o6 as) []))
def bnx (P:Program) (f:FuncId) (u:Nat) (ob:Obs) (vs:List AV) (K:AV->Obs->Prop):Prop:=
 ∃id v z a,ob id=some (v,.row 1 z true true (a.map RV.v))/\a≠[]/\∀m,pd P f u (upd id (v,.box (a.map (λ x=>AV.r (.v x))++zai m .undef)) ob) vs [] true K
def bny (P:Program) (f:FuncId) (u:Nat) (ob:Obs) (vs:List AV) (K:AV->Obs->Prop):Prop:=
 ∃id v sz z a,ob id=some (v,.row sz z true true a)/\a≠[]/\pd P f u (upd id (v,.row sz z false true a) ob) vs [] true K
def ajj (P:Program) (f:FuncId) (u:Nat) (ob:Obs) (K:AV->Obs->Prop) (vs:List AV):Option (List AV×List Nat)->Prop
 | none=>pd P f u ob vs [] true K
 | some (as,[])=>pd P f u ob as [] true K
 | some (as,i::l)=>pd P f u (freeze ob (i::l)) as (i::l) true K\/pd P f u ob as (i::l) false K\/pd P f u ob vs [] true K\/bnx P f u ob vs K\/bny P f u ob vs K
def ab9 (P:Program) (f:FuncId):Bool:=match P.funcs[f]? with
 | some fn => fn.body.isSome && !(fn.name == "runtime.NumGoroutine")
 | none=>false
def a5h (P:Program) (u:Nat) (ob:Obs) (vs:List AV) (K:AV->Obs->Prop):AV->Prop
 | .fn (.func f) cap k=>ab9 P f=true/\ajj P f u ob K (cap.take k++(vs++cap.drop k)) (q7 ob (cap.take k++(vs++cap.drop k)))
 | _=>False
def ja (t:TypeId):List (TypeId×FuncId)->Option FuncId
 | []=>none
 | (t',f)::r=>if t'=t then some f else ja t r
def apr (P:Program) (tbl:List (TypeId×FuncId)) (u:Nat) (ob:Obs) (vs:List AV) (K:AV->Obs->Prop):AV->Prop
 | .ifc t x=>match ja t tbl with
   | some f=>ajj P f u ob K (x::vs) (q7 ob (x::vs))
   | none=>False
 | _=>False
def go (es:List MapEntry) (a:List Nat):List MapEntry:=es.filter λ e=>!a.contains e.born
def bbo (id ver:Nat) (ob:Obs) (m:AV) (a:Nat) (b:List Nat) (d:Nat) (K:AV->Obs->Prop):Option (List MapEntry×Nat)->Prop
 | some (es,c)=>(∀e,e∈es->e.born<a)/\a<=d/\(go es b=[]->K (.tup [bl false]) ob) /\
  ∀e,e∈go es b->K (.tup [bl true,.r (pe e.key),.r (pe e.val)]) (upd id (ver,.iter m a (b++[e.born]) c) ob)
 | none=>False
def a34 (id ver:Nat) (ob:Obs) (K:AV->Obs->Prop):Option (AV×Nat×List Nat×Nat)->Prop
 | some (.mp mid mver,since,seen,st)=>bbo id ver ob (.mp mid mver) since seen st K (ai ob mid mver)
 | _=>False
def ayr (ob:Obs) (K:AV->Obs->Prop):AV->Prop
 | .ptr id ver 0=>a34 id ver ob K (gr ob id ver)
 | _=>False
def PX.wp (P:Program) (r:PR) (s:St) (K:St->Prop) (b:Bool):PX->Prop
 | .see o=>(o.see b s.e s.ob).ok/\K ⟨t5 r.d (gdv r.g b (o.see b s.e s.ob).v) s.e,s.ob⟩
 | .act o=>(b=true->(o.act (r.d.getD 0) s.e s.ob).ok/\K ⟨t5 r.d (o.act (r.d.getD 0) s.e s.ob).v s.e,(o.act (r.d.getD 0) s.e s.ob).ob⟩)/\(b=false->K ⟨t5 r.d .undef s.e,s.ob⟩)
 | .call f args=>(b=true->eu true s.e args/\ajj P f r.u s.ob (λ v ob=>K ⟨t5 r.d v s.e,ob⟩) (n7 s.e args) (q7 s.ob (n7 s.e args)))/\(b=false->K ⟨t5 r.d .undef s.e,s.ob⟩)
 | .callv x args=>(b=true->(x.ev s.e).may true/\eu true s.e args/\a5h P r.u s.ob (n7 s.e args) (λ v ob=>K ⟨t5 r.d v s.e,ob⟩) (x.ev s.e).bare)/\(b=false->K ⟨t5 r.d .undef s.e,s.ob⟩)
 | .inv tbl x args=>(b=true->(x.ev s.e).may true/\eu true s.e args/\apr P tbl r.u s.ob (n7 s.e args) (λ v ob=>K ⟨t5 r.d v s.e,ob⟩) (x.ev s.e).bare)/\(b=false->K ⟨t5 r.d .undef s.e,s.ob⟩)
 | .nxt x=>(b=true->(x.ev s.e).may true/\ayr s.ob (λ v ob=>K ⟨t5 r.d v s.e,ob⟩) (x.ev s.e).bare)/\(b=false->K ⟨t5 r.d .undef s.e,s.ob⟩)
def PR.wp (P:Program) (r:PR) (s:St) (K:St->Prop):Option Bool->Prop
 | some b=>r.x.wp P r s K b
 | none=>False
def wpR (P:Program):List PR->(St->Prop)->St->Prop
 | [],K,s=>K s
 | r::rs,K,s=>r.wp P s (wpR P rs K) (yes s.e r.g)
def aw0 (P:Program) (m:String) (p:TypeId×FuncId):Bool:=ab9 P p.2&&(match P.info? p.1 with
 | some i=>match i.methods.find? (·.name == m) with
   | some q=>q.path.isEmpty&&(match q.func with | some (f,b)=>f == p.2&&b | none=>false)
   | none=>false
 | none=>false)&&de P p.1 (λ d=>match d with | .pointer _=>true | _=>false)
def ahm (P:Program) (o:Oper):PX->Bool
 | .see po=>azv P o po
 | .act po=>aoi P o po
 | .call f args=>match o.op with
   | .call c=>match c.callee with
     | .value (.func f')=>f == f'&&bf opd c.args.toList args&&ab9 P f
     | _=>false
   | _=>false
 | .callv x args=>match o.op with
   | .call c=>match c.callee with
     | .value x'=>opd x' x&&bf opd c.args.toList args
     | _=>false
   | _=>false
 | .inv tbl x args=>match o.op with
   | .call c=>match c.callee with
     | .invoke r m=>opd r x&&bf opd c.args.toList args&&tbl.all (aw0 P m)
     | _=>false
   | _=>false
 | .nxt x=>match o.op with
   | .next it str=>opd it x && !str
   | _=>false
def bct (a:Array Oper):Option (Nat×Bool)->Option (Nat×Bool)->Bool
 | none,none=>true
 | some (j,b),some (t,b')=>b == b'&&((a[j]?).bind (·.dst)) == some t
 | _,_=>false
def a4j:PX->Bool
 | .see _=>true
 | _=>false
def a8b:PX->Bool
 | .act o=>!o.nod
 | _=>false
def al3 (P:Program) (n:Nat) (a:Array Oper) (o:Oper) (r:PR):Bool:=
 o.dst == r.d&&(match r.d with | some d=>decide (d<n) | none=>!a4j r.x && !a8b r.x)&&bct a o.guard r.g&&ahm P o r.x
def atr (b:Array Oper) (a:List (List Nat)):Bool:=
 a.length == b.size&&(zah b.size).all λ j=>match b[j]?,a[j]? with
  | some o,some p=>o.after.all (λ e=>!Region.binds .any e||decide (e.on<j)) &&
   p.all (λ k=>decide (k<j)&&o.after.any λ e=>Region.binds .any e&&(e.on == k||(a.getD e.on []).contains k))
  | _,_=>false
def qp (P:Program) (n:Nat):Code->PC->Bool
 | .skip,.skip=>true
 | .region _ ops d,.reg rs=>!d&&bf (al3 P n ops) ops.toList rs
 | .region _ ops d,.drw rs pre=>d&&P.follows .mixedOrders&&bf (al3 P n ops) ops.toList rs&&atr ops pre
 | .seq a b,.seq a' b'=>qp P n a a'&&qp P n b b'
 | .cond x a b,.cond x' a' b'=>opd x x'&&qp P n a a'&&qp P n b b'
 | .block i c,.block j c'=>i == j&&qp P n c c'
 | .loop c,.loop c'=>qp P n c c'
 | .exit i,.exit j=>i == j
 | .ret,.ret=>true
 | _,_=>false
section
variable {P:Program} {X:Cx} [GlC P X] {w w':World} {s:St} {ρ ρ':Pl->Option Nat} {a:Act} {o:Oper} {ob ob':Obs} {R R':Nat->Prop}
theorem bjn (I:Gam X s ρ a w) {id ver lo len sz:Nat} {z:RV} {q L:Bool} {g:List RV} {c:Value} (l:s.ob id=some (ver,.row sz z q L g)) (h:RA X s ρ w (.own id ver lo len) c) (F:∀b,g9 X.B s.ob ρ w b->R b)
 (J:∀b,ρ id=some b->b<w.heap.size->R b):RelV w R (.sl sz ((g.drop lo).take len)) c:=by
 cases h;rename_i h;obtain ⟨A,cap,rfl,U,M,H,E⟩:=h.live l;have k:((g.drop lo).take len).length=len:=by simp; omega
 have f:=RelV.sl (w:=w) (R:=R) sz ((g.drop lo).take len) A cap (by omega) M;rw [k] at f
 have d:∀(i:Nat) (x:RV),((g.drop lo).take len)[i]?=some x->g[lo+i]?=some x:=λ i x hi=>by
  rw [List.getElem?_take] at hi;split at hi
  ·rwa [List.getElem?_drop] at hi
  cases hi
 rcases I.obj id ver _ l with ⟨n,t⟩ | ⟨b,cs,e,fr,n,t,O,V,T,o⟩
 ·subst n;have:len=0:=by have:lo+len<=0:=H; omega
  subst this;exact f 0 0 (λ _ _=>undef) (by simp) (by simp) (by simp) (by simp)
 refine f b (lo*sz) (λ i j=>(cs[(lo+i)*sz+j]?).getD undef) (λ S=>?_) (λ i x hi=>(o _ x (d i x hi)).1) (λ i x j y hi p=>?_) (λ i x j y hi p=>?_)
 ·obtain ⟨P,G,e',D,C,K,N,Q⟩:=E (by omega);rw [n] at C;cases C;exact ⟨K,J b n (Array.getElem?_eq_some_iff.1 t).1⟩
 ·obtain ⟨c,m,v,u⟩:=(o _ x (d i x hi)).2 j y p;rw [m];refine ⟨?_,v⟩;simp only [World.cell?,t,Option.isSome_none,Bool.false_eq_true,if_false,Option.getD_some];rw [<- m,Nat.add_mul]
 obtain ⟨c,m,v,u⟩:=(o _ x (d i x hi)).2 j y p;rw [m];exact u.mono λ b r=>⟨F b r,rfl⟩
theorem a6j (f:Gam X s ρ a w) {x:AV} {y:RV} {c:Value} (h:x.rv s.ob=some (y,l)) (hx:RA X s ρ w x c) (e:∀b,g9 X.B s.ob ρ w b->R b) (g:∀i,i∈l->∀b,ρ i=some b->b<w.heap.size->R b):RelV w R y c:=by
 unfold AV.rv at h;split at h
 ·cases h; cases hx; rename_i h; exact h.mono λ b d=>⟨e b d,rfl⟩
 ·cases h; cases hx;exact .sl _ [] none 0 (by simp) (by simp) 0 0 (λ _ _=>undef) (by simp) (by simp) (by simp) (by simp)
 ·split at h
  ·rename_i j;cases h;exact bjn f (y8 j) hx e (g _ (by simp))
  cases h
 cases h
theorem a1d (g:Gam X s ρ a w) (f:∀b,g9 X.B s.ob ρ w b->R b):∀{d:List AV} {ys:List RV} {l:List Nat},rvs s.ob d=some (ys,l)->(∀i,i∈l->∀b,ρ i=some b->b<w.heap.size->R b) ->
 ∀(i:Nat) (x:AV) (y:RV) (c:Value),d[i]?=some x->ys[i]?=some y->RA X s ρ w x c->RelV w R y c
 | [],ys,l,h,hs,i,x,y,c,hx,hy,hr=>by simp at hx
 | z::d,ys,l,h,hs,i,x,y,c,hx,hy,hr=>by
   simp only [rvs] at h;split at h
   ·rename_i o k q j n m;cases h;cases i with
    | zero=>
      simp at hx hy;subst hx; subst hy;exact a6j g n hr f (λ p e=>hs p (by simp [e]))
    | succ i=>
      simp at hx hy;exact a1d g f m (λ p e=>hs p (by simp [e])) i x y c hx hy hr
   cases h
theorem bc5 (p:Gam X s ρ a w) (k:∀b,g9 X.B s.ob ρ w b->R b) {x y:AV} {c:Value} (h:mn s.ob x=some (y,l)) (q:∀i,i∈l->∀b,ρ i=some b->b<w.heap.size->R b) (hx:RA X s ρ w x c):RelA w R s.ob ρ y c:=by
 have keep:∀z:AV,RA X s ρ w z c->RelA w R s.ob ρ z c:=λ z u=>u.stays ⟨λ b m=>⟨k b m,rfl⟩,λ id v o h=>⟨v,o,h,zac _,λ _=>⟨rfl,bt.refl o,λ b cs e fr _ h=>⟨cs,e,fr,h,rfl⟩⟩⟩⟩;unfold mn at h;split at h
 ·split at h
  ·rename_i A;cases h;exact .r (a6j p A hx k q)
  cases h
 ·cases h; cases hx;exact .r (.sl _ [] none 0 (by simp) (by simp) 0 0 (λ _ _=>undef) (by simp) (by simp) (by simp) (by simp))
 ·rename_i n;split at h
  ·rename_i ys C d;cases h;cases hx;rename_i cs t f;refine .r (.agg _ _ (by rw [uf d]; exact t) λ i y c hy hc=>?_);have j:i<n.length:=by have:=(zaa.1 hy).1; have:=uf d; omega
   have g:n[i]?=some n[i]:=by simp [j]
   exact a1d p k d q i _ y c g hy (f i _ c g hc)
  cases h
 ·cases h
 ·cases h
 cases h;exact keep _ hx
theorem az4 (g:Gam X s ρ a w) (f:∀b,g9 X.B s.ob ρ w b->R b):∀{d ys:List AV} {l:List Nat},q7 s.ob d=some (ys,l)->(∀i,i∈l->∀b,ρ i=some b->b<w.heap.size->R b) ->
 ys.length=d.length/\∀(i:Nat) (x y:AV) (c:Value),d[i]?=some x->ys[i]?=some y->RA X s ρ w x c->RelA w R s.ob ρ y c
 | [],ys,l,h,hs=>by simp [q7] at h; obtain ⟨rfl,rfl⟩:=h; simp
 | z::d,ys,l,h,hs=>by
   simp only [q7] at h;split at h
   ·rename_i t k u j o r;cases h;obtain ⟨n,q⟩:=az4 g f r (λ p e=>hs p (by simp [e]));refine ⟨by simp [n],λ i x y c hx hy m=>?_⟩;cases i with
    | zero=>
      simp at hx hy;subst hx; subst hy;exact bc5 g f o (λ p e=>hs p (by simp [e])) m
    | succ i=>
      simp at hx hy;exact q i x y c hx hy m
   cases h
theorem a6k {x:AV} {y:RV} (h:x.rv ob=some (y,l)):∀i,i∈l->∃q,ob i=some q:=by
 unfold AV.rv at h;split at h
 ·cases h; simp
 ·cases h; simp
 ·split at h
  ·rename_i a;cases h;intro i hi;simp at hi;subst hi;exact ⟨_,y8 a⟩
  cases h
 cases h
theorem a1e:∀{a:List AV} {ys:List RV} {l:List Nat},rvs ob a=some (ys,l)->∀i,i∈l->∃q,ob i=some q
 | [],ys,l,h=>by simp [rvs] at h; simp [h.2]
 | z::a,ys,l,h=>by
   simp only [rvs] at h;split at h
   ·rename_i d k e j c b;cases h;intro i hi;rcases List.mem_append.1 hi with hi | hi
    ·exact a6k c i hi
    exact a1e b i hi
   cases h
theorem az5:∀{c ys:List AV} {l:List Nat},q7 ob c=some (ys,l)->∀i,i∈l->∃q,ob i=some q
 | [],ys,l,h=>by simp [q7] at h; simp [h.2]
 | z::c,ys,l,h=>by
   simp only [q7] at h;split at h
   ·rename_i e k f j a d;cases h;intro i hi;rcases List.mem_append.1 hi with hi | hi
    ·unfold mn at a;split at a
     ·split at a
      ·rename_i b;cases a;exact a6k b i hi
      cases a
     ·cases a; simp at hi
     ·split at a
      ·rename_i b;cases a;exact a1e b i hi
      cases a
     ·cases a
     ·cases a
     cases a; simp at hi
    exact az5 d i hi
   cases h
theorem bg8 (i:Nat) {x:AV} {c:Value} (h:RelA w (g9 X.B ob ρ w) ob ρ x c):RelA w (g9 X.B (frz ob i (ob i)) ρ w) (frz ob i (ob i)) ρ x c:=by
 rcases hi:ob i with _ | ⟨v,a | ⟨sz,z,b,e,d⟩ | T | _ | _⟩
 ·exact h
 ·exact h
 ·exact h.stays (Stays.freeze1 (X:=X) (s:=⟨λ _=>.undef,ob⟩) hi)
 ·exact h
 ·exact h
 exact h
theorem alx:∀(l:List Nat) {ob:Obs} {x:AV} {c:Value},RelA w (g9 X.B ob ρ w) ob ρ x c->RelA w (g9 X.B (freeze ob l) ρ w) (freeze ob l) ρ x c
 | [],_,_,_,h=>h
 | i::is,_,_,_,h=>alx is (bg8 i h)
theorem bc6 (n:Gam X s ρ a w) {ob:Obs} {d:List Nat} (f:s.ob=Ev.freeze ob d) {x y:AV} {c:Value} (h:mn ob x=some (y,l)) (b:∀i,i∈l->i∈d) (hx:RA X s ρ w x c):RA X s ρ w y c:=by
 unfold mn at h;split at h
 ·split at h
  ·rename_i p;cases h;exact .r (asa n p b f hx)
  cases h
 ·cases h; cases hx;exact .r (.sl _ [] none 0 (by simp) (by simp) 0 0 (λ _ _=>undef) (by simp) (by simp) (by simp) (by simp))
 ·rename_i m;split at h
  ·rename_i ys q e;cases h;cases hx;rename_i cs o g;refine .r (.agg _ _ (by rw [uf e]; exact o) λ i y c hy hc=>?_);have k:i<m.length:=by have:=(zaa.1 hy).1; have:=uf e; omega
   have j:m[i]?=some m[i]:=by simp [k]
   exact akb n f e b i _ y c j hy (g i _ c j hc)
  cases h
 ·cases h
 ·cases h
 cases h; exact hx
theorem az6 (g:Gam X s ρ a w) {ob:Obs} {b:List Nat} (d:s.ob=Ev.freeze ob b):∀{e ys:List AV} {l:List Nat},q7 ob e=some (ys,l)->(∀i,i∈l->i∈b) ->
 ys.length=e.length/\∀(i:Nat) (x y:AV) (c:Value),e[i]?=some x->ys[i]?=some y->RA X s ρ w x c->RA X s ρ w y c
 | [],ys,l,h,hs=>by simp [q7] at h; obtain ⟨rfl,rfl⟩:=h; simp
 | z::e,ys,l,h,hs=>by
   simp only [q7] at h;split at h
   ·rename_i t k u j o r;cases h;obtain ⟨n,q⟩:=az6 g d r (λ p f=>hs p (by simp [f]));refine ⟨by simp [n],λ i x y c hx hy m=>?_⟩;cases i with
    | zero=>
      simp at hx hy;subst hx; subst hy;exact bc6 g d o (λ p f=>hs p (by simp [f])) m
    | succ i=>
      simp at hx hy;exact q i x y c hx hy m
   cases h
theorem aq0 {u m:Nat} {ids:List Nat} {b:Bool} (h:okC u ids m l b=true):ids.length<=m/\(∀i j,i<m->j<m->m0 u ids i=m0 u ids j->i=j)/\100000+1000*u+m<=1000000/\(b=false->∀i,i∈l->i∉ids):=by
 simp only [okC,Bool.and_eq_true,decide_eq_true_eq,Bool.or_eq_true] at h;obtain ⟨⟨⟨n,d⟩,k⟩,a⟩:=h;refine ⟨n,λ i j hi p e=>?_,k,λ c i hi g=>?_⟩
 ·have f:((zah m).map (m0 u ids))[i]?=some (m0 u ids i):=by simp [hi]
  have o:((zah m).map (m0 u ids))[j]?=some (m0 u ids i):=by simp [p,e]
  exact anl d f o
 rw [c] at a;simp at a;exact a i hi g
theorem ahc:∀{a ys:List Ob},ct a ys->∀(k:Nat) (o o':Ob),a[k]?=some o->ys[k]?=some o'->a25 o o'
 | [],_,_,k,c,c',h,_=>by simp at h
 | _::_,[],_,k,c,c',_,h=>by simp at h
 | x::a,y::ys,hs,0,c,c',h,h'=>by
   simp at h h';subst h; subst h';cases x with
   | row sz z app wr l=>
     cases app with
     | true=>exact .inl rfl
     | false=>
       cases y with
       | row sz' z' app' wr' l'=>
         cases app' with
         | true=>exact hs.elim
         | false=>obtain ⟨⟨rfl,h⟩,_⟩:=hs; exact .inr ⟨_,_,_,rfl,h⟩
       | _=>exact hs.elim
   | _=>cases y<;>first | exact hs.1 | exact hs.elim | trivial
 | x::a,y::ys,hs,k+1,c,c',h,h'=>by
   simp at h h'
   have:ct a ys:=by
    cases x with
    | row sz z app wr l=>
      cases app with
      | true=>cases y<;>exact hs
      | false=>
        cases y with
        | row sz' z' app' wr' l'=>
          cases app' with
          | true=>exact hs.elim
          | false=>exact hs.2
        | _=>exact hs.elim
    | _=>cases y<;>first | exact hs.2 | exact hs.elim | exact hs
   exact ahc this k c c' h h'
theorem ai3 {f:FuncId} {u:Nat} {K:AV->Obs->Prop} {vs:List AV} {d:Array Value} (R:Gam X s ρ a w) (g:pd P f u s.ob vs [] true K) (I:d.size=vs.length) (S:∀(i:Nat) (x:AV) (c:Value),vs[i]?=some x->d[i]?=some c->RA X s ρ w x c) :
 Calls P f d w λ e m=>∃c v ob' ρ',e=.returned c/\K v ob'/\Gam X ⟨s.e,ob'⟩ ρ' a m/\RA X ⟨s.e,ob'⟩ ρ' m v c:=by
 unfold pd at g;generalize br:s9 s.ob 64 (o6 vs) []=ids at g;unfold aht at g;split at g
 ·cases g
 rename_i po j;obtain ⟨res,ro,D,r,p,G,F⟩:=g;obtain ⟨N,H,L,U⟩:=aq0 r
 have o:∀b,g9 X.B s.ob ρ w b->∀i,i∈ids->¬xb s.ob ρ i b:=λ b l i hi q=>by
  obtain ⟨M,n⟩:=ad1 j;obtain ⟨k,A⟩:=zab.1 hi;have C:=(zaa.1 A).1;obtain ⟨v,x,t,J,T⟩:=n k i (po[k]'(by omega)) A (by simp [show k<po.length by omega]);obtain ⟨y,z,O⟩:=q;rw [t] at z;cases z;exact l.2.1 ⟨i,v,x,t,J,O⟩
 refine (Gam.call (s:=s) (Bc:=λ b=>g9 X.B s.ob ρ w b\/(∃i,i∈ids/\xb s.ob ρ i b)\/w.heap.size<=b) (Ra:=g9 X.B s.ob ρ w) R j D N H L I (λ i x c hx hc=>S i x c hx hc)
  (λ b l=>⟨l.1,.inl l,o b l⟩) (λ _ h=>.inl h) (λ _ h=>.inr h) (ahc p) (.inr λ _ h=>h)).mono ?_
 rintro e m ⟨c,ρ',rfl,E,Q⟩;exact ⟨c,_,_,ρ',rfl,F,E,Q⟩
theorem Gam.boxify (u:Gam X s ρ a w) {id v:Nat} {z:RV} {vs:List Value} (k:s.ob id=some (v,.row 1 z true true (vs.map RV.v))) (H:vs≠[]) :
 ∃m,Gam X ⟨s.e,upd id (v,.box (vs.map (λ x=>AV.r (.v x))++zai m .undef)) s.ob⟩ ρ a w /\
  Stays w w (g9 X.B s.ob ρ w) (g9 X.B (upd id (v,.box (vs.map (λ x=>AV.r (.v x))++zai m .undef)) s.ob) ρ w) s.ob (upd id (v,.box (vs.map (λ x=>AV.r (.v x))++zai m .undef)) s.ob) ρ ρ:=by
 rcases u.obj id v _ k with ⟨O,_⟩ | ⟨b,cs,e,fr,R,U,Y,W,T,S⟩
 ·simp at O; exact absurd O H
 obtain rfl:fr=(0,0):=W rfl;have N:vs.length<=cs.size:=by simpa using T
 refine ⟨cs.size-vs.length,?_⟩;generalize C:vs.map (λ x=>AV.r (.v x))++zai (cs.size-vs.length) AV.undef=p;have L:p.length=cs.size:=by rw [<- C]; simp; omega
 have E:∀c,g9 X.B s.ob ρ w c->g9 X.B (upd id (v,.box p) s.ob) ρ w c:=λ c hc=>⟨hc.1,λ ⟨j,D,o,f,t,A⟩=>by
  by_cases q:j=id
  ·subst q;simp [upd] at f;obtain ⟨rfl,rfl⟩:=f;rw [jz rfl] at A;exact hc.2.1 ⟨j,v,_,k,rfl,by rw [jz rfl]; exact A⟩
  simp only [upd,q,if_false] at f
  exact hc.2.1 ⟨j,D,o,f,t,A⟩,hc.2.2⟩
 have P:Stays w w (g9 X.B s.ob ρ w) (g9 X.B (upd id (v,.box p) s.ob) ρ w) s.ob (upd id (v,.box p) s.ob) ρ ρ:=by
  refine ⟨λ c hc=>⟨E c hc,rfl⟩,λ j D o q=>?_⟩;by_cases d:j=id
  ·subst d;rw [k] at q;cases q;exact ⟨v,.box p,by simp [upd],zac _,λ _=>⟨rfl,rfl,λ b cs e fr _ h=>⟨cs,e,fr,h,rfl⟩⟩⟩
  exact ⟨D,o,by simp [upd,d,q],zac _,λ _=>⟨rfl,bt.refl o,λ b cs e fr _ h=>⟨cs,e,fr,h,rfl⟩⟩⟩
 have l:∀j x c,upd id (v,Ob.box p) s.ob j=some x->foot ρ j x.2 c->∃y,s.ob j=some y/\foot ρ j y.2 c:=λ j x c hx n=>by
  by_cases d:j=id
  ·subst d;simp [upd] at hx;subst hx;rw [jz rfl] at n;exact ⟨_,k,by rw [jz rfl]; exact n⟩
  simp only [upd,d,if_false] at hx;exact ⟨x,hx,n⟩
 refine ⟨u.step P (λ j D o h=>?_) (λ i j x x' c hx M n G=>?_) u.keeps (λ j D o c h n=>?_) (λ j c o h hc V I=>?_),P⟩
 ·by_cases d:j=id
  ·subst d;simp [upd] at h;obtain ⟨rfl,rfl⟩:=h;refine .inr ⟨b,cs,e,R,U,L.symm,λ i x c hx hc=>?_⟩;rw [<- C] at hx;by_cases hi:i<vs.length
   ·rw [List.getElem?_append_left (by simpa using hi)] at hx;have F:(vs.map RV.v)[i]?=some (.v vs[i]):=by simp [hi]
    obtain ⟨_,g⟩:=S i _ F;obtain ⟨c',f,t,A⟩:=g 0 (.v vs[i]) rfl;rw [Nat.mul_one,Nat.add_zero,hc] at f;cases f;simp [hi] at hx;subst hx;exact .r (A.mono λ b I=>⟨E b I,rfl⟩)
   rw [List.getElem?_append_right (by simpa using hi)] at hx;have:=zae hx;rw [List.mem_replicate] at this;rw [this.2];exact .undef _
  simp only [upd,d,if_false] at h;exact .inl ⟨h,rfl,λ _=>rfl,λ _ _=>rfl⟩
 ·obtain ⟨y,f,t⟩:=l i x c hx n;obtain ⟨Q,J,K⟩:=l j x' c M G;exact u.inj i j y Q c f J t K
 ·obtain ⟨y,f,t⟩:=l j _ c h n;exact u.own j y.1 y.2 c f t
 by_cases d:j=id
 ·subst d;rw [u.unpinned k rfl] at h;cases h
 exact ⟨I,o,by simp [upd,d,hc],V⟩
theorem al4 {f:FuncId} {u:Nat} {K:AV->Obs->Prop} {vs:List AV} {d:Array Value} (H:Gam X s ρ a w) (h:ajj P f u s.ob K vs (q7 s.ob vs)) (S:d.size=vs.length) (T:∀(i:Nat) (x:AV) (c:Value),vs[i]?=some x->d[i]?=some c->RA X s ρ w x c) :
 Calls P f d w λ e E=>∃c v ob' ρ',e=.returned c/\K v ob'/\Gam X ⟨s.e,ob'⟩ ρ' a E/\RA X ⟨s.e,ob'⟩ ρ' E v c:=by
 have n:∀(as:List AV) (l:List Nat),q7 s.ob vs=some (as,l)->pd P f u (freeze s.ob l) as l true K->Calls P f d w λ e E=>∃c v ob' ρ',e=.returned c/\K v ob'/\Gam X ⟨s.e,ob'⟩ ρ' a E/\RA X ⟨s.e,ob'⟩ ρ' E v c:=by
  intro as l D g;have W:=Gam.freeze (s:=s) l (ob:=s.ob) H;unfold pd at g;generalize br:s9 (freeze s.ob l) 64 (o6 as) []=ids at g;unfold aht at g;split at g
  ·cases g
  rename_i po p;obtain ⟨res,ro,hT,Q,L,U,hK⟩:=g;obtain ⟨k1,k2,k3,k4⟩:=aq0 Q
  have J:∀b,g9 X.B (freeze s.ob l) ρ w b->∀i,i∈ids->¬xb (freeze s.ob l) ρ i b:=λ b t i hi O=>by
   obtain ⟨V,C⟩:=ad1 p;obtain ⟨k,I⟩:=zab.1 hi;have o:=(zaa.1 I).1;obtain ⟨v,x,A,F,g3⟩:=C k i (po[k]'(by omega)) I (by simp [show k<po.length by omega]);obtain ⟨y,M,Y⟩:=O;rw [A] at M;cases M;exact t.2.1 ⟨i,v,x,A,F,Y⟩
  obtain ⟨A,F⟩:=az6 (s:=⟨s.e,freeze s.ob l⟩) W rfl D (λ _ h=>h)
  refine (Gam.call (s:=⟨s.e,freeze s.ob l⟩) (Bc:=λ b=>g9 X.B (freeze s.ob l) ρ w b\/(∃i,i∈ids/\xb (freeze s.ob l) ρ i b)\/w.heap.size<=b) (Ra:=g9 X.B (freeze s.ob l) ρ w) W p hT k1 k2 k3 (by rw [A,S]) (λ i x c hx hc=>?_)
   (λ b t=>⟨t.1,.inl t,J b t⟩) (λ _ h=>.inl h) (λ _ h=>.inr h) (ahc L) (.inr λ _ h=>h)).mono ?_
  ·have o:=(zaa.1 hx).1;have hv:vs[i]?=some (vs[i]'(by omega)):=by simp [show i<vs.length by omega]
   exact F i _ x c hv hx (alx l (T i _ c hv hc))
  rintro e E ⟨c,ρ',rfl,G,N⟩;exact ⟨c,_,_,ρ',rfl,hK,G,N⟩
 have Z:∀(as:List AV) (l:List Nat),q7 s.ob vs=some (as,l)->pd P f u s.ob as l false K->Calls P f d w λ e E=>∃c v ob' ρ',e=.returned c/\K v ob'/\Gam X ⟨s.e,ob'⟩ ρ' a E/\RA X ⟨s.e,ob'⟩ ρ' E v c:=by
  intro as l D g;unfold pd at g;generalize br:s9 s.ob 64 (o6 as) []=ids at g;unfold aht at g;split at g
  ·cases g
  rename_i po p;obtain ⟨res,ro,hT,Q,L,U,hK⟩:=g;obtain ⟨k1,k2,k3,k4⟩:=aq0 Q
  have J:∀b,g9 X.B s.ob ρ w b->b<w.heap.size/\∀i,i∈ids->¬xb s.ob ρ i b:=λ b t=>⟨t.1,λ i hi O=>by
   obtain ⟨V,C⟩:=ad1 p;obtain ⟨k,I⟩:=zab.1 hi;have o:=(zaa.1 I).1;obtain ⟨v,x,A,F,g3⟩:=C k i (po[k]'(by omega)) I (by simp [show k<po.length by omega]);obtain ⟨y,M,Y⟩:=O;rw [A] at M;cases M
   exact t.2.1 ⟨i,v,x,A,F,Y⟩⟩
  have h0:∀i,i∈l->∀b,ρ i=some b->b<w.heap.size->b<w.heap.size/\∀j,j∈ids->¬xb s.ob ρ j b:=λ i hi b t o=>⟨o,λ j hj h4=>by
   obtain ⟨q,g⟩:=az5 D i hi;obtain ⟨V,C⟩:=ad1 p;obtain ⟨k,I⟩:=zab.1 hj;have o:=(zaa.1 I).1;obtain ⟨v,x,A,F,g3⟩:=C k j (po[k]'(by omega)) I (by simp [show k<po.length by omega]);obtain ⟨y,M,Y⟩:=h4;have:=H.inj i j _ _ b g M (.inl t) Y;subst this
   exact k4 rfl i hi hj⟩
  obtain ⟨A,F⟩:=az4 H (R:=λ b=>b<w.heap.size/\∀i,i∈ids->¬xb s.ob ρ i b) J D h0;refine (Gam.call (Bc:=λ _=>True) (Ra:=λ b=>b<w.heap.size/\∀i,i∈ids->¬xb s.ob ρ i b) H p hT k1 k2 k3 (by rw [A,S]) (λ i x c hx hc=>?_) (λ b t=>⟨t.1,trivial,t.2⟩) (λ _ _=>trivial) (λ _ _=>trivial) (ahc L) (.inl (U rfl))).mono ?_
  ·have o:=(zaa.1 hx).1;have hv:vs[i]?=some (vs[i]'(by omega)):=by simp [show i<vs.length by omega]
   exact F i _ x c hv hx (T i _ c hv hc)
  rintro e E ⟨c,ρ',rfl,G,N⟩;exact ⟨c,_,_,ρ',rfl,hK,G,N⟩
 rcases D:q7 s.ob vs with _ | ⟨as,_ | ⟨i,l⟩⟩
 ·rw [D] at h; exact ai3 H h S T
 ·rw [D] at h; exact n as [] D h
 rw [D] at h;rcases h with h | h | h | h | h
 ·exact n as _ D h
 ·exact Z as _ D h
 ·exact ai3 H h S T
 ·obtain ⟨id,v,z,xs,G,N,h3⟩:=h;obtain ⟨m,A,F⟩:=H.boxify G N;exact ai3 (s:=⟨s.e,upd id (v,.box (xs.map (λ x=>AV.r (.v x))++zai m .undef)) s.ob⟩) A (h3 m) S λ i x c hx hc=>(T i x c hx hc).stays F
 obtain ⟨id,v,sz,z,xs,G,N,h3⟩:=h;exact ai3 (s:=⟨s.e,upd id (v,.row sz z false true xs) s.ob⟩) (H.shut1 G N) h3 S λ i x c hx hc=>(T i x c hx hc).stays (Stays.shut1 (X:=X) (w:=w) (ρ:=ρ) G)
end

structure Lg where
 us:List Nat
 d:List Nat
 rd:List Nat
 wr:List Nat
 ad:Bool
 st:Bool
instance:Inhabited Lg:=⟨⟨[],[],[],[],false,false⟩⟩
def PX.adr:PX->Bool
 | .see o=>o.adr
 | _=>false
def PX.sto:PX->Bool
 | .act (.st _ _ _)=>true
 | _=>false
structure Out where
 ok:Prop
 st:St
 lg:Lg
abbrev Ans:=AV×List Ob
def PX.us:PX->List Nat
 | .see o=>o.us
 | .act o=>o.us
 | .call _ xs=>usL xs
 | .callv x xs=>x.us++usL xs
 | .inv _ x xs=>x.us++usL xs
 | .nxt x=>x.us
def gus:Option (Nat×Bool)->List Nat
 | none=>[]
 | some (t,_)=>[t]
def PR.lg (r:PR) (rd a:List Nat):Lg:=⟨gus r.g++(r.x.us++r.d.toList),r.d.toList,rd,a,r.x.adr,r.x.sto⟩
def iz (u:Nat) (ids:List Nat) (m:Nat):List Nat:=(zah m).map (m0 u ids)
def aks (P:Program) (r:PR) (s:St) (f:FuncId) (p:Prop) (c:Ans) (as:List AV) (l:List Nat) (a:Bool) (ids:List Nat):Option (List Ob)->Out
 | none=>⟨False,s,r.lg [] []⟩
 | some po=>⟨p/\a8 P f (imL (fwd s.ob ids) as) po c.1 c.2/\okC r.u ids c.2.length l a=true/\ct po c.2/\(a=false->bj c.1/\∀o∈c.2,jt o),
  ⟨t5 r.d (imV (back s.ob r.u ids c.2.length) c.1) s.e,gk s.ob r.u ids (back s.ob r.u ids c.2.length) 0 c.2⟩,r.lg (l++(ids++iz r.u ids c.2.length)) (iz r.u ids c.2.length)⟩
def fb (vs:List AV):Option (List AV×List Nat)->List AV×List Nat×Bool
 | none=>(vs,o6 vs,true)
 | some (as,[])=>(as,[],true)
 | some (as,i::l)=>(as,i::l,false)
def dn (P:Program) (r:PR) (s:St) (f:FuncId) (p:Prop) (c:Ans) (a:List AV×List Nat×Bool):Out:=
 aks P r s f p c a.1 a.2.1 a.2.2 (s9 s.ob 64 (o6 a.1) []) (ao (fwd s.ob (s9 s.ob 64 (o6 a.1) [])) s.ob (s9 s.ob 64 (o6 a.1) []))
def acq (P:Program) (r:PR) (s:St) (p:Prop) (c:Ans) (vs:List AV):AV->Out
 | .fn (.func f) cap k=>dn P r s f (p/\ab9 P f=true) c (fb (cap.take k++(vs++cap.drop k)) (q7 s.ob (cap.take k++(vs++cap.drop k))))
 | _=>⟨False,s,r.lg [] []⟩
def yj (P:Program) (r:PR) (s:St) (tbl:List (TypeId×FuncId)) (p:Prop) (c:Ans) (vs:List AV):AV->Out
 | .ifc t x=>match ja t tbl with
   | some f=>dn P r s f p c (fb (x::vs) (q7 s.ob (x::vs)))
   | none=>⟨False,s,r.lg [] []⟩
 | _=>⟨False,s,r.lg [] []⟩
def PX.out (P:Program) (r:PR) (s:St) (c:Ans):PX->Option Bool->Out
 | _,none=>⟨False,s,r.lg [] []⟩
 | .see o,some b=>⟨(o.see b s.e s.ob).ok,⟨t5 r.d (gdv r.g b (o.see b s.e s.ob).v) s.e,s.ob⟩,r.lg (o.see b s.e s.ob).rd []⟩
 | .act o,some true=>⟨(o.act (r.d.getD 0) s.e s.ob).ok,⟨t5 r.d (o.act (r.d.getD 0) s.e s.ob).v s.e,(o.act (r.d.getD 0) s.e s.ob).ob⟩,r.lg (o.act (r.d.getD 0) s.e s.ob).rd (o.act (r.d.getD 0) s.e s.ob).wr⟩
 | .call f xs,some true=>dn P r s f (eu true s.e xs) c (fb (n7 s.e xs) (q7 s.ob (n7 s.e xs)))
 | .callv x xs,some true=>acq P r s ((x.ev s.e).may true/\eu true s.e xs) c (n7 s.e xs) (x.ev s.e).bare
 | .inv tbl x xs,some true=>yj P r s tbl ((x.ev s.e).may true/\eu true s.e xs) c (n7 s.e xs) (x.ev s.e).bare
 | .nxt _,some true=>⟨False,s,r.lg [] []⟩
 | _,some false=>⟨True,⟨t5 r.d .undef s.e,s.ob⟩,r.lg [] []⟩
def PR.out (P:Program) (r:PR) (s:St) (c:Ans):Out:=r.x.out P r s c (yes s.e r.g)
section
variable {P:Program} {s s':St} {ob ob':Obs} {c:Ans} {r:PR}
theorem arp {f:FuncId} {p:Prop} {K:St->Prop} {vs:List AV} {a:Option (List AV×List Nat)} (h:(dn P r s f p c (fb vs a)).ok) (g:K (dn P r s f p c (fb vs a)).st):p/\ajj P f r.u s.ob (λ v ob=>K ⟨t5 r.d v s.e,ob⟩) vs a:=by
 have j:∀(as:List AV) (l:List Nat) (m:Bool),(dn P r s f p c (as,l,m)).ok->K (dn P r s f p c (as,l,m)).st->p/\pd P f r.u s.ob as l m (λ v ob=>K ⟨t5 r.d v s.e,ob⟩):=λ as l m h g=>by
  simp only [dn] at h g;generalize br:s9 s.ob 64 (o6 as) []=ids at h g;rcases hpo:ao (fwd s.ob ids) s.ob ids with _ | po
  ·rw [hpo] at h; exact h.elim
  rw [hpo] at h g;obtain ⟨k,b,x,o,z⟩:=h;refine ⟨k,?_⟩;unfold pd;rw [br,hpo];exact ⟨_,_,b,x,o,z,g⟩
 rcases a with _ | ⟨as,_ | ⟨i,l⟩⟩
 ·obtain ⟨k,b⟩:=j vs (o6 vs) true h g;refine ⟨k,?_⟩;show pd P f r.u s.ob vs [] true _;unfold pd aht at b |-;split at b
  ·exact b.elim
  obtain ⟨t,w,q,n,y⟩:=b;refine ⟨t,w,q,?_,y⟩;unfold okC at n |-;simpa using n
 ·exact j as [] true h g
 obtain ⟨k,b⟩:=j as (i::l) false h g;exact ⟨k,Or.inr (Or.inl b)⟩
theorem bj5 {K:St->Prop} (h:(r.out P s c).ok) (a:K (r.out P s c).st):r.wp P s K (yes s.e r.g):=by
 rcases r with ⟨d,g,u,x⟩
 unfold PR.out at h a;simp only at h a |-;generalize yes s.e g=y at h a |-;rcases y with _ | b
 ·have h:False:=by cases x<;>exact h
  exact h.elim
 simp only [PR.wp];cases x with
 | see o=>exact ⟨h,a⟩
 | act o=>cases b with
   | true=>exact ⟨λ _=>⟨h,a⟩,by simp⟩
   | false=>exact ⟨by simp,λ _=>a⟩
 | call f xs=>cases b with
   | true=>exact ⟨λ _=>arp h a,by simp⟩
   | false=>exact ⟨by simp,λ _=>a⟩
 | callv x xs=>cases b with
   | true=>
     refine ⟨λ _=>?_,by simp⟩;simp only [PX.out] at h a;generalize (x.ev s.e).bare=y at h a |-;cases y with
     | fn f cap k=>cases f with
       | func f=>
         have:=arp (vs:=cap.take k++(n7 s.e xs++cap.drop k)) h a;exact ⟨this.1.1.1,this.1.1.2,this.1.2,this.2⟩
       | _=>exact (show False from h).elim
     | _=>exact (show False from h).elim
   | false=>exact ⟨by simp,λ _=>a⟩
 | inv tbl x xs=>cases b with
   | true=>
     refine ⟨λ _=>?_,by simp⟩;simp only [PX.out] at h a;generalize (x.ev s.e).bare=y at h a |-;cases y with
     | ifc t y=>
       simp only [yj,apr] at h a |-;generalize ja t tbl=q at h a |-;cases q with
       | some f=>
         have:=arp (vs:=y::n7 s.e xs) h a;exact ⟨this.1.1,this.1.2,this.2⟩
       | none=>exact (show False from h).elim
     | _=>exact (show False from h).elim
   | false=>exact ⟨by simp,λ _=>a⟩
 | nxt x=>cases b with
   | true=>exact (show False from h).elim
   | false=>exact ⟨by simp,λ _=>a⟩
theorem a5b {x y:AV} (h:mn ob x=some (y,l)) (b:iu ob ob' l):mn ob' x=some (y,l):=by
 cases x with
 | own id ver lo len=>
   simp only [mn] at h |-;split at h
   ·rename_i c d a;cases h;rw [aqt a b]
   cases h
 | agg xs=>
   simp only [mn] at h |-;split at h
   ·rename_i c d a;cases h;rw [ai1 a b]
   cases h
 | _=>exact h
theorem al5:∀{a ys:List AV} {l:List Nat},q7 ob a=some (ys,l)->iu ob ob' l->q7 ob' a=some (ys,l)
 | [],ys,l,h,hs=>h
 | x::a,ys,l,h,hs=>by
   simp only [q7] at h |-;split at h
   ·rename_i y k f j d b;cases h;obtain ⟨c,e⟩:=ah6 hs;rw [a5b d c,al5 b e]
   cases h
theorem alf:∀(n:Nat) (a b:List Nat) (i:Nat),i∈b->i∈s9 ob n a b
 | 0,a,b,i,h=>h
 | n+1,[],b,i,h=>h
 | n+1,j::a,b,i,h=>by
   unfold s9;split
   ·exact alf n a b i h
   exact alf n _ _ i (by simp [h])
theorem ajr:∀(n:Nat) (a b:List Nat),iu ob ob' (s9 ob n a b)->s9 ob' n a b=s9 ob n a b
 | 0,a,b,hs=>rfl
 | n+1,[],b,hs=>rfl
 | n+1,j::a,b,hs=>by
   unfold s9 at hs |-;split
   ·rename_i hc;rw [if_pos hc] at hs;exact ajr n a b hs
   rename_i hc;rw [if_neg hc] at hs;rw [hs j (alf n _ _ j (by simp))];exact ajr n _ _ hs
theorem bg3 {k:Nat} (h:idx i l=some k):i∈l:=zae (alr h)
theorem awg {ids:List Nat} (a:iu ob ob' ids):fwd ob' ids=fwd ob ids:=by
 funext id ver;unfold fwd;split
 ·rename_i k b;rw [a id (bg3 b)]
 rfl
theorem apu {F:Ren}:∀{ids:List Nat},iu ob ob' ids->ao F ob' ids=ao F ob ids
 | [],hs=>rfl
 | i::ids,hs=>by
   simp only [ao];rw [hs i (by simp),apu (λ j a=>hs j (by simp [a]))]
theorem a73 {u m k:Nat} {ids:List Nat} (h:k<m):m0 u ids k∈iz u ids m:=by
 simp only [iz,List.mem_map,List.mem_range];exact ⟨k,h,rfl⟩
theorem at1 {u m k:Nat} {ids:List Nat} (a:iu ob ob' (iz u ids m)) (h:k<m):lf ob' u ids k=lf ob u ids k:=by
 have:=a _ (a73 (u:=u) (ids:=ids) h);unfold lf;unfold m0 at this;split
 ·rename_i i hi;rw [hi] at this;simp only at this;rw [this];rcases ob i with _ | ⟨v,_ | _⟩<;>rfl
 rename_i hi;rw [hi] at this;exact aid this
theorem a49 {u m:Nat} {ids:List Nat} (a:iu ob ob' (iz u ids m)):back ob' u ids m=back ob u ids m:=by
 funext id ver;unfold back;split
 ·rename_i h;rw [at1 a h.2.2]
 rfl
theorem ase {u m:Nat} {ids:List Nat} {F:Ren} (c:iu ob ob' (iz u ids m)):∀{os:List Ob} {k:Nat},k+os.length<=m ->
 (∀j,k<=j->j<k+os.length->gk ob' u ids F k os (m0 u ids j)=gk ob u ids F k os (m0 u ids j))/\(∀i,(∀j,k<=j->j<k+os.length->i≠m0 u ids j)->gk ob' u ids F k os i=ob' i)
 | [],k,h=>⟨λ j d a=>by simp at a; omega,λ i h=>rfl⟩
 | o::os,k,h=>by
   simp at h;obtain ⟨e,f⟩:=ase (F:=F) c (os:=os) (k:=k+1) (by omega);refine ⟨λ j d a=>?_,λ i hi=>?_⟩
   ·simp at a;simp only [gk,upd,at1 c (show k<m by omega)];split
    ·rfl
    rename_i b;refine e j ?_ (by omega);rcases Nat.lt_or_ge k j with h | h
    ·omega
    have:j=k:=by omega
    subst this; exact (b rfl).elim
   simp only [gk,upd];rw [if_neg (hi k (zac _) (by simp))];exact f i λ j d a=>hi j (by omega) (by simp; omega)
theorem aa0 {d:Option Nat} {x:AV} {e e':Env} {t:Nat} (h:t∈d.toList):t5 d x e' t=t5 d x e t:=by
 cases d with
 | none=>simp at h
 | some d=>simp at h; subst h; simp [t5,put]
theorem oa {d:Option Nat} {x:AV} {e:Env} {t:Nat} (h:t∉d.toList):t5 d x e t=e t:=by
 cases d with
 | none=>rfl
 | some d=>simp at h; simp [t5,put,h]
theorem a5k {g:Option (Nat×Bool)} {e e':Env} (h:∀t,t∈gus g->e' t=e t):yes e' g=yes e g:=by
 cases g with
 | none=>rfl
 | some p=>simp only [yes,h p.1 (by simp [gus])]
def a0b (r:PR) (s s':St) (o o':Out):Prop:=
 o'.ok/\(∀t,t∈r.d.toList->o'.st.e t=o.st.e t)/\(∀t,t∉r.d.toList->o'.st.e t=s'.e t) /\
 (∀i,i∈o.lg.wr->i∈o.lg.rd/\o'.st.ob i=o.st.ob i)/\(∀i,i∉o.lg.wr->o'.st.ob i=s'.ob i)
theorem bdp {x:AV} (h:∀i,i∈br x->ob' i=ob i):x.rv ob'=x.rv ob:=by
 cases x with
 | own id ver lo len=>simp only [AV.rv,l9,h id (by simp [br])]
 | _=>rfl
theorem a6i:∀{a:List AV},(∀i,i∈o6 a->ob' i=ob i)->rvs ob' a=rvs ob a
 | [],_=>rfl
 | x::a,h=>by
   simp only [rvs];rw [bdp (λ i hi=>h i (by simp [o6,hi])),a6i (λ i hi=>h i (by simp [o6,hi]))]
theorem bh9 {x:AV} (h:∀i,i∈br x->ob' i=ob i):mn ob' x=mn ob x:=by
 cases x with
 | own id ver lo len=>simp only [mn]; rw [bdp h]
 | agg xs=>simp only [mn]; rw [a6i (λ i hi=>h i (by simpa [br] using hi))]
 | _=>rfl
theorem a21:∀{a:List AV},(∀i,i∈o6 a->ob' i=ob i)->q7 ob' a=q7 ob a
 | [],_=>rfl
 | x::a,h=>by
   simp only [q7];rw [bh9 (λ i hi=>h i (by simp [o6,hi])),a21 (λ i hi=>h i (by simp [o6,hi]))]
theorem aoj {f:FuncId} {p:Prop} {as:List AV} (h:(dn P r s f p c (fb as (q7 s.ob as))).ok) (e:iu s.ob s'.ob (dn P r s f p c (fb as (q7 s.ob as))).lg.rd) :
 a0b r s s' (dn P r s f p c (fb as (q7 s.ob as))) (dn P r s' f p c (fb as (q7 s'.ob as))):=by
 have q:∀(a:List AV×List Nat×Bool),(dn P r s f p c a).ok->iu s.ob s'.ob (dn P r s f p c a).lg.rd->(iu s.ob s'.ob a.2.1->fb as (q7 s'.ob as)=a)->a0b r s s' (dn P r s f p c a) (dn P r s' f p c (fb as (q7 s'.ob as))):=λ a h e b=>by
  obtain ⟨m,l,B⟩:=a;simp only [dn] at h e |-;rcases hpo:ao (fwd s.ob (s9 s.ob 64 (o6 m) [])) s.ob (s9 s.ob 64 (o6 m) []) with _ | po
  ·rw [hpo] at h; exact (show False from h).elim
  rw [hpo] at h e;simp only [aks,PR.lg] at e;obtain ⟨A,d⟩:=ah6 e;obtain ⟨d,v⟩:=ah6 d;rw [b A];simp only;rw [ajr 64 (o6 m) [] d];generalize s9 s.ob 64 (o6 m) []=ids at *;rw [awg d,apu d,hpo];simp only [aks,PR.lg] at h |-;rw [awg d,a49 v];have x:=ase (F:=back s.ob r.u ids c.2.length) v (os:=c.2) (k:=0) (by simp);have w:∀i,i∈iz r.u ids c.2.length↔∃j,j<c.2.length/\m0 r.u ids j=i:=λ i=>by simp [iz]
  refine ⟨h,λ t n=>aa0 n,λ t n=>oa n,λ i hi=>⟨by simp [hi],?_⟩,λ i hi=>?_⟩
  ·obtain ⟨j,y,rfl⟩:=(w i).1 hi;exact x.1 j (Nat.zero_le _) (by simpa using y)
  refine x.2 i λ j g z o=>hi ((w i).2 ⟨j,by simpa using z,o.symm⟩)
 refine q _ h e λ g=>?_;rcases b:q7 s.ob as with _ | ⟨m,_ | ⟨i,l⟩⟩
 ·rw [b] at g;rw [a21 (ob:=s.ob) (λ i hi=>g i hi),b]
 ·rw [al5 b (λ i hi=>by simp at hi)]
 rw [b] at g;rw [al5 b g]
theorem a9j {p:Prop} {vs:List AV} {y:AV} (h:(acq P r s p c vs y).ok) (a:iu s.ob s'.ob (acq P r s p c vs y).lg.rd):a0b r s s' (acq P r s p c vs y) (acq P r s' p c vs y):=by
 cases y with
 | fn f cap k=>cases f with
   | func f=>exact aoj h a
   | _=>exact (show False from h).elim
 | _=>exact (show False from h).elim
theorem a9k {tbl:List (TypeId×FuncId)} {p:Prop} {vs:List AV} {y:AV} (h:(yj P r s tbl p c vs y).ok) (a:iu s.ob s'.ob (yj P r s tbl p c vs y).lg.rd):a0b r s s' (yj P r s tbl p c vs y) (yj P r s' tbl p c vs y):=by
 cases y with
 | ifc t y=>
   simp only [yj] at h a |-;generalize ja t tbl=q at h a |-;cases q with
   | some f=>exact aoj h a
   | none=>exact (show False from h).elim
 | _=>exact (show False from h).elim
theorem arq {tbl:List (TypeId×FuncId)} {p:Prop} {vs:List AV} {y:AV}:∃rd a,(yj P r s tbl p c vs y).lg=r.lg rd a:=by
 cases y with
 | ifc t y=>
   simp only [yj];generalize ja t tbl=q;cases q with
   | some f=>
     simp only;generalize fb (y::vs) (q7 s.ob (y::vs))=q;simp only [dn];generalize ao _ _ _=po;cases po<;>exact ⟨_,_,rfl⟩
   | none=>exact ⟨_,_,rfl⟩
 | _=>exact ⟨_,_,rfl⟩
theorem aul (h:(r.out P s c).ok) (E:∀t,t∈(r.out P s c).lg.us->s'.e t=s.e t) (l:r.x.adr=false->iu s.ob s'.ob (r.out P s c).lg.rd) (m:a90 s.ob s'.ob (r.out P s c).lg.rd):a0b r s s' (r.out P s c) (r.out P s' c):=by
 rcases r with ⟨d,g,u,x⟩
 have B:(PR.out P ⟨d,g,u,x⟩ s c).lg.us=gus g++(x.us++d.toList):=by
  unfold PR.out;simp only;generalize yes s.e g=y;rcases y with _ | b
  ·cases x<;>rfl
  cases x with
  | see o=>rfl
  | act o=>cases b<;>rfl
  | call f xs=>cases b with
    | false=>rfl
    | true=>
      simp only [PX.out];generalize fb (n7 s.e xs) (q7 s.ob (n7 s.e xs))=q;simp only [dn];generalize ao _ _ _=po;cases po<;>rfl
  | callv x xs=>cases b with
    | false=>rfl
    | true=>
      simp only [PX.out];generalize (x.ev s.e).bare=y;cases y with
      | fn f cap k=>cases f with
        | func f=>
          simp only [acq];generalize fb (cap.take k++(n7 s.e xs++cap.drop k)) (q7 s.ob (cap.take k++(n7 s.e xs++cap.drop k)))=q;simp only [dn];generalize ao _ _ _=po;cases po<;>rfl
        | _=>rfl
      | _=>rfl
  | inv tbl x xs=>cases b with
    | false=>rfl
    | true=>
      simp only [PX.out];obtain ⟨rd,F,e⟩:=arq (P:=P) (r:=⟨d,g,u,.inv tbl x xs⟩) (s:=s) (c:=c) (tbl:=tbl) (p:=(x.ev s.e).may true/\eu true s.e xs) (vs:=n7 s.e xs) (y:=(x.ev s.e).bare);rw [e]
      rfl
  | nxt x=>cases b<;>rfl
 rw [B] at E;obtain ⟨w,a⟩:=fk E;obtain ⟨a,_⟩:=fk a;unfold PR.out at h l m |-;simp only at h l m w a |-;rw [a5k w];generalize yes s.e g=y at h l m |-;rcases y with _ | b
 ·have h:False:=by cases x<;>exact h
  exact h.elim
 cases x with
 | see o=>
   simp only [PX.out] at h l m |-;rw [bfy (show ∀t,t∈o.us->s'.e t=s.e t from a)]
   obtain ⟨z,A⟩:(o.see b s.e s'.ob).ok/\(o.see b s.e s'.ob).v=(o.see b s.e s.ob).v:=by
    cases hadr:o.adr with
    | true=>exact bl2 hadr h m
    | false=>exact bjg h (l hadr)
   rw [A];exact ⟨z,λ t j=>aa0 j,λ t j=>oa j,λ i hi=>by simp [PR.lg] at hi,λ i hi=>rfl⟩
 | act o=>replace l:=l rfl; cases b with
   | true=>
     simp only [PX.out] at h l |-;rw [big (show ∀t,t∈o.us->s'.e t=s.e t from a)];obtain ⟨z,A,C,D⟩:=bl4 h l;simp only at z A C D;rw [A];exact ⟨z,λ t j=>aa0 j,λ t j=>oa j,C,D⟩
   | false=>exact ⟨trivial,λ t j=>aa0 j,λ t j=>oa j,λ i hi=>by simp [PX.out,PR.lg] at hi,λ i hi=>rfl⟩
 | call f xs=>replace l:=l rfl; cases b with
   | true=>
     simp only [PX.out] at h l |-;rw [uk (show ∀t,t∈usL xs->s'.e t=s.e t from a),ya (show ∀t,t∈usL xs->s'.e t=s.e t from a)];exact aoj h l
   | false=>exact ⟨trivial,λ t j=>aa0 j,λ t j=>oa j,λ i hi=>by simp [PX.out,PR.lg] at hi,λ i hi=>rfl⟩
 | callv x xs=>replace l:=l rfl; cases b with
   | true=>
     obtain ⟨a,n⟩:=fk a;simp only [PX.out] at h l |-;rw [uk n,ya n,ae a];exact a9j h l
   | false=>exact ⟨trivial,λ t j=>aa0 j,λ t j=>oa j,λ i hi=>by simp [PX.out,PR.lg] at hi,λ i hi=>rfl⟩
 | inv tbl x xs=>replace l:=l rfl; cases b with
   | true=>
     obtain ⟨a,n⟩:=fk a;simp only [PX.out] at h l |-;rw [uk n,ya n,ae a];exact a9k h l
   | false=>exact ⟨trivial,λ t j=>aa0 j,λ t j=>oa j,λ i hi=>by simp [PX.out,PR.lg] at hi,λ i hi=>rfl⟩
 | nxt x=>cases b with
   | true=>exact (show False from h).elim
   | false=>exact ⟨trivial,λ t j=>aa0 j,λ t j=>oa j,λ i hi=>by simp [PX.out,PR.lg] at hi,λ i hi=>rfl⟩
theorem a1x (h:r.x.sto=true) (i:Nat):pin ((r.out P s c).st.ob i)=pin (s.ob i):=by
 rcases r with ⟨d,g,u,x⟩
 unfold PR.out;simp only;generalize yes s.e g=y;cases x with
 | act o=>cases o with
   | st n x1 x2=>
     rcases y with _ | b
     ·rfl
     cases b with
     | true=>exact bi5
     | false=>rfl
   | _=>cases h
 | _=>cases h
theorem a7r:(r.out P s c).lg.ad=r.x.adr/\(r.out P s c).lg.st=r.x.sto:=by
 rcases r with ⟨d,g,u,x⟩
 unfold PR.out;simp only;generalize yes s.e g=y;rcases y with _ | b
 ·cases x<;>exact ⟨rfl,rfl⟩
 cases x with
 | see o=>exact ⟨rfl,rfl⟩
 | act o=>cases b<;>exact ⟨rfl,rfl⟩
 | call f xs=>cases b with
   | false=>exact ⟨rfl,rfl⟩
   | true=>
     simp only [PX.out];generalize fb (n7 s.e xs) (q7 s.ob (n7 s.e xs))=q;simp only [dn];generalize ao _ _ _=po;cases po<;>exact ⟨rfl,rfl⟩
 | callv x xs=>cases b with
   | false=>exact ⟨rfl,rfl⟩
   | true=>
     simp only [PX.out];generalize (x.ev s.e).bare=y;cases y with
     | fn f cap k=>cases f with
       | func f=>
         simp only [acq];generalize fb (cap.take k++(n7 s.e xs++cap.drop k)) (q7 s.ob (cap.take k++(n7 s.e xs++cap.drop k)))=q;simp only [dn];generalize ao _ _ _=po;cases po<;>exact ⟨rfl,rfl⟩
       | _=>exact ⟨rfl,rfl⟩
     | _=>exact ⟨rfl,rfl⟩
 | inv tbl x xs=>cases b with
   | false=>exact ⟨rfl,rfl⟩
   | true=>
     simp only [PX.out];obtain ⟨rd,a,e⟩:=arq (P:=P) (r:=⟨d,g,u,.inv tbl x xs⟩) (s:=s) (c:=c) (tbl:=tbl) (p:=(x.ev s.e).may true/\eu true s.e xs) (vs:=n7 s.e xs) (y:=(x.ev s.e).bare);rw [e];exact ⟨rfl,rfl⟩
 | nxt x=>cases b<;>exact ⟨rfl,rfl⟩
end

end Go.Ev

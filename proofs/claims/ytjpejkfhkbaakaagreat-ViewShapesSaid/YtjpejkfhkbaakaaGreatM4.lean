import Derived.Orders
import Derived.Test.YtjpejkfhkbaakaaGreatM3
open Bool renaming and_eq_true → zaa, false_eq_true → zad
open Array renaming getD_eq_getD_getElem? → zab, getElem?_append → zaf, getElem?_eq_some_iff → zaj
open List renaming all_eq_true → zac, map_cons → zag, getElem?_eq_some_iff → zah, length_cons → zai
open Nat renaming le_refl → zae
open Option renaming map_eq_some_iff → zak
namespace Go.Ev
set_option maxHeartbeats 8000000
set_option maxRecDepth 100000
noncomputable section
open Go
set_option linter.unusedSectionVars false
set_option linter.unnecessarySimpa false
set_option linter.unusedSimpArgs false
set_option linter.unusedVariables false
open Classical in
def fi {L C:Type} (r:Nat->L->C) (a:Nat->L->Prop) (S:Nat->Prop):Nat->L->C
 | 0,l=>r 0 l
 | k+1,l=>if S k/\a k l then r (k+1) l else fi r a S k l
section
variable {L C:Type} {n:Nat} {r:Nat->L->C} {Wt Us pre:Nat->L->Prop} {S:Nat->Prop} {pr:Nat->Nat->Prop}
theorem auc (c:∀k l,k<n->¬Wt k l->r (k+1) l=r k l) (d:∀i j,i<j->j<n->¬pr j i->∀l,¬(Wt i l/\Us j l)/\¬(Wt j l/\Us i l))
 (q:∀j,S j->∀i,pr j i->S i) {j:Nat} (u:j<n) (o:¬S j) (s:∀i,pr j i->S i) {l:L} (g:Us j l):fi r Wt S n l=r j l:=by
 have t:∀k,k<=j->fi r Wt S k l=r k l:=fun k=>by
  induction k with
  | zero=>intro _; rfl
  | succ k ih=>
    intro w;simp only [fi];by_cases b:Wt k l
    ·have:S k:=s k (Classical.byContradiction fun a=>(d k j (by omega) u a l).1 ⟨b,g⟩);rw [if_pos ⟨this,b⟩]
    rw [if_neg (fun h=>b h.2),ih (by omega),c k l (by omega) b]
 have p:∀m,j+m<=n->fi r Wt S (j+m) l=r j l:=fun m=>by
  induction m with
  | zero=>intro _; exact t j (zae _)
  | succ m ih=>
    intro v;rw [show j+(m+1)=(j+m)+1 by omega];simp only [fi];rw [if_neg,ih (by omega)];rintro ⟨f,b⟩
    have e:j<j+m:=by
     rcases Nat.eq_zero_or_pos m with h | h
     ·subst h; exact (o f).elim
     omega
    exact o (q _ f j (Classical.byContradiction fun a=>(d j (j+m) e (by omega) a l).2 ⟨b,g⟩))
 have:=p (n-j) (by omega)
 rwa [show j+(n-j)=n by omega] at this
theorem akl {j:Nat} {l:L} (b:¬Wt j l):∀k,fi r Wt (fun i=>S i\/i=j) k l=fi r Wt S k l
 | 0=>rfl
 | k+1=>by
   simp only [fi]
   have:((S k\/k=j)/\Wt k l)↔(S k/\Wt k l):=by
    constructor
    ·rintro ⟨h | h,a⟩
     ·exact ⟨h,a⟩
     subst h; exact (b a).elim
    rintro ⟨h,a⟩; exact ⟨.inl h,a⟩
   by_cases h:S k/\Wt k l
   ·rw [if_pos h,if_pos (this.2 h)]
   rw [if_neg h,if_neg (fun q=>h (this.1 q)),akl b k]
theorem aq7 (d:∀k l,k<n->Wt k l->Us k l) (b:∀i j,i<j->j<n->¬pr j i->∀l,¬(Wt i l/\Us j l)/\¬(Wt j l/\Us i l))
 (g:∀j,S j->∀i,pr j i->S i) {j:Nat} (p:j<n) (o:¬S j) {l:L} (e:Wt j l):fi r Wt (fun i=>S i\/i=j) n l=r (j+1) l:=by
 have h:∀m,j+1+m<=n->fi r Wt (fun i=>S i\/i=j) (j+1+m) l=r (j+1) l:=fun m=>by
  induction m with
  | zero=>
    intro _;simp only [fi];rw [if_pos ⟨.inr rfl,e⟩]
  | succ m ih=>
    intro q;rw [show j+1+(m+1)=(j+1+m)+1 by omega];simp only [fi];rw [if_neg,ih (by omega)];rintro ⟨f | f,c⟩
    ·exact o (g _ f j (Classical.byContradiction fun a=>(b j (j+1+m) (by omega) (by omega) a l).2 ⟨c,d j l p e⟩))
    omega
 have:=h (n-(j+1)) (by omega)
 rwa [show j+1+(n-(j+1))=n by omega] at this
theorem aco (a:∀k l,k<n->¬Wt k l->r (k+1) l=r k l) (c:∀k,k<n->S k) {l:L}:∀k,k<=n->fi r Wt S k l=r k l
 | 0,_=>rfl
 | k+1,hk=>by
   simp only [fi];by_cases b:Wt k l
   ·rw [if_pos ⟨c k (by omega),b⟩]
   rw [if_neg (fun h=>b h.2),aco a c k (by omega),a k l (by omega) b]
theorem afw (a:∀k,¬S k) {l:L}:∀k,fi r Wt S k l=r 0 l
 | 0=>rfl
 | k+1=>by
   simp only [fi];rw [if_neg (fun h=>a k h.1),afw a k]
theorem afv {p q:Nat->Bool} {j:Nat} (b:∀x,q x=true->p x=true) (d:p j=true) (c:q j=false):∀{l:List Nat},j∈l->l.countP q<l.countP p
 | x::l,h=>by
   have e:l.countP q<=l.countP p:=List.countP_mono_left fun x _=>b x;rw [List.countP_cons,List.countP_cons];rcases List.mem_cons.1 h with h | h
   ·subst h;rw [d,c];simp;omega
   have:=afv b d c h
   have:(if q x=true then 1 else 0)<=(if p x=true then 1 else 0):=by
    by_cases a:q x=true
    ·rw [if_pos a,if_pos (b x a)]; exact zae _
    rw [if_neg a]; exact Nat.zero_le _
   omega
end
def ae0 (a b:List Nat):Bool:=a.all fun x=>!b.contains x
def ar5 (a b:Lg):Bool:=ae0 a.d b.us&&ae0 b.d a.us&&(ae0 a.wr b.rd||(a.st&&b.ad))&&(ae0 b.wr a.rd||(b.st&&a.ad))
def jc (b:List (List Nat)) (a:List Lg):Bool:=
 (List.range a.length).all fun j=>(List.range j).all fun i=>(b.getD j []).contains i||ar5 (a.getD i default) (a.getD j default)
def wpD (P:Program):List PR->List Lg->St->(List Lg->St->Prop)->Prop
 | [],log,s,K=>K log s
 | r::rs,log,s,K=>∃c:Ans,(r.out P s c).ok/\wpD P rs (log++[(r.out P s c).lg]) (r.out P s c).st K
theorem ai2 {P:Program} {K:List Lg->St->Prop}:∀{rs:List PR} {b:List Lg} {s:St},wpD P rs b s K ->
 ∃(R:Nat->St) (C:Nat->Ans) (a:List Lg),R 0=s/\a.length=rs.length/\(∀k r,rs[k]?=some r->(r.out P (R k) (C k)).ok/\R (k+1)=(r.out P (R k) (C k)).st/\a[k]?=some (r.out P (R k) (C k)).lg)/\K (b++a) (R rs.length)
 | [],b,s,h=>⟨fun _=>s,fun _=>(.undef,[]),[],rfl,rfl,by simp,by rw [List.append_nil]; exact h⟩
 | r::rs,b,s,h=>by
   obtain ⟨c,j,i⟩:=h;obtain ⟨R,C,a,l,g,e,f⟩:=ai2 i;refine ⟨fun k=>match k with | 0=>s | k+1=>R k,fun k=>match k with | 0=>c | k+1=>C k,(r.out P s c).lg::a,rfl,by simp [g],fun k q d=>?_,by simpa using f⟩;cases k with
   | zero=>simp at d; subst d; exact ⟨j,l,by simp⟩
   | succ k=>simp at d; exact ⟨(e k q d).1,(e k q d).2.1,by simpa using (e k q d).2.2⟩
inductive Lc where
 | t (i:Nat)
 | o (i:Nat)
 | p (i:Nat)
inductive Ct where
 | t (x:AV)
 | o (x:Option (Nat×Ob))
 | p (x:Option (Nat×Option Nat))
def o9 (s:St):Lc->Ct
 | .t t=>.t (s.e t)
 | .o i=>.o (s.ob i)
 | .p i=>.p (pin (s.ob i))
theorem afi {s s':St} (h:∀l,o9 s l=o9 s' l):s=s':=by
 rcases s with ⟨e,ob⟩
 rcases s' with ⟨e',a⟩
 have c:e=e':=funext fun t=>by simpa [o9] using h (.t t)
 have b:ob=a:=funext fun t=>by simpa [o9] using h (.o t)
 rw [c,b]
def wrt (a:List Lg) (k:Nat):Lc->Prop
 | .t t=>t∈(a.getD k default).d
 | .o i=>i∈(a.getD k default).wr
 | .p i=>i∈(a.getD k default).wr/\(a.getD k default).st=false
def usd (a:List Lg) (k:Nat):Lc->Prop
 | .t t=>t∈(a.getD k default).us
 | .o i=>i∈(a.getD k default).rd/\(a.getD k default).ad=false
 | .p i=>i∈(a.getD k default).rd
variable {i:Nat}
theorem ue {a b:List Nat} (h:ae0 a b=true) (d:i∈a) (c:i∈b):False:=by
 simp only [ae0,zac] at h;have:=h i d;simp [c] at this
variable {j:Nat}
theorem ao8 {f:List (List Nat)} {c:List Lg} (h:jc f c=true) (k:i<j) (q:j<c.length) (m:¬(i∈f.getD j [])) (l:Lc):¬(wrt c i l/\usd c j l)/\¬(wrt c j l/\usd c i l):=by
 simp only [jc,zac,List.mem_range,Bool.or_eq_true] at h;have g:=(h j q i k).resolve_left (by simpa using m);simp only [ar5,zaa,Bool.or_eq_true] at g;obtain ⟨⟨⟨g,n⟩,e⟩,d⟩:=g;cases l with
 | t t=>exact ⟨fun ⟨a,b⟩=>ue g a b,fun ⟨a,b⟩=>ue n a b⟩
 | o t=>
   refine ⟨fun ⟨a,b⟩=>?_,fun ⟨a,b⟩=>?_⟩
   ·rcases e with e | ⟨_,e⟩
    ·exact ue e a b.1
    rw [b.2] at e; cases e
   rcases d with d | ⟨_,d⟩
   ·exact ue d a b.1
   rw [b.2] at d; cases d
 | p t=>
   refine ⟨fun ⟨a,b⟩=>?_,fun ⟨a,b⟩=>?_⟩
   ·rcases e with e | ⟨e,_⟩
    ·exact ue e a.1 b
    rw [a.2] at e; cases e
   rcases d with d | ⟨d,_⟩
   ·exact ue d a.1 b
   rw [a.2] at d; cases d
theorem ac0 {P:Program} {r:PR} {s:St} {c:Ans}:(r.out P s c).lg.us=gus r.g++(r.x.us++r.d.toList)/\(r.out P s c).lg.d=r.d.toList:=by
 rcases r with ⟨d,g,u,x⟩
 unfold PR.out;simp only;generalize yes s.e g=y;rcases y with _ | b
 ·cases x<;>exact ⟨rfl,rfl⟩
 cases x with
 | see o=>exact ⟨rfl,rfl⟩
 | act o=>cases b<;>exact ⟨rfl,rfl⟩
 | call f xs=>cases b with
   | false=>exact ⟨rfl,rfl⟩
   | true=>
     simp only [PX.out];generalize u0 (i8 s.e xs) (j9 s.ob (i8 s.e xs))=q;simp only [r8];generalize o4 _ _ _=po;cases po<;>exact ⟨rfl,rfl⟩
 | callv x xs=>cases b with
   | false=>exact ⟨rfl,rfl⟩
   | true=>
     simp only [PX.out];generalize (x.ev s.e).bare=y;cases y with
     | fn f cap k=>cases f with
       | func f=>
         simp only [od];generalize u0 (cap.take k++(i8 s.e xs++cap.drop k)) (j9 s.ob (cap.take k++(i8 s.e xs++cap.drop k)))=q;simp only [r8];generalize o4 _ _ _=po;cases po<;>exact ⟨rfl,rfl⟩
       | _=>exact ⟨rfl,rfl⟩
     | _=>exact ⟨rfl,rfl⟩
 | inv tbl x xs=>cases b with
   | false=>exact ⟨rfl,rfl⟩
   | true=>
     simp only [PX.out];obtain ⟨rd,a,e⟩:=acw (P:=P) (r:=⟨d,g,u,.inv tbl x xs⟩) (s:=s) (c:=c) (tbl:=tbl) (p:=(x.ev s.e).may true/\t9 true s.e xs) (vs:=i8 s.e xs) (y:=(x.ev s.e).bare);rw [e];exact ⟨rfl,rfl⟩
 | nxt x=>cases b<;>exact ⟨rfl,rfl⟩
theorem wt {d:Array Oper} {a:List (List Nat)} (h:ad7 d a=true) {o:Oper} (i:d[j]?=some o) :
 (∀e∈o.after,Region.binds .any e=true->e.on<j)/\∀k,k∈a.getD j []->∃e∈o.after,Region.binds .any e=true/\(e.on=k\/k∈a.getD e.on []):=by
 simp only [ad7,zaa,zac,List.mem_range] at h;have b:=h.2 j (zaj.1 i).1;rw [i] at b;rcases hp:a[j]? with _ | p
 ·rw [hp] at b; cases b
 rw [hp] at b;simp only [zaa,zac,Array.all_eq_true_iff_forall_mem] at b;refine ⟨fun e g c=>?_,fun k l=>?_⟩
 ·have:=b.1 e g;rw [c] at this;simpa using this
 have f:a.getD j []=p:=by simp [List.getD_eq_getElem?_getD,hp]
 rw [f] at l;have:=(b.2 k l).2;rw [Array.any_eq_true'] at this;obtain ⟨e,g,c⟩:=this;simp only [zaa,Bool.or_eq_true,beq_iff_eq,List.contains_iff_mem] at c;exact ⟨e,g,c.1,c.2⟩

def gt (fl:Bool) (id:Nat) (ob:Obs):AV->AV×Obs
 | .nils sz z=>if fl then (.own id (nv ob id) 0 0,upd id (nv ob id,.row sz z true true []) ob) else (.nils sz z,ob)
 | x=>(x,ob)
def o7 (e:Env):List (Nat×Bool)->Obs->List AV×Obs
 | [],ob=>([],ob)
 | (t,fl)::r,ob=>((gt fl (900000+t) ob (e t)).1::(o7 e r (gt fl (900000+t) ob (e t)).2).1,(o7 e r (gt fl (900000+t) ob (e t)).2).2)
def ahi (D:List AV->List Ob->List Ob->Prop):Option (List AV×List Ob×List Ob)->Prop
 | some (vs,pos,los)=>D vs pos los
 | none=>False
def rk (np:Nat) (live:List (Nat×Bool)) (s:St) (D:List AV->List Ob->List Ob->Prop):Prop:=
 ahi D (nrm 64 np 2000000 (o7 s.e live s.ob).1 (o7 s.e live s.ob).2)
def keep:List (Nat×Bool)->List AV->Env
 | l::ls,x::xs=>put l.1 x (keep ls xs)
 | _,_=>fun _=>.undef
def ab7 (live:List (Nat×Bool)) (vs:List AV) (pos a:List Ob):St:=⟨keep live vs,t5 1000000 pos (t5 2000000 a fun _=>none)⟩
def W (P:Program) (np:Nat):PC->(Ex->St->Prop)->St->Prop
 | .skip,K,s=>K .nor s
 | .reg rs,K,s=>wpR P rs (K .nor) s
 | .seq a b,K,s=>W P np a (fun x s=>match x with | .nor=>W P np b K s | x=>K x s) s
 | .cond x a b,K,s=>match x.ev s.e with
   | .r (.v (.bool c))=>(c=true->W P np a K s)/\(c=false->W P np b K s)
   | _=>False
 | .block id c,K,s=>W P np c (fun x s=>match x with | .ex i=>if i=id then K .nor s else K (.ex i) s | x=>K x s) s
 | .loop c,K,s=>∃(live:List (Nat×Bool)) (I:List AV->List Ob->List Ob->Prop) (m:List AV->List Ob->List Ob->Nat),(live.all fun p=>decide (p.1<100000))=true/\rk np live s I /\
  ∀vs pos g,I vs pos g->W P np c (fun x s'=>match x with | .nor=>rk np live s' (fun h d f=>I h d f/\m h d f<m vs pos g) | x=>K x s') (ab7 live vs pos g)
 | .exit i,K,s=>K (.ex i) s
 | .ret,K,s=>K .rt s
 | .drw rs pre,K,s=>wpD P rs [] s fun j s=>jc pre j=true/\K .nor s
section
variable {P:Program} {X:Cx} [GlC P X] {w w':World} {s:St} {ρ ρ':Pl->Option Nat} {a:Act} {o:Oper} {ob ob':Obs} {R R':Nat->Prop} {ops:Array Oper} {Q:Exit->Act->World->Prop}
theorem ama (p:Gam X s ρ a w) {g:Option (Nat×Bool)} {b:Bool} (hc:aq9 ops o.guard g=true) (hy:yes s.e g=some b):Region.wanted o (yielded ops a.tmps)=b:=by
 unfold aq9 at hc;split at hc
 ·rename_i i;simp [yes] at hy;subst hy;simp [Region.wanted,i]
 ·rename_i j d t l m;simp only [zaa,beq_iff_eq] at hc;obtain ⟨rfl,n⟩:=hc;have c:=p.env t;simp only [yes] at hy;simp only [Region.wanted,m,yielded,n,Option.bind_some];generalize s.e t=x at c hy;unfold ug at hy;split at hy
  ·rename_i q;cases hy;have i:=i7 c
   have k:a.tmps[t]?=some (.bool q):=by
    rcases hq:a.tmps[t]? with _ | u
    ·simp [zab,hq,undef] at i
    simp [zab,hq] at i;rw [i]
   rw [k];cases d<;>cases q<;>rfl
  ·rename_i h q;cases hy;cases c with
   | gd _ i h3=>
   cases h
   ·have k:=h3 rfl;rcases hq:a.tmps[t]? with _ | u
    ·simp
    simp [zab,hq] at k;subst k;simp [undef]
   have f:=i7 (i rfl)
   have k:a.tmps[t]?=some (.bool q):=by
    rcases hq:a.tmps[t]? with _ | u
    ·simp [zab,hq,undef] at f
    simp [zab,hq] at f;rw [f]
   rw [k];cases d<;>cases q<;>rfl
  cases hy
 cases hc
theorem aet {f:FuncId} (h:uq P f=true) (a:Array Value):(callFunc f a).run P w=.ok (.enter f a) w:=by
 unfold uq at h;split at h
 ·rename_i fn d;simp at h;obtain ⟨b,c⟩:=h;have g:¬fn.body=none:=by intro e; rw [e] at b; cases b
  simp [callFunc,d,c,g]
 cases h
theorem alw {f:FuncId} {a:List Opd} (h:tq P o (.call f a)=true):∃c,o.op=.call c/\c.callee=.value (.func f)/\o6 opd c.args.toList a=true/\uq P f=true:=by
 unfold tq at h;cases ho:o.op<;>simp only [ho] at h<;>try (cases h; done)
 rename_i c;split at h
 ·rename_i e hc;simp only [zaa,beq_iff_eq] at h;obtain ⟨⟨rfl,b⟩,d⟩:=h;exact ⟨c,rfl,hc,b,d⟩
 cases h
theorem aiw {x:Opd} {a:List Opd} (h:tq P o (.callv x a)=true):∃c x',o.op=.call c/\c.callee=.value x'/\opd x' x=true/\o6 opd c.args.toList a=true:=by
 unfold tq at h;cases ho:o.op<;>simp only [ho] at h<;>try (cases h; done)
 rename_i c;split at h
 ·rename_i x' hc;simp only [zaa] at h;exact ⟨c,x',rfl,hc,h.1,h.2⟩
 cases h
theorem aoz {tbl:List (TypeId×FuncId)} {x:Opd} {a:List Opd} (h:tq P o (.inv tbl x a)=true):∃c r m,o.op=.call c/\c.callee=.invoke r m/\opd r x=true/\o6 opd c.args.toList a=true/\tbl.all (af7 P m)=true:=by
 unfold tq at h;cases ho:o.op<;>simp only [ho] at h<;>try (cases h; done)
 rename_i c;split at h
 ·rename_i r m hc;simp only [zaa] at h;exact ⟨c,r,m,rfl,hc,h.1.1,h.1.2,h.2⟩
 cases h
theorem aoy {x:Opd} (h:tq P o (.nxt x)=true):∃a,o.op=.next a false/\opd a x=true:=by
 unfold tq at h;cases ho:o.op<;>simp only [ho] at h<;>try (cases h; done)
 rename_i a str;simp only [zaa,Bool.not_eq_true'] at h;obtain ⟨b,rfl⟩:=h;exact ⟨a,rfl,b⟩
theorem afn {t:TypeId} {f:FuncId}:∀{tbl:List (TypeId×FuncId)},y7 t tbl=some f->(t,f)∈tbl
 | [],h=>by cases h
 | (t',f')::r,h=>by
   simp only [y7] at h;split at h
   ·rename_i a; cases h; subst a; simp
   exact List.mem_cons_of_mem _ (afn h)
theorem avw {m:String} {t:TypeId} {f:FuncId} {v:Value} {as:Array Value} (h:af7 P m (t,f)=true):(invoke (.fn (.method m) #[]) (#[.iface t v]++as)).run P w=.ok (.enter f (#[v]++as)) w:=by
 simp only [af7,zaa] at h;obtain ⟨⟨s,a⟩,r⟩:=h;split at a
 ·rename_i i hi;split at a
  ·rename_i q y;simp only [zaa] at a;obtain ⟨x,a⟩:=a;split at a
   ·rename_i A b l;simp only [zaa,beq_iff_eq] at a;obtain ⟨n,rfl⟩:=a;rw [n] at l;obtain ⟨d,z,o⟩:=p9 r;cases d with
    | pointer e=>
      have c:q.path=#[]:=by simpa using x
      obtain ⟨k,u⟩:∃k,P.types.size+Made.depth=k+1:=⟨P.types.size+(Made.depth-1),by unfold Made.depth; omega⟩
      have g:(#[Value.iface t v]++as)[0]?=some (.iface t v):=by
       rw [zaf,if_pos (by simp)]
       rfl
      have j:(#[Value.iface t v]++as).extract 1 (#[Value.iface t v]++as).size=as:=by
       rw [Array.extract_append];simp
      have p:(method (P.types.size+Made.depth) t v m).run P w=.ok (f,v) w:=by
       rw [u];simp [method,typeInfo,hi,y,c,follow,l,receiverAt,run_underlying z,Place.get]
      have hc:(callMethod (.iface t v) m as).run P w=.ok (.enter f (#[v]++as)) w:=by
       simp only [callMethod,Sem.run_bind,run_program,Result.andThen_ok,p];exact aet s _
      simp only [invoke,g,j];exact hc
    | _=>cases o
   cases a
  cases a
 cases a
theorem anv {K:AV->Obs->Prop} {N:Operand} {u:AV} (F:Gam X s ρ a w) (R:o.op=.next N false) (hu:RA X s ρ w u (a.eval N)) (h:ahh s.ob K u) :
 ∃c v A k,(execOp a.eval o).run P w=.ok (.value c) k/\K v A/\Gam X ⟨s.e,A⟩ ρ a k/\RA X ⟨s.e,A⟩ ρ k v c:=by
 unfold ahh at h;split at h
 ·rename_i id ver;unfold ak8 at h;split at h
  ·rename_i x l f d S L;have n:=abt L;rcases hmp:n8 s.ob x l with _ | ⟨M,c⟩
   ·rw [hmp] at h; exact h.elim
   rw [hmp] at h;obtain ⟨h1,h2,h3,h4⟩:=h;generalize D:a.eval N=v at hu;cases hu;rename_i h0 Q;obtain ⟨b,m,rfl⟩:=Q.live n;obtain ⟨b',p,U,V,T⟩:=F.obj id ver _ n;rw [m] at U; cases U;obtain ⟨h5,Z,J,H⟩:=F.mapB hmp T;cases J;have Y:(leftOf M.toArray d.toArray).toList=af6 M d:=by simp [leftOf,af6]
   rcases run_next_at (P:=P) w o.type b p f S d.toArray M.toArray c V H (by simpa using h1) h2 with ⟨hz,j⟩ | ⟨e,W,k,C,j⟩
   ·refine ⟨.tuple #[.bool false],.tup [bl false],s.ob,w,by simp only [execOp,R,D,Sem.run_bind,j,Result.andThen_ok,Sem.run_pure],h3 ?_,F,?_⟩
    ·rw [<- Y];exact List.eq_nil_of_length_eq_zero (by simpa using hz)
    refine .tup _ _ rfl fun i y c g hc=>?_
    match i with
    | 0=>simp at g hc; subst g; subst hc; exact .r (.v _)
    | i+1=>simp at g
   rw [Y] at W
   have E:Gam X s ρ a k:=by
    rcases C with rfl | rfl
    ·exact F
    exact F.drew _
   have O:k.heap=w.heap:=by rcases C with rfl | rfl<;>rfl
   have t:k.heap[b]?=some (.mapIter (some p) f d.toArray S):=by rw [O]; exact V
   have q:=ahn (y:=.mapIter (some p) f (d++[e.born]).toArray c) t;have z:d.toArray.push e.born=(d++[e.born]).toArray:=by simp
   rw [z,show ChangeMaps.setBlock k b (Obj.mapIter (some p) f (d++[e.born]).toArray c)={ k with heap:=k.heap.setIfInBounds b (Obj.mapIter (some p) f (d++[e.born]).toArray c) } from rfl] at j
   have G:RelA k (d7 X.B s.ob ρ k) s.ob ρ (.mp x l) (.map (some p)):=by
    cases T;rename_i q1 q2;exact .mp _ _ _ q1 q2
   have I:=Stays.modifyG (x':=.iter (.mp x l) f (d++[e.born]) c) E n rfl m q (fun cs e fr h=>by rw [t] at h; cases h) ver (.inl ⟨rfl,trivial⟩)
   refine ⟨.tuple #[.bool true,e.key,e.val],.tup [bl true,.r (gs e.key),.r (gs e.val)],_,_,by simp only [execOp,R,D,Sem.run_bind,j,Result.andThen_ok,Sem.run_pure],h4 e W,
    E.modifyG n rfl m q (fun cs e fr h=>by rw [t] at h; cases h) ver (.inl ⟨rfl,trivial⟩) (.inr ⟨rfl,trivial,fun _=>rfl⟩) ⟨b,p,m,q.new,G.stays I⟩,?_⟩
   refine .tup _ _ rfl fun i y c g hc=>?_
   match i with
   | 0=>simp at g hc; subst g; subst hc; exact .r (.v _)
   | 1=>simp at g hc; subst g; subst hc; exact .r (ui _)
   | 2=>simp at g hc; subst g; subst hc; exact .r (ui _)
   | i+3=>simp at g
  exact h.elim
 exact h.elim
theorem ag9 {r:PR} {K:St->Prop} {N:Act->World->Prop} (D:Gam X s ρ a w) (hi:ops[i]?=some o) (h4:yr P X.n ops o r=true) (h:r.wp P s K (yes s.e r.g)) (hN:∀s' ha a' w',K s'->Gam X s' ha a' w'->N a' w'):wpOp P ops Q i N a w:=by
 simp only [yr,zaa,beq_iff_eq] at h4;obtain ⟨⟨⟨J,B⟩,hg⟩,hx⟩:=h4;rcases hy:yes s.e r.g with _ | b
 ·rw [hy] at h; exact h.elim
 rw [hy] at h;have hw:=ama D hg hy
 have p:∀x,(∀c,c=undef->RA X s ρ w x c)->Gam X ⟨l8 r.d x s.e,s.ob⟩ ρ (a.put o.dst undef) w:=fun x hx=>by
  rw [J];rcases hrd:r.d with _ | d
  ·exact D
  rw [hrd] at B;exact D.see (by simpa using B) (hx _ rfl)
 unfold wpOp;simp only [hi,hw];simp only [PR.wp] at h;rcases r with ⟨rd,rg,ru,rx⟩
 simp only at J B hg hx h hy p;cases rx with
 | see po=>
   obtain ⟨I,u⟩:=h;cases b with
   | true=>
     simp only [if_true];refine .inl ?_;obtain ⟨c,j,H⟩:=atc (P:=P) rfl D hx I;unfold Oper.wp;rw [j,Oper.upon_value,J];rcases rd with _ | d
     ·simp [aln] at B
     refine hN _ ρ _ _ u (D.see (by simpa using B) ?_);unfold gdv;split
     ·exact H
     exact .gd true (fun _=>H) (by simp)
   | false=>
     simp only [zad,if_false];refine hN _ ρ _ _ u (p _ fun c hc=>?_);rcases rg with _ | g
     ·simp [yes] at hy
     simp only [gdv];exact .gd false (by simp) (fun _=>hc)
 | act po=>
   cases b with
   | false=>
     simp only [zad,if_false];exact hN _ ρ _ _ (h.2 rfl) (p _ fun c _=>.undef c)
   | true=>
     simp only [if_true];refine .inl ?_;obtain ⟨I,u⟩:=h.1 rfl;rcases rd with _ | d
     ·have Y:po.nod=true:=by simpa [an8,aln] using B
      obtain ⟨nx,Z,A,j,l,hv⟩:=abm (P:=P) D hx Y I;unfold Oper.wp;rw [j];rcases hv with ⟨c,rfl,H⟩ | ⟨rfl,hv⟩
      ·rw [Oper.upon_value,J];exact hN _ A _ _ u l
      rw [Oper.upon_skip,J];exact hN _ A _ _ u l
     obtain ⟨nx,Z,A,j,l,hv⟩:=aux (P:=P) (d:=d) D hx (by simpa using B) I;unfold Oper.wp;rw [j];rcases hv with ⟨c,rfl,H⟩ | ⟨rfl,hv⟩
     ·rw [Oper.upon_value,J];exact hN _ A _ _ u (l.see (s:=⟨s.e,_⟩) (by simpa using B) H)
     rw [Oper.upon_skip,J];refine hN _ A _ _ u (l.see (s:=⟨s.e,_⟩) (by simpa using B) ?_);simp only [Option.getD_some];rw [hv];exact .undef _
 | call f args=>
   cases b with
   | false=>
     simp only [zad,if_false];exact hN _ ρ _ _ (h.2 rfl) (p _ fun c _=>.undef c)
   | true=>
     simp only [if_true];refine .inl ?_;obtain ⟨I,u⟩:=h.1 rfl;obtain ⟨c,U,E,C,L⟩:=alw hx;obtain ⟨W,g2⟩:=ud D rfl C I
     have j:(execOp a.eval o).run P w=.ok (.enter f (c.args.map a.eval)) w:=by
      have:=aet (w:=w) L (c.args.map a.eval);simp [execOp,U,resolve,E,Act.eval,Deferred.ofValue,invoke];exact this
     unfold Oper.wp;rw [j,Oper.upon_enter];refine (yt D u (by simp [W]) fun i x cc G hc=>?_).mono ?_
     ·rw [Array.getElem?_map,zak] at hc;obtain ⟨y,hy,rfl⟩:=hc;exact g2 i x y G (by simpa using hy)
     rintro e Z ⟨cv,v,F,A,rfl,M,l,H⟩;simp only;rw [J];rcases rd with _ | d
     ·exact hN _ A _ _ M l
     exact hN _ A _ _ M (l.see (s:=⟨s.e,F⟩) (by simpa using B) H)
 | callv x args=>
   cases b with
   | false=>
     simp only [zad,if_false];exact hN _ ρ _ _ (h.2 rfl) (p _ fun c _=>.undef c)
   | true=>
     simp only [if_true];refine .inl ?_;obtain ⟨hm,I,u⟩:=h.1 rfl;obtain ⟨c,x',U,E,G,C⟩:=aiw hx;obtain ⟨W,g2⟩:=ud D rfl C I;have L:=d5 D rfl G hm;generalize (x.ev s.e).bare=xv at L u;unfold al9 at u;split at u
     ·rename_i f cap k;obtain ⟨h9,u⟩:=u;generalize S:a.eval x'=cf at L;cases L;rename_i fs cs hl h5 hk
      have j:(execOp a.eval o).run P w=.ok (.enter f (fs++(c.args.map a.eval++cs))) w:=by
       have:=aet (w:=w) h9 (fs++(c.args.map a.eval++cs));simp [execOp,U,resolve,E,S,Deferred.ofValue,invoke];exact this
      unfold Oper.wp;rw [j,Oper.upon_enter];have hb:(i8 s.e args).length=c.args.size:=by rw [W]; simp
      have h3:∀(i:Nat) (y:AV) (v:Value),(cap.take k)[i]?=some y->fs[i]?=some v->RA X s ρ w y v:=fun i y v hy hv=>by
       rw [List.getElem?_take] at hy;split at hy
       ·rename_i O;exact h5 i y v hy (by rw [zaf,if_pos (by omega)]; exact hv)
       cases hy
      have T:∀(i:Nat) (y:AV) (v:Value),(cap.drop k)[i]?=some y->cs[i]?=some v->RA X s ρ w y v:=fun i y v hy hv=>by
       rw [List.getElem?_drop] at hy;exact h5 (k+i) y v hy (by rw [zaf,if_neg (by omega),show k+i-fs.size=i by omega]; exact hv)
      have R:∀(xs ys:List AV) (us vs:Array Value),us.size=xs.length->(∀(i:Nat) (y:AV) (v:Value),xs[i]?=some y->us[i]?=some v->RA X s ρ w y v) ->
       (∀(i:Nat) (y:AV) (v:Value),ys[i]?=some y->vs[i]?=some v->RA X s ρ w y v)->∀(i:Nat) (y:AV) (v:Value),(xs++ys)[i]?=some y->(us++vs)[i]?=some v->RA X s ρ w y v:=
       fun xs ys us vs hs I u i y v hy hv=>by
        rw [List.getElem?_append] at hy;rw [zaf,hs] at hv;split at hy
        ·rename_i O;rw [if_pos O] at hv;exact I i y v hy hv
        rename_i O;rw [if_neg O] at hv;exact u _ y v hy hv
      have h7:(cap.take k).length=k:=by rw [List.length_take]; omega
      refine (yt D u (by simp [W]; omega) (R _ _ _ _ (by rw [h7]; exact hk) h3 (R _ _ _ _ (by rw [hb]; simp) (fun i y v hy hv=>?_) T))).mono ?_
      ·rw [Array.getElem?_map,zak] at hv;obtain ⟨z,V,rfl⟩:=hv;exact g2 i y z hy (by simpa using V)
      rintro e Z ⟨cv,v,F,A,rfl,M,l,H⟩;simp only;rw [J];rcases rd with _ | d
      ·exact hN _ A _ _ M l
      exact hN _ A _ _ M (l.see (s:=⟨s.e,F⟩) (by simpa using B) H)
     cases u
 | inv tbl x args=>
   cases b with
   | false=>
     simp only [zad,if_false];exact hN _ ρ _ _ (h.2 rfl) (p _ fun c _=>.undef c)
   | true=>
     simp only [if_true];refine .inl ?_;obtain ⟨hm,I,u⟩:=h.1 rfl;obtain ⟨c,rv,m,U,E,G,C,h0⟩:=aoz hx;obtain ⟨W,g2⟩:=ud D rfl C I;have L:=d5 D rfl G hm;generalize (x.ev s.e).bare=xv at L u;unfold abn at u;split at u
     ·rename_i t y;split at u
      ·rename_i f h6;generalize S:a.eval rv=cf at L;cases L;rename_i cy hy;have h8:=zac.1 h0 _ (afn h6)
       have j:(execOp a.eval o).run P w=.ok (.enter f (#[cy]++c.args.map a.eval)) w:=by
        have:=avw (w:=w) (v:=cy) (as:=c.args.map a.eval) h8;simp only [execOp,U,resolve,E,S,Sem.run_bind,Sem.run_pure,Result.andThen_ok];exact this
       unfold Oper.wp;rw [j,Oper.upon_enter];refine (yt D u (by simp [W]; omega) fun i z cc V hc=>?_).mono ?_
       ·cases i with
        | zero=>
          simp at V;rw [zaf,if_pos (by simp)] at hc;simp at hc;subst V; subst hc;exact hy
        | succ i=>
          simp only [List.getElem?_cons_succ] at V;rw [zaf,if_neg (by simp)] at hc;simp only [List.size_toArray,zai,List.length_nil,Nat.zero_add,Nat.add_sub_cancel] at hc;rw [Array.getElem?_map,zak] at hc;obtain ⟨q,hq,rfl⟩:=hc;exact g2 i z q V (by simpa using hq)
       rintro e Z ⟨cv,v,F,A,rfl,M,l,H⟩;simp only;rw [J];rcases rd with _ | d
       ·exact hN _ A _ _ M l
       exact hN _ A _ _ M (l.see (s:=⟨s.e,F⟩) (by simpa using B) H)
      cases u
     cases u
 | nxt x=>
   cases b with
   | false=>
     simp only [zad,if_false];exact hN _ ρ _ _ (h.2 rfl) (p _ fun c _=>.undef c)
   | true=>
     simp only [if_true];refine .inl ?_;obtain ⟨hm,u⟩:=h.1 rfl;obtain ⟨it,U,G⟩:=aoy hx;have L:=d5 D rfl G hm;obtain ⟨c,v,F,Z,j,M,l,H⟩:=anv (P:=P) D U L u;unfold Oper.wp;rw [j,Oper.upon_value,J];rcases rd with _ | d
     ·exact hN _ ρ _ _ M l
     exact hN _ ρ _ _ M (l.see (s:=⟨s.e,F⟩) (by simpa using B) H)
theorem amc {rs:List PR} {l:List Oper} {K:St->Prop} {k:Nat} (c:∀i,i<l.length->ops[k+i]?=l[i]?) (b:o6 (yr P X.n ops) l rs=true) (j:Gam X s ρ a w) (h:wpR P rs K s)
 (hN:∀s' d g f,K s'->Gam X s' d g f->Q .normal g f):wpOps P ops Q (List.range' k l.length) a w:=by
 induction l generalizing rs k s ρ a w with
 | nil=>
   cases rs with
   | nil=>exact hN s ρ a w h j
   | cons r rs=>cases b
 | cons o l ih=>
   cases rs with
   | nil=>cases b
   | cons r rs=>
     simp only [o6,zaa] at b;have hi:ops[k]?=some o:=by have:=c 0 (by simp); simpa using this
     rw [zai,List.range'_succ,wpOps_cons];refine ag9 j hi b.1 h fun s' d g f m e=>?_;exact ih (fun i hi=>by have:=c (i+1) (by simp; omega); rw [show k+1+i=k+(i+1) by omega,this]; simp) b.2 e m
theorem aii {α g:Type} {f:α->g->Bool}:∀{e:List α} {ys:List g},o6 f e ys=true->e.length=ys.length/\∀(i:Nat) (x:α) (y:g),e[i]?=some x->ys[i]?=some y->f x y=true
 | [],[],_=>⟨rfl,fun i x y h=>by simp at h⟩
 | [],_::_,h=>by cases h
 | _::_,[],h=>by cases h
 | x::e,y::ys,h=>by
   simp only [o6,zaa] at h;obtain ⟨j,k⟩:=aii h.2;refine ⟨by simp [j],fun i a b d c=>?_⟩;cases i with
   | zero=>simp at d c; subst d; subst c; exact h.1
   | succ i=>simp at d c; exact k i a b d c
theorem aon {rs:List PR} {G:List (List Nat)} {f:List Lg} {K:St->Prop} {R:Nat->St} {C:Nat->Ans} (ge:o6 (yr P X.n ops) ops.toList rs=true) (T:ad7 ops G=true) (gd:jc G f=true) (gu:f.length=rs.length)
 (g6:∀k r,rs[k]?=some r->(r.out P (R k) (C k)).ok/\R (k+1)=(r.out P (R k) (C k)).st/\f[k]?=some (r.out P (R k) (C k)).lg) (hK:K (R rs.length))
 (hN:∀s' hd a' w',K s'->Gam X s' hd a' w'->Q .normal a' w'):∀(F:Nat) (c:Array Bool) (s:St) (ρ:Pl->Option Nat) (a:Act) (w:World),c.size=ops.size ->
  (∀j,c.getD j false=true->∀i,i∈G.getD j []->c.getD i false=true)->(List.range ops.size).countP (fun k=>!c.getD k false)<=F ->
  (∀l,o9 s l=fi (fun k=>o9 (R k)) (wrt f) (fun k=>c.getD k false=true) ops.size l)->Gam X s ρ a w->wpAny P .any ops Q F c a w:=by
 obtain ⟨L,gq⟩:=aii ge;have L:ops.size=rs.length:=by simpa using L
 have hr:∀k,k<ops.size->∃o r,ops[k]?=some o/\rs[k]?=some r/\yr P X.n ops o r=true/\(r.out P (R k) (C k)).ok/\R (k+1)=(r.out P (R k) (C k)).st/\f.getD k default=(r.out P (R k) (C k)).lg:=fun k v=>by
  have D:ops[k]?=some ops[k]:=by simp [v]
  have I:rs[k]?=some (rs[k]'(by omega)):=by simp [show k<rs.length by omega]
  obtain ⟨g1,g2,g3⟩:=g6 k _ I;exact ⟨_,_,D,I,gq k _ _ (by simpa using D) I,g1,g2,by simp [List.getD_eq_getElem?_getD,g3]⟩
 have hu:∀k r,k<ops.size->rs[k]?=some r->f.getD k default=(r.out P (R k) (C k)).lg:=fun k r v h=>by
  obtain ⟨_,r',_,I,_,_,_,h3⟩:=hr k v;rw [h] at I; cases I; exact h3
 have A:∀k r,k<ops.size->rs[k]?=some r->(f.getD k default).ad=r.x.adr/\(f.getD k default).st=r.x.sto:=fun k r v h=>by
  rw [hu k r v h];exact ant
 have ga:∀k i,k<ops.size->i∈(f.getD k default).wr->i∈(f.getD k default).rd/\(f.getD k default).ad=false:=fun k i v m=>by
  obtain ⟨o,r,D,I,h3,h4,h5,E⟩:=hr k v;refine ⟨?_,?_⟩
  ·simp only [E] at m |-;exact ((aeo (s':=R k) h4 (fun _ _=>rfl) (fun _ _ _=>rfl) (fun _ _=>rfl)).2.2.2.1 i m).1
  rw [(A k r v I).1];cases S:r.x.adr with
  | false=>rfl
  | true=>
    rw [E] at m;rcases r with ⟨d,g,u,x⟩
    cases x with
    | see o=>
      unfold PR.out at m;simp only at m;generalize yes (R k).e g=y at m;rcases y with _ | b
      ·simp [PX.out,PR.lg] at m
      simp [PX.out,PR.lg] at m
    | _=>cases S
 have gb:∀k l,k<ops.size->wrt f k l->usd f k l:=fun k l v m=>by
  cases l with
  | t t=>
    obtain ⟨o,r,D,I,h3,h4,h5,E⟩:=hr k v;simp only [wrt,usd,E] at m |-;rw [ac0.2] at m;rw [ac0.1];simp [m]
  | o i=>exact ga k i v m
  | p i=>exact (ga k i v m.1).1
 have U:∀k l,k<ops.size->¬wrt f k l->o9 (R (k+1)) l=o9 (R k) l:=fun k l v m=>by
  obtain ⟨o,r,D,I,h3,h4,h5,E⟩:=hr k v;have hl:=aeo (s':=R k) h4 (fun _ _=>rfl) (fun _ _ _=>rfl) (fun _ _=>rfl);rw [h5];cases l with
  | t t=>
    simp only [wrt,E,ac0.2] at m;simp only [o9,hl.2.2.1 t m]
  | o i=>
    simp only [wrt,E] at m;simp only [o9,hl.2.2.2.2 i m]
  | p i=>
    simp only [wrt,(A k r v I).2] at m;simp only [o9];by_cases hi:i∈(f.getD k default).wr
    ·have:r.x.sto=true:=by
      cases hsto:r.x.sto with
      | true=>rfl
      | false=>exact (m ⟨hi,hsto⟩).elim
     rw [ajr this]
    rw [E] at hi;rw [hl.2.2.2.2 i hi]
 have hq:∀i j,i<j->j<ops.size->¬(i∈G.getD j [])->∀l,¬(wrt f i l/\usd f j l)/\¬(wrt f j l/\usd f i l):=fun i j gl hj hp l=>ao8 gd gl (by omega) hp l;intro F
 induction F with
 | zero=>
   intro c s ρ a w h7 W hz V hG
   have J:∀k,k<ops.size->c.getD k false=true:=fun k v=>by
    have h0:(List.range ops.size).countP (fun k=>!c.getD k false)=0:=by omega
    rw [List.countP_eq_zero] at h0;have:=h0 k (by simp [v]);simpa using this
   have hs:s=R rs.length:=afi fun l=>by rw [V l,aco U J ops.size (zae _),L]
   refine ⟨?_,hN s ρ a w (by rw [hs]; exact hK) hG⟩;rcases hrd:Region.ready .any ops c with _ | ⟨j,js⟩
   ·rfl
   have hj:j∈Region.ready .any ops c:=by rw [hrd]; simp
   obtain ⟨D,o,ho,_⟩:=mem_ready.1 hj;have B:=(zaj.1 ho).1;have:=J j B;rw [zab] at this D;have z:c[j]?=some (c[j]'(by omega)):=by simp [show j<c.size by omega]
   rw [z] at this D;simp at this D;rw [this] at D;cases D
 | succ F ih=>
   intro c s ρ a w h7 W hz V hG;refine ⟨fun hh=>?_,fun j hj=>?_⟩
   ·have J:∀k,k<ops.size->c.getD k false=true:=fun k=>by
     induction k using Nat.strongRecOn with
     | ind k ihk=>
       intro v;apply Classical.byContradiction;intro O
       have hf:c.getD k true=false:=by
        rw [zab] at O |-;have z:c[k]?=some (c[k]'(by omega)):=by simp [show k<c.size by omega]
        rw [z] at O |-;simpa using O
       obtain ⟨o,r,D,_⟩:=hr k v;have:k∈Region.ready .any ops c:=mem_ready.2 ⟨hf,o,D,fun e he hb=>ihk e.on ((wt T D).1 e he hb) (Nat.lt_trans ((wt T D).1 e he hb) v)⟩;rw [hh] at this;cases this
    have hs:s=R rs.length:=afi fun l=>by rw [V l,aco U J ops.size (zae _),L]
    exact hN s ρ a w (by rw [hs]; exact hK) hG
   obtain ⟨ha,oj,Z,g5⟩:=mem_ready.1 hj;have B:=(zaj.1 Z).1
   have M:¬(c.getD j false=true):=by
    rw [zab] at ha |-;have z:c[j]?=some (c[j]'(by omega)):=by simp [show j<c.size by omega]
    rw [z] at ha |-;simpa using ha
   obtain ⟨o,r,D,I,h3,h4,h5,E⟩:=hr j B
   have g0:∀i,i∈G.getD j []->c.getD i false=true:=fun i hi=>by
    obtain ⟨e,he,hb,h9⟩:=(wt T D).2 i hi;have hm:c.getD e.on false=true:=by rw [D] at Z; cases Z; exact g5 e he hb
    rcases h9 with rfl | h9
    ·exact hm
    exact W _ hm i h9
   have N:∀l,usd f j l->o9 s l=o9 (R j) l:=fun l hl=>by
    rw [V l];exact auc (pr:=fun j i=>i∈G.getD j []) U hq W B M g0 hl
   have Y:=aeo (s':=s) h4 (fun t ht=>by
    have:=N (.t t) (by simp only [usd,E]; exact ht);simpa [o9] using this) (fun S i hi=>by
    have:=N (.o i) (by
     simp only [usd];rw [(A j r B I).1,E]
     exact ⟨hi,S⟩)
    simpa [o9] using this) (fun i hi=>by
    have:=N (.p i) (by simp only [usd,E]; exact hi)
    simpa [o9] using this)
   have H:∀k,(c.setIfInBounds j true).getD k false=true↔(c.getD k false=true\/k=j):=fun k=>by
    by_cases h8:k=j
    ·subst h8;simp [zab,h7,B]
    have:(c.setIfInBounds j true).getD k false=c.getD k false:=getD_set_ne false (Ne.symm h8);rw [this];simp [h8]
   refine ag9 hG D h3 (avq (K:=fun s'=>∀l,o9 s' l=fi (fun k=>o9 (R k)) (wrt f) (fun k=>(c.setIfInBounds j true).getD k false=true) ops.size l) Y.1 fun l=>?_) fun s' hd a' w' gg gp=>?_
   ·have hn:(fun k=>(c.setIfInBounds j true).getD k false=true)=fun k=>c.getD k false=true\/k=j:=funext fun k=>propext (H k);rw [hn];by_cases m:wrt f j l
    ·rw [aq7 (pr:=fun j i=>i∈G.getD j []) gb hq W B M m,h5];cases l with
     | t t=>
       simp only [wrt,E,ac0.2] at m;simp only [o9,Y.2.1 t m]
     | o i=>
       simp only [wrt,E] at m;simp only [o9,(Y.2.2.2.1 i m).2]
     | p i=>
       have g4:=m.1;simp only [E] at g4;simp only [o9,(Y.2.2.2.1 i g4).2]
    rw [akl m,<- V l];cases l with
    | t t=>
      simp only [wrt,E,ac0.2] at m;simp only [o9,Y.2.2.1 t m]
    | o i=>
      simp only [wrt,E] at m;simp only [o9,Y.2.2.2.2 i m]
    | p i=>
      simp only [o9];by_cases hi:i∈(f.getD j default).wr
      ·have:r.x.sto=true:=by
        cases hsto:r.x.sto with
        | true=>rfl
        | false=>exact (m ⟨hi,by rw [(A j r B I).2]; exact hsto⟩).elim
       rw [ajr this]
      rw [E] at hi;rw [Y.2.2.2.2 i hi]
   refine ih _ s' hd a' w' (by simpa using h7) (fun k v i hi=>?_) ?_ gg gp
   ·rw [H] at v |-;rcases v with v | rfl
    ·exact .inl (W k v i hi)
    exact .inl (g0 i hi)
   have:=afv (p:=fun k=>!c.getD k false) (q:=fun k=>!(c.setIfInBounds j true).getD k false) (j:=j) (fun x hx=>by
    have hg:¬((c.setIfInBounds j true).getD x false=true):=by simpa using hx
    rw [H] at hg
    simpa using fun h=>hg (.inl h)) (by simpa using M) (by have:=(H j).2 (.inr rfl); simp only [this,Bool.not_true]) (l:=List.range ops.size) (by simp [B])
   omega
def aw7 (X:Cx) (K:Ex->St->Prop):Exit->Act->World->Prop
 | .normal,a,w=>∃s ρ,K .nor s/\Gam X s ρ a w
 | .exit i,a,w=>∃s ρ,K (.ex i) s/\Gam X s ρ a w
 | .ret,a,w=>∃s ρ,K .rt s/\Gam X s ρ a w
 | _,_,_=>False
theorem ap7 {fl:Bool} {id:Nat} (f:id<1000000) {x:AV} (d:Gam X s ρ a w):∃b,Gam X ⟨s.e,(gt fl id s.ob x).2⟩ b a w/\(∀(y:AV) (c:Value),RA X s ρ w y c->RA X ⟨s.e,(gt fl id s.ob x).2⟩ b w y c) /\
 ∀(c:Value),RA X s ρ w x c->RA X ⟨s.e,(gt fl id s.ob x).2⟩ b w (gt fl id s.ob x).1 c:=by
 unfold gt;split
 ·rename_i sz z;split
  ·refine ⟨k9 ρ id none,d.nil id _ (d.pnn id (adg f)) (fun v o h=>nk h) sz z true,fun y c h=>h.stays (Stays.nil id _ (fun v o h=>nk h) _),fun c h=>?_⟩;cases h;exact .own _ _ _ _ _ rfl (dd ⟨none,0,rfl,zae _,by simp,by simp,by simp⟩)
  exact ⟨ρ,d,fun _ _ h=>h,fun _ h=>h⟩
 exact ⟨ρ,d,fun _ _ h=>h,fun _ h=>h⟩
theorem aca:∀{live:List (Nat×Bool)} {s:St} {ρ:Pl->Option Nat},(∀p∈live,p.1<100000)->Gam X s ρ a w->∃b,Gam X ⟨s.e,(o7 s.e live s.ob).2⟩ b a w/\(∀(y:AV) (c:Value),RA X s ρ w y c->RA X ⟨s.e,(o7 s.e live s.ob).2⟩ b w y c) /\
 (o7 s.e live s.ob).1.length=live.length/\∀(i t:Nat) (fl:Bool) (x:AV) (c:Value),live[i]?=some (t,fl)->(o7 s.e live s.ob).1[i]?=some x->RA X s ρ w (s.e t) c->RA X ⟨s.e,(o7 s.e live s.ob).2⟩ b w x c
 | [],s,ρ,_,hG=>⟨ρ,hG,fun _ _ h=>h,rfl,fun i t fl x c h=>by simp at h⟩
 | (t,fl)::r,s,ρ,hl,hG=>by
   have A:t<100000:=hl (t,fl) (by simp);obtain ⟨o,n,j,m⟩:=ap7 (fl:=fl) (id:=900000+t) (by omega) (x:=s.e t) hG;obtain ⟨d,v,k,q,l⟩:=aca (live:=r) (s:=⟨s.e,(gt fl (900000+t) s.ob (s.e t)).2⟩) (fun p u=>hl p (by simp [u])) n;refine ⟨d,v,fun y c h=>k y c (j y c h),by simp [o7,q],fun i z f x c hi hx g=>?_⟩;cases i with
   | zero=>
     simp [o7] at hi hx;obtain ⟨rfl,rfl⟩:=hi;subst hx;exact k _ c (m c g)
   | succ i=>
     simp [o7] at hi hx;exact l i z f x c hi hx (j _ c g)
theorem aj4:∀{live:List (Nat×Bool)} {vs:List AV} (t:Nat),(∃(i:Nat) (fl:Bool) (x:AV),live[i]?=some (t,fl)/\vs[i]?=some x/\keep live vs t=x)\/keep live vs t=.undef
 | [],vs,t=>.inr (by simp [keep])
 | _::_,[],t=>.inr (by simp [keep])
 | (l,fl)::ls,v::vs,t=>by
   by_cases h:t=l
   ·subst h;exact .inl ⟨0,fl,v,rfl,rfl,by simp [keep,put]⟩
   have f:keep ((l,fl)::ls) (v::vs) t=keep ls vs t:=by simp [keep,put,h]
   rw [f];rcases aj4 (live:=ls) (vs:=vs) t with ⟨i,a,x,e,b,c⟩ | d
   ·exact .inl ⟨i+1,a,x,by simpa using e,by simpa using b,c⟩
   exact .inr d
theorem aa2 {np:Nat} {live:List (Nat×Bool)} {D:List AV->List Ob->List Ob->Prop} (u:∀p∈live,p.1<100000) (m:np<=1000000) (j:∀id b,X.pn id=some b->1000000<=id/\id<1000000+np) (d:Gam X s ρ a w) (h:rk np live s D) :
 ∃vs pos c f,D vs pos c/\Gam X (ab7 live vs pos c) f a w:=by
 obtain ⟨r,q,E,C,B⟩:=aca u d;unfold rk at h;rcases hn:nrm 64 np 2000000 (o7 s.e live s.ob).1 (o7 s.e live s.ob).2 with _ | ⟨vs,pos,c⟩
 ·rw [hn] at h; exact h.elim
 rw [hn] at h;obtain ⟨g,y,G,F,o⟩:=q.toMem.nrm hn (by omega) j;refine ⟨vs,pos,c,g,h,y,d.sz,d.df,fun t=>?_,d.pnn,d.small,d.base⟩;simp only [ab7];rcases aj4 (live:=live) (vs:=vs) t with ⟨i,fl,x,A,k,n⟩ | z
 ·rw [n];have v:=(zah.1 k).1;have l:(o7 s.e live s.ob).1[i]?=some ((o7 s.e live s.ob).1[i]'(by omega)):=by simp [show i<(o7 s.e live s.ob).1.length by omega]
  exact o i _ x _ l k (B i t fl _ _ A l (d.env t))
 rw [z];exact .undef _
theorem alk {S:Nat->Prop} (h:∃k,S k):∃k,S k/\∀j,S j->k<=j:=by
 obtain ⟨k,d⟩:=h
 induction k using Nat.strongRecOn with
 | _ k ih=>
   by_cases hx:∃j,j<k/\S j
   ·obtain ⟨j,c,b⟩:=hx;exact ih j c b
   refine ⟨k,d,fun j a=>?_⟩;rcases Nat.lt_or_ge j k with h | h
   ·exact absurd ⟨j,h,a⟩ hx
   exact h
theorem auy {np:Nat} (H:np<=1000000) (O:∀id b,X.pn id=some b->1000000<=id/\id<1000000+np):∀(pc:PC) (c:Code) (K:Ex->St->Prop) (s:St) (ρ:Pl->Option Nat) (a:Act) (w:World),dt P X.n c pc=true->W P np pc K s->Gam X s ρ a w->c.wp P (aw7 X K) a w:=by
 intro pc
 induction pc with
 | skip=>
   intro c K s ρ a w hc h o;cases c<;>simp only [dt] at hc<;>try (cases hc; done)
   exact wp_skip ⟨s,ρ,h,o⟩
 | reg rs=>
   intro c K s ρ a w hc h o;cases c<;>simp only [dt] at hc<;>try (cases hc; done)
   rename_i id v d;simp only [zaa,Bool.not_eq_true'] at hc;obtain ⟨rfl,hc⟩:=hc;refine wp_region ?_;rw [List.range_eq_range',<- Array.length_toList];exact amc (k:=0) (l:=v.toList) (fun i hi=>by simp) hc o h fun s' f F G U D=>⟨s',f,U,D⟩
 | seq p q ihp ihq=>
   intro c K s ρ a w hc h o;cases c<;>simp only [dt] at hc<;>try (cases hc; done)
   rename_i x y;simp only [zaa] at hc;refine wp_seq (wp_mono (ihp x _ s ρ a w hc.1 h o) fun e F G g=>?_);cases e with
   | normal=>
     obtain ⟨s',f,t,u⟩:=g;exact ihq y K s' f F G hc.2 t u
   | exit i=>exact g
   | ret=>exact g
   | goto l=>exact g
   | panic ch=>exact g
   | outgrown=>exact g
 | cond x p q ihp ihq=>
   intro c K s ρ a w hc h o;cases c<;>simp only [dt] at hc<;>try (cases hc; done)
   rename_i y c1 c2;simp only [zaa] at hc;obtain ⟨⟨t,u⟩,Y⟩:=hc;have hx:=abb o.env t;simp only [W] at h;generalize x.ev s.e=xv at hx h;split at h
   ·rename_i b;exact wp_cond_split (i7 hx) (fun T=>ihp c1 K s ρ a w u (h.1 T) o) (fun T=>ihq c2 K s ρ a w Y (h.2 T) o)
   exact h.elim
 | block id p ih=>
   intro c K s ρ a w hc h o;cases c<;>simp only [dt] at hc<;>try (cases hc; done)
   rename_i h7 c';simp only [zaa,beq_iff_eq] at hc;obtain ⟨rfl,hc⟩:=hc;refine wp_block (wp_mono (ih c' _ s ρ a w hc h o) fun e F G g=>?_);cases e with
   | normal=>exact g
   | exit i=>
     obtain ⟨s',f,t,u⟩:=g;simp only [Exit.inBlock];simp only at t;split
     ·rename_i hi;rw [if_pos hi] at t;exact ⟨s',f,t,u⟩
     rename_i hi;rw [if_neg hi] at t;exact ⟨s',f,t,u⟩
   | ret=>exact g
   | goto l=>exact g
   | panic ch=>exact g
   | outgrown=>exact g
 | loop p ih=>
   intro c K s ρ a w hc h o;cases c<;>simp only [dt] at hc<;>try (cases hc; done)
   rename_i c';obtain ⟨live,I,m,hl,h0,hr⟩:=h;have M:∀p∈live,p.1<100000:=fun p g=>by simpa using zac.1 hl p g
   let S:Nat->Act->World->Prop:=fun k a w=>∃vs pos r ρ,I vs pos r/\Gam X (ab7 live vs pos r) ρ a w/\m vs pos r=k
   refine wp_loop (fun a w=>∃k,S k a w) (fun a w=>open Classical in if hx:∃k,S k a w then (alk hx).choose else 0) ?_ ?_
   ·obtain ⟨vs,pos,r,f,t,u⟩:=aa2 M H O o h0;exact ⟨_,vs,pos,r,f,t,u,rfl⟩
   intro a w hx;simp only [dif_pos hx];obtain ⟨vs,pos,r,f,t,u,Y⟩:=(alk hx).choose_spec.1;refine wp_mono (ih c' _ _ f a w hc (hr vs pos r t) u) fun e F G g=>?_;cases e with
   | normal=>
     obtain ⟨s',h6,g1,g2⟩:=g;obtain ⟨J,z,A,N,k1,k2⟩:=aa2 M H O g2 g1;have E:∃k,S k F G:=⟨_,J,z,A,N,k1.1,k2,rfl⟩
     refine ⟨E,?_⟩;rw [dif_pos E,<- Y];exact Nat.lt_of_le_of_lt ((alk E).choose_spec.2 _ ⟨J,z,A,N,k1.1,k2,rfl⟩) k1.2
   | exit i=>exact g
   | ret=>exact g
   | goto l=>exact g
   | panic ch=>exact g
   | outgrown=>exact g
 | exit i=>
   intro c K s ρ a w hc h o;cases c<;>simp only [dt] at hc<;>try (cases hc; done)
   rename_i j;have:j=i:=by simpa using hc
   subst this;exact wp_exit ⟨s,ρ,h,o⟩
 | ret=>
   intro c K s ρ a w hc h o;cases c<;>simp only [dt] at hc<;>try (cases hc; done)
   exact wp_ret ⟨s,ρ,h,o⟩
 | drw rs pre=>
   intro c K s ρ a w hc h o;cases c<;>simp only [dt] at hc<;>try (cases hc; done)
   rename_i id v d;simp only [zaa] at hc;obtain ⟨⟨⟨rfl,hm⟩,Z⟩,L⟩:=hc;obtain ⟨R,C,h8,h0,h5,Q,h4,U⟩:=ai2 h;refine wp_region_any hm ?_
   have B:∀k,¬((Array.replicate v.size false).getD k false=true):=fun k=>by
    rw [zab,Array.getElem?_replicate];split<;>simp
   refine aon Z L (by simpa using h4) h5 Q U (fun s' f F G V D=>⟨s',f,V,D⟩) v.size _ s ρ a _ (by simp) (fun j hj=>?_) ?_ (fun l=>?_) (o.drew _)
   ·exact (B j hj).elim
   ·exact Nat.le_trans List.countP_le_length (by simp)
   rw [afw B,h0]
end

def AV.isNil:AV->Bool
 | .nils _ _=>true
 | _=>false
def ix:List AV->Bool
 | []=>false
 | x::xs=>x.isNil||ix xs
def uk (ob:Obs):AV->Option (AV×List Nat)
 | .nils sz z=>some (.nils sz z,[])
 | x=>match x.rv ob with
   | some (y,l)=>some (.r y,l)
   | none=>none
def ig (ob:Obs):List AV->Option (List AV×List Nat)
 | []=>some ([],[])
 | x::xs=>match uk ob x,ig ob xs with
   | some (y,i),some (ys,j)=>some (y::ys,i++j)
   | _,_=>none
def ul (ob:Obs) (a:List AV):Bool->Option (AV×List Nat)
 | true=>match ig ob a with
   | some (ys,l)=>some (.agg ys,l)
   | none=>none
 | false=>match rvs ob a with
   | some (ys,l)=>some (.r (.agg ys),l)
   | none=>none
def sp (ob:Obs):AV->Option (AV×List Nat)
 | .own id ver lo len=>match g7 ob id ver with
   | some (sz,_,_,wr,xs)=>if wr then some (.own id ver lo len,[]) else some (.r (.sl sz ((xs.drop lo).take len)),[])
   | none=>match l7 ob id ver with
     | some _=>some (.own id ver lo len,[])
     | none=>none
 | .agg xs=>ul ob xs (ic&&ix xs)
 | x=>some (x,[])
def la (ob:Obs):List AV->Option (List AV×List Nat)
 | []=>some ([],[])
 | x::xs=>match sp ob x,la ob xs with
   | some (y,i),some (ys,j)=>some (y::ys,i++j)
   | _,_=>none
def jz:List AV->AV
 | [x]=>x
 | xs=>.tup xs
def af9 (np:Nat) (ob:Obs) (D:AV->List Ob->Prop):Option (List AV×List Nat)->Prop
 | some (vs,l)=>ahi (fun vs pos a=>D (jz vs) (pos++a)) (nrm 64 np (1000000+np) vs (freeze ob l))
 | none=>False
def ah7 (np:Nat) (rs:List (Nat×Bool)) (s:St) (D:AV->List Ob->Prop):Prop:=
 af9 np (o7 s.e rs s.ob).2 D (la (o7 s.e rs s.ob).2 (o7 s.e rs s.ob).1)
abbrev RSl:=Nat×Bool×Option (TypeId×Option Nat)
def opn (np:Nat) (b:List (Nat×Bool)) (D:AV->List Ob->Prop):List RSl->Env->Obs->Prop
 | [],e,ob=>ah7 np b ⟨e,ob⟩ D
 | (_,_,none)::r,e,ob=>opn np b D r e ob
 | (a,_,some (_,n))::r,e,ob=>(ld1 true n (e a) ob).ok/\opn np b D r (put a (ld1 true n (e a) ob).v e) ob
def ae5 (np:Nat) (rs:List RSl) (D:AV->List Ob->Prop):Ex->St->Prop
 | .nor,s=>opn np (rs.map fun p=>(p.1,p.2.1)) D rs s.e s.ob
 | .rt,s=>opn np (rs.map fun p=>(p.1,p.2.1)) D rs s.e s.ob
 | .ex _,_=>False
def RSl.rv:RSl->ResultVar
 | (t,_,none)=>.tmp t
 | (a,_,some (ty,_))=>.cell a ty
def RSl.agg (P:Program):RSl->Bool
 | (_,_,none)=>true
 | (_,_,some (ty,n))=>wu P ty n
def ft:Nat->List AV->Env
 | _,[]=>fun _=>.undef
 | k,x::xs=>put k x (ft (k+1) xs)
theorem akq:∀{a:List AV} {k t:Nat},k<=t->ft k a t=(a[t-k]?).getD .undef
 | [],k,t,h=>by simp [ft]
 | x::a,k,t,h=>by
   simp only [ft,put];by_cases b:t=k
   ·subst b; simp
   rw [if_neg b,akq (by omega),show t-k=(t-(k+1))+1 by omega];simp
theorem acf:∀(a ys:List Ob) (k:Nat),t5 k a (t5 (k+a.length) ys fun _=>none)=obs k (a++ys)
 | [],[],k=>rfl
 | [],y::ys,k=>by
   have:=acf [] ys (k+1);simp only [t5,List.length_nil,Nat.add_zero,List.nil_append,obs] at this |-;rw [this]
 | x::a,ys,k=>by
   have:=acf a ys (k+1);simp only [t5,zai,List.cons_append,obs] at this |-;rw [show k+(a.length+1)=k+1+a.length by omega,this]
section
variable {P:Program} {X:Cx} {w w':World} {s:St} {ρ ρ':Pl->Option Nat} {a:Act} {o:Oper} {ob ob':Obs} {R R':Nat->Prop}
theorem afl {b:List Nat} (o:Gam X s ρ a w) {ob:Obs} (e:s.ob=Ev.freeze ob b):∀{f ys:List AV} {l:List Nat},ig ob f=some (ys,l)->(∀i,i∈l->i∈b) ->
 ys.length=f.length/\∀(i:Nat) (x y:AV) (c:Value),f[i]?=some x->ys[i]?=some y->RA X s ρ w x c->RA X s ρ w y c
 | [],ys,l,h,hs=>by simp [ig] at h; obtain ⟨rfl,rfl⟩:=h; simp
 | z::f,ys,l,h,hs=>by
   simp only [ig] at h;split at h
   ·rename_i A k v j d u;cases h;obtain ⟨q,t⟩:=afl o e u (fun p n=>hs p (by simp [n]));refine ⟨by simp [q],fun i x y c hx hy g=>?_⟩;cases i with
    | zero=>
      simp at hx hy;subst hx; subst hy;unfold uk at d;split at d
      ·cases d; exact g
      split at d
      ·rename_i m;cases d;exact .r (ac7 o m (fun p n=>hs p (by simp [n])) e g)
      cases d
    | succ i=>
      simp at hx hy;exact t i x y c hx hy g
   cases h
theorem aqb {e:List Nat} (p:Gam X s ρ a w) {ob:Obs} (k:s.ob=Ev.freeze ob e) {x y:AV} {l:List Nat} {c:Value} (h:sp ob x=some (y,l)) (g:∀i,i∈l->i∈e) (hx:RA X s ρ w x c):RA X s ρ w y c:=by
 unfold sp at h;split at h
 ·split at h
  ·rename_i sz z C E m u;split at h
   ·cases h; exact hx
   rename_i n;cases h;obtain ⟨t,q,A⟩:=ym e ob _ (m0 u);rw [<- k,A (.inl (by simpa using n))] at q;exact .r (anp p q hx)
  split at h
  ·cases h; exact hx
  cases h
 ·rename_i m;unfold ul at h;split at h
  ·split at h
   ·rename_i ys v d;cases h;cases hx;rename_i cs o f;obtain ⟨B,D⟩:=afl p k d g;refine .agg _ _ (by rw [B]; exact o) fun i y c hy hc=>?_;have j:i<m.length:=by have:=(zah.1 hy).1; omega
    have b:m[i]?=some m[i]:=by simp [j]
    exact D i _ y c b hy (f i _ c b hc)
   cases h
  split at h
  ·rename_i ys v d;cases h;cases hx;rename_i cs o f;refine .r (.agg _ _ (by rw [gj d]; exact o) fun i y c hy hc=>?_);have j:i<m.length:=by have:=(zah.1 hy).1; have:=gj d; omega
   have b:m[i]?=some m[i]:=by simp [j]
   exact xc p k d g i _ y c b hy (f i _ c b hc)
  cases h
 cases h; exact hx
theorem ahe {b:List Nat} (m:Gam X s ρ a w) {ob:Obs} (d:s.ob=Ev.freeze ob b):∀{e ys:List AV} {l:List Nat},la ob e=some (ys,l)->(∀i,i∈l->i∈b) ->
 ys.length=e.length/\∀(i:Nat) (x y:AV) (c:Value),e[i]?=some x->ys[i]?=some y->RA X s ρ w x c->RA X s ρ w y c
 | [],ys,l,h,hs=>by simp [la] at h; obtain ⟨rfl,rfl⟩:=h; simp
 | z::e,ys,l,h,hs=>by
   simp only [la] at h;split at h
   ·rename_i u k t j r q;cases h;obtain ⟨n,o⟩:=ahe m d q (fun p f=>hs p (by simp [f]));refine ⟨by simp [n],fun i x y c hx hy g=>?_⟩;cases i with
    | zero=>
      simp at hx hy;subst hx; subst hy;exact aqb m d r (fun p f=>hs p (by simp [f])) g
    | succ i=>
      simp at hx hy;exact o i x y c hx hy g
   cases h
def axb:List Value->Value
 | [v]=>v
 | vs=>.tuple vs.toArray
def ag5 (tmps:Array Value):ResultVar->Sem Value
 | .tmp t=>pure (tmps.getD t undef)
 | .cell a t=>do loadVar t (<- asAddr (tmps.getD a undef))
theorem aiq (fn:Func) (rs:List ResultVar) (h:fn.results.toList=rs) (tmps:Array Value) {cs:List Value} (e:(rs.mapM (ag5 tmps)).run P w=.ok cs w):(results fn tmps).run P w=.ok (axb cs) w:=by
 have c:fn.results=rs.toArray:=by rw [<- h]
 have d:(fn.results.mapM (m:=Sem) (ag5 tmps)).run P w=.ok cs.toArray w:=by
  rw [c];simp only [List.mapM_toArray];simp only [map_eq_pure_bind,Sem.run_bind,e,Result.andThen_ok,Sem.run_pure]
 have b:(fn.results.mapM (m:=Sem) fun | .tmp t=>pure (tmps.getD t undef) | .cell a t=>do loadVar t (<- asAddr (tmps.getD a undef))).run P w=.ok cs.toArray w:=by
  rw [<- d];congr 2
 unfold results;rw [Sem.run_bind];refine (congrArg (fun r=>Result.andThen r _) b).trans ?_;clear d b c h e
 match cs with
 | []=>rfl
 | [t]=>rfl
 | t::t'::rs=>rfl
theorem av4 {g:Bool} (f:g=true) {n:Option Nat} {u:AV} {v:Value} (j:Gam X s ρ a w) (d:(ld1 g n u s.ob).ok) (e:RA X s ρ w u v):∃b o,v=.pointer (some ⟨b,o,none⟩):=by
 cases u with
 | ptr id ver off=>
   simp only [ld1] at d;rcases hr:l7 s.ob id ver with _ | c
   ·rw [hr] at d; exact (d f).elim
   cases e;rename_i h;obtain ⟨b,_,hc⟩:=h.live (bh hr);exact ⟨b,off,hc⟩
 | oel id ver i off=>
   simp only [ld1] at d;rcases hr:g7 s.ob id ver with _ | c
   ·rw [hr] at d; exact (d f).elim
   cases e;rename_i h;obtain ⟨_,_,b,_,hc⟩:=h.live (m0 hr);exact ⟨b,_,hc⟩
 | rp ys=>cases e; exact ⟨_,_,rfl⟩
 | _=>exact (d.2 f).elim
theorem aeq {np:Nat} {l:List (Nat×Bool)} {D:AV->List Ob->Prop} {tmps:Array Value} {ob:Obs}:∀{rs:List RSl} {e:Env} {a:Act},opn np l D rs e ob->Gam X ⟨e,ob⟩ ρ a w->(rs.all fun p=>p.agg P)=true->(∀p∈rs,p.1<X.n)->(rs.map (·.1)).Nodup ->
 (∀p∈rs,tmps.getD p.1 undef=a.tmps.getD p.1 undef)->∃e' q cs,Gam X ⟨e',ob⟩ ρ q w/\ah7 np l ⟨e',ob⟩ D/\((rs.map RSl.rv).mapM (ag5 tmps)).run P w=.ok cs w/\cs.length=rs.length /\
  (∀(i:Nat) (p:RSl) (c:Value),rs[i]?=some p->cs[i]?=some c->RelA w (d7 X.B ob ρ w) ob ρ (e' p.1) c)/\∀t,t∉rs.map (·.1)->e' t=e t
 | [],e,a,h,hG,_,_,_,_=>⟨e,a,[],hG,h,by simp,rfl,by simp,fun _ _=>rfl⟩
 | (t,fl,none)::rs,e,a,h,hG,hag,hlt,hnd,htm=>by
   simp only [List.all_cons,zaa] at hag;simp only [zag,List.nodup_cons] at hnd;obtain ⟨e',q,cs,F,G,E,I,H,m⟩:=aeq (rs:=rs) h hG hag.2 (fun p f=>hlt p (by simp [f])) hnd.2 (fun p f=>htm p (by simp [f]));refine ⟨e',q,tmps.getD t undef::cs,F,G,?_,by simp [I],fun i p c f hc=>?_,fun J g=>?_⟩
   ·simp only [zag,List.mapM_cons,Sem.run_bind,RSl.rv,ag5,Sem.run_pure,Result.andThen_ok];rw [E];simp only [Result.andThen_ok]
   ·cases i with
    | zero=>
      simp at f hc;subst f; subst hc;rw [m t hnd.1];have:=hG.env t;rw [<- htm (t,fl,none) (by simp)] at this;rw [zab] at this;exact this
    | succ i=>exact H i p c (by simpa using f) (by simpa using hc)
   simp at g;exact m J (by simpa using g.2)
 | (t,fl,some (ty,n))::rs,e,a,h,hG,hag,hlt,hnd,htm=>by
   simp only [List.all_cons,zaa] at hag;simp only [zag,List.nodup_cons] at hnd;obtain ⟨u,h⟩:=h;have L:a.eval (.tmp t)=a.tmps.getD t undef:=rfl;have y := amr (P := P) (s := ⟨e, ob⟩) (o := { dst := none, op := .load ty (.tmp t), type := 0, pos := "", after := #[], guard := none }) rfl hG rfl hag.1 (hG.env t) u
   obtain ⟨c,d,K⟩:=y;obtain ⟨b,o,hv⟩:=av4 rfl hG u (hG.env t)
   have k:(loadVar ty ⟨b,o,none⟩).run P w=.ok c w:=by
    simp only [execOp,L,hv,Instr.loadAt,Instr.sureAddr,Sem.run_bind,Sem.run_pure,Result.andThen_ok] at d;generalize (loadVar ty ⟨b,o,none⟩).run P w=r at d |-;cases r with
    | ok v w1=>simp only [Result.andThen_ok] at d; cases d; rfl
    | halt x w1=>cases d
   have z:=hG.see (hlt (t,fl,some (ty,n)) (by simp)) K
   obtain ⟨e',q,cs,F,G,E,I,H,m⟩:=aeq (rs:=rs) (tmps:=tmps) h z hag.2 (fun p f=>hlt p (by simp [f])) hnd.2 (fun p f=>by
    rw [htm p (by simp [f])];have A:t≠p.1:=fun C=>hnd.1 (by rw [C]; exact List.mem_map_of_mem f)
    simp [Act.put,zab,Array.getElem?_setIfInBounds_ne A])
   refine ⟨e',q,c::cs,F,G,?_,by simp [I],fun i p c' f hc=>?_,fun J g=>?_⟩
   ·have j:=htm (t,fl,some (ty,n)) (by simp);simp only [zag,List.mapM_cons,Sem.run_bind,RSl.rv,ag5];simp only at j;rw [j,hv];simp only [asAddr,Sem.run_pure,Result.andThen_ok];rw [k];simp only [Result.andThen_ok];rw [E];simp only [Result.andThen_ok]
   ·cases i with
    | zero=>
      simp at f hc;subst f; subst hc;rw [m t hnd.1];simp only [put,if_true];exact K
    | succ i=>exact H i p c' (by simpa using f) (by simpa using hc)
   simp at g;rw [m J (by simpa using g.2)];simp [put,g.1]
def auz (P:Program) (f:FuncId) (d:List AV) (po:List Ob) (D:AV->List Ob->Prop):Prop:=
 ∀(w:World) (a:Array Value) (ρ:Pl->Option Nat) (B:Nat->Prop),Gl P w (om (ob0 po) ρ)->(∀b,om (ob0 po) ρ b\/w.heap.size<=b->B b) ->
  Mem ⟨0,om (ob0 po) ρ,fun _=>none,B,w⟩ (ob0 po) ρ w->a.size=d.length ->
  (∀(i:Nat) (x:AV) (c:Value),d[i]?=some x->a[i]?=some c->RelA w (d7 B (ob0 po) ρ w) (ob0 po) ρ x c) ->
  Calls P f a w fun e h=>∃c g res ro,e=.returned c/\D res ro/\Mem ⟨0,om (ob0 po) ρ,vm po ρ,B,w⟩ (ob0 ro) g h/\RelA h (d7 B (ob0 ro) g h) (ob0 ro) g res c
theorem ago {f:FuncId} {fn:Func} {c:Code} {pc:PC} {a:List AV} {po:List Ob} {D:AV->List Ob->Prop} {rs:List RSl} (hf:P.funcs[f]?=some fn) (hb:fn.body=some c) (hn:fn.ntmps<=100000) (h4:dt P fn.ntmps c pc=true)
 (hd:a.length<=fn.ntmps) (M:fn.results.toList=rs.map RSl.rv) (h5:(rs.all fun p=>p.agg P)=true) (V:(rs.all fun p=>decide (p.1<fn.ntmps))=true) (h7:(rs.map (·.1)).Nodup) (he:po.length<=1000)
 (h:W P po.length pc (ae5 po.length rs D) ⟨ft 0 a,ob0 po⟩):auz P f a po D:=by
 intro w j ρ B h3 hB Y hi G
 let X:Cx:=⟨fn.ntmps,om (ob0 po) ρ,vm po ρ,B,w⟩
 haveI:GlC P X:=⟨h3⟩
 have E:∀id b,X.pn id=some b->ρ id=some b/\∃o,ob0 po id=some (0,o)/\o.pinned=true/\(o.isRow=true->lj X.w0 w b):=fun id b d=>by
  simp only [X,vm] at d;split at d
  ·rename_i v o hx;split at d
   ·rename_i Q;have:=(yf hx).2.2;simp only at this;subst this;exact ⟨d,o,hx,Q,fun _=>lj.refl _ _⟩
   cases d
  cases d
 have hX:Mem X (ob0 po) ρ w:=⟨Y.obj,Y.inj,Y.keeps,Y.own,E⟩
 have n:∀id b,X.pn id=some b->1000000<=id/\id<1000000+po.length:=fun id b d=>by
  obtain ⟨_,h6,hx,_⟩:=E id b d;obtain ⟨h1,h2,_⟩:=yf hx;have:=(zah.1 h2).1;exact ⟨h1,by omega⟩
 have hG:Gam X ⟨ft 0 a,ob0 po⟩ ρ { tmps:=j++Array.replicate (fn.ntmps-j.size) undef,defers:=[] } w:=by
  refine ⟨hX,by simp [X]; omega,rfl,fun t=>?_,fun id H=>?_,hn,hB⟩
  ·show RelA w (d7 X.B (ob0 po) ρ w) (ob0 po) ρ (ft 0 a t) _;rw [akq (Nat.zero_le _),Nat.sub_zero];by_cases ht:t<a.length
   ·have hx:a[t]?=some a[t]:=by simp [ht]
    have hc:j[t]?=some (j[t]'(by omega)):=by simp [show t<j.size by omega]
    have:=G t _ _ hx hc;rw [hx];simp only [Option.getD_some];rw [zab,Array.getElem?_append_left (by omega),hc];exact this
   rw [List.getElem?_eq_none (by omega)];exact .undef _
  rcases d:X.pn id with _ | b
  ·rfl
  have h1:=(n id b d).1;have h2:=(n id b d).2
  rcases (show id<1000000\/2000000<=id by
   unfold par at H;by_cases q:1000000<=id
   ·rw [decide_eq_true q] at H;exact .inr (by have:=of_decide_eq_false H; omega)
   exact .inl (by omega)) with q | q<;>omega
 refine calls_of_wp hf hb (wp_mono (auy (by omega) n pc c _ _ ρ _ w h4 h hG) fun e R F d=>?_)
 have T:(∃s ρ,opn po.length (rs.map fun p=>(p.1,p.2.1)) D rs s.e s.ob/\Gam X s ρ R F)->R.defers=[]/\∃v,(results fn R.tmps).run P F=.ok v F/\∃c J res ro,Ending.returned v=.returned c/\D res ro/\Mem ⟨0,om (ob0 po) ρ,vm po ρ,B,w⟩ (ob0 ro) J F/\RelA F (d7 B (ob0 ro) J F) (ob0 ro) J res c:=by
  rintro ⟨z,hj,Z,N⟩;obtain ⟨m,a1,cs,h0,hx,C,h8,A,_⟩:=aeq (P:=P) (tmps:=R.tmps) Z N h5 (fun p d=>by simpa using zac.1 V p d) h7 (fun _ _=>rfl);refine ⟨N.df,_,aiq fn _ M R.tmps C,?_⟩;generalize k:(rs.map fun p=>(p.1,p.2.1))=g at hx;have h9:g.length=rs.length:=by rw [<- k]; simp
  obtain ⟨hg,g1,g2,g3,g4⟩:=aca (live:=g) (fun p d=>by
   rw [<- k] at d;obtain ⟨q,hq,rfl⟩:=List.mem_map.1 d;have:q.1<fn.ntmps:=by simpa using zac.1 V q hq
   simp only
   omega) h0
  unfold ah7 at hx;simp only at g1 g2 g3 g4 hx;rcases Q:la (o7 m g z.ob).2 (o7 m g z.ob).1 with _ | ⟨vs,l⟩
  ·rw [Q] at hx; exact hx.elim
  rw [Q] at hx;simp only [af9] at hx;have L:=Gam.freeze (s:=⟨m,(o7 m g z.ob).2⟩) l g1;obtain ⟨k1,k2⟩:=ahe (s:=⟨m,Ev.freeze (o7 m g z.ob).2 l⟩) L rfl Q (fun _ h=>h);rcases hn2:nrm 64 po.length (1000000+po.length) vs (freeze (o7 m g z.ob).2 l) with _ | ⟨u,pos,r⟩
  ·rw [hn2] at hx; exact hx.elim
  rw [hn2] at hx;have hx:D (jz u) (pos++r):=hx;obtain ⟨I,K,m2,m3,m4⟩:=L.toMem.nrm hn2 (zae _) n;rw [<- m3,acf pos r 1000000] at K m4;refine ⟨_,I,_,_,rfl,hx,⟨K.obj,K.inj,K.keeps,K.own,K.pin⟩,?_⟩
  have O:∀(i:Nat) (y:AV) (v:Value),u[i]?=some y->cs[i]?=some v->RelA F (d7 B (ob0 (pos++r)) I F) (ob0 (pos++r)) I y v:=fun i y v hy hv=>by
   have hh:=(zah.1 hv).1;obtain ⟨q,hr⟩:∃q,rs[i]?=some q:=⟨rs[i]'(by omega),by simp [show i<rs.length by omega]⟩
   have ha:g[i]?=some (q.1,q.2.1):=by rw [<- k,List.getElem?_map,hr]; rfl
   have d:(o7 m g z.ob).1[i]?=some ((o7 m g z.ob).1[i]'(by omega)):=by simp [show i<(o7 m g z.ob).1.length by omega]
   have S:vs[i]?=some (vs[i]'(by omega)):=by simp [show i<vs.length by omega]
   exact m4 i _ y _ S hy (k2 i _ _ _ d S (yn l (g4 i _ _ _ _ ha d (A i _ v hr hv))))
  have U:u.length=cs.length:=by omega
  clear hx;clear C A h8 g4
  match u,cs,U,O with
  | [],[],_,hv=>exact .tup _ _ (by simp) fun i x c hx=>by simp at hx
  | [x],[c],_,hv=>exact hv 0 x c rfl rfl
  | x::x'::xs,c::c'::cs,hl,hv=>exact .tup _ _ (by simp at hl |-; omega) fun i y v hy hc=>hv i y v hy (by simpa using hc)
  | [],_::_,hl,_=>simp at hl
  | _::_,[],hl,_=>simp at hl
  | [_],_::_::_,hl,_=>simp at hl
  | _::_::_,[_],hl,_=>simp at hl
 cases e with
 | normal=>exact T d
 | ret=>exact T d
 | exit i=>obtain ⟨_,_,h,_⟩:=d; exact h.elim
 | goto l=>exact d.elim
 | panic ch=>exact d.elim
 | outgrown=>exact d.elim
theorem ain {f:FuncId} {fn:Func} {c:Code} {pc:PC} {a:List AV} {po ro:List Ob} {res:AV} {rs:List RSl} (z:P.funcs[f]?=some fn) (t:fn.body=some c) (A:fn.ntmps<=100000) (m:dt P fn.ntmps c pc=true)
 (s:a.length<=fn.ntmps) (g:fn.results.toList=rs.map RSl.rv) (o:(rs.all fun p=>p.agg P)=true) (r:(rs.all fun p=>decide (p.1<fn.ntmps))=true) (q:(rs.map (·.1)).Nodup) (k:po.length<=1000)
 (h:W P po.length pc (ae5 po.length rs fun v os=>v=res/\os=ro) ⟨ft 0 a,ob0 po⟩):a9 P f a po res ro:=by
 intro w d ρ B l u y n b;refine (ago z t A m s g o r q k h w d ρ B l u y n b).mono ?_;rintro e C ⟨c,i,_,_,rfl,⟨rfl,rfl⟩,j,x⟩;exact ⟨c,i,rfl,j,x⟩
end

structure Shut (p:Prop):Prop where
 out:p
inductive Item where
 | c (c:PC)
 | blk (id:Nat)
 | lp (live:List (Nat×Bool)) (D:List AV->List Ob->List Ob->Prop)
 | cut (S:Env->Obs->Prop)
section
variable {P:Program}
theorem yz {f:FuncId} {u:Nat} {ob:Obs} {K j:AV->Obs->Prop} (m:∀v o,K v o->j v o) {vs:List AV} {a:Option (List AV×List Nat)} (h:wb P f u ob K vs a):wb P f u ob j vs a:=by
 have b:∀{ob:Obs} {ids:List Nat} {as:List AV} {l:List Nat} {g:Bool} {o:Option (List Ob)},tx P f u ob ids as l g K o->tx P f u ob ids as l g j o:=fun {ob ids as l g o} h=>by
  cases o with
  | none=>exact h
  | some po=>obtain ⟨r,o,e,d,c,n,p⟩:=h; exact ⟨r,o,e,d,c,n,m _ _ p⟩
 rcases a with _ | ⟨as,_ | ⟨i,l⟩⟩
 ·exact b h
 ·exact b h
 exact h.imp b (Or.imp b (Or.imp b (Or.imp (fun ⟨id,v,z,k,e,d,c⟩=>⟨id,v,z,k,e,d,fun q=>b (c q)⟩) fun ⟨id,v,sz,z,k,e,d,c⟩=>⟨id,v,sz,z,k,e,d,b c⟩)))
theorem agf:∀{rs:List PR} {K j:St->Prop} {s:St},(∀s,K s->j s)->wpR P rs K s->wpR P rs j s
 | [],K,j,s,hK,h=>hK s h
 | r::rs,K,j,s,hK,h=>by
   have i:∀s,wpR P rs K s->wpR P rs j s:=fun s=>agf hK;simp only [wpR] at h |-;generalize yes s.e r.g=y at h |-;cases y with
   | none=>exact h
   | some b=>
     simp only [PR.wp] at h |-;rcases r with ⟨d,g,u,x⟩
     cases x with
     | see o=>exact ⟨h.1,i _ h.2⟩
     | act o=>exact ⟨fun c=>⟨(h.1 c).1,i _ (h.1 c).2⟩,fun c=>i _ (h.2 c)⟩
     | call f xs=>exact ⟨fun c=>⟨(h.1 c).1,yz (fun v o=>i _) (h.1 c).2⟩,fun c=>i _ (h.2 c)⟩
     | callv x xs=>
       refine ⟨fun c=>⟨(h.1 c).1,(h.1 c).2.1,?_⟩,fun c=>i _ (h.2 c)⟩;have a:=(h.1 c).2.2;simp only at a |-;generalize (x.ev s.e).bare=y at a |-;cases y with
       | fn f cap=>cases f with
         | func f=>exact ⟨a.1,yz (fun v o=>i _) a.2⟩
         | _=>exact a
       | _=>exact a
     | inv tbl x xs=>
       refine ⟨fun c=>⟨(h.1 c).1,(h.1 c).2.1,?_⟩,fun c=>i _ (h.2 c)⟩;have a:=(h.1 c).2.2;simp only at a |-;generalize (x.ev s.e).bare=y at a |-;cases y with
       | ifc t y=>
         simp only [abn] at a |-;generalize y7 t tbl=q at a |-;cases q with
         | some f=>exact yz (fun v o=>i _) a
         | none=>exact a
       | _=>exact a
     | nxt x=>
       refine ⟨fun c=>⟨(h.1 c).1,?_⟩,fun c=>i _ (h.2 c)⟩;have a:=(h.1 c).2;simp only at a |-;unfold ahh at a |-;split at a
       ·unfold ak8 at a |-;split at a
        ·unfold aqe at a |-;split at a
         ·exact ⟨a.1,a.2.1,fun q=>i _ (a.2.2.1 q),fun q k=>i _ (a.2.2.2 q k)⟩
         exact a
        exact a
       exact a
theorem agh:∀{rs:List PR} {a:List Lg} {K b:List Lg->St->Prop} {s:St},(∀l s,K l s->b l s)->wpD P rs a s K->wpD P rs a s b
 | [],a,K,b,s,hK,h=>hK a s h
 | r::rs,a,K,b,s,hK,h=>by
   obtain ⟨c,e,d⟩:=h;exact ⟨c,e,agh hK d⟩
theorem aw6 {np:Nat}:∀{pc:PC} {K e:Ex->St->Prop} {s:St},(∀x s,K x s->e x s)->W P np pc K s->W P np pc e s:=by
 intro pc
 induction pc with
 | skip=>intro K e s d h; exact d _ _ h
 | reg rs=>intro K e s d h; exact agf (d .nor) h
 | seq a b iha ihb=>
   intro K e s d h;refine iha (fun x s h=>?_) h;cases x with
   | nor=>exact ihb d h
   | _=>exact d _ _ h
 | cond x a b iha ihb=>
   intro K e s d h;unfold W at h |-;split at h
   ·exact ⟨fun q=>iha d (h.1 q),fun q=>ihb d (h.2 q)⟩
   exact h.elim
 | block id c ih=>
   intro K e s d h;refine ih (fun x s h=>?_) h;cases x with
   | ex i=>
     simp only at h |-;split
     ·rename_i hi; rw [if_pos hi] at h; exact d _ _ h
     rename_i hi; rw [if_neg hi] at h; exact d _ _ h
   | _=>exact d _ _ h
 | loop c ih=>
   intro K e s d h;obtain ⟨live,I,m,k,j,g⟩:=h;refine ⟨live,I,m,k,j,fun vs pos f hv=>ih (fun x s h=>?_) (g vs pos f hv)⟩;cases x with
   | nor=>exact h
   | _=>exact d _ _ h
 | exit i=>intro K e s d h; exact d _ _ h
 | ret=>intro K e s d h; exact d _ _ h
 | drw rs pre=>intro K e s d h; exact agh (fun l s h=>⟨h.1,d _ _ h.2⟩) h
end
mutual
def run (P:Program) (np:Nat) (Q:Ex->St->Prop):List Item->St->Prop
 | [],s=>Q .nor s
 | .c c::is,s=>W P np c (fun x s=>match x with | .nor=>run P np Q is s | x=>unw P np Q is x s) s
 | .blk _::is,s=>run P np Q is s
 | .lp live D::_,s=>rk np live s D
 | .cut S::_,s=>S s.e s.ob
def unw (P:Program) (np:Nat) (Q:Ex->St->Prop):List Item->Ex->St->Prop
 | [],x,s=>Q x s
 | .blk id::is,.ex i,s=>if i=id then run P np Q is s else unw P np Q is (.ex i) s
 | _::is,x,s=>unw P np Q is x s
end
def v4 (P:Program) (np:Nat) (Q:Ex->St->Prop) (rs:List PR) (a:List Item) (e:Env) (ob:Obs):Prop:=wpR P rs (run P np Q a) ⟨e,ob⟩
def stp (P:Program) (np:Nat) (Q:Ex->St->Prop) (d:Option Nat) (g:Option (Nat×Bool)) (u:Nat) (x:PX) (rs:List PR) (a:List Item) (e:Env) (ob:Obs):Option Bool->Prop
 | some b=>x.wp P ⟨d,g,u,x⟩ ⟨e,ob⟩ (wpR P rs (run P np Q a)) b
 | none=>False
def ava (P:Program) (np:Nat) (Q:Ex->St->Prop) (d:Option Nat) (g:Option (Nat×Bool)) (b:Bool) (rs:List PR) (a:List Item) (e:Env) (R:Rs) (ob:Obs):Prop:=
 R.ok/\v4 P np Q rs a (l8 d (gdv g b R.v) e) ob
def aij (P:Program) (np:Nat) (Q:Ex->St->Prop) (d:Option Nat) (rs:List PR) (a:List Item) (e:Env) (R:Rs):Prop:=
 R.ok/\v4 P np Q rs a (l8 d R.v e) R.ob
def cnd (P:Program) (np:Nat) (Q:Ex->St->Prop) (x:AV) (a b:PC) (d:List Item) (s:St):Prop:=match x with
 | .r (.v (.bool c))=>Shut ((c=true->run P np Q (.c a::d) s)/\(c=false->run P np Q (.c b::d) s))
 | _=>False
def oe (P:Program) (np:Nat) (Q:Ex->St->Prop) (f:FuncId) (u:Nat) (d:Option Nat) (rs:List PR) (a:List Item) (e:Env) (ob:Obs) (vs:List AV):Option (List AV×List Nat)->Prop:=
 wb P f u ob (fun v ob=>v4 P np Q rs a (l8 d v e) ob) vs
def yu (P:Program) (np:Nat) (Q:Ex->St->Prop) (f:FuncId) (u:Nat) (d:Option Nat) (rs:List PR) (b:List Item) (e:Env) (ob:Obs) (as:List AV) (l:List Nat) (a:Bool) (ids:List Nat):Prop:=
 tx P f u ob ids (imL (fwd ob ids) as) l a (fun v ob=>v4 P np Q rs b (l8 d v e) ob) (o4 (fwd ob ids) ob ids)
def al0 (P:Program) (np:Nat) (Q:Ex->St->Prop) (f:FuncId) (u:Nat) (d:Option Nat) (rs:List PR) (b:List Item) (e:Env) (ob:Obs) (as:List AV) (l:List Nat) (a:Bool) (ids:List Nat):Option (List Ob)->Prop:=
 tx P f u ob ids as l a (fun v ob=>v4 P np Q rs b (l8 d v e) ob)
def aeb (P:Program) (np:Nat) (Q:Ex->St->Prop) (f:FuncId) (u:Nat) (d:Option Nat) (rs:List PR) (b:List Item) (e:Env) (ob:Obs) (as:List AV) (l:List Nat) (a:Bool) (ids:List Nat) (po:List Ob):Prop:=
 al0 P np Q f u d rs b e ob as l a ids (some po)
def aft (P:Program) (np:Nat) (Q:Ex->St->Prop) (u:Nat) (d:Option Nat) (rs:List PR) (a:List Item) (e:Env) (ob:Obs) (ids:List Nat) (res:AV) (ro:List Ob):Prop:=
 v4 P np Q rs a (l8 d (imV (back ob u ids ro.length) res) e) (v8 ob u ids (back ob u ids ro.length) 0 ro)
def alz (P:Program) (np:Nat) (Q:Ex->St->Prop) (u:Nat) (d:Option Nat) (rs:List PR) (a:List Item) (e:Env) (ob:Obs) (vs:List AV) (x:AV):Prop:=
 al9 P u ob vs (fun v ob=>v4 P np Q rs a (l8 d v e) ob) x
def aec (P:Program) (np:Nat) (Q:Ex->St->Prop) (tbl:List (TypeId×FuncId)) (u:Nat) (d:Option Nat) (rs:List PR) (a:List Item) (e:Env) (ob:Obs) (vs:List AV) (x:AV):Prop:=
 abn P tbl u ob vs (fun v ob=>v4 P np Q rs a (l8 d v e) ob) x
def ao3 (P:Program) (np:Nat) (Q:Ex->St->Prop) (u:Nat) (d:Option Nat) (rs:List PR) (a:List Item) (e:Env) (ob:Obs) (vs:List AV) (x:AV):Option FuncId->Prop
 | some f=>oe P np Q f u d rs a e ob (x::vs) (j9 ob (x::vs))
 | none=>False
def aqd (P:Program) (np:Nat) (Q:Ex->St->Prop) (d:Option Nat) (rs:List PR) (a:List Item) (e:Env) (ob:Obs) (x:AV):Prop:=ahh ob (fun v ob=>v4 P np Q rs a (l8 d v e) ob) x
def avr (P:Program) (np:Nat) (Q:Ex->St->Prop) (d:Option Nat) (rs:List PR) (a:List Item) (e:Env) (ob:Obs) (id ver:Nat) (x:Option (AV×Nat×List Nat×Nat)):Prop:=ak8 id ver ob (fun v ob=>v4 P np Q rs a (l8 d v e) ob) x
def ax8 (P:Program) (np:Nat) (Q:Ex->St->Prop) (d:Option Nat) (rs:List PR) (f:List Item) (e:Env) (ob:Obs) (id ver:Nat) (m:AV) (a:Nat) (b:List Nat) (c:Nat) (x:Option (List MapEntry×Nat)):Prop:=
 aqe id ver ob m a b c (fun v ob=>v4 P np Q rs f (l8 d v e) ob) x
section
variable (P:Program) (np:Nat) (Q:Ex->St->Prop) (is:List Item) (s:St) (e:Env) (ob:Obs)
theorem jn (d:Option Nat) (g:Option (Nat×Bool)) (u:Nat) (tbl:List (TypeId×FuncId)) (x:Opd) (a:List Opd) (rs:List PR):stp P np Q d g u (.inv tbl x a) rs is e ob (some true)=((x.ev e).may true/\t9 true e a/\aec P np Q tbl u d rs is e ob (i8 e a) (x.ev e).bare):=by
 simp [stp,PX.wp,aec,v4]
theorem au (d:Option Nat) (g:Option (Nat×Bool)) (u:Nat) (tbl:List (TypeId×FuncId)) (x:Opd) (a:List Opd) (rs:List PR):stp P np Q d g u (.inv tbl x a) rs is e ob (some false)=v4 P np Q rs is (l8 d .undef e) ob:=by
 simp [stp,PX.wp,v4]
theorem bd (u:Nat) (d:Option Nat) (rs:List PR) (tbl:List (TypeId×FuncId)) (vs:List AV) (t:TypeId) (x:AV):aec P np Q tbl u d rs is e ob vs (.ifc t x)=ao3 P np Q u d rs is e ob vs x (y7 t tbl):=by
 simp only [aec,abn];generalize y7 t tbl=q;cases q<;>rfl
theorem ae (u:Nat) (d:Option Nat) (rs:List PR) (vs:List AV) (x:AV) (f:FuncId):ao3 P np Q u d rs is e ob vs x (some f)=oe P np Q f u d rs is e ob (x::vs) (j9 ob (x::vs)):=(rfl)
theorem jm (d:Option Nat) (g:Option (Nat×Bool)) (u:Nat) (x:Opd) (rs:List PR):stp P np Q d g u (.nxt x) rs is e ob (some true)=((x.ev e).may true/\aqd P np Q d rs is e ob (x.ev e).bare):=by
 simp [stp,PX.wp,aqd,v4]
theorem eo (d:Option Nat) (rs:List PR) (id ver:Nat):aqd P np Q d rs is e ob (.ptr id ver 0)=avr P np Q d rs is e ob id ver (v9 ob id ver):=(rfl)
theorem co (d:Option Nat) (rs:List PR) (id ver f a b g:Nat) (c:List Nat):avr P np Q d rs is e ob id ver (some (.mp f a,b,c,g))=ax8 P np Q d rs is e ob id ver (.mp f a) b c g (n8 ob f a):=(rfl)
theorem bz (d:Option Nat) (g:Option (Nat×Bool)) (u:Nat) (x:Opd) (a:List Opd) (rs:List PR):stp P np Q d g u (.callv x a) rs is e ob (some true)=((x.ev e).may true/\t9 true e a/\alz P np Q u d rs is e ob (i8 e a) (x.ev e).bare):=by
 simp [stp,PX.wp,alz,v4]
theorem fk (u:Nat) (d:Option Nat) (rs:List PR) (vs:List AV) (f:FuncId) (cap:List AV) (k:Nat):alz P np Q u d rs is e ob vs (.fn (.func f) cap k)=(uq P f=true/\oe P np Q f u d rs is e ob (cap.take k++(vs++cap.drop k)) (j9 ob (cap.take k++(vs++cap.drop k)))):=(rfl)
theorem v5 (d:Option Nat) (g:Option (Nat×Bool)) (u:Nat) (x:Opd) (a:List Opd) (rs:List PR):stp P np Q d g u (.callv x a) rs is e ob (some false)=v4 P np Q rs is (l8 d .undef e) ob:=by
 simp [stp,PX.wp,v4]
theorem jv:run P np Q [] s=Q .nor s:=by unfold run; rfl
theorem eg:run P np Q (.c .skip::is) s=run P np Q is s:=by rw [run]; rfl
theorem jr (a b:PC):run P np Q (.c (.seq a b)::is) s=run P np Q (.c a :: .c b::is) s:=by
 rw [run,W,run];congr 1;funext x s;cases x<;>simp only [run,unw]
theorem ju (a:List PR):run P np Q (.c (.reg a)::is) ⟨e,ob⟩=v4 P np Q a is e ob:=by rw [run]; rfl
theorem ej:v4 P np Q [] is e ob=run P np Q is ⟨e,ob⟩:=(rfl)
theorem ce (d:Option Nat) (g:Option (Nat×Bool)) (u:Nat) (x:PX) (rs:List PR):v4 P np Q (⟨d,g,u,x⟩::rs) is e ob=stp P np Q d g u x rs is e ob (yes e g):=by
 show PR.wp P ⟨d,g,u,x⟩ ⟨e,ob⟩ (wpR P rs (run P np Q is)) (yes e g) = _;generalize yes e g=y;cases y<;>rfl
theorem jl (d:Option Nat) (g:Option (Nat×Bool)) (u:Nat) (o:PO) (rs:List PR) (b:Bool):stp P np Q d g u (.see o) rs is e ob (some b)=ava P np Q d g b rs is e (o.see b e ob) ob:=(rfl)
theorem jq (d:Option Nat) (g:Option (Nat×Bool)) (b:Bool) (rs:List PR) (p:Prop) (v:AV) (a:Obs) (rd c:List Nat):ava P np Q d g b rs is e ⟨p,v,a,rd,c⟩ ob=(p/\v4 P np Q rs is (l8 d (gdv g b v) e) ob):=(rfl)
theorem jo (d:Option Nat) (g:Option (Nat×Bool)) (u:Nat) (o:PO) (rs:List PR):stp P np Q d g u (.act o) rs is e ob (some true)=aij P np Q d rs is e (o.act (d.getD 0) e ob):=by
 simp [stp,PX.wp,aij,v4]
theorem av (d:Option Nat) (g:Option (Nat×Bool)) (u:Nat) (o:PO) (rs:List PR):stp P np Q d g u (.act o) rs is e ob (some false)=v4 P np Q rs is (l8 d .undef e) ob:=by
 simp [stp,PX.wp,aij,v4]
theorem z6 (d:Option Nat) (g:Option (Nat×Bool)) (u:Nat) (f:FuncId) (a:List Opd) (rs:List PR):stp P np Q d g u (.call f a) rs is e ob (some false)=v4 P np Q rs is (l8 d .undef e) ob:=by
 simp [stp,PX.wp,aij,v4]
theorem ko (d:Option Nat) (rs:List PR) (p:Prop) (v:AV) (a:Obs) (rd b:List Nat):aij P np Q d rs is e ⟨p,v,a,rd,b⟩=(p/\v4 P np Q rs is (l8 d v e) a):=(rfl)
theorem ef (d:Option Nat) (g:Option (Nat×Bool)) (u:Nat) (f:FuncId) (a:List Opd) (rs:List PR):stp P np Q d g u (.call f a) rs is e ob (some true)=(t9 true e a/\oe P np Q f u d rs is e ob (i8 e a) (j9 ob (i8 e a))):=by
 simp [stp,PX.wp,oe,v4]
theorem bf (f:FuncId) (u:Nat) (d:Option Nat) (rs:List PR) (vs as:List AV):oe P np Q f u d rs is e ob vs (some (as,[]))=yu P np Q f u d rs is e ob as [] true (l6 ob 64 (l9 as) []):=(rfl)
theorem db {P:Program} {np:Nat} {Q:Ex->St->Prop} {a:List Item} {e:Env} {ob:Obs} {f:FuncId} {u:Nat} {d:Option Nat} {rs:List PR} {vs as:List AV} {l:List Nat} (h:yu P np Q f u d rs a e ob as (i::l) false (l6 ob 64 (l9 as) [])):oe P np Q f u d rs a e ob vs (some (as,i::l)):=Or.inr (Or.inl h)
theorem tt {P:Program} {np:Nat} {Q:Ex->St->Prop} {a:List Item} {e:Env} {ob:Obs} {f:FuncId} {u:Nat} {d:Option Nat} {rs:List PR} {vs as:List AV} {l:List Nat} (h:yu P np Q f u d rs a e (freeze ob (i::l)) as (i::l) true (l6 (freeze ob (i::l)) 64 (l9 as) [])):oe P np Q f u d rs a e ob vs (some (as,i::l)):=Or.inl h
theorem da (f:FuncId) (u:Nat) (d:Option Nat) (rs:List PR) (vs:List AV):oe P np Q f u d rs is e ob vs none=yu P np Q f u d rs is e ob vs [] true (l6 ob 64 (l9 vs) []):=(rfl)
theorem vt {P:Program} {np:Nat} {Q:Ex->St->Prop} {a:List Item} {e:Env} {ob:Obs} {f:FuncId} {u:Nat} {d:Option Nat} {rs:List PR} {vs as:List AV} {l:List Nat} (h:yu P np Q f u d rs a e ob vs [] true (l6 ob 64 (l9 vs) [])):oe P np Q f u d rs a e ob vs (some (as,i::l)):=Or.inr (Or.inr (Or.inl h))
theorem al1 {P:Program} {np:Nat} {Q:Ex->St->Prop} {g:List Item} {e:Env} {ob:Obs} {f:FuncId} {u:Nat} {d:Option Nat} {rs:List PR} {vs as:List AV} {l:List Nat} (id v sz:Nat) (z:RV) (a:List RV) (c:ob id=some (v,.row sz z true true a)) (b:a≠[])
 (h:yu P np Q f u d rs g e (upd id (v,.row sz z false true a) ob) vs [] true (l6 (upd id (v,.row sz z false true a) ob) 64 (l9 vs) [])):oe P np Q f u d rs g e ob vs (some (as,i::l)):=Or.inr (Or.inr (Or.inr (Or.inr ⟨id,v,sz,z,a,c,b,h⟩)))
theorem fm (f:FuncId) (u:Nat) (d:Option Nat) (rs:List PR) (as:List AV) (l:List Nat) (a:Bool) (ids:List Nat):yu P np Q f u d rs is e ob as l a ids=al0 P np Q f u d rs is e ob (imL (fwd ob ids) as) l a ids (o4 (fwd ob ids) ob ids):=(rfl)
theorem be (f:FuncId) (u:Nat) (d:Option Nat) (rs:List PR) (as:List AV) (l:List Nat) (a:Bool) (ids:List Nat) (po:List Ob):al0 P np Q f u d rs is e ob as l a ids (some po)=aeb P np Q f u d rs is e ob as l a ids po:=(rfl)
theorem a7 {P:Program} {np:Nat} {Q:Ex->St->Prop} {a:List Item} {e:Env} {ob:Obs} {f:FuncId} {u:Nat} {d:Option Nat} {rs:List PR} {as:List AV} {l:List Nat} {ids:List Nat} {po:List Ob} {res:AV} {ro:List Ob}
 (h:a9 P f as po res ro) (g:okC u ids ro.length l true=true) (c:al po ro) (b:aft P np Q u d rs a e ob ids res ro):aeb P np Q f u d rs a e ob as l true ids po:=
 ⟨res,ro,h,g,c,(fun h=>by cases h),b⟩
theorem b5 {P:Program} {np:Nat} {Q:Ex->St->Prop} {c:List Item} {e:Env} {ob:Obs} {f:FuncId} {u:Nat} {d:Option Nat} {rs:List PR} {as as':List AV} {l:List Nat} {b:Bool} {ids:List Nat} {po:List Ob} (a:as=as') (h:aeb P np Q f u d rs c e ob as' l b ids po):aeb P np Q f u d rs c e ob as l b ids po:=a▸h
theorem dz {P:Program} {np:Nat} {Q:Ex->St->Prop} {a:List Item} {e:Env} {ob:Obs} {f:FuncId} {u:Nat} {d:Option Nat} {rs:List PR} {as:List AV} {l:List Nat} {ids:List Nat} {po:List Ob} {res:AV} {ro:List Ob}
 (h:a9 P f as po res ro) (j:okC u ids ro.length l false=true) (c:al po ro) (g:bu res) (i:∀o∈ro,vz o) (b:aft P np Q u d rs a e ob ids res ro):aeb P np Q f u d rs a e ob as l false ids po:=
 ⟨res,ro,h,j,c,fun _=>⟨g,i⟩,b⟩
theorem ol (u:Nat) (d:Option Nat) (rs:List PR) (ids:List Nat) (res:AV) (ro:List Ob):aft P np Q u d rs is e ob ids res ro=v4 P np Q rs is (l8 d (imV (back ob u ids ro.length) res) e) (v8 ob u ids (back ob u ids ro.length) 0 ro):=(rfl)
theorem ei (x:Opd) (a b:PC):run P np Q (.c (.cond x a b)::is) ⟨e,ob⟩=cnd P np Q (x.ev e) a b is ⟨e,ob⟩:=by
 rw [run,W]; unfold cnd; split
 ·simp only [*,run]; exact propext ⟨fun h=>⟨h⟩,fun h=>h.out⟩
 simp [*]
theorem fj (a b:PC):cnd P np Q (.r (.v (.bool true))) a b is s=run P np Q (.c a::is) s:=propext ⟨fun h=>h.out.1 rfl,fun h=>⟨fun _=>h,fun h=>by cases h⟩⟩
theorem cw (a b:PC):cnd P np Q (.r (.v (.bool false))) a b is s=run P np Q (.c b::is) s:=propext ⟨fun h=>h.out.2 rfl,fun h=>⟨(fun h=>by cases h),fun _=>h⟩⟩
theorem b8 {P:Program} {np:Nat} {Q:Ex->St->Prop} {d:List Item} {s:St} {c:Bool} {a b:PC} (f:c=true->run P np Q (.c a::d) s) (e:c=false->run P np Q (.c b::d) s):cnd P np Q (.r (.v (.bool c))) a b d s:=⟨⟨f,e⟩⟩
theorem cd (id:Nat) (c:PC):run P np Q (.c (.block id c)::is) s=run P np Q (.c c :: .blk id::is) s:=by
 rw [run,W,run];congr 1;funext x s;cases x with
 | nor=>simp only [run]
 | ex i=>simp only [unw]
 | rt=>simp [unw]
theorem eh (i:Nat):run P np Q (.c (.exit i)::is) s=unw P np Q is (.ex i) s:=by rw [run]; rfl
theorem jt:run P np Q (.c .ret::is) s=unw P np Q is .rt s:=by rw [run]; rfl
theorem jy (i:Nat):run P np Q (.blk i::is) s=run P np Q is s:=by rw [run]
theorem na (l:List (Nat×Bool)) (D:List AV->List Ob->List Ob->Prop):run P np Q (.lp l D::is) s=rk np l s D:=by rw [run]
theorem jh (x:Ex):unw P np Q [] x s=Q x s:=by unfold unw; rfl
theorem jk (i j:Nat):unw P np Q (.blk j::is) (.ex i) s=if i=j then run P np Q is s else unw P np Q is (.ex i) s:=by rw [unw]
theorem ar (j:Nat):unw P np Q (.blk j::is) .rt s=unw P np Q is .rt s:=by simp [unw]
theorem tg (c:PC) (x:Ex):unw P np Q (.c c::is) x s=unw P np Q is x s:=by cases x<;>simp [unw]
theorem mw (l:List (Nat×Bool)) (D:List AV->List Ob->List Ob->Prop) (x:Ex):unw P np Q (.lp l D::is) x s=unw P np Q is x s:=by cases x<;>simp [unw]
theorem jx (S:Env->Obs->Prop):run P np Q (.cut S::is) ⟨e,ob⟩=S e ob:=by rw [run]
theorem ji (S:Env->Obs->Prop) (x:Ex):unw P np Q (.cut S::is) x s=unw P np Q is x s:=by cases x<;>simp [unw]
theorem aq8 {P:Program} {np:Nat} {Q:Ex->St->Prop} {d:List Item} {s:St} {c:Bool} {a b:PC} (S:Env->Obs->Prop) (g:∀e ob,S e ob->run P np Q d ⟨e,ob⟩)
 (j:c=true->run P np Q (.c a :: .cut S::d) s) (k:c=false->run P np Q (.c b :: .cut S::d) s):cnd P np Q (.r (.v (.bool c))) a b d s:=by
 have f:∀a,run P np Q (.c a :: .cut S::d) s->run P np Q (.c a::d) s:=fun a h=>by
  rw [run] at h |-;refine aw6 (fun x s h=>?_) h;cases x with
  | nor=>simp only [run] at h; exact g _ _ h
  | ex i=>simp only [unw] at h; exact h
  | rt=>simp only [unw] at h; exact h
 exact ⟨⟨fun h=>f a (j h),fun h=>f b (k h)⟩⟩
theorem c9 {P:Program} {np:Nat} {Q:Ex->St->Prop} {g:List Item} {s:St} {c:PC} (live:List (Nat×Bool)) (I:List AV->List Ob->List Ob->Prop) (m:List AV->List Ob->List Ob->Nat) (i:(live.all fun p=>decide (p.1<100000))=true) (j:rk np live s I)
 (h:∀vs pos a,I vs pos a->run P np Q (.c c :: .lp live (fun f b d=>I f b d/\m f b d<m vs pos a)::g) (ab7 live vs pos a)):run P np Q (.c (.loop c)::g) s:=by
 rw [run,W];refine ⟨live,I,m,i,j,fun vs pos a hv=>?_⟩;have:=h vs pos a hv;rw [run] at this;refine cast (congrArg (fun K=>W P np c K (ab7 live vs pos a)) ?_) this;funext x e;cases x<;>simp only [run,unw]
theorem arm {P:Program} {np:Nat} {Q:Ex->St->Prop} {s:St} {c:PC} (h:run P np Q [.c c] s):W P np c Q s:=by
 rw [run] at h;refine cast (congrArg (fun K=>W P np c K s) ?_) h;funext x e;cases x<;>simp only [run,unw]
theorem kp (rs:List RSl) (D:AV->List Ob->Prop) (e:Env) (ob:Obs):ae5 np rs D .rt ⟨e,ob⟩=opn np (rs.map fun p=>(p.1,p.2.1)) D rs e ob:=(rfl)
theorem fu (rs:List RSl) (D:AV->List Ob->Prop) (e:Env) (ob:Obs):ae5 np rs D .nor ⟨e,ob⟩=opn np (rs.map fun p=>(p.1,p.2.1)) D rs e ob:=(rfl)
theorem kc (a:List (Nat×Bool)) (D:AV->List Ob->Prop) (e:Env) (ob:Obs):opn np a D [] e ob=ah7 np a ⟨e,ob⟩ D:=(rfl)
theorem kb (c:List (Nat×Bool)) (D:AV->List Ob->Prop) (a:Nat) (b:Bool) (r:List RSl) (e:Env) (ob:Obs):opn np c D ((a,b,none)::r) e ob=opn np c D r e ob:=(rfl)
def opf (np:Nat) (b:List (Nat×Bool)) (D:AV->List Ob->Prop) (a:Nat) (r:List RSl) (e:Env) (ob:Obs) (R:Rs):Prop:=R.ok/\opn np b D r (put a R.v e) ob
theorem en (c:List (Nat×Bool)) (D:AV->List Ob->Prop) (a:Nat) (b:Bool) (t:TypeId) (n:Option Nat) (r:List RSl) (e:Env) (ob:Obs):opn np c D ((a,b,some (t,n))::r) e ob=opf np c D a r e ob (ld1 true n (e a) ob):=(rfl)
theorem ni (b:List (Nat×Bool)) (D:AV->List Ob->Prop) (a:Nat) (r:List RSl) (e:Env) (ob:Obs) (p:Prop) (v:AV) (c:Obs) (rd d:List Nat):opf np b D a r e ob ⟨p,v,c,rd,d⟩=(p/\opn np b D r (put a v e) ob):=(rfl)
end
def pw (P:Program) (np:Nat) (Q:Ex->St->Prop) (b:List (List Nat)) (rs:List PR) (a:List Lg) (c:List Item) (e:Env) (ob:Obs):Prop:=wpD P rs a ⟨e,ob⟩ fun a s=>jc b a=true/\run P np Q c s
def wq (P:Program) (np:Nat) (Q:Ex->St->Prop) (b:List (List Nat)) (d:Option Nat) (g:Option (Nat×Bool)) (u:Nat) (x:PX) (rs:List PR) (a:List Lg) (f:List Item) (e:Env) (ob:Obs) (y:Option Bool):Prop:=
 ∃c:Ans,(x.out P ⟨d,g,u,x⟩ ⟨e,ob⟩ c y).ok/\wpD P rs (a++[(x.out P ⟨d,g,u,x⟩ ⟨e,ob⟩ c y).lg]) (x.out P ⟨d,g,u,x⟩ ⟨e,ob⟩ c y).st fun a s=>jc b a=true/\run P np Q f s
def awi (P:Program) (np:Nat) (Q:Ex->St->Prop) (a:List (List Nat)) (r:PR) (b:Bool) (rs:List PR) (c:List Lg) (f:List Item) (e:Env) (ob:Obs) (R:Rs):Prop:=
 R.ok/\pw P np Q a rs (c++[r.lg R.rd []]) f (l8 r.d (gdv r.g b R.v) e) ob
def ar9 (P:Program) (np:Nat) (Q:Ex->St->Prop) (a:List (List Nat)) (r:PR) (rs:List PR) (b:List Lg) (c:List Item) (e:Env) (R:Rs):Prop:=
 R.ok/\pw P np Q a rs (b++[r.lg R.rd R.wr]) c (l8 r.d R.v e) R.ob
def dcA (P:Program) (np:Nat) (Q:Ex->St->Prop) (d:List (List Nat)) (r:PR) (f:FuncId) (p:Prop) (rs:List PR) (b:List Lg) (g:List Item) (e:Env) (ob:Obs) (a:List AV×List Nat×Bool):Prop:=
 ∃c:Ans,(r8 P r ⟨e,ob⟩ f p c a).ok/\wpD P rs (b++[(r8 P r ⟨e,ob⟩ f p c a).lg]) (r8 P r ⟨e,ob⟩ f p c a).st fun b s=>jc d b=true/\run P np Q g s
def dcX (P:Program) (np:Nat) (Q:Ex->St->Prop) (b:List (List Nat)) (r:PR) (p:Prop) (rs:List PR) (a:List Lg) (d:List Item) (e:Env) (ob:Obs) (vs:List AV) (y:AV):Prop:=
 ∃c:Ans,(od P r ⟨e,ob⟩ p c vs y).ok/\wpD P rs (a++[(od P r ⟨e,ob⟩ p c vs y).lg]) (od P r ⟨e,ob⟩ p c vs y).st fun a s=>jc b a=true/\run P np Q d s
def dcI (P:Program) (np:Nat) (Q:Ex->St->Prop) (b:List (List Nat)) (r:PR) (tbl:List (TypeId×FuncId)) (p:Prop) (rs:List PR) (a:List Lg) (d:List Item) (e:Env) (ob:Obs) (vs:List AV) (y:AV):Prop:=
 ∃c:Ans,(km P r ⟨e,ob⟩ tbl p c vs y).ok/\wpD P rs (a++[(km P r ⟨e,ob⟩ tbl p c vs y).lg]) (km P r ⟨e,ob⟩ tbl p c vs y).st fun a s=>jc b a=true/\run P np Q d s
def awj (P:Program) (np:Nat) (Q:Ex->St->Prop) (a:List (List Nat)) (r:PR) (p:Prop) (rs:List PR) (b:List Lg) (c:List Item) (e:Env) (ob:Obs) (vs:List AV) (y:AV):Option FuncId->Prop
 | some f=>dcA P np Q a r f p rs b c e ob (u0 (y::vs) (j9 ob (y::vs)))
 | none=>False
def dcB (P:Program) (np:Nat) (Q:Ex->St->Prop) (b:List (List Nat)) (r:PR) (f:FuncId) (p:Prop) (rs:List PR) (a:List Lg) (g:List Item) (e:Env) (ob:Obs) (as:List AV) (l:List Nat) (d:Bool) (ids:List Nat):Prop:=
 ∃c:Ans,(xp P r ⟨e,ob⟩ f p c as l d ids (o4 (fwd ob ids) ob ids)).ok/\wpD P rs (a++[(xp P r ⟨e,ob⟩ f p c as l d ids (o4 (fwd ob ids) ob ids)).lg]) (xp P r ⟨e,ob⟩ f p c as l d ids (o4 (fwd ob ids) ob ids)).st fun a s=>jc b a=true/\run P np Q g s
def ari (P:Program) (np:Nat) (Q:Ex->St->Prop) (a:List (List Nat)) (r:PR) (rs:List PR) (b:List Lg) (c:List Item) (e:Env) (ob:Obs) (l:List Nat) (ids:List Nat) (res:AV) (ro:List Ob):Prop:=
 pw P np Q a rs (b++[r.lg (l++(ids++y6 r.u ids ro.length)) (y6 r.u ids ro.length)]) c (l8 r.d (imV (back ob r.u ids ro.length) res) e) (v8 ob r.u ids (back ob r.u ids ro.length) 0 ro)
def dcP (P:Program) (np:Nat) (Q:Ex->St->Prop) (a:List (List Nat)) (r:PR) (f:FuncId) (rs:List PR) (b:List Lg) (d:List Item) (e:Env) (ob:Obs) (as:List AV) (l:List Nat) (c:Bool) (ids:List Nat) (po:List Ob):Prop:=
 ∃(res:AV) (ro:List Ob),a9 P f as po res ro/\okC r.u ids ro.length l c=true/\al po ro/\(c=false->bu res/\∀o∈ro,vz o)/\ari P np Q a r rs b d e ob l ids res ro
def dcC (P:Program) (np:Nat) (Q:Ex->St->Prop) (a:List (List Nat)) (r:PR) (f:FuncId) (p:Prop) (rs:List PR) (b:List Lg) (d:List Item) (e:Env) (ob:Obs) (as:List AV) (l:List Nat) (c:Bool) (ids:List Nat):Option (List Ob)->Prop
 | some po=>p/\dcP P np Q a r f rs b d e ob as l c ids po
 | none=>False
section
variable (P:Program) (np:Nat) (Q:Ex->St->Prop) (pre:List (List Nat)) (log:List Lg) (is:List Item) (e:Env) (ob:Obs) (rs:List PR)
theorem jw (a:List PR):run P np Q (.c (.drw a pre)::is) ⟨e,ob⟩=pw P np Q pre a [] is e ob:=by rw [run]; rfl
theorem ek:pw P np Q pre [] log is e ob=(jc pre log=true/\run P np Q is ⟨e,ob⟩):=(rfl)
theorem cg (d:Option Nat) (g:Option (Nat×Bool)) (u:Nat) (x:PX):pw P np Q pre (⟨d,g,u,x⟩::rs) log is e ob=wq P np Q pre d g u x rs log is e ob (yes e g):=(rfl)
theorem eu (d:Option Nat) (g:Option (Nat×Bool)) (u:Nat) (o:PO) (b:Bool):wq P np Q pre d g u (.see o) rs log is e ob (some b)=awi P np Q pre ⟨d,g,u,.see o⟩ b rs log is e ob (o.see b e ob):=propext ⟨fun ⟨_,h⟩=>h,fun h=>⟨(.undef,[]),h⟩⟩
theorem ki (r:PR) (b:Bool) (p:Prop) (v:AV) (a:Obs) (rd c:List Nat):awi P np Q pre r b rs log is e ob ⟨p,v,a,rd,c⟩=(p/\pw P np Q pre rs (log++[r.lg rd []]) is (l8 r.d (gdv r.g b v) e) ob):=(rfl)
theorem fb (d:Option Nat) (g:Option (Nat×Bool)) (u:Nat) (o:PO):wq P np Q pre d g u (.act o) rs log is e ob (some true)=ar9 P np Q pre ⟨d,g,u,.act o⟩ rs log is e (o.act (d.getD 0) e ob):=propext ⟨fun ⟨_,h⟩=>h,fun h=>⟨(.undef,[]),h⟩⟩
theorem fh (r:PR) (p:Prop) (v:AV) (a:Obs) (rd b:List Nat):ar9 P np Q pre r rs log is e ⟨p,v,a,rd,b⟩=(p/\pw P np Q pre rs (log++[r.lg rd b]) is (l8 r.d v e) a):=(rfl)
theorem aa (d:Option Nat) (g:Option (Nat×Bool)) (u:Nat) (o:PO):wq P np Q pre d g u (.act o) rs log is e ob (some false)=pw P np Q pre rs (log++[PR.lg ⟨d,g,u,.act o⟩ [] []]) is (l8 d .undef e) ob:=propext ⟨fun ⟨_,_,h⟩=>h,fun h=>⟨(.undef,[]),trivial,h⟩⟩
theorem w9 (d:Option Nat) (g:Option (Nat×Bool)) (u:Nat) (f:FuncId) (a:List Opd):wq P np Q pre d g u (.call f a) rs log is e ob (some false)=pw P np Q pre rs (log++[PR.lg ⟨d,g,u,.call f a⟩ [] []]) is (l8 d .undef e) ob:=propext ⟨fun ⟨_,_,h⟩=>h,fun h=>⟨(.undef,[]),trivial,h⟩⟩
theorem ct (d:Option Nat) (g:Option (Nat×Bool)) (u:Nat) (f:FuncId) (a:List Opd):wq P np Q pre d g u (.call f a) rs log is e ob (some true)=dcA P np Q pre ⟨d,g,u,.call f a⟩ f (t9 true e a) rs log is e ob (u0 (i8 e a) (j9 ob (i8 e a))):=(rfl)
theorem bc (d:Option Nat) (g:Option (Nat×Bool)) (u:Nat) (x:Opd) (a:List Opd):wq P np Q pre d g u (.callv x a) rs log is e ob (some true)=dcX P np Q pre ⟨d,g,u,.callv x a⟩ ((x.ev e).may true/\t9 true e a) rs log is e ob (i8 e a) (x.ev e).bare:=(rfl)
theorem ez (d:Option Nat) (g:Option (Nat×Bool)) (u:Nat) (tbl:List (TypeId×FuncId)) (x:Opd) (a:List Opd):wq P np Q pre d g u (.inv tbl x a) rs log is e ob (some true)=dcI P np Q pre ⟨d,g,u,.inv tbl x a⟩ tbl ((x.ev e).may true/\t9 true e a) rs log is e ob (i8 e a) (x.ev e).bare:=(rfl)
theorem kj (r:PR) (tbl:List (TypeId×FuncId)) (p:Prop) (vs:List AV) (t:TypeId) (y:AV):dcI P np Q pre r tbl p rs log is e ob vs (.ifc t y)=awj P np Q pre r p rs log is e ob vs y (y7 t tbl):=by
 unfold dcI;simp only [km];generalize y7 t tbl=q;cases q with
 | some f=>rfl
 | none=>exact propext ⟨fun ⟨_,h,_⟩=>h.elim,fun h=>h.elim⟩
theorem cu (r:PR) (p:Prop) (vs:List AV) (y:AV) (f:FuncId):awj P np Q pre r p rs log is e ob vs y (some f)=dcA P np Q pre r f p rs log is e ob (u0 (y::vs) (j9 ob (y::vs))):=(rfl)
theorem z9 (d:Option Nat) (g:Option (Nat×Bool)) (u:Nat) (tbl:List (TypeId×FuncId)) (x:Opd) (a:List Opd):wq P np Q pre d g u (.inv tbl x a) rs log is e ob (some false)=pw P np Q pre rs (log++[PR.lg ⟨d,g,u,.inv tbl x a⟩ [] []]) is (l8 d .undef e) ob:=propext ⟨fun ⟨_,_,h⟩=>h,fun h=>⟨(.undef,[]),trivial,h⟩⟩
theorem nt (r:PR) (p:Prop) (vs:List AV) (f:FuncId) (cap:List AV) (k:Nat):dcX P np Q pre r p rs log is e ob vs (.fn (.func f) cap k)=dcA P np Q pre r f (p/\uq P f=true) rs log is e ob (u0 (cap.take k++(vs++cap.drop k)) (j9 ob (cap.take k++(vs++cap.drop k)))):=(rfl)
theorem t8 (d:Option Nat) (g:Option (Nat×Bool)) (u:Nat) (x:Opd) (a:List Opd):wq P np Q pre d g u (.callv x a) rs log is e ob (some false)=pw P np Q pre rs (log++[PR.lg ⟨d,g,u,.callv x a⟩ [] []]) is (l8 d .undef e) ob:=propext ⟨fun ⟨_,_,h⟩=>h,fun h=>⟨(.undef,[]),trivial,h⟩⟩
theorem fg (r:PR) (f:FuncId) (p:Prop) (as:List AV) (l:List Nat) (a:Bool):dcA P np Q pre r f p rs log is e ob (as,l,a)=dcB P np Q pre r f p rs log is e ob as l a (l6 ob 64 (l9 as) []):=(rfl)
theorem nu (r:PR) (f:FuncId) (p:Prop) (as:List AV) (l:List Nat) (k:Bool) (ids:List Nat):dcB P np Q pre r f p rs log is e ob as l k ids=dcC P np Q pre r f p rs log is e ob (imL (fwd ob ids) as) l k ids (o4 (fwd ob ids) ob ids):=by
 unfold dcB;generalize o4 (fwd ob ids) ob ids=po;cases po with
 | none=>exact propext ⟨fun ⟨_,h,_⟩=>h.elim,fun h=>h.elim⟩
 | some po=>exact propext ⟨fun ⟨c,⟨i,j,b,g,d⟩,a⟩=>⟨i,c.1,c.2,j,b,g,d,a⟩,fun ⟨i,r,o,j,b,g,d,a⟩=>⟨(r,o),⟨i,j,b,g,d⟩,a⟩⟩
theorem ff (r:PR) (f:FuncId) (p:Prop) (as:List AV) (l:List Nat) (a:Bool) (ids:List Nat) (po:List Ob):dcC P np Q pre r f p rs log is e ob as l a ids (some po)=(p/\dcP P np Q pre r f rs log is e ob as l a ids po):=(rfl)
theorem kn (r:PR) (l ids:List Nat) (res:AV) (ro:List Ob):ari P np Q pre r rs log is e ob l ids res ro=pw P np Q pre rs (log++[r.lg (l++(ids++y6 r.u ids ro.length)) (y6 r.u ids ro.length)]) is (l8 r.d (imV (back ob r.u ids ro.length) res) e) (v8 ob r.u ids (back ob r.u ids ro.length) 0 ro):=(rfl)
end
variable {l ids:List Nat} {po ro:List Ob} {res:AV} {as:List AV}
theorem c8 {P:Program} {np:Nat} {Q:Ex->St->Prop} {a:List (List Nat)} {r:PR} {f:FuncId} {rs:List PR} {b:List Lg} {c:List Item} {e:Env} {ob:Obs}
 (h:a9 P f as po res ro) (i:okC r.u ids ro.length l true=true) (d:al po ro) (g:ari P np Q a r rs b c e ob l ids res ro):dcP P np Q a r f rs b c e ob as l true ids po:=
 ⟨res,ro,h,i,d,(fun h=>by cases h),g⟩
theorem j8 {P:Program} {np:Nat} {Q:Ex->St->Prop} {a:List (List Nat)} {r:PR} {f:FuncId} {rs:List PR} {b:List Lg} {g:List Item} {e:Env} {ob:Obs} {as':List AV} {d:Bool} (c:as=as') (h:dcP P np Q a r f rs b g e ob as' l d ids po):dcP P np Q a r f rs b g e ob as l d ids po:=c▸h
theorem nb (d:Nat) (x:AV) (e:Env) (n:Nat):put d x e n=if n=d then x else e n:=(rfl)
theorem mv (i:Nat) (x:Nat×Ob) (ob:Obs) (n:Nat):upd i x ob n=if n=i then some x else ob n:=(rfl)
theorem ci (d:Nat) (x:AV) (e:Env):l8 (some d) x e=put d x e:=(rfl)
theorem ck (x:AV) (e:Env):l8 none x e=e:=(rfl)
theorem tu (e:Env) (n:Nat):(Opd.t n).ev e=e n:=(rfl)
theorem tv (e:Env) (x:AV):(Opd.c x).ev e=x:=(rfl)
theorem tp (b:Bool) (x:AV):gdv none b x=x:=(rfl)
theorem to (g:Nat×Bool) (b:Bool) (x:AV):gdv (some g) b x=.gd b x:=(rfl)
section
variable (np:Nat) (live:List (Nat×Bool)) (e:Env) (ob:Obs)
theorem de (D:List AV->List Ob->List Ob->Prop):rk np live ⟨e,ob⟩ D=ahi D (nrm 64 np 2000000 (o7 e live ob).1 (o7 e live ob).2):=(rfl)
theorem cp (D:List AV->List Ob->List Ob->Prop) (vs:List AV) (pos a:List Ob):ahi D (some (vs,pos,a))=D vs pos a:=(rfl)
def wh (np lb:Nat) (vs:List AV) (ob:Obs) (ids:List Nat):Option (List AV×List Ob×List Ob):=match iy (lr np lb ob ids) ob (u7 np np),iy (lr np lb ob ids) ob ids with
 | some pos,some los=>some (imL (lr np lb ob ids) vs,pos,los)
 | _,_=>none
theorem nl (a lb:Nat) (vs:List AV):nrm a np lb vs ob=wh np lb vs ob (dp np (l6 ob a (l9 vs++u7 np np) [])):=(rfl)
theorem jp (vs:List AV) (pos a:List Ob):ab7 live vs pos a=⟨keep live vs,t5 1000000 pos (t5 2000000 a fun _=>none)⟩:=(rfl)
theorem kg (rs:List (Nat×Bool)) (D:AV->List Ob->Prop):ah7 np rs ⟨e,ob⟩ D=af9 np (o7 e rs ob).2 D (la (o7 e rs ob).2 (o7 e rs ob).1):=(rfl)
def ar8 (D:AV->List Ob->Prop):Option (List AV×List Ob×List Ob)->Prop
 | some (vs,pos,los)=>D (jz vs) (pos++los)
 | none=>False
theorem ba (D:AV->List Ob->Prop) (vs:List AV) (l:List Nat):af9 np ob D (some (vs,l))=ar8 D (nrm 64 np (1000000+np) vs (freeze ob l)):=by
 show ahi _ _ = _;generalize nrm 64 np (1000000+np) vs (freeze ob l)=y;rcases y with _ | ⟨_,_,_⟩<;>rfl
theorem az (D:AV->List Ob->Prop) (vs:List AV) (pos a:List Ob):ar8 D (some (vs,pos,a))=D (jz vs) (pos++a):=(rfl)
end
variable {α:Type}
theorem fo (a b:α):(bif true then a else b)=a:=(rfl)
theorem dc (a b:α):(bif false then a else b)=b:=(rfl)

section
variable (P:Program)
def mU (t:TypeId):TypeDesc:=match P.underlying t with
 | some d=>d
 | none=>.invalid
def mS (t:TypeId):Nat:=match P.info? t with
 | some i=>i.size
 | none=>0
def mY (t:TypeId):Nat:=match P.info? t with
 | some i=>i.bytes
 | none=>0
def mZ (t:TypeId):Value:=match P.info? t with
 | some i=>match i.zero with
   | some v=>v
   | none=>.bool false
 | none=>.bool false
def mE (t:TypeId):TypeId:=match mU P t with
 | .slice e=>e
 | .array _ e=>e
 | .map _ e=>e
 | _=>0
def avy:Nat->List TypeId->List TypeId
 | 0,_=>[]
 | n+1,l=>l++avy n l
def mT:Nat->TypeId->List TypeId
 | 0,t=>[t]
 | n+1,t=>match mU P t with
   | .struct fs=>fs.toList.flatMap fun f=>mT n f.type
   | .array k e=>avy k (mT n e)
   | _=>[t]
def mV1 (t:TypeId):Value->RV
 | .slice _ _ _=>.sl (match mU P t with | .slice e=>mS P e | _=>1) []
 | v=>.v v
def mV (t:TypeId):RV:=match mZ P t with
 | .agg cs=>.agg (List.zipWith (mV1 P) (mT P 5 t) cs.toList)
 | v=>mV1 P t v
def mA1 (t:TypeId):Value->AV
 | .slice _ _ _=>match mU P t with
   | .slice e=>.nils (mS P e) (mV P e)
   | _=>.nils 1 (.v (.bool false))
 | v=>.r (.v v)
def mA (t:TypeId):List AV:=match mZ P t with
 | .agg cs=>List.zipWith (mA1 P) (mT P 5 t) cs.toList
 | v=>[mA1 P t v]
def mO (t:TypeId):Operand->Opd
 | .tmp n=>.t n
 | .const v=>.c (mA1 P t v)
 | .func f=>.c (.fn (.func f) [])
 | .global _=>.t 0
def mQ (x:Operand):Opd:=match x with
 | .tmp n=>.t n
 | .const (.slice _ _ _)=>.c (.nils 1 (.v (.bool false)))
 | .const v=>.c (.r (.v v))
 | .func f=>.c (.fn (.func f) [])
 | .global _=>.t 0
def mP (x:Option Operand):Option Opd:=match x with
 | none=>none
 | some x=>some (mQ x)
def mG (t:TypeId):Option Nat:=match mU P t with
 | .struct _=>some (mS P t)
 | .array _ _=>some (mS P t)
 | _=>none
def mK (t:TypeId):Bool:=match mU P t with
 | .map k _=>match mU P k with
   | .string=>true
   | _=>false
 | _=>false
def mKd (t:TypeId):Nat:=match mU P t with
 | .int _=>0
 | .bool=>1
 | _=>2
def mNe:BinOp->Bool
 | .neq=>true
 | _=>false
def aya (op:BinOp) (t:TypeId) (x y:Operand):PO:=match mU P t with
 | .bool=>.beq (mNe op) (mQ x) (mQ y)
 | .pointer _=>.eqn (mNe op) (mQ x)
 | .struct _=>.eqa (mNe op) ((mT P 5 t).map (mKd P)) (mQ x) (mQ y)
 | .array _ _=>.eqa (mNe op) ((mT P 5 t).map (mKd P)) (mQ x) (mQ y)
 | _=>.bin op (mQ x) (mQ y)
def axh (t:TypeId) (p:Nat×Operand):Nat×Nat×Opd:=match mU P t with
 | .struct fs=>match fs.toList[p.1]? with
   | some f=>(f.offset,mS P f.type,mO P f.type p.2)
   | none=>(0,0,mQ p.2)
 | _=>(p.1*mS P (mE P t),mS P (mE P t),mO P (mE P t) p.2)
def mTl (l:List TypeId) (i:Nat):TypeId:=match l[i]? with
 | some t=>t
 | none=>0
def ax9 (b:Builtin) (t:TypeId) (a:List TypeId) (c:List Operand):PX:=match b,c with
 | .len,[x]=>match mU P (mTl a 0) with
   | .map _ _=>.see (.lenm (mQ x))
   | .string=>.see (.len true (mQ x))
   | _=>.see (.len false (mQ x))
 | .clear,[x]=>.act (.clr (mS P (mE P (mTl a 0))) (mV P (mE P (mTl a 0))) (mO P (mTl a 0) x))
 | .delete,[x,y]=>.act (.mdel (mK P (mTl a 0)) (mQ x) (mQ y))
 | .append,[x,y]=>.act (.app (mS P (mE P t)) (mV P (mE P t)) (mY P (mE P t)) (mO P t x) (mO P t y))
 | .copy,[x,y]=>match mU P (mTl a 1) with
   | .string=>.act (.cps (mO P (mTl a 0) x) (mO P (mTl a 1) y))
   | _=>.act (.cpy (mS P (mE P (mTl a 0))) (mO P (mTl a 0) x) (mO P (mTl a 1) y))
 | .min,x::ys=>.see (.mm false (mQ x) (ys.map mQ))
 | .max,x::ys=>.see (.mm true (mQ x) (ys.map mQ))
 | _,_=>.see (.nck (.t 0))
def mX (o:Oper):PX:=match o.op with
 | .move x=>.see (.mov (mO P o.type x))
 | .assign x=>.see (.mov (mO P o.type x))
 | .pick c a b=>.see (.pick (mO P o.type c) (mO P o.type a) (mO P o.type b))
 | .binOp op t x y _=>.see (aya P op t x y)
 | .unOp op _ x=>.see (.un op (mQ x))
 | .convert a b x=>match mU P a,mU P b with
   | .int _,.int k=>.see (.conv k (mQ x))
   | .slice _,.string=>.see (.toStr (mQ x))
   | .string,.slice e=>.act (.toBytes (mV P e) (mQ x))
   | _,_=>.act (.mrk (mQ x))
 | .indexAddr t x i=>match mU P t with
   | .array n e=>.see (.iaa n (mS P e) (mQ x) (mQ i))
   | _=>.see (.ia (mS P (mE P t)) (mV P (mE P t)) (mQ x) (mQ i))
 | .index _ x i=>.see (.ixs (mQ x) (mQ i))
 | .load t x=>.see (.ld (mG P t) (mQ x))
 | .store t x y=>.act (.st (mS P t) (mQ x) (mO P t y))
 | .nilCheck x=>.see (.nck (mQ x))
 | .fieldAddr t x f=>match mU P t with
   | .struct fs=>match fs.toList[f]? with
     | some d=>.see (.fa d.offset (mQ x))
     | none=>.see (.nck (.t 0))
   | _=>.see (.nck (.t 0))
 | .field t x f=>match mU P t with
   | .struct fs=>match fs.toList[f]? with
     | some d=>.see (.fld d.offset (mG P d.type) (mQ x))
     | none=>.see (.nck (.t 0))
   | _=>.see (.nck (.t 0))
 | .slice t x lo hi mx=>match mU P t with
   | .string=>.see (.sls (mQ x) (mP lo) (mP hi))
   | .array n _=>.see (.sla n (mQ x))
   | _=>.see (.sll (mS P (mE P t)) (mO P t x) (mP lo) (mP hi) (mP mx))
 | .extract x i=>.see (.ext (mQ x) i)
 | .alloc t=>.act (.new (mA P t))
 | .box t x=>.act (.box (mO P t x))
 | .build t ps=>.see (.build (mA P t) (ps.toList.map (axh P t)))
 | .buildSlice t _ ps=>.act (.bsl (mS P (mE P t)) (mV P (mE P t)) (ps.toList.map fun p=>mO P (mE P t) p.2))
 | .makeSlice t l c=>.act (.mks (mS P (mE P t)) (mV P (mE P t)) (mY P (mE P t)) (mQ l) (mQ c))
 | .makeFunc f xs ys=>.see (.mkf f ((xs.toList++ys.toList).map mQ) xs.size)
 | .lookup t x i c=>.see (.lkp (mK P t) (mV P (mE P t)) c (mQ x) (mQ i))
 | .makeInterface t x=>.see (.mki t (mO P t x))
 | .typeAssert x _ t c=>.see (.tas t (mV P t) c (mQ x))
 | .entry x=>.see (.ent (mQ x))
 | .makeMap _ _=>.act .mkm
 | .mapUpdate t x i y=>.act (.mset (mK P t) (mQ x) (mQ i) (mO P (mE P t) y))
 | .range _ x=>.act (.rng (mQ x))
 | .next x _=>.nxt (mQ x)
 | .call c=>match c.callee with
   | .builtin b=>ax9 P b o.type c.argTypes.toList c.args.toList
   | .value (.func f)=>.call f (c.args.toList.map mQ)
   | .value x=>.callv (mQ x) (c.args.toList.map mQ)
   | .invoke _ _=>.see (.nck (.t 0))
 | _=>.see (.nck (.t 0))
def mC1 (o:Op):Nat:=match o with
 | .call c=>match c.callee with
   | .builtin _=>0
   | _=>1
 | _=>0
def mCs:List Oper->Nat
 | []=>0
 | o::os=>mC1 o.op+mCs os
def mCc:Code->Nat
 | .region _ ops _=>mCs ops.toList
 | .seq a b=>mCc a+mCc b
 | .cond _ a b=>mCc a+mCc b
 | .block _ c=>mCc c
 | .loop c=>mCc c
 | _=>0
def mGd (a:List Oper):Option (Nat×Bool)->Option (Nat×Bool)
 | none=>none
 | some (j,b)=>match a[j]? with
   | some o=>match o.dst with
     | some d=>some (d,b)
     | none=>none
   | none=>none
def mRs (a:List Oper):Nat->List Oper->List PR
 | _,[]=>[]
 | u,o::os=>match mC1 o.op with
   | 0=>⟨o.dst,mGd a o.guard,0,mX P o⟩::mRs a u os
   | _=>⟨o.dst,mGd a o.guard,u+1,mX P o⟩::mRs a (u+1) os
def mIn (x:Nat):List Nat->List Nat
 | []=>[x]
 | y::l=>match Nat.beq x y with
   | true=>y::l
   | false=>match Nat.ble x y with
     | true=>x::y::l
     | false=>y::mIn x l
def adt (a:List (List Nat)):List Edge->List Nat
 | []=>[]
 | e::es=>match e.ground with
   | .textOnly _=>adt a es
   | .gcOnly _=>adt a es
   | _=>(e.on::(match a[e.on]? with | some l=>l | none=>[])).foldr mIn (adt a es)
def avx (a:List (List Nat)):List Oper->List (List Nat)
 | []=>a
 | o::os=>avx (a++[adt a o.after.toList]) os
def mkC:Nat->Code->PC
 | u,.region _ ops d=>match d with
   | true=>.drw (mRs P ops.toList u ops.toList) (avx [] ops.toList)
   | false=>.reg (mRs P ops.toList u ops.toList)
 | u,.seq a b=>.seq (mkC u a) (mkC (u+mCc a) b)
 | u,.cond x a b=>.cond (mQ x) (mkC u a) (mkC (u+mCc a) b)
 | u,.block i c=>.block i (mkC u c)
 | u,.loop c=>.loop (mkC u c)
 | _,.exit i=>.exit i
 | _,.ret=>.ret
 | _,_=>.skip
end
def mR (P:Program) (f:Func):List RSl:=f.results.toList.map fun r=>match r with
 | .tmp t=>(t,false,none)
 | .cell a t=>(a,false,some (t,mG P t))
structure Mk (P:Program) (f:Func) where
 x:List RSl×PC
 h:(mR P f,mkC P 0 (f.body.getD .skip))=x:=by conv=>lhs; reduce; try simp only [Int.reduceOfNat,Int.reduceNegSucc]
def Fun (P:Program) (f k:Nat) (rs:List RSl) (pc:PC):Prop:=
 ∀{a:List AV} {po ro:List Ob} {res:AV},a.length=k->po.length<=1000->run P po.length (ae5 po.length rs fun v os=>v=res/\os=ro) [.c pc] ⟨ft 0 a,ob0 po⟩->a9 P f a po res ro
variable {f k:Nat} {fn:Func} {pc:PC}
theorem aak {P:Program} {rs:List RSl} (m:P.funcs[f]?=some fn) (j:fn.body=some (fn.body.getD .skip)) (l:fn.ntmps<=100000) (b:dt P fn.ntmps (fn.body.getD .skip) pc=true) (n:k<=fn.ntmps)
 (a:fn.results.toList=rs.map RSl.rv) (e:(rs.all fun p=>p.agg P)=true) (g:(rs.all fun p=>decide (p.1<fn.ntmps))=true) (c:(rs.map (·.1)).Nodup):Fun P f k rs pc:=
 fun i d h=>ain m j l b (by rw [i]; exact n) a e g c d (arm h)
def eqR:ResultVar->RSl->Bool
 | .tmp t,(a,_,none)=>t == a
 | .cell a t,(b,_,some (u,_))=>a == b&&t == u
 | _,_=>false
theorem akd:∀{l:List ResultVar} {rs:List RSl},o6 eqR l rs=true->l=rs.map RSl.rv
 | [],[],_=>rfl
 | [],_::_,h=>by cases h
 | _::_,[],h=>by cases h
 | x::l,y::rs,h=>by
   simp only [o6,zaa] at h;rw [zag,<- akd h.2];congr 1;obtain ⟨a,b,c⟩:=y;have d:=h.1;cases x<;>rcases c with _ | ⟨u,v⟩<;>simp [eqR] at d<;>simp [RSl.rv,d]
def ara (P:Program) (fn:Func) (k:Nat) (rs:List RSl) (pc:PC):Bool:=
 fn.body.isSome&&decide (fn.ntmps<=100000)&&dt P fn.ntmps (fn.body.getD .skip) pc&&decide (k<=fn.ntmps)&&o6 eqR fn.results.toList rs&&rs.all (fun p=>p.agg P)&&rs.all (fun p=>decide (p.1<fn.ntmps))&&decide (rs.map (·.1)).Nodup
theorem axv {P:Program} (j:P.funcs[f]?=some fn) {rs:List RSl} (h:ara P fn k rs pc=true:=by kernel_rfl):Fun P f k rs pc:=by
 simp only [ara,zaa,decide_eq_true_eq] at h;obtain ⟨⟨⟨⟨⟨⟨⟨a,g⟩,l⟩,i⟩,b⟩,m⟩,d⟩,e⟩:=h;refine aak j ?_ g l i (akd b) m d e;cases hb:fn.body with
 | none=>rw [hb] at a; cases a
 | some c=>rfl
abbrev ayd {P:Program} {fn:Func} (f k:Nat) (x:Mk P fn):Prop:=Fun P f k x.1.1 x.1.2
theorem Mk.t {P:Program} (m:Mk P fn) (e:P.funcs[f]?=some fn) {a:List AV} (b:run P po.length (ae5 po.length m.1.1 fun v os=>v=res/\os=ro) [.c m.1.2] ⟨ft 0 a,ob0 po⟩)
 (d:po.length<=1000:=by first | decide | simp) (h:ara P fn a.length m.1.1 m.1.2=true:=by kernel_rfl):a9 P f a po res ro:=axv e h rfl d b

theorem arc (n:Nat):@Nat.cast Int _ (no_index (OfNat.ofNat n))=OfNat.ofNat n:=rfl
attribute [push_cast high] arc
attribute [push_cast] eq_self iff_self
attribute [push_cast] jx ji jn au bd ae jm eo co bz fk v5 jv eg jr ju ej ce jl jq jo av ef z6 ko bf da fm be ol ei fj cw cd eh jt jy na jh jk ar tg mw kp fu kc kb en ni jw ek cg eu ki fb fh aa w9 ct ez z9 kj cu bc nt t8 fg nu ff kn y6 List.range_zero nb mv ci ck tu tv tp to de cp nl wh jp kg ba az y7 n8 v9 kz nq ip pl mb lc ma wm lf ll ij io sk lq qd qk toV ph pi dm er gs yes ug bad n7 du mmL et su eq2 eql AV.isA PO.see PO.act Vs.q Rs.and AV.bare AV.may qm vb va qn ka un1 kl lw ia2 iab leb qe ldb ldr ld1 nm ns fa1 qh bnd pt kw qi src bw z8 i8 t9 PO.see.mayO PO.see.bareO g7 l7 bq nv AV.rv rvs AV.elt frz freeze k8 s4 stb str st2 le par mc ql ln sj s5 bj uo RV.cells AV.cells AV.one RV.one AV.boxable RV.good c7 o7 gt la sp ul uk ig ic ix AV.isNil jz ft u0 j9 bp q9 l9 wl l6 fwd uu my o4 g8 bg bt back v8 imV imL imO idx t5 obs keep u7 nr dp lr ke iy qr Ob.own Value.oneCell' fo dc true_and and_true and_self true_implies imp_self implies_true Option.getD_some Option.getD_none zai List.length_nil List.length_map zag List.map_nil List.getD_cons_zero List.getD_cons_succ List.take_succ_cons List.take_zero List.drop_succ_cons List.drop_zero List.cons_append List.nil_append List.append_nil List.all_cons List.all_nil Bool.and_true Bool.true_and Bool.false_and Bool.and_self Bool.or_true Bool.true_or Bool.false_or Bool.or_false Bool.not_true Bool.not_false List.contains_cons List.contains_nil List.filter_cons List.filter_nil decide_true decide_false if_true if_false false_and and_false not_true not_false_eq_true Option.map_some Option.map_none List.getElem?_cons_zero List.getElem?_cons_succ List.getElem?_nil List.length_append beq_self_eq_true List.take_nil List.drop_nil false_implies zad ne_eq

end
end Go.Ev

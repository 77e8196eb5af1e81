import Derived.Orders
import Derived.Test.YtocfnfcflljooaaGreatM3
open Bool renaming and_eq_true → zaa, false_eq_true → zad
open Array renaming getD_eq_getD_getElem? → zab, getElem?_append → zaf, getElem?_eq_some_iff → zaj
open List renaming all_eq_true → zac, map_cons → zag, getElem?_eq_some_iff → zah, length_cons → zai
open Nat renaming le_refl → zae
open Option renaming map_eq_some_iff → zak
namespace Go.Ev
set_option maxHeartbeats 8000000
set_option maxRecDepth 100000
noncomputable section
open Go
set_option linter.unusedSectionVars false
set_option linter.unnecessarySimpa false
set_option linter.unusedSimpArgs false
set_option linter.unusedVariables false
open Classical in
def jk {L C:Type} (r:Nat->L->C) (Wt:Nat->L->Prop) (S:Nat->Prop):Nat->L->C
 | 0,l=>r 0 l
 | k+1,l=>if S k/\Wt k l then r (k+1) l else jk r Wt S k l
section
variable {L C:Type} {n:Nat} {r:Nat->L->C} {Wt Us pre:Nat->L->Prop} {S:Nat->Prop} {pr:Nat->Nat->Prop}
theorem avs (d:∀k l,k<n->¬Wt k l->r (k+1) l=r k l) (c:∀i j,i<j->j<n->¬pr j i->∀l,¬(Wt i l/\Us j l)/\¬(Wt j l/\Us i l))
 (q:∀j,S j->∀i,pr j i->S i) {j:Nat} (p:j<n) (f:¬S j) (u:∀i,pr j i->S i) {l:L} (g:Us j l):jk r Wt S n l=r j l:=by
 have t:∀k,k<=j->jk r Wt S k l=r k l:=λ k=>by
  induction k with
  | zero=>intro _; rfl
  | succ k ih=>
    intro v;simp only [jk];by_cases b:Wt k l
    ·have:S k:=u k (Classical.byContradiction λ a=>(c k j (by omega) p a l).1 ⟨b,g⟩);rw [if_pos ⟨this,b⟩]
    rw [if_neg (λ h=>b h.2),ih (by omega),d k l (by omega) b]
 have s:∀m,j+m<=n->jk r Wt S (j+m) l=r j l:=λ m=>by
  induction m with
  | zero=>intro _; exact t j (zae _)
  | succ m ih=>
    intro w;rw [show j+(m+1)=(j+m)+1 by omega];simp only [jk];rw [if_neg,ih (by omega)];rintro ⟨o,b⟩
    have e:j<j+m:=by
     rcases Nat.eq_zero_or_pos m with h | h
     ·subst h; exact (f o).elim
     omega
    exact f (q _ o j (Classical.byContradiction λ a=>(c j (j+m) e (by omega) a l).2 ⟨b,g⟩))
 have:=s (n-j) (by omega)
 rwa [show j+(n-j)=n by omega] at this
theorem amh {j:Nat} {l:L} (b:¬Wt j l):∀k,jk r Wt (λ i=>S i\/i=j) k l=jk r Wt S k l
 | 0=>rfl
 | k+1=>by
   simp only [jk]
   have:((S k\/k=j)/\Wt k l)↔(S k/\Wt k l):=by
    constructor
    ·rintro ⟨h | h,a⟩
     ·exact ⟨h,a⟩
     subst h; exact (b a).elim
    rintro ⟨h,a⟩; exact ⟨.inl h,a⟩
   by_cases h:S k/\Wt k l
   ·rw [if_pos h,if_pos (this.2 h)]
   rw [if_neg h,if_neg (λ q=>h (this.1 q)),amh b k]
theorem asf (d:∀k l,k<n->Wt k l->Us k l) (c:∀i j,i<j->j<n->¬pr j i->∀l,¬(Wt i l/\Us j l)/\¬(Wt j l/\Us i l))
 (p:∀j,S j->∀i,pr j i->S i) {j:Nat} (g:j<n) (o:¬S j) {l:L} (e:Wt j l):jk r Wt (λ i=>S i\/i=j) n l=r (j+1) l:=by
 have h:∀m,j+1+m<=n->jk r Wt (λ i=>S i\/i=j) (j+1+m) l=r (j+1) l:=λ m=>by
  induction m with
  | zero=>
    intro _;simp only [jk];rw [if_pos ⟨.inr rfl,e⟩]
  | succ m ih=>
    intro q;rw [show j+1+(m+1)=(j+1+m)+1 by omega];simp only [jk];rw [if_neg,ih (by omega)];rintro ⟨f | f,b⟩
    ·exact o (p _ f j (Classical.byContradiction λ a=>(c j (j+1+m) (by omega) (by omega) a l).2 ⟨b,d j l g e⟩))
    omega
 have:=h (n-(j+1)) (by omega)
 rwa [show j+1+(n-(j+1))=n by omega] at this
theorem afg (a:∀k l,k<n->¬Wt k l->r (k+1) l=r k l) (c:∀k,k<n->S k) {l:L}:∀k,k<=n->jk r Wt S k l=r k l
 | 0,_=>rfl
 | k+1,hk=>by
   simp only [jk];by_cases b:Wt k l
   ·rw [if_pos ⟨c k (by omega),b⟩]
   rw [if_neg (λ h=>b h.2),afg a c k (by omega),a k l (by omega) b]
theorem aig (a:∀k,¬S k) {l:L}:∀k,jk r Wt S k l=r 0 l
 | 0=>rfl
 | k+1=>by
   simp only [jk];rw [if_neg (λ h=>a k h.1),aig a k]
theorem aif {p q:Nat->Bool} {j:Nat} (b:∀x,q x=true->p x=true) (d:p j=true) (c:q j=false):∀{l:List Nat},j∈l->l.countP q<l.countP p
 | x::l,h=>by
   have e:l.countP q<=l.countP p:=List.countP_mono_left λ x _=>b x;rw [List.countP_cons,List.countP_cons];rcases List.mem_cons.1 h with h | h
   ·subst h;rw [d,c];simp;omega
   have:=aif b d c h
   have:(if q x=true then 1 else 0)<=(if p x=true then 1 else 0):=by
    by_cases a:q x=true
    ·rw [if_pos a,if_pos (b x a)]; exact zae _
    rw [if_neg a]; exact Nat.zero_le _
   omega
end
def ahr (a b:List Nat):Bool:=a.all λ x=>!b.contains x
def ate (a b:Lg):Bool:=ahr a.d b.us&&ahr b.d a.us&&(ahr a.wr b.rd||(a.st&&b.ad))&&(ahr b.wr a.rd||(b.st&&a.ad))
def mc (b:List (List Nat)) (a:List Lg):Bool:=
 (List.range a.length).all λ j=>(List.range j).all λ i=>(b.getD j []).contains i||ate (a.getD i default) (a.getD j default)
def wpD (P:Program):List PR->List Lg->St->(List Lg->St->Prop)->Prop
 | [],log,s,K=>K log s
 | r::rs,log,s,K=>∃c:Ans,(r.out P s c).ok/\wpD P rs (log++[(r.out P s c).lg]) (r.out P s c).st K
theorem ak6 {P:Program} {K:List Lg->St->Prop}:∀{rs:List PR} {b:List Lg} {s:St},wpD P rs b s K ->
 ∃(R:Nat->St) (C:Nat->Ans) (a:List Lg),R 0=s/\a.length=rs.length/\(∀k r,rs[k]?=some r->(r.out P (R k) (C k)).ok/\R (k+1)=(r.out P (R k) (C k)).st/\a[k]?=some (r.out P (R k) (C k)).lg)/\K (b++a) (R rs.length)
 | [],b,s,h=>⟨λ _=>s,λ _=>(.undef,[]),[],rfl,rfl,by simp,by rw [List.append_nil]; exact h⟩
 | r::rs,b,s,h=>by
   obtain ⟨c,l,i⟩:=h;obtain ⟨R,C,a,g,j,e,f⟩:=ak6 i;refine ⟨λ k=>match k with | 0=>s | k+1=>R k,λ k=>match k with | 0=>c | k+1=>C k,(r.out P s c).lg::a,rfl,by simp [j],λ k q d=>?_,by simpa using f⟩;cases k with
   | zero=>simp at d; subst d; exact ⟨l,g,by simp⟩
   | succ k=>simp at d; exact ⟨(e k q d).1,(e k q d).2.1,by simpa using (e k q d).2.2⟩
inductive Lc where
 | t (i:Nat)
 | o (i:Nat)
 | p (i:Nat)
inductive Ct where
 | t (x:AV)
 | o (x:Option (Nat×Ob))
 | p (x:Option (Nat×Option Nat))
def s9 (s:St):Lc->Ct
 | .t t=>.t (s.e t)
 | .o i=>.o (s.ob i)
 | .p i=>.p (pin (s.ob i))
theorem ah5 {s s':St} (h:∀l,s9 s l=s9 s' l):s=s':=by
 rcases s with ⟨e,ob⟩
 rcases s' with ⟨e',ob'⟩
 have b:e=e':=funext λ t=>by simpa [s9] using h (.t t)
 have a:ob=ob':=funext λ t=>by simpa [s9] using h (.o t)
 rw [b,a]
def wrt (a:List Lg) (k:Nat):Lc->Prop
 | .t t=>t∈(a.getD k default).d
 | .o i=>i∈(a.getD k default).wr
 | .p i=>i∈(a.getD k default).wr/\(a.getD k default).st=false
def usd (a:List Lg) (k:Nat):Lc->Prop
 | .t t=>t∈(a.getD k default).us
 | .o i=>i∈(a.getD k default).rd/\(a.getD k default).ad=false
 | .p i=>i∈(a.getD k default).rd
variable {i:Nat}
theorem xy {a b:List Nat} (h:ahr a b=true) (d:i∈a) (c:i∈b):False:=by
 simp only [ahr,zac] at h;have:=h i d;simp [c] at this
variable {j:Nat}
theorem aqu {f:List (List Nat)} {c:List Lg} (h:mc f c=true) (k:i<j) (m:j<c.length) (q:¬(i∈f.getD j [])) (l:Lc):¬(wrt c i l/\usd c j l)/\¬(wrt c j l/\usd c i l):=by
 simp only [mc,zac,List.mem_range,Bool.or_eq_true] at h;have g:=(h j m i k).resolve_left (by simpa using q);simp only [ate,zaa,Bool.or_eq_true] at g;obtain ⟨⟨⟨g,n⟩,d⟩,e⟩:=g;cases l with
 | t t=>exact ⟨λ ⟨a,b⟩=>xy g a b,λ ⟨a,b⟩=>xy n a b⟩
 | o t=>
   refine ⟨λ ⟨a,b⟩=>?_,λ ⟨a,b⟩=>?_⟩
   ·rcases d with d | ⟨_,d⟩
    ·exact xy d a b.1
    rw [b.2] at d; cases d
   rcases e with e | ⟨_,e⟩
   ·exact xy e a b.1
   rw [b.2] at e; cases e
 | p t=>
   refine ⟨λ ⟨a,b⟩=>?_,λ ⟨a,b⟩=>?_⟩
   ·rcases d with d | ⟨d,_⟩
    ·exact xy d a.1 b
    rw [a.2] at d; cases d
   rcases e with e | ⟨e,_⟩
   ·exact xy e a.1 b
   rw [a.2] at e; cases e
theorem afq {P:Program} {r:PR} {s:St} {c:Ans}:(r.out P s c).lg.us=gus r.g++(r.x.us++r.d.toList)/\(r.out P s c).lg.d=r.d.toList:=by
 rcases r with ⟨d,g,u,x⟩
 unfold PR.out;simp only;generalize yes s.e g=y;rcases y with _ | b
 ·cases x<;>exact ⟨rfl,rfl⟩
 cases x with
 | see o=>exact ⟨rfl,rfl⟩
 | act o=>cases b<;>exact ⟨rfl,rfl⟩
 | call f xs=>cases b with
   | false=>exact ⟨rfl,rfl⟩
   | true=>
     simp only [PX.out];generalize af (k7 s.e xs) (l8 s.ob (k7 s.e xs))=q;simp only [x7];generalize q8 _ _ _=po;cases po<;>exact ⟨rfl,rfl⟩
 | callv x xs=>cases b with
   | false=>exact ⟨rfl,rfl⟩
   | true=>
     simp only [PX.out];generalize (x.ev s.e).bare=y;cases y with
     | fn f cap k=>cases f with
       | func f=>
         simp only [sn];generalize af (cap.take k++(k7 s.e xs++cap.drop k)) (l8 s.ob (cap.take k++(k7 s.e xs++cap.drop k)))=q;simp only [x7];generalize q8 _ _ _=po;cases po<;>exact ⟨rfl,rfl⟩
       | _=>exact ⟨rfl,rfl⟩
     | _=>exact ⟨rfl,rfl⟩
 | inv tbl x xs=>cases b with
   | false=>exact ⟨rfl,rfl⟩
   | true=>
     simp only [PX.out];obtain ⟨rd,a,e⟩:=afj (P:=P) (r:=⟨d,g,u,.inv tbl x xs⟩) (s:=s) (c:=c) (tbl:=tbl) (p:=(x.ev s.e).may true/\ae true s.e xs) (vs:=k7 s.e xs) (y:=(x.ev s.e).bare);rw [e];exact ⟨rfl,rfl⟩
 | nxt x=>cases b<;>exact ⟨rfl,rfl⟩
theorem aaa {d:Array Oper} {a:List (List Nat)} (h:agx d a=true) {o:Oper} (i:d[j]?=some o) :
 (∀e∈o.after,Region.binds .any e=true->e.on<j)/\∀k,k∈a.getD j []->∃e∈o.after,Region.binds .any e=true/\(e.on=k\/k∈a.getD e.on []):=by
 simp only [agx,zaa,zac,List.mem_range] at h;have b:=h.2 j (zaj.1 i).1;rw [i] at b;rcases hp:a[j]? with _ | p
 ·rw [hp] at b; cases b
 rw [hp] at b;simp only [zaa,zac,Array.all_eq_true_iff_forall_mem] at b;refine ⟨λ e f c=>?_,λ k l=>?_⟩
 ·have:=b.1 e f;rw [c] at this;simpa using this
 have g:a.getD j []=p:=by simp [List.getD_eq_getElem?_getD,hp]
 rw [g] at l;have:=(b.2 k l).2;rw [Array.any_eq_true'] at this;obtain ⟨e,f,c⟩:=this;simp only [zaa,Bool.or_eq_true,beq_iff_eq,List.contains_iff_mem] at c;exact ⟨e,f,c.1,c.2⟩

def kj (fl:Bool) (id:Nat) (ob:Obs):AV->AV×Obs
 | .nils sz z=>if fl then (.own id (nv ob id) 0 0,upd id (nv ob id,.row sz z true true []) ob) else (.nils sz z,ob)
 | x=>(x,ob)
def s6 (e:Env):List (Nat×Bool)->Obs->List AV×Obs
 | [],ob=>([],ob)
 | (t,fl)::r,ob=>((kj fl (900000+t) ob (e t)).1::(s6 e r (kj fl (900000+t) ob (e t)).2).1,(s6 e r (kj fl (900000+t) ob (e t)).2).2)
def ajl (D:List AV->List Ob->List Ob->Prop):Option (List AV×List Ob×List Ob)->Prop
 | some (vs,pos,los)=>D vs pos los
 | none=>False
def ve (np:Nat) (live:List (Nat×Bool)) (s:St) (D:List AV->List Ob->List Ob->Prop):Prop:=
 ajl D (nrm 64 np 2000000 (s6 s.e live s.ob).1 (s6 s.e live s.ob).2)
def keep:List (Nat×Bool)->List AV->Env
 | l::ls,x::xs=>put l.1 x (keep ls xs)
 | _,_=>λ _=>.undef
def aey (live:List (Nat×Bool)) (vs:List AV) (pos a:List Ob):St:=⟨keep live vs,z5 1000000 pos (z5 2000000 a λ _=>none)⟩
def W (P:Program) (np:Nat):PC->(Ex->St->Prop)->St->Prop
 | .skip,K,s=>K .nor s
 | .reg rs,K,s=>wpR P rs (K .nor) s
 | .seq a b,K,s=>W P np a (λ x s=>match x with | .nor=>W P np b K s | x=>K x s) s
 | .cond x a b,K,s=>match x.ev s.e with
   | .r (.v (.bool c))=>(c=true->W P np a K s)/\(c=false->W P np b K s)
   | _=>False
 | .block id c,K,s=>W P np c (λ x s=>match x with | .ex i=>if i=id then K .nor s else K (.ex i) s | x=>K x s) s
 | .loop c,K,s=>∃(live:List (Nat×Bool)) (I:List AV->List Ob->List Ob->Prop) (m:List AV->List Ob->List Ob->Nat),(live.all λ p=>decide (p.1<100000))=true/\ve np live s I /\
  ∀vs pos g,I vs pos g->W P np c (λ x s'=>match x with | .nor=>ve np live s' (λ h d f=>I h d f/\m h d f<m vs pos g) | x=>K x s') (aey live vs pos g)
 | .exit i,K,s=>K (.ex i) s
 | .ret,K,s=>K .rt s
 | .drw rs pre,K,s=>wpD P rs [] s λ j s=>mc pre j=true/\K .nor s
section
variable {P:Program} {X:Cx} [GlC P X] {w w':World} {s:St} {ρ ρ':Pl->Option Nat} {a:Act} {o:Oper} {ob ob':Obs} {R R':Nat->Prop} {ops:Array Oper} {Q:Exit->Act->World->Prop}
theorem an5 (n:Gam X s ρ a w) {g:Option (Nat×Bool)} {b:Bool} (hc:asg ops o.guard g=true) (hy:yes s.e g=some b):Region.wanted o (yielded ops a.tmps)=b:=by
 unfold asg at hc;split at hc
 ·rename_i i;simp [yes] at hy;subst hy;simp [Region.wanted,i]
 ·rename_i j d t l p;simp only [zaa,beq_iff_eq] at hc;obtain ⟨rfl,m⟩:=hc;have c:=n.env t;simp only [yes] at hy;simp only [Region.wanted,p,yielded,m,Option.bind_some];generalize s.e t=x at c hy;unfold ya at hy;split at hy
  ·rename_i q;cases hy;have i:=i9 c
   have k:a.tmps[t]?=some (.bool q):=by
    rcases hq:a.tmps[t]? with _ | u
    ·simp [zab,hq,undef] at i
    simp [zab,hq] at i;rw [i]
   rw [k];cases d<;>cases q<;>rfl
  ·rename_i h q;cases hy;cases c with
   | gd _ i h3=>
   cases h
   ·have k:=h3 rfl;rcases hq:a.tmps[t]? with _ | u
    ·simp
    simp [zab,hq] at k;subst k;simp [undef]
   have f:=i9 (i rfl)
   have k:a.tmps[t]?=some (.bool q):=by
    rcases hq:a.tmps[t]? with _ | u
    ·simp [zab,hq,undef] at f
    simp [zab,hq] at f;rw [f]
   rw [k];cases d<;>cases q<;>rfl
  cases hy
 cases hc
theorem ahk {f:FuncId} (h:yj P f=true) (args:Array Value):(callFunc f args).run P w=.ok (.enter f args) w:=by
 unfold yj at h;split at h
 ·rename_i fn b;simp at h;obtain ⟨a,c⟩:=h;have d:¬fn.body=none:=by intro e; rw [e] at a; cases a
  simp [callFunc,b,c,d]
 cases h
theorem ano {f:FuncId} {args:List Opd} (h:xk P o (.call f args)=true):∃c,o.op=.call c/\c.callee=.value (.func f)/\q9 opd c.args.toList args=true/\yj P f=true:=by
 unfold xk at h;cases ho:o.op<;>simp only [ho] at h<;>try (cases h; done)
 rename_i c;split at h
 ·rename_i d hc;simp only [zaa,beq_iff_eq] at h;obtain ⟨⟨rfl,a⟩,b⟩:=h;exact ⟨c,rfl,hc,a,b⟩
 cases h
theorem ak1 {x:Opd} {args:List Opd} (h:xk P o (.callv x args)=true):∃c x',o.op=.call c/\c.callee=.value x'/\opd x' x=true/\q9 opd c.args.toList args=true:=by
 unfold xk at h;cases ho:o.op<;>simp only [ho] at h<;>try (cases h; done)
 rename_i c;split at h
 ·rename_i x' hc;simp only [zaa] at h;exact ⟨c,x',rfl,hc,h.1,h.2⟩
 cases h
theorem aqj {tbl:List (TypeId×FuncId)} {x:Opd} {args:List Opd} (h:xk P o (.inv tbl x args)=true):∃c r m,o.op=.call c/\c.callee=.invoke r m/\opd r x=true/\q9 opd c.args.toList args=true/\tbl.all (ail P m)=true:=by
 unfold xk at h;cases ho:o.op<;>simp only [ho] at h<;>try (cases h; done)
 rename_i c;split at h
 ·rename_i r m hc;simp only [zaa] at h;exact ⟨c,r,m,rfl,hc,h.1.1,h.1.2,h.2⟩
 cases h
theorem aqi {x:Opd} (h:xk P o (.nxt x)=true):∃a,o.op=.next a false/\opd a x=true:=by
 unfold xk at h;cases ho:o.op<;>simp only [ho] at h<;>try (cases h; done)
 rename_i a str;simp only [zaa,Bool.not_eq_true'] at h;obtain ⟨b,rfl⟩:=h;exact ⟨a,rfl,b⟩
theorem aia {t:TypeId} {f:FuncId}:∀{tbl:List (TypeId×FuncId)},bf t tbl=some f->(t,f)∈tbl
 | [],h=>by cases h
 | (t',f')::r,h=>by
   simp only [bf] at h;split at h
   ·rename_i a; cases h; subst a; simp
   exact List.mem_cons_of_mem _ (aia h)
theorem axs {m:String} {t:TypeId} {f:FuncId} {v:Value} {as:Array Value} (h:ail P m (t,f)=true):(invoke (.fn (.method m) #[]) (#[.iface t v]++as)).run P w=.ok (.enter f (#[v]++as)) w:=by
 simp only [ail,zaa] at h;obtain ⟨⟨u,a⟩,y⟩:=h;split at a
 ·rename_i i p;split at a
  ·rename_i q r;simp only [zaa] at a;obtain ⟨z,a⟩:=a;split at a
   ·rename_i B b l;simp only [zaa,beq_iff_eq] at a;obtain ⟨n,rfl⟩:=a;rw [n] at l;obtain ⟨d,s,o⟩:=u5 y;cases d with
    | pointer e=>
      have g:q.path=#[]:=by simpa using z
      obtain ⟨k,x⟩:∃k,P.types.size+Made.depth=k+1:=⟨P.types.size+(Made.depth-1),by unfold Made.depth; omega⟩
      have c:(#[Value.iface t v]++as)[0]?=some (.iface t v):=by
       rw [zaf,if_pos (by simp)]
       rfl
      have j:(#[Value.iface t v]++as).extract 1 (#[Value.iface t v]++as).size=as:=by
       rw [Array.extract_append];simp
      have A:(method (P.types.size+Made.depth) t v m).run P w=.ok (f,v) w:=by
       rw [x];simp [method,typeInfo,p,r,g,follow,l,receiverAt,run_underlying s,Place.get]
      have hc:(callMethod (.iface t v) m as).run P w=.ok (.enter f (#[v]++as)) w:=by
       simp only [callMethod,Sem.run_bind,run_program,Result.andThen_ok,A];exact ahk u _
      simp only [invoke,c,j];exact hc
    | _=>cases o
   cases a
  cases a
 cases a
theorem apr {K:AV->Obs->Prop} {G:Operand} {u:AV} (C:Gam X s ρ a w) (S:o.op=.next G false) (T:RA X s ρ w u (a.eval G)) (h:ajj s.ob K u) :
 ∃c v p k,(execOp a.eval o).run P w=.ok (.value c) k/\K v p/\Gam X ⟨s.e,p⟩ ρ a k/\RA X ⟨s.e,p⟩ ρ k v c:=by
 unfold ajj at h;split at h
 ·rename_i id ver;unfold am4 at h;split at h
  ·rename_i q l f d U J;have m:=aei J;rcases hmp:n7 s.ob q l with _ | ⟨es,c⟩
   ·rw [hmp] at h; exact h.elim
   rw [hmp] at h;obtain ⟨h1,h2,h3,h4⟩:=h;generalize E:a.eval G=v at T;cases T;rename_i h5 L;obtain ⟨b,n,rfl⟩:=L.live m;obtain ⟨b',t,V,W,Q⟩:=C.obj id ver _ m;rw [n] at V; cases V;obtain ⟨h0,Y,O,H⟩:=C.mapB hmp Q;cases O;have R:(leftOf es.toArray d.toArray).toList=ao es d:=by simp [leftOf,ao]
   rcases run_next_at (P:=P) w o.type b t f U d.toArray es.toArray c W H (by simpa using h1) h2 with ⟨hz,j⟩ | ⟨e,Z,k,F,j⟩
   ·refine ⟨.tuple #[.bool false],.tup [bl false],s.ob,w,by simp only [execOp,S,E,Sem.run_bind,j,Result.andThen_ok,Sem.run_pure],h3 ?_,C,?_⟩
    ·rw [<- R];exact List.eq_nil_of_length_eq_zero (by simpa using hz)
    refine .tup _ _ rfl λ i y c g hc=>?_
    match i with
    | 0=>simp at g hc; subst g; subst hc; exact .r (.v _)
    | i+1=>simp at g
   rw [R] at Z
   have D:Gam X s ρ a k:=by
    rcases F with rfl | rfl
    ·exact C
    exact C.drew _
   have N:k.heap=w.heap:=by rcases F with rfl | rfl<;>rfl
   have A:k.heap[b]?=some (.mapIter (some t) f d.toArray U):=by rw [N]; exact W
   have z:=ae8 (y:=.mapIter (some t) f (d++[e.born]).toArray c) A;have x:d.toArray.push e.born=(d++[e.born]).toArray:=by simp
   rw [x,show ChangeMaps.setBlock k b (Obj.mapIter (some t) f (d++[e.born]).toArray c)={ k with heap:=k.heap.setIfInBounds b (Obj.mapIter (some t) f (d++[e.born]).toArray c) } from rfl] at j
   have M:RelA k (d6 X.B s.ob ρ k) s.ob ρ (.mp q l) (.map (some t)):=by
    cases Q;rename_i q1 q2;exact .mp _ _ _ q1 q2
   have I:=Stays.modifyG (x':=.iter (.mp q l) f (d++[e.born]) c) D m rfl n z (λ cs e fr h=>by rw [A] at h; cases h) ver (.inl ⟨rfl,trivial⟩)
   refine ⟨.tuple #[.bool true,e.key,e.val],.tup [bl true,.r (gm e.key),.r (gm e.val)],_,_,by simp only [execOp,S,E,Sem.run_bind,j,Result.andThen_ok,Sem.run_pure],h4 e Z,
    D.modifyG m rfl n z (λ cs e fr h=>by rw [A] at h; cases h) ver (.inl ⟨rfl,trivial⟩) (.inr ⟨rfl,trivial,λ _=>rfl⟩) ⟨b,t,n,z.new,M.stays I⟩,?_⟩
   refine .tup _ _ rfl λ i y c g hc=>?_
   match i with
   | 0=>simp at g hc; subst g; subst hc; exact .r (.v _)
   | 1=>simp at g hc; subst g; subst hc; exact .r (ua _)
   | 2=>simp at g hc; subst g; subst hc; exact .r (ua _)
   | i+3=>simp at g
  exact h.elim
 exact h.elim
theorem ajd {r:PR} {K:St->Prop} {N:Act->World->Prop} (E:Gam X s ρ a w) (hi:ops[i]?=some o) (h0:abz P X.n ops o r=true) (h:r.wp P s K (yes s.e r.g)) (C:∀s' ρ' a' w',K s'->Gam X s' ρ' a' w'->N a' w'):wpOp P ops Q i N a w:=by
 simp only [abz,zaa,beq_iff_eq] at h0;obtain ⟨⟨⟨O,B⟩,hg⟩,hx⟩:=h0;rcases hy:yes s.e r.g with _ | b
 ·rw [hy] at h; exact h.elim
 rw [hy] at h;have hw:=an5 E hg hy
 have p:∀x,(∀c,c=undef->RA X s ρ w x c)->Gam X ⟨m6 r.d x s.e,s.ob⟩ ρ (a.put o.dst undef) w:=λ x hx=>by
  rw [O];rcases hrd:r.d with _ | d
  ·exact E
  rw [hrd] at B;exact E.see (by simpa using B) (hx _ rfl)
 unfold wpOp;simp only [hi,hw];simp only [PR.wp] at h;rcases r with ⟨rd,rg,ru,rx⟩
 simp only at O B hg hx h hy p;cases rx with
 | see po=>
   obtain ⟨L,u⟩:=h;cases b with
   | true=>
     simp only [if_true];refine .inl ?_;obtain ⟨c,j,J⟩:=auk (P:=P) rfl E hx L;unfold Oper.wp;rw [j,Oper.upon_value,O];rcases rd with _ | d
     ·simp [anl] at B
     refine C _ ρ _ _ u (E.see (by simpa using B) ?_);unfold gdv;split
     ·exact J
     exact .gd true (λ _=>J) (by simp)
   | false=>
     simp only [zad,if_false];refine C _ ρ _ _ u (p _ λ c hc=>?_);rcases rg with _ | g
     ·simp [yes] at hy
     simp only [gdv];exact .gd false (by simp) (λ _=>hc)
 | act po=>
   cases b with
   | false=>
     simp only [zad,if_false];exact C _ ρ _ _ (h.2 rfl) (p _ λ c _=>.undef c)
   | true=>
     simp only [if_true];refine .inl ?_;obtain ⟨L,u⟩:=h.1 rfl;rcases rd with _ | d
     ·have h4:po.nod=true:=by simpa [ap6,anl] using B
      obtain ⟨nx,w1,A,j,l,D⟩:=aa3 (P:=P) E hx h4 L;unfold Oper.wp;rw [j];rcases D with ⟨c,rfl,J⟩ | ⟨rfl,D⟩
      ·rw [Oper.upon_value,O];exact C _ A _ _ u l
      rw [Oper.upon_skip,O];exact C _ A _ _ u l
     obtain ⟨nx,w1,A,j,l,D⟩:=awi (P:=P) (d:=d) E hx (by simpa using B) L;unfold Oper.wp;rw [j];rcases D with ⟨c,rfl,J⟩ | ⟨rfl,D⟩
     ·rw [Oper.upon_value,O];exact C _ A _ _ u (l.see (s:=⟨s.e,_⟩) (by simpa using B) J)
     rw [Oper.upon_skip,O];refine C _ A _ _ u (l.see (s:=⟨s.e,_⟩) (by simpa using B) ?_);simp only [Option.getD_some];rw [D];exact .undef _
 | call f args=>
   cases b with
   | false=>
     simp only [zad,if_false];exact C _ ρ _ _ (h.2 rfl) (p _ λ c _=>.undef c)
   | true=>
     simp only [if_true];refine .inl ?_;obtain ⟨L,u⟩:=h.1 rfl;obtain ⟨c,U,G,F,M⟩:=ano hx;obtain ⟨Z,g2⟩:=xw E rfl F L
     have j:(execOp a.eval o).run P w=.ok (.enter f (c.args.map a.eval)) w:=by
      have:=ahk (w:=w) M (c.args.map a.eval);simp [execOp,U,resolve,G,Act.eval,Deferred.ofValue,invoke];exact this
     unfold Oper.wp;rw [j,Oper.upon_enter];refine (ab2 E u (by simp [Z]) λ i x cc H hc=>?_).mono ?_
     ·rw [Array.getElem?_map,zak] at hc;obtain ⟨y,hy,rfl⟩:=hc;exact g2 i x y H (by simpa using hy)
     rintro e w1 ⟨cv,v,I,A,rfl,R,l,J⟩;simp only;rw [O];rcases rd with _ | d
     ·exact C _ A _ _ R l
     exact C _ A _ _ R (l.see (s:=⟨s.e,I⟩) (by simpa using B) J)
 | callv x args=>
   cases b with
   | false=>
     simp only [zad,if_false];exact C _ ρ _ _ (h.2 rfl) (p _ λ c _=>.undef c)
   | true=>
     simp only [if_true];refine .inl ?_;obtain ⟨hm,L,u⟩:=h.1 rfl;obtain ⟨c,x',U,G,H,F⟩:=ak1 hx;obtain ⟨Z,g2⟩:=xw E rfl F L;have M:=d5 E rfl H hm;generalize (x.ev s.e).bare=xv at M u;unfold an4 at u;split at u
     ·rename_i f cap k;obtain ⟨h8,u⟩:=u;generalize W:a.eval x'=cf at M;cases M;rename_i fs cs hl h7 hk
      have j:(execOp a.eval o).run P w=.ok (.enter f (fs++(c.args.map a.eval++cs))) w:=by
       have:=ahk (w:=w) h8 (fs++(c.args.map a.eval++cs));simp [execOp,U,resolve,G,W,Deferred.ofValue,invoke];exact this
      unfold Oper.wp;rw [j,Oper.upon_enter];have ha:(k7 s.e args).length=c.args.size:=by rw [Z]; simp
      have h5:∀(i:Nat) (y:AV) (v:Value),(cap.take k)[i]?=some y->fs[i]?=some v->RA X s ρ w y v:=λ i y v hy D=>by
       rw [List.getElem?_take] at hy;split at hy
       ·rename_i S;exact h7 i y v hy (by rw [zaf,if_pos (by omega)]; exact D)
       cases hy
      have V:∀(i:Nat) (y:AV) (v:Value),(cap.drop k)[i]?=some y->cs[i]?=some v->RA X s ρ w y v:=λ i y v hy D=>by
       rw [List.getElem?_drop] at hy;exact h7 (k+i) y v hy (by rw [zaf,if_neg (by omega),show k+i-fs.size=i by omega]; exact D)
      have T:∀(xs ys:List AV) (us vs:Array Value),us.size=xs.length->(∀(i:Nat) (y:AV) (v:Value),xs[i]?=some y->us[i]?=some v->RA X s ρ w y v) ->
       (∀(i:Nat) (y:AV) (v:Value),ys[i]?=some y->vs[i]?=some v->RA X s ρ w y v)->∀(i:Nat) (y:AV) (v:Value),(xs++ys)[i]?=some y->(us++vs)[i]?=some v->RA X s ρ w y v:=
       λ xs ys us vs hs L u i y v hy D=>by
        rw [List.getElem?_append] at hy;rw [zaf,hs] at D;split at hy
        ·rename_i S;rw [if_pos S] at D;exact L i y v hy D
        rename_i S;rw [if_neg S] at D;exact u _ y v hy D
      have hb:(cap.take k).length=k:=by rw [List.length_take]; omega
      refine (ab2 E u (by simp [Z]; omega) (T _ _ _ _ (by rw [hb]; exact hk) h5 (T _ _ _ _ (by rw [ha]; simp) (λ i y v hy D=>?_) V))).mono ?_
      ·rw [Array.getElem?_map,zak] at D;obtain ⟨z,Y,rfl⟩:=D;exact g2 i y z hy (by simpa using Y)
      rintro e w1 ⟨cv,v,I,A,rfl,R,l,J⟩;simp only;rw [O];rcases rd with _ | d
      ·exact C _ A _ _ R l
      exact C _ A _ _ R (l.see (s:=⟨s.e,I⟩) (by simpa using B) J)
     cases u
 | inv tbl x args=>
   cases b with
   | false=>
     simp only [zad,if_false];exact C _ ρ _ _ (h.2 rfl) (p _ λ c _=>.undef c)
   | true=>
     simp only [if_true];refine .inl ?_;obtain ⟨hm,L,u⟩:=h.1 rfl;obtain ⟨c,rv,m,U,G,H,F,h3⟩:=aqj hx;obtain ⟨Z,g2⟩:=xw E rfl F L;have M:=d5 E rfl H hm;generalize (x.ev s.e).bare=xv at M u;unfold ad9 at u;split at u
     ·rename_i t y;split at u
      ·rename_i f h6;generalize W:a.eval rv=cf at M;cases M;rename_i cy hy;have h9:=zac.1 h3 _ (aia h6)
       have j:(execOp a.eval o).run P w=.ok (.enter f (#[cy]++c.args.map a.eval)) w:=by
        have:=axs (w:=w) (v:=cy) (as:=c.args.map a.eval) h9;simp only [execOp,U,resolve,G,W,Sem.run_bind,Sem.run_pure,Result.andThen_ok];exact this
       unfold Oper.wp;rw [j,Oper.upon_enter];refine (ab2 E u (by simp [Z]; omega) λ i z cc Y hc=>?_).mono ?_
       ·cases i with
        | zero=>
          simp at Y;rw [zaf,if_pos (by simp)] at hc;simp at hc;subst Y; subst hc;exact hy
        | succ i=>
          simp only [List.getElem?_cons_succ] at Y;rw [zaf,if_neg (by simp)] at hc;simp only [List.size_toArray,zai,List.length_nil,Nat.zero_add,Nat.add_sub_cancel] at hc;rw [Array.getElem?_map,zak] at hc;obtain ⟨q,hq,rfl⟩:=hc;exact g2 i z q Y (by simpa using hq)
       rintro e w1 ⟨cv,v,I,A,rfl,R,l,J⟩;simp only;rw [O];rcases rd with _ | d
       ·exact C _ A _ _ R l
       exact C _ A _ _ R (l.see (s:=⟨s.e,I⟩) (by simpa using B) J)
      cases u
     cases u
 | nxt x=>
   cases b with
   | false=>
     simp only [zad,if_false];exact C _ ρ _ _ (h.2 rfl) (p _ λ c _=>.undef c)
   | true=>
     simp only [if_true];refine .inl ?_;obtain ⟨hm,u⟩:=h.1 rfl;obtain ⟨it,U,H⟩:=aqi hx;have M:=d5 E rfl H hm;obtain ⟨c,v,I,w1,j,R,l,J⟩:=apr (P:=P) E U M u;unfold Oper.wp;rw [j,Oper.upon_value,O];rcases rd with _ | d
     ·exact C _ ρ _ _ R l
     exact C _ ρ _ _ R (l.see (s:=⟨s.e,I⟩) (by simpa using B) J)
theorem an8 {rs:List PR} {l:List Oper} {K:St->Prop} {k:Nat} (c:∀i,i<l.length->ops[k+i]?=l[i]?) (b:q9 (abz P X.n ops) l rs=true) (g:Gam X s ρ a w) (h:wpR P rs K s)
 (m:∀s' ρ' e w',K s'->Gam X s' ρ' e w'->Q .normal e w'):wpOps P ops Q (List.range' k l.length) a w:=by
 induction l generalizing rs k s ρ a w with
 | nil=>
   cases rs with
   | nil=>exact m s ρ a w h g
   | cons r rs=>cases b
 | cons o l ih=>
   cases rs with
   | nil=>cases b
   | cons r rs=>
     simp only [q9,zaa] at b;have f:ops[k]?=some o:=by have:=c 0 (by simp); simpa using this
     rw [zai,List.range'_succ,wpOps_cons];refine ajd g f b.1 h λ s' ρ' e w' j d=>?_;exact ih (λ i f=>by have:=c (i+1) (by simp; omega); rw [show k+1+i=k+(i+1) by omega,this]; simp) b.2 d j
theorem akm {α e:Type} {f:α->e->Bool}:∀{xs:List α} {ys:List e},q9 f xs ys=true->xs.length=ys.length/\∀(i:Nat) (x:α) (y:e),xs[i]?=some x->ys[i]?=some y->f x y=true
 | [],[],_=>⟨rfl,λ i x y h=>by simp at h⟩
 | [],_::_,h=>by cases h
 | _::_,[],h=>by cases h
 | x::xs,y::ys,h=>by
   simp only [q9,zaa] at h;obtain ⟨g,j⟩:=akm h.2;refine ⟨by simp [g],λ i a b d c=>?_⟩;cases i with
   | zero=>simp at d c; subst d; subst c; exact h.1
   | succ i=>simp at d c; exact j i a b d c
theorem aqb {rs:List PR} {H:List (List Nat)} {f:List Lg} {K:St->Prop} {R:Nat->St} {C:Nat->Ans} (g6:q9 (abz P X.n ops) ops.toList rs=true) (O:agx ops H=true) (ge:mc H f=true) (gq:f.length=rs.length)
 (hz:∀k r,rs[k]?=some r->(r.out P (R k) (C k)).ok/\R (k+1)=(r.out P (R k) (C k)).st/\f[k]?=some (r.out P (R k) (C k)).lg) (hK:K (R rs.length))
 (hN:∀s' ρ' a' w',K s'->Gam X s' ρ' a' w'->Q .normal a' w'):∀(F:Nat) (c:Array Bool) (s:St) (ρ:Pl->Option Nat) (a:Act) (w:World),c.size=ops.size ->
  (∀j,c.getD j false=true->∀i,i∈H.getD j []->c.getD i false=true)->(List.range ops.size).countP (λ k=>!c.getD k false)<=F ->
  (∀l,s9 s l=jk (λ k=>s9 (R k)) (wrt f) (λ k=>c.getD k false=true) ops.size l)->Gam X s ρ a w->wpAny P .any ops Q F c a w:=by
 obtain ⟨M,gl⟩:=akm g6;have M:ops.size=rs.length:=by simpa using M
 have hr:∀k,k<ops.size->∃o r,ops[k]?=some o/\rs[k]?=some r/\abz P X.n ops o r=true/\(r.out P (R k) (C k)).ok/\R (k+1)=(r.out P (R k) (C k)).st/\f.getD k default=(r.out P (R k) (C k)).lg:=λ k v=>by
  have B:ops[k]?=some ops[k]:=by simp [v]
  have I:rs[k]?=some (rs[k]'(by omega)):=by simp [show k<rs.length by omega]
  obtain ⟨g1,g2,g3⟩:=hz k _ I;exact ⟨_,_,B,I,gl k _ _ (by simpa using B) I,g1,g2,by simp [List.getD_eq_getElem?_getD,g3]⟩
 have hq:∀k r,k<ops.size->rs[k]?=some r->f.getD k default=(r.out P (R k) (C k)).lg:=λ k r v h=>by
  obtain ⟨_,r',_,I,_,_,_,h3⟩:=hr k v;rw [h] at I; cases I; exact h3
 have D:∀k r,k<ops.size->rs[k]?=some r->(f.getD k default).ad=r.x.adr/\(f.getD k default).st=r.x.sto:=λ k r v h=>by
  rw [hq k r v h];exact apn
 have hu:∀k i,k<ops.size->i∈(f.getD k default).wr->i∈(f.getD k default).rd/\(f.getD k default).ad=false:=λ k i v m=>by
  obtain ⟨o,r,B,I,h3,h4,h5,E⟩:=hr k v;refine ⟨?_,?_⟩
  ·simp only [E] at m |-;exact ((ahg (s':=R k) h4 (λ _ _=>rfl) (λ _ _ _=>rfl) (λ _ _=>rfl)).2.2.2.1 i m).1
  rw [(D k r v I).1];cases S:r.x.adr with
  | false=>rfl
  | true=>
    rw [E] at m;rcases r with ⟨d,g,u,x⟩
    cases x with
    | see o=>
      unfold PR.out at m;simp only at m;generalize yes (R k).e g=y at m;rcases y with _ | b
      ·simp [PX.out,PR.lg] at m
      simp [PX.out,PR.lg] at m
    | _=>cases S
 have gg:∀k l,k<ops.size->wrt f k l->usd f k l:=λ k l v m=>by
  cases l with
  | t t=>
    obtain ⟨o,r,B,I,h3,h4,h5,E⟩:=hr k v;simp only [wrt,usd,E] at m |-;rw [afq.2] at m;rw [afq.1];simp [m]
  | o i=>exact hu k i v m
  | p i=>exact (hu k i v m.1).1
 have U:∀k l,k<ops.size->¬wrt f k l->s9 (R (k+1)) l=s9 (R k) l:=λ k l v m=>by
  obtain ⟨o,r,B,I,h3,h4,h5,E⟩:=hr k v;have hl:=ahg (s':=R k) h4 (λ _ _=>rfl) (λ _ _ _=>rfl) (λ _ _=>rfl);rw [h5];cases l with
  | t t=>
    simp only [wrt,E,afq.2] at m;simp only [s9,hl.2.2.1 t m]
  | o i=>
    simp only [wrt,E] at m;simp only [s9,hl.2.2.2.2 i m]
  | p i=>
    simp only [wrt,(D k r v I).2] at m;simp only [s9];by_cases G:i∈(f.getD k default).wr
    ·have:r.x.sto=true:=by
      cases hsto:r.x.sto with
      | true=>rfl
      | false=>exact (m ⟨G,hsto⟩).elim
     rw [alu this]
    rw [E] at G;rw [hl.2.2.2.2 i G]
 have g0:∀i j,i<j->j<ops.size->¬(i∈H.getD j [])->∀l,¬(wrt f i l/\usd f j l)/\¬(wrt f j l/\usd f i l):=λ i j gb hj hp l=>aqu ge gb (by omega) hp l;intro F
 induction F with
 | zero=>
   intro c s ρ a w h7 Y hh N hG
   have L:∀k,k<ops.size->c.getD k false=true:=λ k v=>by
    have h0:(List.range ops.size).countP (λ k=>!c.getD k false)=0:=by omega
    rw [List.countP_eq_zero] at h0;have:=h0 k (by simp [v]);simpa using this
   have hs:s=R rs.length:=ah5 λ l=>by rw [N l,afg U L ops.size (zae _),M]
   refine ⟨?_,hN s ρ a w (by rw [hs]; exact hK) hG⟩;rcases hrd:Region.ready .any ops c with _ | ⟨j,js⟩
   ·rfl
   have hj:j∈Region.ready .any ops c:=by rw [hrd]; simp
   obtain ⟨B,o,ho,_⟩:=mem_ready.1 hj;have A:=(zaj.1 ho).1;have:=L j A;rw [zab] at this B;have z:c[j]?=some (c[j]'(by omega)):=by simp [show j<c.size by omega]
   rw [z] at this B;simp at this B;rw [this] at B;cases B
 | succ F ih=>
   intro c s ρ a w h7 Y hh N hG;refine ⟨λ hd=>?_,λ j hj=>?_⟩
   ·have L:∀k,k<ops.size->c.getD k false=true:=λ k=>by
     induction k using Nat.strongRecOn with
     | ind k ihk=>
       intro v;apply Classical.byContradiction;intro V
       have hf:c.getD k true=false:=by
        rw [zab] at V |-;have z:c[k]?=some (c[k]'(by omega)):=by simp [show k<c.size by omega]
        rw [z] at V |-;simpa using V
       obtain ⟨o,r,B,_⟩:=hr k v;have:k∈Region.ready .any ops c:=mem_ready.2 ⟨hf,o,B,λ e he hb=>ihk e.on ((aaa O B).1 e he hb) (Nat.lt_trans ((aaa O B).1 e he hb) v)⟩;rw [hd] at this;cases this
    have hs:s=R rs.length:=ah5 λ l=>by rw [N l,afg U L ops.size (zae _),M]
    exact hN s ρ a w (by rw [hs]; exact hK) hG
   obtain ⟨ha,oj,h9,hg⟩:=mem_ready.1 hj;have A:=(zaj.1 h9).1
   have W:¬(c.getD j false=true):=by
    rw [zab] at ha |-;have z:c[j]?=some (c[j]'(by omega)):=by simp [show j<c.size by omega]
    rw [z] at ha |-;simpa using ha
   obtain ⟨o,r,B,I,h3,h4,h5,E⟩:=hr j A
   have g5:∀i,i∈H.getD j []->c.getD i false=true:=λ i G=>by
    obtain ⟨e,he,hb,h8⟩:=(aaa O B).2 i G;have hm:c.getD e.on false=true:=by rw [B] at h9; cases h9; exact hg e he hb
    rcases h8 with rfl | h8
    ·exact hm
    exact Y _ hm i h8
   have T:∀l,usd f j l->s9 s l=s9 (R j) l:=λ l hl=>by
    rw [N l];exact avs (pr:=λ j i=>i∈H.getD j []) U g0 Y A W g5 hl
   have hL:=ahg (s':=s) h4 (λ t ht=>by
    have:=T (.t t) (by simp only [usd,E]; exact ht);simpa [s9] using this) (λ S i G=>by
    have:=T (.o i) (by
     simp only [usd];rw [(D j r A I).1,E]
     exact ⟨G,S⟩)
    simpa [s9] using this) (λ i G=>by
    have:=T (.p i) (by simp only [usd,E]; exact G)
    simpa [s9] using this)
   have J:∀k,(c.setIfInBounds j true).getD k false=true↔(c.getD k false=true\/k=j):=λ k=>by
    by_cases Z:k=j
    ·subst Z;simp [zab,h7,A]
    have:(c.setIfInBounds j true).getD k false=c.getD k false:=getD_set_ne false (Ne.symm Z);rw [this];simp [Z]
   refine ajd hG B h3 (axk (K:=λ s'=>∀l,s9 s' l=jk (λ k=>s9 (R k)) (wrt f) (λ k=>(c.setIfInBounds j true).getD k false=true) ops.size l) hL.1 λ l=>?_) λ s' ρ' a' w' ga gd=>?_
   ·have hn:(λ k=>(c.setIfInBounds j true).getD k false=true)=λ k=>c.getD k false=true\/k=j:=funext λ k=>propext (J k);rw [hn];by_cases m:wrt f j l
    ·rw [asf (pr:=λ j i=>i∈H.getD j []) gg g0 Y A W m,h5];cases l with
     | t t=>
       simp only [wrt,E,afq.2] at m;simp only [s9,hL.2.1 t m]
     | o i=>
       simp only [wrt,E] at m;simp only [s9,(hL.2.2.2.1 i m).2]
     | p i=>
       have g4:=m.1;simp only [E] at g4;simp only [s9,(hL.2.2.2.1 i g4).2]
    rw [amh m,<- N l];cases l with
    | t t=>
      simp only [wrt,E,afq.2] at m;simp only [s9,hL.2.2.1 t m]
    | o i=>
      simp only [wrt,E] at m;simp only [s9,hL.2.2.2.2 i m]
    | p i=>
      simp only [s9];by_cases G:i∈(f.getD j default).wr
      ·have:r.x.sto=true:=by
        cases hsto:r.x.sto with
        | true=>rfl
        | false=>exact (m ⟨G,by rw [(D j r A I).2]; exact hsto⟩).elim
       rw [alu this]
      rw [E] at G;rw [hL.2.2.2.2 i G]
   refine ih _ s' ρ' a' w' (by simpa using h7) (λ k v i G=>?_) ?_ ga gd
   ·rw [J] at v |-;rcases v with v | rfl
    ·exact .inl (Y k v i G)
    exact .inl (g5 i G)
   have:=aif (p:=λ k=>!c.getD k false) (q:=λ k=>!(c.setIfInBounds j true).getD k false) (j:=j) (λ x hx=>by
    have hv:¬((c.setIfInBounds j true).getD x false=true):=by simpa using hx
    rw [J] at hv
    simpa using λ h=>hv (.inl h)) (by simpa using W) (by have:=(J j).2 (.inr rfl); simp only [this,Bool.not_true]) (l:=List.range ops.size) (by simp [A])
   omega
def ay3 (X:Cx) (K:Ex->St->Prop):Exit->Act->World->Prop
 | .normal,a,w=>∃s ρ,K .nor s/\Gam X s ρ a w
 | .exit i,a,w=>∃s ρ,K (.ex i) s/\Gam X s ρ a w
 | .ret,a,w=>∃s ρ,K .rt s/\Gam X s ρ a w
 | _,_,_=>False
theorem arl {fl:Bool} {id:Nat} (d:id<1000000) {x:AV} (b:Gam X s ρ a w):∃ρ',Gam X ⟨s.e,(kj fl id s.ob x).2⟩ ρ' a w/\(∀(y:AV) (c:Value),RA X s ρ w y c->RA X ⟨s.e,(kj fl id s.ob x).2⟩ ρ' w y c) /\
 ∀(c:Value),RA X s ρ w x c->RA X ⟨s.e,(kj fl id s.ob x).2⟩ ρ' w (kj fl id s.ob x).1 c:=by
 unfold kj;split
 ·rename_i sz z;split
  ·refine ⟨m5 ρ id none,b.nil id _ (b.pnn id (af3 d)) (λ v o h=>rn h) sz z true,λ y c h=>h.stays (Stays.nil id _ (λ v o h=>rn h) _),λ c h=>?_⟩;cases h;exact .own _ _ _ _ _ rfl (gc ⟨none,0,rfl,zae _,by simp,by simp,by simp⟩)
  exact ⟨ρ,b,λ _ _ h=>h,λ _ h=>h⟩
 exact ⟨ρ,b,λ _ _ h=>h,λ _ h=>h⟩
theorem ae2:∀{live:List (Nat×Bool)} {s:St} {ρ:Pl->Option Nat},(∀p∈live,p.1<100000)->Gam X s ρ a w->∃ρ',Gam X ⟨s.e,(s6 s.e live s.ob).2⟩ ρ' a w/\(∀(y:AV) (c:Value),RA X s ρ w y c->RA X ⟨s.e,(s6 s.e live s.ob).2⟩ ρ' w y c) /\
 (s6 s.e live s.ob).1.length=live.length/\∀(i t:Nat) (fl:Bool) (x:AV) (c:Value),live[i]?=some (t,fl)->(s6 s.e live s.ob).1[i]?=some x->RA X s ρ w (s.e t) c->RA X ⟨s.e,(s6 s.e live s.ob).2⟩ ρ' w x c
 | [],s,ρ,_,hG=>⟨ρ,hG,λ _ _ h=>h,rfl,λ i t fl x c h=>by simp at h⟩
 | (t,fl)::r,s,ρ,hl,hG=>by
   have A:t<100000:=hl (t,fl) (by simp);obtain ⟨m,q,k,l⟩:=arl (fl:=fl) (id:=900000+t) (by omega) (x:=s.e t) hG;obtain ⟨d,z,g,n,u⟩:=ae2 (live:=r) (s:=⟨s.e,(kj fl (900000+t) s.ob (s.e t)).2⟩) (λ p v=>hl p (by simp [v])) q;refine ⟨d,z,λ y c h=>g y c (k y c h),by simp [s6,n],λ i o f x c b hx j=>?_⟩;cases i with
   | zero=>
     simp [s6] at b hx;obtain ⟨rfl,rfl⟩:=b;subst hx;exact g _ c (l c j)
   | succ i=>
     simp [s6] at b hx;exact u i o f x c b hx (k _ c j)
theorem al6:∀{live:List (Nat×Bool)} {vs:List AV} (t:Nat),(∃(i:Nat) (fl:Bool) (x:AV),live[i]?=some (t,fl)/\vs[i]?=some x/\keep live vs t=x)\/keep live vs t=.undef
 | [],vs,t=>.inr (by simp [keep])
 | _::_,[],t=>.inr (by simp [keep])
 | (l,fl)::ls,v::vs,t=>by
   by_cases h:t=l
   ·subst h;exact .inl ⟨0,fl,v,rfl,rfl,by simp [keep,put]⟩
   have f:keep ((l,fl)::ls) (v::vs) t=keep ls vs t:=by simp [keep,put,h]
   rw [f];rcases al6 (live:=ls) (vs:=vs) t with ⟨i,a,x,c,b,d⟩ | e
   ·exact .inl ⟨i+1,a,x,by simpa using c,by simpa using b,d⟩
   exact .inr e
theorem adq {np:Nat} {live:List (Nat×Bool)} {D:List AV->List Ob->List Ob->Prop} (n:∀p∈live,p.1<100000) (o:np<=1000000) (g:∀id b,X.pn id=some b->1000000<=id/\id<1000000+np) (d:Gam X s ρ a w) (h:ve np live s D) :
 ∃vs pos c ρ',D vs pos c/\Gam X (aey live vs pos c) ρ' a w:=by
 obtain ⟨m,r,F,C,q⟩:=ae2 n d;unfold ve at h;rcases hn:nrm 64 np 2000000 (s6 s.e live s.ob).1 (s6 s.e live s.ob).2 with _ | ⟨vs,pos,c⟩
 ·rw [hn] at h; exact h.elim
 rw [hn] at h;obtain ⟨f,A,B,E,y⟩:=r.toMem.nrm hn (by omega) g;refine ⟨vs,pos,c,f,h,A,d.sz,d.df,λ t=>?_,d.pnn,d.small,d.base⟩;simp only [aey];rcases al6 (live:=live) (vs:=vs) t with ⟨i,fl,x,u,j,v⟩ | l
 ·rw [v];have z:=(zah.1 j).1;have k:(s6 s.e live s.ob).1[i]?=some ((s6 s.e live s.ob).1[i]'(by omega)):=by simp [show i<(s6 s.e live s.ob).1.length by omega]
  exact y i _ x _ k j (q i t fl _ _ u k (d.env t))
 rw [l];exact .undef _
theorem least {S:Nat->Prop} (h:∃k,S k):∃k,S k/\∀j,S j->k<=j:=by
 obtain ⟨k,d⟩:=h
 induction k using Nat.strongRecOn with
 | _ k ih=>
   by_cases hx:∃j,j<k/\S j
   ·obtain ⟨j,c,a⟩:=hx;exact ih j c a
   refine ⟨k,d,λ j b=>?_⟩;rcases Nat.lt_or_ge j k with h | h
   ·exact absurd ⟨j,h,b⟩ hx
   exact h
theorem awj {np:Nat} (G:np<=1000000) (M:∀id b,X.pn id=some b->1000000<=id/\id<1000000+np):∀(pc:PC) (c:Code) (K:Ex->St->Prop) (s:St) (ρ:Pl->Option Nat) (a:Act) (w:World),ic P X.n c pc=true->W P np pc K s->Gam X s ρ a w->c.wp P (ay3 X K) a w:=by
 intro pc
 induction pc with
 | skip=>
   intro c K s ρ a w hc h g;cases c<;>simp only [ic] at hc<;>try (cases hc; done)
   exact wp_skip ⟨s,ρ,h,g⟩
 | reg rs=>
   intro c K s ρ a w hc h g;cases c<;>simp only [ic] at hc<;>try (cases hc; done)
   rename_i id u d;simp only [zaa,Bool.not_eq_true'] at hc;obtain ⟨rfl,hc⟩:=hc;refine wp_region ?_;rw [List.range_eq_range',<- Array.length_toList];exact an8 (k:=0) (l:=u.toList) (λ i O=>by simp) hc g h λ s' ρ' E w' V D=>⟨s',ρ',V,D⟩
 | seq p q ihp ihq=>
   intro c K s ρ a w hc h g;cases c<;>simp only [ic] at hc<;>try (cases hc; done)
   rename_i x y;simp only [zaa] at hc;refine wp_seq (wp_mono (ihp x _ s ρ a w hc.1 h g) λ e E w' f=>?_);cases e with
   | normal=>
     obtain ⟨s',ρ',r,t⟩:=f;exact ihq y K s' ρ' E w' hc.2 r t
   | exit i=>exact f
   | ret=>exact f
   | goto l=>exact f
   | panic ch=>exact f
   | outgrown=>exact f
 | cond x p q ihp ihq=>
   intro c K s ρ a w hc h g;cases c<;>simp only [ic] at hc<;>try (cases hc; done)
   rename_i y c1 c2;simp only [zaa] at hc;obtain ⟨⟨r,t⟩,h3⟩:=hc;have hx:=ady g.env r;simp only [W] at h;generalize x.ev s.e=xv at hx h;split at h
   ·rename_i b;exact wp_cond_split (i9 hx) (λ hb=>ihp c1 K s ρ a w t (h.1 hb) g) (λ hb=>ihq c2 K s ρ a w h3 (h.2 hb) g)
   exact h.elim
 | block id p ih=>
   intro c K s ρ a w hc h g;cases c<;>simp only [ic] at hc<;>try (cases hc; done)
   rename_i h6 c';simp only [zaa,beq_iff_eq] at hc;obtain ⟨rfl,hc⟩:=hc;refine wp_block (wp_mono (ih c' _ s ρ a w hc h g) λ e E w' f=>?_);cases e with
   | normal=>exact f
   | exit i=>
     obtain ⟨s',ρ',r,t⟩:=f;simp only [Exit.inBlock];simp only at r;split
     ·rename_i O;rw [if_pos O] at r;exact ⟨s',ρ',r,t⟩
     rename_i O;rw [if_neg O] at r;exact ⟨s',ρ',r,t⟩
   | ret=>exact f
   | goto l=>exact f
   | panic ch=>exact f
   | outgrown=>exact f
 | loop p ih=>
   intro c K s ρ a w hc h g;cases c<;>simp only [ic] at hc<;>try (cases hc; done)
   rename_i c';obtain ⟨live,I,m,hl,U,hr⟩:=h;have H:∀p∈live,p.1<100000:=λ p f=>by simpa using zac.1 hl p f
   let S:Nat->Act->World->Prop:=λ k a w=>∃vs pos o ρ,I vs pos o/\Gam X (aey live vs pos o) ρ a w/\m vs pos o=k
   refine wp_loop (λ a w=>∃k,S k a w) (λ a w=>open Classical in if hx:∃k,S k a w then (least hx).choose else 0) ?_ ?_
   ·obtain ⟨vs,pos,o,ρ',r,t⟩:=adq H G M g U;exact ⟨_,vs,pos,o,ρ',r,t,rfl⟩
   intro a w hx;simp only [dif_pos hx];obtain ⟨vs,pos,o,ρ',r,t,h3⟩:=(least hx).choose_spec.1;refine wp_mono (ih c' _ _ ρ' a w hc (hr vs pos o r) t) λ e E w' f=>?_;cases e with
   | normal=>
     obtain ⟨s',h4,g1,g2⟩:=f;obtain ⟨J,v,A,F,k1,k2⟩:=adq H G M g2 g1;have B:∃k,S k E w':=⟨_,J,v,A,F,k1.1,k2,rfl⟩
     refine ⟨B,?_⟩;rw [dif_pos B,<- h3];exact Nat.lt_of_le_of_lt ((least B).choose_spec.2 _ ⟨J,v,A,F,k1.1,k2,rfl⟩) k1.2
   | exit i=>exact f
   | ret=>exact f
   | goto l=>exact f
   | panic ch=>exact f
   | outgrown=>exact f
 | exit i=>
   intro c K s ρ a w hc h g;cases c<;>simp only [ic] at hc<;>try (cases hc; done)
   rename_i j;have:j=i:=by simpa using hc
   subst this;exact wp_exit ⟨s,ρ,h,g⟩
 | ret=>
   intro c K s ρ a w hc h g;cases c<;>simp only [ic] at hc<;>try (cases hc; done)
   exact wp_ret ⟨s,ρ,h,g⟩
 | drw rs pre=>
   intro c K s ρ a w hc h g;cases c<;>simp only [ic] at hc<;>try (cases hc; done)
   rename_i id u d;simp only [zaa] at hc;obtain ⟨⟨⟨rfl,hm⟩,Q⟩,L⟩:=hc;obtain ⟨R,C,h5,U,T,N,Y,V⟩:=ak6 h;refine wp_region_any hm ?_
   have z:∀k,¬((Array.replicate u.size false).getD k false=true):=λ k=>by
    rw [zab,Array.getElem?_replicate];split<;>simp
   refine aqb Q L (by simpa using Y) T N V (λ s' ρ' E w' Z D=>⟨s',ρ',Z,D⟩) u.size _ s ρ a _ (by simp) (λ j hj=>?_) ?_ (λ l=>?_) (g.drew _)
   ·exact (z j hj).elim
   ·exact Nat.le_trans List.countP_le_length (by simp)
   rw [aig z,U]
end

def AV.isNil:AV->Bool
 | .nils _ _=>true
 | _=>false
def lz:List AV->Bool
 | []=>false
 | x::xs=>x.isNil||lz xs
def ye (ob:Obs):AV->Option (AV×List Nat)
 | .nils sz z=>some (.nils sz z,[])
 | x=>match x.rv ob with
   | some (y,l)=>some (.r y,l)
   | none=>none
def ku (ob:Obs):List AV->Option (List AV×List Nat)
 | []=>some ([],[])
 | x::xs=>match ye ob x,ku ob xs with
   | some (y,i),some (ys,j)=>some (y::ys,i++j)
   | _,_=>none
def yf (ob:Obs) (xs:List AV):Bool->Option (AV×List Nat)
 | true=>match ku ob xs with
   | some (ys,l)=>some (.agg ys,l)
   | none=>none
 | false=>match rvs ob xs with
   | some (ys,l)=>some (.r (.agg ys),l)
   | none=>none
def vt (ob:Obs):AV->Option (AV×List Nat)
 | .own id ver lo len=>match g9 ob id ver with
   | some (sz,_,_,wr,xs)=>if wr then some (.own id ver lo len,[]) else some (.r (.sl sz ((xs.drop lo).take len)),[])
   | none=>match m7 ob id ver with
     | some _=>some (.own id ver lo len,[])
     | none=>none
 | .agg xs=>yf ob xs (km&&lz xs)
 | x=>some (x,[])
def ox (ob:Obs):List AV->Option (List AV×List Nat)
 | []=>some ([],[])
 | x::xs=>match vt ob x,ox ob xs with
   | some (y,i),some (ys,j)=>some (y::ys,i++j)
   | _,_=>none
def ni:List AV->AV
 | [x]=>x
 | xs=>.tup xs
def ain (np:Nat) (ob:Obs) (D:AV->List Ob->Prop):Option (List AV×List Nat)->Prop
 | some (vs,l)=>ajl (λ vs pos a=>D (ni vs) (pos++a)) (nrm 64 np (1000000+np) vs (freeze ob l))
 | none=>False
def aj7 (np:Nat) (rs:List (Nat×Bool)) (s:St) (D:AV->List Ob->Prop):Prop:=
 ain np (s6 s.e rs s.ob).2 D (ox (s6 s.e rs s.ob).2 (s6 s.e rs s.ob).1)
abbrev RSl:=Nat×Bool×Option (TypeId×Option Nat)
def opn (np:Nat) (b:List (Nat×Bool)) (D:AV->List Ob->Prop):List RSl->Env->Obs->Prop
 | [],e,ob=>aj7 np b ⟨e,ob⟩ D
 | (_,_,none)::r,e,ob=>opn np b D r e ob
 | (a,_,some (_,n))::r,e,ob=>(ld1 true n (e a) ob).ok/\opn np b D r (put a (ld1 true n (e a) ob).v e) ob
def afm (np:Nat) (rs:List RSl) (D:AV->List Ob->Prop):Ex->St->Prop
 | .nor,s=>opn np (rs.map λ p=>(p.1,p.2.1)) D rs s.e s.ob
 | .rt,s=>opn np (rs.map λ p=>(p.1,p.2.1)) D rs s.e s.ob
 | .ex _,_=>False
def RSl.rv:RSl->ResultVar
 | (t,_,none)=>.tmp t
 | (a,_,some (ty,_))=>.cell a ty
def RSl.agg (P:Program):RSl->Bool
 | (_,_,none)=>true
 | (_,_,some (ty,n))=>aab P ty n
def ij:Nat->List AV->Env
 | _,[]=>λ _=>.undef
 | k,x::xs=>put k x (ij (k+1) xs)
theorem amn:∀{xs:List AV} {k t:Nat},k<=t->ij k xs t=(xs[t-k]?).getD .undef
 | [],k,t,h=>by simp [ij]
 | x::xs,k,t,h=>by
   simp only [ij,put];by_cases a:t=k
   ·subst a; simp
   rw [if_neg a,amn (by omega),show t-k=(t-(k+1))+1 by omega];simp
theorem ae6:∀(xs ys:List Ob) (k:Nat),z5 k xs (z5 (k+xs.length) ys λ _=>none)=obs k (xs++ys)
 | [],[],k=>rfl
 | [],y::ys,k=>by
   have:=ae6 [] ys (k+1);simp only [z5,List.length_nil,Nat.add_zero,List.nil_append,obs] at this |-;rw [this]
 | x::xs,ys,k=>by
   have:=ae6 xs ys (k+1);simp only [z5,zai,List.cons_append,obs] at this |-;rw [show k+(xs.length+1)=k+1+xs.length by omega,this]
section
variable {P:Program} {X:Cx} {w w':World} {s:St} {ρ ρ':Pl->Option Nat} {a:Act} {o:Oper} {ob ob':Obs} {R R':Nat->Prop}
theorem ah7 {b:List Nat} (n:Gam X s ρ a w) {ob:Obs} (e:s.ob=Ev.freeze ob b):∀{xs ys:List AV} {l:List Nat},ku ob xs=some (ys,l)->(∀i,i∈l->i∈b) ->
 ys.length=xs.length/\∀(i:Nat) (x y:AV) (c:Value),xs[i]?=some x->ys[i]?=some y->RA X s ρ w x c->RA X s ρ w y c
 | [],ys,l,h,hs=>by simp [ku] at h; obtain ⟨rfl,rfl⟩:=h; simp
 | z::xs,ys,l,h,hs=>by
   simp only [ku] at h;split at h
   ·rename_i u k v j d o;cases h;obtain ⟨q,t⟩:=ah7 n e o (λ p g=>hs p (by simp [g]));refine ⟨by simp [q],λ i x y c hx hy f=>?_⟩;cases i with
    | zero=>
      simp at hx hy;subst hx; subst hy;unfold ye at d;split at d
      ·cases d; exact f
      split at d
      ·rename_i m;cases d;exact .r (afv n m (λ p g=>hs p (by simp [g])) e f)
      cases d
    | succ i=>
      simp at hx hy;exact t i x y c hx hy f
   cases h
theorem ars {b:List Nat} (o:Gam X s ρ a w) {ob:Obs} (k:s.ob=Ev.freeze ob b) {x y:AV} {l:List Nat} {c:Value} (h:vt ob x=some (y,l)) (g:∀i,i∈l->i∈b) (hx:RA X s ρ w x c):RA X s ρ w y c:=by
 unfold vt at h;split at h
 ·split at h
  ·rename_i sz z t D xs A;split at h
   ·cases h; exact hx
   rename_i m;cases h;obtain ⟨C,p,v⟩:=abt b ob _ (n8 A);rw [<- k,v (.inl (by simpa using m))] at p;exact .r (apk o p hx)
  split at h
  ·cases h; exact hx
  cases h
 ·rename_i xs;unfold yf at h;split at h
  ·split at h
   ·rename_i ys u f;cases h;cases hx;rename_i cs n e;obtain ⟨B,q⟩:=ah7 o k f g;refine .agg _ _ (by rw [B]; exact n) λ i y c hy hc=>?_;have j:i<xs.length:=by have:=(zah.1 hy).1; omega
    have d:xs[i]?=some xs[i]:=by simp [j]
    exact q i _ y c d hy (e i _ c d hc)
   cases h
  split at h
  ·rename_i ys u f;cases h;cases hx;rename_i cs n e;refine .r (.agg _ _ (by rw [jz f]; exact n) λ i y c hy hc=>?_);have j:i<xs.length:=by have:=(zah.1 hy).1; have:=jz f; omega
   have d:xs[i]?=some xs[i]:=by simp [j]
   exact aah o k f g i _ y c d hy (e i _ c d hc)
  cases h
 cases h; exact hx
theorem ajg {b:List Nat} (f:Gam X s ρ a w) {ob:Obs} (d:s.ob=Ev.freeze ob b):∀{xs ys:List AV} {l:List Nat},ox ob xs=some (ys,l)->(∀i,i∈l->i∈b) ->
 ys.length=xs.length/\∀(i:Nat) (x y:AV) (c:Value),xs[i]?=some x->ys[i]?=some y->RA X s ρ w x c->RA X s ρ w y c
 | [],ys,l,h,hs=>by simp [ox] at h; obtain ⟨rfl,rfl⟩:=h; simp
 | z::xs,ys,l,h,hs=>by
   simp only [ox] at h;split at h
   ·rename_i r k t j n m;cases h;obtain ⟨o,q⟩:=ajg f d m (λ p e=>hs p (by simp [e]));refine ⟨by simp [o],λ i x y c hx hy g=>?_⟩;cases i with
    | zero=>
      simp at hx hy;subst hx; subst hy;exact ars f d n (λ p e=>hs p (by simp [e])) g
    | succ i=>
      simp at hx hy;exact q i x y c hx hy g
   cases h
def azc:List Value->Value
 | [v]=>v
 | vs=>.tuple vs.toArray
def ai9 (tmps:Array Value):ResultVar->Sem Value
 | .tmp t=>pure (tmps.getD t undef)
 | .cell a t=>do loadVar t (<- asAddr (tmps.getD a undef))
theorem aku (fn:Func) (rs:List ResultVar) (h:fn.results.toList=rs) (tmps:Array Value) {cs:List Value} (e:(rs.mapM (ai9 tmps)).run P w=.ok cs w):(results fn tmps).run P w=.ok (azc cs) w:=by
 have d:fn.results=rs.toArray:=by rw [<- h]
 have c:(fn.results.mapM (m:=Sem) (ai9 tmps)).run P w=.ok cs.toArray w:=by
  rw [d];simp only [List.mapM_toArray];simp only [map_eq_pure_bind,Sem.run_bind,e,Result.andThen_ok,Sem.run_pure]
 have b:(fn.results.mapM (m:=Sem) fun | .tmp t=>pure (tmps.getD t undef) | .cell a t=>do loadVar t (<- asAddr (tmps.getD a undef))).run P w=.ok cs.toArray w:=by
  rw [<- c];congr 2
 unfold results;rw [Sem.run_bind];refine (congrArg (λ r=>Result.andThen r _) b).trans ?_;clear c b d h e
 match cs with
 | []=>rfl
 | [t]=>rfl
 | t::t'::rs=>rfl
theorem ax4 {g:Bool} (e:g=true) {n:Option Nat} {u:AV} {v:Value} (j:Gam X s ρ a w) (d:(ld1 g n u s.ob).ok) (f:RA X s ρ w u v):∃b o,v=.pointer (some ⟨b,o,none⟩):=by
 cases u with
 | ptr id ver off=>
   simp only [ld1] at d;rcases hr:m7 s.ob id ver with _ | c
   ·rw [hr] at d; exact (d e).elim
   cases f;rename_i h;obtain ⟨b,_,hc⟩:=h.live (dj hr);exact ⟨b,off,hc⟩
 | oel id ver i off=>
   simp only [ld1] at d;rcases hr:g9 s.ob id ver with _ | c
   ·rw [hr] at d; exact (d e).elim
   cases f;rename_i h;obtain ⟨_,_,b,_,hc⟩:=h.live (n8 hr);exact ⟨b,_,hc⟩
 | rp ys=>cases f; exact ⟨_,_,rfl⟩
 | _=>exact (d.2 e).elim
theorem ahh {np:Nat} {m:List (Nat×Bool)} {D:AV->List Ob->Prop} {tmps:Array Value} {ob:Obs}:∀{rs:List RSl} {e:Env} {a:Act},opn np m D rs e ob->Gam X ⟨e,ob⟩ ρ a w->(rs.all λ p=>p.agg P)=true->(∀p∈rs,p.1<X.n)->(rs.map (·.1)).Nodup ->
 (∀p∈rs,tmps.getD p.1 undef=a.tmps.getD p.1 undef)->∃e' y cs,Gam X ⟨e',ob⟩ ρ y w/\aj7 np m ⟨e',ob⟩ D/\((rs.map RSl.rv).mapM (ai9 tmps)).run P w=.ok cs w/\cs.length=rs.length /\
  (∀(i:Nat) (p:RSl) (c:Value),rs[i]?=some p->cs[i]?=some c->RelA w (d6 X.B ob ρ w) ob ρ (e' p.1) c)/\∀t,t∉rs.map (·.1)->e' t=e t
 | [],e,a,h,hG,_,_,_,_=>⟨e,a,[],hG,h,by simp,rfl,by simp,λ _ _=>rfl⟩
 | (t,fl,none)::rs,e,a,h,hG,hag,hlt,hnd,htm=>by
   simp only [List.all_cons,zaa] at hag;simp only [zag,List.nodup_cons] at hnd;obtain ⟨e',y,cs,G,H,z,C,J,l⟩:=ahh (rs:=rs) h hG hag.2 (λ p f=>hlt p (by simp [f])) hnd.2 (λ p f=>htm p (by simp [f]));refine ⟨e',y,tmps.getD t undef::cs,G,H,?_,by simp [C],λ i p c f hc=>?_,λ F g=>?_⟩
   ·simp only [zag,List.mapM_cons,Sem.run_bind,RSl.rv,ai9,Sem.run_pure,Result.andThen_ok];rw [z];simp only [Result.andThen_ok]
   ·cases i with
    | zero=>
      simp at f hc;subst f; subst hc;rw [l t hnd.1];have:=hG.env t;rw [<- htm (t,fl,none) (by simp)] at this;rw [zab] at this;exact this
    | succ i=>exact J i p c (by simpa using f) (by simpa using hc)
   simp at g;exact l F (by simpa using g.2)
 | (t,fl,some (ty,n))::rs,e,a,h,hG,hag,hlt,hnd,htm=>by
   simp only [List.all_cons,zaa] at hag;simp only [zag,List.nodup_cons] at hnd;obtain ⟨u,h⟩:=h;have M:a.eval (.tmp t)=a.tmps.getD t undef:=rfl;have q := aop (P := P) (s := ⟨e, ob⟩) (o := { dst := none, op := .load ty (.tmp t), type := 0, pos := "", after := #[], guard := none }) rfl hG rfl hag.1 (hG.env t) u
   obtain ⟨c,d,L⟩:=q;obtain ⟨b,o,K⟩:=ax4 rfl hG u (hG.env t)
   have k:(loadVar ty ⟨b,o,none⟩).run P w=.ok c w:=by
    simp only [execOp,M,K,Instr.loadAt,Instr.sureAddr,Sem.run_bind,Sem.run_pure,Result.andThen_ok] at d;generalize (loadVar ty ⟨b,o,none⟩).run P w=r at d |-;cases r with
    | ok v w1=>simp only [Result.andThen_ok] at d; cases d; rfl
    | halt x w1=>cases d
   have E:=hG.see (hlt (t,fl,some (ty,n)) (by simp)) L
   obtain ⟨e',y,cs,G,H,z,C,J,l⟩:=ahh (rs:=rs) (tmps:=tmps) h E hag.2 (λ p f=>hlt p (by simp [f])) hnd.2 (λ p f=>by
    rw [htm p (by simp [f])];have I:t≠p.1:=λ A=>hnd.1 (by rw [A]; exact List.mem_map_of_mem f)
    simp [Act.put,zab,Array.getElem?_setIfInBounds_ne I])
   refine ⟨e',y,c::cs,G,H,?_,by simp [C],λ i p c' f hc=>?_,λ F g=>?_⟩
   ·have j:=htm (t,fl,some (ty,n)) (by simp);simp only [zag,List.mapM_cons,Sem.run_bind,RSl.rv,ai9];simp only at j;rw [j,K];simp only [asAddr,Sem.run_pure,Result.andThen_ok];rw [k];simp only [Result.andThen_ok];rw [z];simp only [Result.andThen_ok]
   ·cases i with
    | zero=>
      simp at f hc;subst f; subst hc;rw [l t hnd.1];simp only [put,if_true];exact L
    | succ i=>exact J i p c' (by simpa using f) (by simpa using hc)
   simp at g;rw [l F (by simpa using g.2)];simp [put,g.1]
def ad8 (P:Program) (f:FuncId) (args:List AV) (po:List Ob) (D:AV->List Ob->Prop):Prop:=
 ∀(w:World) (a:Array Value) (ρ:Pl->Option Nat) (B:Nat->Prop),Gl P w (ei (ob0 po) ρ)->(∀b,ei (ob0 po) ρ b\/w.heap.size<=b->B b) ->
  Mem ⟨0,ei (ob0 po) ρ,λ _=>none,B,w⟩ (ob0 po) ρ w->a.size=args.length ->
  (∀(i:Nat) (x:AV) (c:Value),args[i]?=some x->a[i]?=some c->RelA w (d6 B (ob0 po) ρ w) (ob0 po) ρ x c) ->
  Calls P f a w λ e w'=>∃c ρ' res ro,e=.returned c/\D res ro/\Mem ⟨0,ei (ob0 po) ρ,gt po ρ,B,w⟩ (ob0 ro) ρ' w'/\RelA w' (d6 B (ob0 ro) ρ' w') (ob0 ro) ρ' res c
theorem acm {f:FuncId} {fn:Func} {c:Code} {pc:PC} {args:List AV} {po:List Ob} {D:AV->List Ob->Prop} {rs:List RSl} (hf:P.funcs[f]?=some fn) (hb:fn.body=some c) (hn:fn.ntmps<=100000) (V:ic P fn.ntmps c pc=true)
 (h9:args.length<=fn.ntmps) (J:fn.results.toList=rs.map RSl.rv) (h4:(rs.all λ p=>p.agg P)=true) (Q:(rs.all λ p=>decide (p.1<fn.ntmps))=true) (h3:(rs.map (·.1)).Nodup) (h8:po.length<=1000)
 (h:W P po.length pc (afm po.length rs D) ⟨ij 0 args,ob0 po⟩):ad8 P f args po D:=by
 intro w g ρ B Z hB U hg F
 let X:Cx:=⟨fn.ntmps,ei (ob0 po) ρ,gt po ρ,B,w⟩
 haveI:GlC P X:=⟨Z⟩
 have u:∀id b,X.pn id=some b->ρ id=some b/\∃o,ob0 po id=some (0,o)/\o.pinned=true/\(o.isRow=true->pp X.w0 w b):=λ id b a=>by
  simp only [X,gt] at a;split at a
  ·rename_i v o hx;split at a
   ·rename_i M;have:=(pw hx).2.2;simp only at this;subst this;exact ⟨a,o,hx,M,λ _=>pp.refl _ _⟩
   cases a
  cases a
 have hX:Mem X (ob0 po) ρ w:=⟨U.obj,U.inj,U.keeps,U.own,u⟩
 have r:∀id b,X.pn id=some b->1000000<=id/\id<1000000+po.length:=λ id b a=>by
  obtain ⟨_,h0,hx,_⟩:=u id b a;obtain ⟨h1,h2,_⟩:=pw hx;have:=(zah.1 h2).1;exact ⟨h1,by omega⟩
 have hG:Gam X ⟨ij 0 args,ob0 po⟩ ρ { tmps:=g++Array.replicate (fn.ntmps-g.size) undef,defers:=[] } w:=by
  refine ⟨hX,by simp [X]; omega,rfl,λ t=>?_,λ id E=>?_,hn,hB⟩
  ·show RelA w (d6 X.B (ob0 po) ρ w) (ob0 po) ρ (ij 0 args t) _;rw [amn (Nat.zero_le _),Nat.sub_zero];by_cases ht:t<args.length
   ·have hx:args[t]?=some args[t]:=by simp [ht]
    have hc:g[t]?=some (g[t]'(by omega)):=by simp [show t<g.size by omega]
    have:=F t _ _ hx hc;rw [hx];simp only [Option.getD_some];rw [zab,Array.getElem?_append_left (by omega),hc];exact this
   rw [List.getElem?_eq_none (by omega)];exact .undef _
  rcases a:X.pn id with _ | b
  ·rfl
  have h1:=(r id b a).1;have h2:=(r id b a).2
  rcases (show id<1000000\/2000000<=id by
   unfold par at E;by_cases q:1000000<=id
   ·rw [decide_eq_true q] at E;exact .inr (by have:=of_decide_eq_false E; omega)
   exact .inl (by omega)) with q | q<;>omega
 refine calls_of_wp hf hb (wp_mono (awj (by omega) r pc c _ _ ρ _ w V h hG) λ e T w' a=>?_)
 have O:(∃s ρ,opn po.length (rs.map λ p=>(p.1,p.2.1)) D rs s.e s.ob/\Gam X s ρ T w')->T.defers=[]/\∃v,(results fn T.tmps).run P w'=.ok v w'/\∃c ρ' res ro,Ending.returned v=.returned c/\D res ro/\Mem ⟨0,ei (ob0 po) ρ,gt po ρ,B,w⟩ (ob0 ro) ρ' w'/\RelA w' (d6 B (ob0 ro) ρ' w') (ob0 ro) ρ' res c:=by
  rintro ⟨z,hh,Y,S⟩;obtain ⟨k,a1,cs,h5,hx,C,h6,A,_⟩:=ahh (P:=P) (tmps:=T.tmps) Y S h4 (λ p a=>by simpa using zac.1 Q p a) h3 (λ _ _=>rfl);refine ⟨S.df,_,aku fn _ J T.tmps C,?_⟩;generalize j:(rs.map λ p=>(p.1,p.2.1))=d at hx;have h7:d.length=rs.length:=by rw [<- j]; simp
  obtain ⟨hd,g1,g2,g3,g4⟩:=ae2 (live:=d) (λ p a=>by
   rw [<- j] at a;obtain ⟨q,hq,rfl⟩:=List.mem_map.1 a;have:q.1<fn.ntmps:=by simpa using zac.1 Q q hq
   simp only
   omega) h5
  unfold aj7 at hx;simp only at g1 g2 g3 g4 hx;rcases M:ox (s6 k d z.ob).2 (s6 k d z.ob).1 with _ | ⟨vs,l⟩
  ·rw [M] at hx; exact hx.elim
  rw [M] at hx;simp only [ain] at hx;have K:=Gam.freeze (s:=⟨k,(s6 k d z.ob).2⟩) l g1;obtain ⟨k1,k2⟩:=ajg (s:=⟨k,Ev.freeze (s6 k d z.ob).2 l⟩) K rfl M (λ _ h=>h);rcases hn2:nrm 64 po.length (1000000+po.length) vs (freeze (s6 k d z.ob).2 l) with _ | ⟨m,pos,n⟩
  ·rw [hn2] at hx; exact hx.elim
  rw [hn2] at hx;have hx:D (ni m) (pos++n):=hx;obtain ⟨G,I,m2,m3,m4⟩:=K.toMem.nrm hn2 (zae _) r;rw [<- m3,ae6 pos n 1000000] at I m4;refine ⟨_,G,_,_,rfl,hx,⟨I.obj,I.inj,I.keeps,I.own,I.pin⟩,?_⟩
  have L:∀(i:Nat) (y:AV) (v:Value),m[i]?=some y->cs[i]?=some v->RelA w' (d6 B (ob0 (pos++n)) G w') (ob0 (pos++n)) G y v:=λ i y v hy H=>by
   have he:=(zah.1 H).1;obtain ⟨q,hr⟩:∃q,rs[i]?=some q:=⟨rs[i]'(by omega),by simp [show i<rs.length by omega]⟩
   have ha:d[i]?=some (q.1,q.2.1):=by rw [<- j,List.getElem?_map,hr]; rfl
   have a:(s6 k d z.ob).1[i]?=some ((s6 k d z.ob).1[i]'(by omega)):=by simp [show i<(s6 k d z.ob).1.length by omega]
   have N:vs[i]?=some (vs[i]'(by omega)):=by simp [show i<vs.length by omega]
   exact m4 i _ y _ N hy (k2 i _ _ _ a N (abu l (g4 i _ _ _ _ ha a (A i _ v hr H))))
  have R:m.length=cs.length:=by omega
  clear hx;clear C A h6 g4
  match m,cs,R,L with
  | [],[],_,H=>exact .tup _ _ (by simp) λ i x c hx=>by simp at hx
  | [x],[c],_,H=>exact H 0 x c rfl rfl
  | x::x'::xs,c::c'::cs,hl,H=>exact .tup _ _ (by simp at hl |-; omega) λ i y v hy hc=>H i y v hy (by simpa using hc)
  | [],_::_,hl,_=>simp at hl
  | _::_,[],hl,_=>simp at hl
  | [_],_::_::_,hl,_=>simp at hl
  | _::_::_,[_],hl,_=>simp at hl
 cases e with
 | normal=>exact O a
 | ret=>exact O a
 | exit i=>obtain ⟨_,_,h,_⟩:=a; exact h.elim
 | goto l=>exact a.elim
 | panic ch=>exact a.elim
 | outgrown=>exact a.elim
theorem aks {f:FuncId} {fn:Func} {c:Code} {pc:PC} {args:List AV} {po ro:List Ob} {res:AV} {rs:List RSl} (s:P.funcs[f]?=some fn) (y:fn.body=some c) (r:fn.ntmps<=100000) (g:ic P fn.ntmps c pc=true)
 (i:args.length<=fn.ntmps) (d:fn.results.toList=rs.map RSl.rv) (n:(rs.all λ p=>p.agg P)=true) (k:(rs.all λ p=>decide (p.1<fn.ntmps))=true) (q:(rs.map (·.1)).Nodup) (m:po.length<=1000)
 (h:W P po.length pc (afm po.length rs λ v os=>v=res/\os=ro) ⟨ij 0 args,ob0 po⟩):a9 P f args po res ro:=by
 intro w b ρ B l t u o a;refine (acm s y r g i d n k q m h w b ρ B l t u o a).mono ?_;rintro e w' ⟨c,ρ',_,_,rfl,⟨rfl,rfl⟩,j,x⟩;exact ⟨c,ρ',rfl,j,x⟩
end

structure Shut (p:Prop):Prop where
 out:p
inductive Item where
 | c (c:PC)
 | blk (id:Nat)
 | lp (live:List (Nat×Bool)) (D:List AV->List Ob->List Ob->Prop)
 | cut (S:Env->Obs->Prop)
section
variable {P:Program}
theorem ab4 {f:FuncId} {u:Nat} {ob:Obs} {K g:AV->Obs->Prop} (k:∀v o,K v o->g v o) {vs:List AV} {a:Option (List AV×List Nat)} (h:zn P f u ob K vs a):zn P f u ob g vs a:=by
 have b:∀{ob:Obs} {ids:List Nat} {as:List AV} {l:List Nat} {j:Bool} {o:Option (List Ob)},xq P f u ob ids as l j K o->xq P f u ob ids as l j g o:=λ {ob ids as l j o} h=>by
  cases o with
  | none=>exact h
  | some po=>obtain ⟨r,o,d,c,e,n,m⟩:=h; exact ⟨r,o,d,c,e,n,k _ _ m⟩
 rcases a with _ | ⟨as,_ | ⟨i,l⟩⟩
 ·exact b h
 ·exact b h
 exact h.imp b (Or.imp b (Or.imp b (Or.imp (λ ⟨id,v,z,xs,d,c,e⟩=>⟨id,v,z,xs,d,c,λ ex=>b (e ex)⟩) λ ⟨id,v,sz,z,xs,d,c,e⟩=>⟨id,v,sz,z,xs,d,c,b e⟩)))
theorem ait:∀{rs:List PR} {K j:St->Prop} {s:St},(∀s,K s->j s)->wpR P rs K s->wpR P rs j s
 | [],K,j,s,hK,h=>hK s h
 | r::rs,K,j,s,hK,h=>by
   have i:∀s,wpR P rs K s->wpR P rs j s:=λ s=>ait hK;simp only [wpR] at h |-;generalize yes s.e r.g=y at h |-;cases y with
   | none=>exact h
   | some b=>
     simp only [PR.wp] at h |-;rcases r with ⟨d,g,u,x⟩
     cases x with
     | see o=>exact ⟨h.1,i _ h.2⟩
     | act o=>exact ⟨λ c=>⟨(h.1 c).1,i _ (h.1 c).2⟩,λ c=>i _ (h.2 c)⟩
     | call f xs=>exact ⟨λ c=>⟨(h.1 c).1,ab4 (λ v o=>i _) (h.1 c).2⟩,λ c=>i _ (h.2 c)⟩
     | callv x xs=>
       refine ⟨λ c=>⟨(h.1 c).1,(h.1 c).2.1,?_⟩,λ c=>i _ (h.2 c)⟩;have a:=(h.1 c).2.2;simp only at a |-;generalize (x.ev s.e).bare=y at a |-;cases y with
       | fn f cap=>cases f with
         | func f=>exact ⟨a.1,ab4 (λ v o=>i _) a.2⟩
         | _=>exact a
       | _=>exact a
     | inv tbl x xs=>
       refine ⟨λ c=>⟨(h.1 c).1,(h.1 c).2.1,?_⟩,λ c=>i _ (h.2 c)⟩;have a:=(h.1 c).2.2;simp only at a |-;generalize (x.ev s.e).bare=y at a |-;cases y with
       | ifc t y=>
         simp only [ad9] at a |-;generalize bf t tbl=q at a |-;cases q with
         | some f=>exact ab4 (λ v o=>i _) a
         | none=>exact a
       | _=>exact a
     | nxt x=>
       refine ⟨λ c=>⟨(h.1 c).1,?_⟩,λ c=>i _ (h.2 c)⟩;have a:=(h.1 c).2;simp only at a |-;unfold ajj at a |-;split at a
       ·unfold am4 at a |-;split at a
        ·unfold aru at a |-;split at a
         ·exact ⟨a.1,a.2.1,λ q=>i _ (a.2.2.1 q),λ q k=>i _ (a.2.2.2 q k)⟩
         exact a
        exact a
       exact a
theorem aiu:∀{rs:List PR} {a:List Lg} {K b:List Lg->St->Prop} {s:St},(∀l s,K l s->b l s)->wpD P rs a s K->wpD P rs a s b
 | [],a,K,b,s,hK,h=>hK a s h
 | r::rs,a,K,b,s,hK,h=>by
   obtain ⟨c,e,d⟩:=h;exact ⟨c,e,aiu hK d⟩
theorem ay2 {np:Nat}:∀{pc:PC} {K e:Ex->St->Prop} {s:St},(∀x s,K x s->e x s)->W P np pc K s->W P np pc e s:=by
 intro pc
 induction pc with
 | skip=>intro K e s d h; exact d _ _ h
 | reg rs=>intro K e s d h; exact ait (d .nor) h
 | seq a b iha ihb=>
   intro K e s d h;refine iha (λ x s h=>?_) h;cases x with
   | nor=>exact ihb d h
   | _=>exact d _ _ h
 | cond x a b iha ihb=>
   intro K e s d h;unfold W at h |-;split at h
   ·exact ⟨λ q=>iha d (h.1 q),λ q=>ihb d (h.2 q)⟩
   exact h.elim
 | block id c ih=>
   intro K e s d h;refine ih (λ x s h=>?_) h;cases x with
   | ex i=>
     simp only at h |-;split
     ·rename_i f; rw [if_pos f] at h; exact d _ _ h
     rename_i f; rw [if_neg f] at h; exact d _ _ h
   | _=>exact d _ _ h
 | loop c ih=>
   intro K e s d h;obtain ⟨live,I,m,n,k,o⟩:=h;refine ⟨live,I,m,n,k,λ vs pos g j=>ih (λ x s h=>?_) (o vs pos g j)⟩;cases x with
   | nor=>exact h
   | _=>exact d _ _ h
 | exit i=>intro K e s d h; exact d _ _ h
 | ret=>intro K e s d h; exact d _ _ h
 | drw rs pre=>intro K e s d h; exact aiu (λ l s h=>⟨h.1,d _ _ h.2⟩) h
end
mutual
def run (P:Program) (np:Nat) (Q:Ex->St->Prop):List Item->St->Prop
 | [],s=>Q .nor s
 | .c c::is,s=>W P np c (λ x s=>match x with | .nor=>run P np Q is s | x=>unw P np Q is x s) s
 | .blk _::is,s=>run P np Q is s
 | .lp live D::_,s=>ve np live s D
 | .cut S::_,s=>S s.e s.ob
def unw (P:Program) (np:Nat) (Q:Ex->St->Prop):List Item->Ex->St->Prop
 | [],x,s=>Q x s
 | .blk id::is,.ex i,s=>if i=id then run P np Q is s else unw P np Q is (.ex i) s
 | _::is,x,s=>unw P np Q is x s
end
def z0 (P:Program) (np:Nat) (Q:Ex->St->Prop) (rs:List PR) (a:List Item) (e:Env) (ob:Obs):Prop:=wpR P rs (run P np Q a) ⟨e,ob⟩
def stp (P:Program) (np:Nat) (Q:Ex->St->Prop) (d:Option Nat) (g:Option (Nat×Bool)) (u:Nat) (x:PX) (rs:List PR) (a:List Item) (e:Env) (ob:Obs):Option Bool->Prop
 | some b=>x.wp P ⟨d,g,u,x⟩ ⟨e,ob⟩ (wpR P rs (run P np Q a)) b
 | none=>False
def awu (P:Program) (np:Nat) (Q:Ex->St->Prop) (d:Option Nat) (g:Option (Nat×Bool)) (b:Bool) (rs:List PR) (a:List Item) (e:Env) (R:Rs) (ob:Obs):Prop:=
 R.ok/\z0 P np Q rs a (m6 d (gdv g b R.v) e) ob
def akn (P:Program) (np:Nat) (Q:Ex->St->Prop) (d:Option Nat) (rs:List PR) (a:List Item) (e:Env) (R:Rs):Prop:=
 R.ok/\z0 P np Q rs a (m6 d R.v e) R.ob
def cnd (P:Program) (np:Nat) (Q:Ex->St->Prop) (x:AV) (a b:PC) (d:List Item) (s:St):Prop:=match x with
 | .r (.v (.bool c))=>Shut ((c=true->run P np Q (.c a::d) s)/\(c=false->run P np Q (.c b::d) s))
 | _=>False
def xm (P:Program) (np:Nat) (Q:Ex->St->Prop) (f:FuncId) (u:Nat) (d:Option Nat) (rs:List PR) (a:List Item) (e:Env) (ob:Obs) (vs:List AV):Option (List AV×List Nat)->Prop:=
 zn P f u ob (λ v ob=>z0 P np Q rs a (m6 d v e) ob) vs
def ag2 (P:Program) (np:Nat) (Q:Ex->St->Prop) (f:FuncId) (u:Nat) (d:Option Nat) (rs:List PR) (b:List Item) (e:Env) (ob:Obs) (as:List AV) (l:List Nat) (a:Bool) (ids:List Nat):Prop:=
 xq P f u ob ids (imL (fwd ob ids) as) l a (λ v ob=>z0 P np Q rs b (m6 d v e) ob) (q8 (fwd ob ids) ob ids)
def anv (P:Program) (np:Nat) (Q:Ex->St->Prop) (f:FuncId) (u:Nat) (d:Option Nat) (rs:List PR) (b:List Item) (e:Env) (ob:Obs) (as:List AV) (l:List Nat) (a:Bool) (ids:List Nat):Option (List Ob)->Prop:=
 xq P f u ob ids as l a (λ v ob=>z0 P np Q rs b (m6 d v e) ob)
def ag0 (P:Program) (np:Nat) (Q:Ex->St->Prop) (f:FuncId) (u:Nat) (d:Option Nat) (rs:List PR) (b:List Item) (e:Env) (ob:Obs) (as:List AV) (l:List Nat) (a:Bool) (ids:List Nat) (po:List Ob):Prop:=
 anv P np Q f u d rs b e ob as l a ids (some po)
def aft (P:Program) (np:Nat) (Q:Ex->St->Prop) (u:Nat) (d:Option Nat) (rs:List PR) (a:List Item) (e:Env) (ob:Obs) (ids:List Nat) (res:AV) (ro:List Ob):Prop:=
 z0 P np Q rs a (m6 d (imV (back ob u ids ro.length) res) e) (am ob u ids (back ob u ids ro.length) 0 ro)
def anu (P:Program) (np:Nat) (Q:Ex->St->Prop) (u:Nat) (d:Option Nat) (rs:List PR) (a:List Item) (e:Env) (ob:Obs) (vs:List AV) (x:AV):Prop:=
 an4 P u ob vs (λ v ob=>z0 P np Q rs a (m6 d v e) ob) x
def ag1 (P:Program) (np:Nat) (Q:Ex->St->Prop) (tbl:List (TypeId×FuncId)) (u:Nat) (d:Option Nat) (rs:List PR) (a:List Item) (e:Env) (ob:Obs) (vs:List AV) (x:AV):Prop:=
 ad9 P tbl u ob vs (λ v ob=>z0 P np Q rs a (m6 d v e) ob) x
def aqo (P:Program) (np:Nat) (Q:Ex->St->Prop) (u:Nat) (d:Option Nat) (rs:List PR) (a:List Item) (e:Env) (ob:Obs) (vs:List AV) (x:AV):Option FuncId->Prop
 | some f=>xm P np Q f u d rs a e ob (x::vs) (l8 ob (x::vs))
 | none=>False
def art (P:Program) (np:Nat) (Q:Ex->St->Prop) (d:Option Nat) (rs:List PR) (a:List Item) (e:Env) (ob:Obs) (x:AV):Prop:=ajj ob (λ v ob=>z0 P np Q rs a (m6 d v e) ob) x
def axm (P:Program) (np:Nat) (Q:Ex->St->Prop) (d:Option Nat) (rs:List PR) (a:List Item) (e:Env) (ob:Obs) (id ver:Nat) (x:Option (AV×Nat×List Nat×Nat)):Prop:=am4 id ver ob (λ v ob=>z0 P np Q rs a (m6 d v e) ob) x
def axl (P:Program) (np:Nat) (Q:Ex->St->Prop) (d:Option Nat) (rs:List PR) (c:List Item) (e:Env) (ob:Obs) (id ver:Nat) (m:AV) (a:Nat) (b:List Nat) (f:Nat) (x:Option (List MapEntry×Nat)):Prop:=
 aru id ver ob m a b f (λ v ob=>z0 P np Q rs c (m6 d v e) ob) x
variable {d:Option Nat}
theorem aji {P:Program} {np:Nat} {Q:Ex->St->Prop} {rs:List PR} {g:List Item} {e:Env} {ob:Obs} {id ver:Nat} {m:AV} {a h c:Nat} {b:List Nat} {es:List MapEntry} (j:∀e,e∈es->e.born<a) (i:a<=h)
 (k:ao es b=[]->z0 P np Q rs g (m6 d (.tup [bl false]) e) ob)
 (l:∀f,f∈ao es b->z0 P np Q rs g (m6 d (.tup [bl true,.r (gm f.key),.r (gm f.val)]) e) (upd id (ver,.iter m a (b++[f.born]) c) ob)):axl P np Q d rs g e ob id ver m a b h (some (es,c)):=
 ⟨j,i,k,l⟩
section
variable (P:Program) (np:Nat) (Q:Ex->St->Prop) (is:List Item) (s:St) (e:Env) (ob:Obs)
theorem mt (d:Option Nat) (g:Option (Nat×Bool)) (u:Nat) (tbl:List (TypeId×FuncId)) (x:Opd) (xs:List Opd) (rs:List PR):stp P np Q d g u (.inv tbl x xs) rs is e ob (some true)=((x.ev e).may true/\ae true e xs/\ag1 P np Q tbl u d rs is e ob (k7 e xs) (x.ev e).bare):=by
 simp [stp,PX.wp,ag1,z0]
theorem cj (d:Option Nat) (g:Option (Nat×Bool)) (u:Nat) (tbl:List (TypeId×FuncId)) (x:Opd) (xs:List Opd) (rs:List PR):stp P np Q d g u (.inv tbl x xs) rs is e ob (some false)=z0 P np Q rs is (m6 d .undef e) ob:=by
 simp [stp,PX.wp,z0]
theorem db (u:Nat) (d:Option Nat) (rs:List PR) (tbl:List (TypeId×FuncId)) (vs:List AV) (t:TypeId) (x:AV):ag1 P np Q tbl u d rs is e ob vs (.ifc t x)=aqo P np Q u d rs is e ob vs x (bf t tbl):=by
 simp only [ag1,ad9];generalize bf t tbl=q;cases q<;>rfl
theorem br (u:Nat) (d:Option Nat) (rs:List PR) (vs:List AV) (x:AV) (f:FuncId):aqo P np Q u d rs is e ob vs x (some f)=xm P np Q f u d rs is e ob (x::vs) (l8 ob (x::vs)):=(rfl)
theorem mr (d:Option Nat) (g:Option (Nat×Bool)) (u:Nat) (x:Opd) (rs:List PR):stp P np Q d g u (.nxt x) rs is e ob (some true)=((x.ev e).may true/\art P np Q d rs is e ob (x.ev e).bare):=by
 simp [stp,PX.wp,art,z0]
theorem iy (d:Option Nat) (rs:List PR) (id ver:Nat):art P np Q d rs is e ob (.ptr id ver 0)=axm P np Q d rs is e ob id ver (aq ob id ver):=(rfl)
theorem fh (d:Option Nat) (rs:List PR) (id ver f a b g:Nat) (c:List Nat):axm P np Q d rs is e ob id ver (some (.mp f a,b,c,g))=axl P np Q d rs is e ob id ver (.mp f a) b c g (n7 ob f a):=(rfl)
theorem ek (d:Option Nat) (g:Option (Nat×Bool)) (u:Nat) (x:Opd) (xs:List Opd) (rs:List PR):stp P np Q d g u (.callv x xs) rs is e ob (some true)=((x.ev e).may true/\ae true e xs/\anu P np Q u d rs is e ob (k7 e xs) (x.ev e).bare):=by
 simp [stp,PX.wp,anu,z0]
theorem jm (u:Nat) (d:Option Nat) (rs:List PR) (vs:List AV) (f:FuncId) (cap:List AV) (k:Nat):anu P np Q u d rs is e ob vs (.fn (.func f) cap k)=(yj P f=true/\xm P np Q f u d rs is e ob (cap.take k++(vs++cap.drop k)) (l8 ob (cap.take k++(vs++cap.drop k)))):=(rfl)
theorem ak (d:Option Nat) (g:Option (Nat×Bool)) (u:Nat) (x:Opd) (xs:List Opd) (rs:List PR):stp P np Q d g u (.callv x xs) rs is e ob (some false)=z0 P np Q rs is (m6 d .undef e) ob:=by
 simp [stp,PX.wp,z0]
theorem nc:run P np Q [] s=Q .nor s:=by unfold run; rfl
theorem ip:run P np Q (.c .skip::is) s=run P np Q is s:=by rw [run]; rfl
theorem my (a b:PC):run P np Q (.c (.seq a b)::is) s=run P np Q (.c a :: .c b::is) s:=by
 rw [run,W,run];congr 1;funext x s;cases x<;>simp only [run,unw]
theorem na (a:List PR):run P np Q (.c (.reg a)::is) ⟨e,ob⟩=z0 P np Q a is e ob:=by rw [run]; rfl
theorem iv:z0 P np Q [] is e ob=run P np Q is ⟨e,ob⟩:=(rfl)
theorem et (d:Option Nat) (g:Option (Nat×Bool)) (u:Nat) (x:PX) (rs:List PR):z0 P np Q (⟨d,g,u,x⟩::rs) is e ob=stp P np Q d g u x rs is e ob (yes e g):=by
 show PR.wp P ⟨d,g,u,x⟩ ⟨e,ob⟩ (wpR P rs (run P np Q is)) (yes e g) = _;generalize yes e g=y;cases y<;>rfl
theorem mq (d:Option Nat) (g:Option (Nat×Bool)) (u:Nat) (o:PO) (rs:List PR) (b:Bool):stp P np Q d g u (.see o) rs is e ob (some b)=awu P np Q d g b rs is e (o.see b e ob) ob:=(rfl)
theorem mw (d:Option Nat) (g:Option (Nat×Bool)) (b:Bool) (rs:List PR) (p:Prop) (v:AV) (ob':Obs) (rd a:List Nat):awu P np Q d g b rs is e ⟨p,v,ob',rd,a⟩ ob=(p/\z0 P np Q rs is (m6 d (gdv g b v) e) ob):=(rfl)
theorem mu (d:Option Nat) (g:Option (Nat×Bool)) (u:Nat) (o:PO) (rs:List PR):stp P np Q d g u (.act o) rs is e ob (some true)=akn P np Q d rs is e (o.act (d.getD 0) e ob):=by
 simp [stp,PX.wp,akn,z0]
theorem ck (d:Option Nat) (g:Option (Nat×Bool)) (u:Nat) (o:PO) (rs:List PR):stp P np Q d g u (.act o) rs is e ob (some false)=z0 P np Q rs is (m6 d .undef e) ob:=by
 simp [stp,PX.wp,akn,z0]
theorem bn (d:Option Nat) (g:Option (Nat×Bool)) (u:Nat) (f:FuncId) (xs:List Opd) (rs:List PR):stp P np Q d g u (.call f xs) rs is e ob (some false)=z0 P np Q rs is (m6 d .undef e) ob:=by
 simp [stp,PX.wp,akn,z0]
theorem oh (d:Option Nat) (rs:List PR) (p:Prop) (v:AV) (ob':Obs) (rd a:List Nat):akn P np Q d rs is e ⟨p,v,ob',rd,a⟩=(p/\z0 P np Q rs is (m6 d v e) ob'):=(rfl)
theorem io (d:Option Nat) (g:Option (Nat×Bool)) (u:Nat) (f:FuncId) (xs:List Opd) (rs:List PR):stp P np Q d g u (.call f xs) rs is e ob (some true)=(ae true e xs/\xm P np Q f u d rs is e ob (k7 e xs) (l8 ob (k7 e xs))):=by
 simp [stp,PX.wp,xm,z0]
theorem dh (f:FuncId) (u:Nat) (d:Option Nat) (rs:List PR) (vs as:List AV):xm P np Q f u d rs is e ob vs (some (as,[]))=ag2 P np Q f u d rs is e ob as [] true (n9 ob 64 (l5 as) []):=(rfl)
theorem anw {P:Program} {np:Nat} {Q:Ex->St->Prop} {a:List Item} {e:Env} {ob:Obs} {f:FuncId} {u:Nat} {rs:List PR} {vs as:List AV} {l:List Nat} (h:ag2 P np Q f u d rs a e ob as (i::l) false (n9 ob 64 (l5 as) [])):xm P np Q f u d rs a e ob vs (some (as,i::l)):=Or.inr (Or.inl h)
theorem fv (f:FuncId) (u:Nat) (d:Option Nat) (rs:List PR) (vs:List AV):xm P np Q f u d rs is e ob vs none=ag2 P np Q f u d rs is e ob vs [] true (n9 ob 64 (l5 vs) []):=(rfl)
theorem aqp {P:Program} {np:Nat} {Q:Ex->St->Prop} {c:List Item} {e:Env} {ob:Obs} {f:FuncId} {u:Nat} {rs:List PR} {vs as:List AV} {l:List Nat} (id v:Nat) (z:RV) (xs:List Value) (a:ob id=some (v,.row 1 z true true (xs.map RV.v))) (b:xs≠[])
 (h:∀m,ag2 P np Q f u d rs c e (upd id (v,.box (xs.map (λ x=>AV.r (.v x))++List.replicate m .undef)) ob) vs [] true (n9 (upd id (v,.box (xs.map (λ x=>AV.r (.v x))++List.replicate m .undef)) ob) 64 (l5 vs) [])):xm P np Q f u d rs c e ob vs (some (as,i::l)):=Or.inr (Or.inr (Or.inr (Or.inl ⟨id,v,z,xs,a,b,h⟩)))
theorem jo (f:FuncId) (u:Nat) (d:Option Nat) (rs:List PR) (as:List AV) (l:List Nat) (a:Bool) (ids:List Nat):ag2 P np Q f u d rs is e ob as l a ids=anv P np Q f u d rs is e ob (imL (fwd ob ids) as) l a ids (q8 (fwd ob ids) ob ids):=(rfl)
theorem de (f:FuncId) (u:Nat) (d:Option Nat) (rs:List PR) (as:List AV) (l:List Nat) (a:Bool) (ids:List Nat) (po:List Ob):anv P np Q f u d rs is e ob as l a ids (some po)=ag0 P np Q f u d rs is e ob as l a ids po:=(rfl)
theorem a6 {P:Program} {np:Nat} {Q:Ex->St->Prop} {a:List Item} {e:Env} {ob:Obs} {f:FuncId} {u:Nat} {rs:List PR} {as:List AV} {l:List Nat} {ids:List Nat} {po:List Ob} {res:AV} {ro:List Ob}
 (h:a9 P f as po res ro) (c:okC u ids ro.length l true=true) (b:d7 po ro) (g:aft P np Q u d rs a e ob ids res ro):ag0 P np Q f u d rs a e ob as l true ids po:=
 ⟨res,ro,h,c,b,(λ h=>by cases h),g⟩
theorem b9 {P:Program} {np:Nat} {Q:Ex->St->Prop} {b:List Item} {e:Env} {ob:Obs} {f:FuncId} {u:Nat} {rs:List PR} {as as':List AV} {l:List Nat} {a:Bool} {ids:List Nat} {po:List Ob} (has:as=as') (h:ag0 P np Q f u d rs b e ob as' l a ids po):ag0 P np Q f u d rs b e ob as l a ids po:=has▸h
theorem aql {P:Program} {np:Nat} {Q:Ex->St->Prop} {a:List Item} {e:Env} {ob:Obs} {f:FuncId} {u:Nat} {rs:List PR} {as:List AV} {l:List Nat} {ids:List Nat} {po:List Ob} {res:AV} {ro:List Ob}
 (h:a9 P f as po res ro) (c:okC u ids ro.length l false=true) (b:d7 po ro) (j:x8 res) (i:∀o∈ro,lh o) (g:aft P np Q u d rs a e ob ids res ro):ag0 P np Q f u d rs a e ob as l false ids po:=
 ⟨res,ro,h,c,b,λ _=>⟨j,i⟩,g⟩
theorem ss (u:Nat) (d:Option Nat) (rs:List PR) (ids:List Nat) (res:AV) (ro:List Ob):aft P np Q u d rs is e ob ids res ro=z0 P np Q rs is (m6 d (imV (back ob u ids ro.length) res) e) (am ob u ids (back ob u ids ro.length) 0 ro):=(rfl)
theorem iu (x:Opd) (a b:PC):run P np Q (.c (.cond x a b)::is) ⟨e,ob⟩=cnd P np Q (x.ev e) a b is ⟨e,ob⟩:=by
 rw [run,W]; unfold cnd; split
 ·simp only [*,run]; exact propext ⟨λ h=>⟨h⟩,λ h=>h.out⟩
 simp [*]
theorem jl (a b:PC):cnd P np Q (.r (.v (.bool true))) a b is s=run P np Q (.c a::is) s:=propext ⟨λ h=>h.out.1 rfl,λ h=>⟨λ _=>h,λ h=>by cases h⟩⟩
theorem fu (a b:PC):cnd P np Q (.r (.v (.bool false))) a b is s=run P np Q (.c b::is) s:=propext ⟨λ h=>h.out.2 rfl,λ h=>⟨(λ h=>by cases h),λ _=>h⟩⟩
theorem c7 {P:Program} {np:Nat} {Q:Ex->St->Prop} {d:List Item} {s:St} {c:Bool} {a b:PC} (f:c=true->run P np Q (.c a::d) s) (e:c=false->run P np Q (.c b::d) s):cnd P np Q (.r (.v (.bool c))) a b d s:=⟨⟨f,e⟩⟩
theorem er (id:Nat) (c:PC):run P np Q (.c (.block id c)::is) s=run P np Q (.c c :: .blk id::is) s:=by
 rw [run,W,run];congr 1;funext x s;cases x with
 | nor=>simp only [run]
 | ex i=>simp only [unw]
 | rt=>simp [unw]
theorem ir (i:Nat):run P np Q (.c (.exit i)::is) s=unw P np Q is (.ex i) s:=by rw [run]; rfl
theorem mz:run P np Q (.c .ret::is) s=unw P np Q is .rt s:=by rw [run]; rfl
theorem nh (i:Nat):run P np Q (.blk i::is) s=run P np Q is s:=by rw [run]
theorem rb (l:List (Nat×Bool)) (D:List AV->List Ob->List Ob->Prop):run P np Q (.lp l D::is) s=ve np l s D:=by rw [run]
theorem ml (x:Ex):unw P np Q [] x s=Q x s:=by unfold unw; rfl
theorem mo (i j:Nat):unw P np Q (.blk j::is) (.ex i) s=if i=j then run P np Q is s else unw P np Q is (.ex i) s:=by rw [unw]
theorem ci (j:Nat):unw P np Q (.blk j::is) .rt s=unw P np Q is .rt s:=by simp [unw]
theorem wz (c:PC) (x:Ex):unw P np Q (.c c::is) x s=unw P np Q is x s:=by cases x<;>simp [unw]
theorem qz (l:List (Nat×Bool)) (D:List AV->List Ob->List Ob->Prop) (x:Ex):unw P np Q (.lp l D::is) x s=unw P np Q is x s:=by cases x<;>simp [unw]
theorem ng (S:Env->Obs->Prop):run P np Q (.cut S::is) ⟨e,ob⟩=S e ob:=by rw [run]
theorem mn (S:Env->Obs->Prop) (x:Ex):unw P np Q (.cut S::is) x s=unw P np Q is x s:=by cases x<;>simp [unw]
theorem aby {P:Program} {np:Nat} {Q:Ex->St->Prop} {d:List Item} {s:St} {c:Bool} {a b:PC} (S:Env->Obs->Prop) (k:∀e ob,S e ob->run P np Q d ⟨e,ob⟩)
 (j:c=true->run P np Q (.c a :: .cut S::d) s) (g:c=false->run P np Q (.c b :: .cut S::d) s):cnd P np Q (.r (.v (.bool c))) a b d s:=by
 have f:∀a,run P np Q (.c a :: .cut S::d) s->run P np Q (.c a::d) s:=λ a h=>by
  rw [run] at h |-;refine ay2 (λ x s h=>?_) h;cases x with
  | nor=>simp only [run] at h; exact k _ _ h
  | ex i=>simp only [unw] at h; exact h
  | rt=>simp only [unw] at h; exact h
 exact ⟨⟨λ h=>f a (j h),λ h=>f b (g h)⟩⟩
theorem d3 {P:Program} {np:Nat} {Q:Ex->St->Prop} {g:List Item} {s:St} {c:PC} (live:List (Nat×Bool)) (I:List AV->List Ob->List Ob->Prop) (m:List AV->List Ob->List Ob->Nat) (k:(live.all λ p=>decide (p.1<100000))=true) (j:ve np live s I)
 (h:∀vs pos a,I vs pos a->run P np Q (.c c :: .lp live (λ f b d=>I f b d/\m f b d<m vs pos a)::g) (aey live vs pos a)):run P np Q (.c (.loop c)::g) s:=by
 rw [run,W];refine ⟨live,I,m,k,j,λ vs pos a i=>?_⟩;have:=h vs pos a i;rw [run] at this;refine cast (congrArg (λ K=>W P np c K (aey live vs pos a)) ?_) this;funext x e;cases x<;>simp only [run,unw]
theorem ako {P:Program} {np:Nat} {Q:Ex->St->Prop} {s:St} {c:PC} (h:run P np Q [.c c] s):W P np c Q s:=by
 rw [run] at h;refine cast (congrArg (λ K=>W P np c K s) ?_) h;funext x e;cases x<;>simp only [run,unw]
theorem oi (rs:List RSl) (D:AV->List Ob->Prop) (e:Env) (ob:Obs):afm np rs D .rt ⟨e,ob⟩=opn np (rs.map λ p=>(p.1,p.2.1)) D rs e ob:=(rfl)
theorem jr (rs:List RSl) (D:AV->List Ob->Prop) (e:Env) (ob:Obs):afm np rs D .nor ⟨e,ob⟩=opn np (rs.map λ p=>(p.1,p.2.1)) D rs e ob:=(rfl)
theorem nn (a:List (Nat×Bool)) (D:AV->List Ob->Prop) (e:Env) (ob:Obs):opn np a D [] e ob=aj7 np a ⟨e,ob⟩ D:=(rfl)
theorem nl (c:List (Nat×Bool)) (D:AV->List Ob->Prop) (a:Nat) (b:Bool) (r:List RSl) (e:Env) (ob:Obs):opn np c D ((a,b,none)::r) e ob=opn np c D r e ob:=(rfl)
def opf (np:Nat) (b:List (Nat×Bool)) (D:AV->List Ob->Prop) (a:Nat) (r:List RSl) (e:Env) (ob:Obs) (R:Rs):Prop:=R.ok/\opn np b D r (put a R.v e) ob
theorem ix (c:List (Nat×Bool)) (D:AV->List Ob->Prop) (a:Nat) (b:Bool) (t:TypeId) (n:Option Nat) (r:List RSl) (e:Env) (ob:Obs):opn np c D ((a,b,some (t,n))::r) e ob=opf np c D a r e ob (ld1 true n (e a) ob):=(rfl)
theorem rl (b:List (Nat×Bool)) (D:AV->List Ob->Prop) (a:Nat) (r:List RSl) (e:Env) (ob:Obs) (p:Prop) (v:AV) (ob':Obs) (rd c:List Nat):opf np b D a r e ob ⟨p,v,ob',rd,c⟩=(p/\opn np b D r (put a v e) ob):=(rfl)
end
def uc (P:Program) (np:Nat) (Q:Ex->St->Prop) (b:List (List Nat)) (rs:List PR) (a:List Lg) (c:List Item) (e:Env) (ob:Obs):Prop:=wpD P rs a ⟨e,ob⟩ λ a s=>mc b a=true/\run P np Q c s
def zy (P:Program) (np:Nat) (Q:Ex->St->Prop) (b:List (List Nat)) (d:Option Nat) (g:Option (Nat×Bool)) (u:Nat) (x:PX) (rs:List PR) (a:List Lg) (f:List Item) (e:Env) (ob:Obs) (y:Option Bool):Prop:=
 ∃c:Ans,(x.out P ⟨d,g,u,x⟩ ⟨e,ob⟩ c y).ok/\wpD P rs (a++[(x.out P ⟨d,g,u,x⟩ ⟨e,ob⟩ c y).lg]) (x.out P ⟨d,g,u,x⟩ ⟨e,ob⟩ c y).st λ a s=>mc b a=true/\run P np Q f s
def ayf (P:Program) (np:Nat) (Q:Ex->St->Prop) (c:List (List Nat)) (r:PR) (b:Bool) (rs:List PR) (a:List Lg) (f:List Item) (e:Env) (ob:Obs) (R:Rs):Prop:=
 R.ok/\uc P np Q c rs (a++[r.lg R.rd []]) f (m6 r.d (gdv r.g b R.v) e) ob
def ath (P:Program) (np:Nat) (Q:Ex->St->Prop) (b:List (List Nat)) (r:PR) (rs:List PR) (a:List Lg) (c:List Item) (e:Env) (R:Rs):Prop:=
 R.ok/\uc P np Q b rs (a++[r.lg R.rd R.wr]) c (m6 r.d R.v e) R.ob
def dcA (P:Program) (np:Nat) (Q:Ex->St->Prop) (d:List (List Nat)) (r:PR) (f:FuncId) (p:Prop) (rs:List PR) (b:List Lg) (g:List Item) (e:Env) (ob:Obs) (a:List AV×List Nat×Bool):Prop:=
 ∃c:Ans,(x7 P r ⟨e,ob⟩ f p c a).ok/\wpD P rs (b++[(x7 P r ⟨e,ob⟩ f p c a).lg]) (x7 P r ⟨e,ob⟩ f p c a).st λ b s=>mc d b=true/\run P np Q g s
def dcX (P:Program) (np:Nat) (Q:Ex->St->Prop) (b:List (List Nat)) (r:PR) (p:Prop) (rs:List PR) (a:List Lg) (d:List Item) (e:Env) (ob:Obs) (vs:List AV) (y:AV):Prop:=
 ∃c:Ans,(sn P r ⟨e,ob⟩ p c vs y).ok/\wpD P rs (a++[(sn P r ⟨e,ob⟩ p c vs y).lg]) (sn P r ⟨e,ob⟩ p c vs y).st λ a s=>mc b a=true/\run P np Q d s
def dcI (P:Program) (np:Nat) (Q:Ex->St->Prop) (b:List (List Nat)) (r:PR) (tbl:List (TypeId×FuncId)) (p:Prop) (rs:List PR) (a:List Lg) (d:List Item) (e:Env) (ob:Obs) (vs:List AV) (y:AV):Prop:=
 ∃c:Ans,(od P r ⟨e,ob⟩ tbl p c vs y).ok/\wpD P rs (a++[(od P r ⟨e,ob⟩ tbl p c vs y).lg]) (od P r ⟨e,ob⟩ tbl p c vs y).st λ a s=>mc b a=true/\run P np Q d s
def ayk (P:Program) (np:Nat) (Q:Ex->St->Prop) (b:List (List Nat)) (r:PR) (p:Prop) (rs:List PR) (a:List Lg) (c:List Item) (e:Env) (ob:Obs) (vs:List AV) (y:AV):Option FuncId->Prop
 | some f=>dcA P np Q b r f p rs a c e ob (af (y::vs) (l8 ob (y::vs)))
 | none=>False
def dcB (P:Program) (np:Nat) (Q:Ex->St->Prop) (d:List (List Nat)) (r:PR) (f:FuncId) (p:Prop) (rs:List PR) (a:List Lg) (g:List Item) (e:Env) (ob:Obs) (as:List AV) (l:List Nat) (b:Bool) (ids:List Nat):Prop:=
 ∃c:Ans,(aa2 P r ⟨e,ob⟩ f p c as l b ids (q8 (fwd ob ids) ob ids)).ok/\wpD P rs (a++[(aa2 P r ⟨e,ob⟩ f p c as l b ids (q8 (fwd ob ids) ob ids)).lg]) (aa2 P r ⟨e,ob⟩ f p c as l b ids (q8 (fwd ob ids) ob ids)).st λ a s=>mc d a=true/\run P np Q g s
def asq (P:Program) (np:Nat) (Q:Ex->St->Prop) (b:List (List Nat)) (r:PR) (rs:List PR) (a:List Lg) (c:List Item) (e:Env) (ob:Obs) (l:List Nat) (ids:List Nat) (res:AV) (ro:List Ob):Prop:=
 uc P np Q b rs (a++[r.lg (l++(ids++be r.u ids ro.length)) (be r.u ids ro.length)]) c (m6 r.d (imV (back ob r.u ids ro.length) res) e) (am ob r.u ids (back ob r.u ids ro.length) 0 ro)
def dcP (P:Program) (np:Nat) (Q:Ex->St->Prop) (b:List (List Nat)) (r:PR) (f:FuncId) (rs:List PR) (a:List Lg) (d:List Item) (e:Env) (ob:Obs) (as:List AV) (l:List Nat) (c:Bool) (ids:List Nat) (po:List Ob):Prop:=
 ∃(res:AV) (ro:List Ob),a9 P f as po res ro/\okC r.u ids ro.length l c=true/\d7 po ro/\(c=false->x8 res/\∀o∈ro,lh o)/\asq P np Q b r rs a d e ob l ids res ro
def dcC (P:Program) (np:Nat) (Q:Ex->St->Prop) (b:List (List Nat)) (r:PR) (f:FuncId) (p:Prop) (rs:List PR) (a:List Lg) (d:List Item) (e:Env) (ob:Obs) (as:List AV) (l:List Nat) (c:Bool) (ids:List Nat):Option (List Ob)->Prop
 | some po=>p/\dcP P np Q b r f rs a d e ob as l c ids po
 | none=>False
section
variable (P:Program) (np:Nat) (Q:Ex->St->Prop) (pre:List (List Nat)) (log:List Lg) (is:List Item) (e:Env) (ob:Obs) (rs:List PR)
theorem nf (a:List PR):run P np Q (.c (.drw a pre)::is) ⟨e,ob⟩=uc P np Q pre a [] is e ob:=by rw [run]; rfl
theorem iw:uc P np Q pre [] log is e ob=(mc pre log=true/\run P np Q is ⟨e,ob⟩):=(rfl)
theorem eu (d:Option Nat) (g:Option (Nat×Bool)) (u:Nat) (x:PX):uc P np Q pre (⟨d,g,u,x⟩::rs) log is e ob=zy P np Q pre d g u x rs log is e ob (yes e g):=(rfl)
theorem jd (d:Option Nat) (g:Option (Nat×Bool)) (u:Nat) (o:PO) (b:Bool):zy P np Q pre d g u (.see o) rs log is e ob (some b)=ayf P np Q pre ⟨d,g,u,.see o⟩ b rs log is e ob (o.see b e ob):=propext ⟨λ ⟨_,h⟩=>h,λ h=>⟨(.undef,[]),h⟩⟩
theorem ny (r:PR) (b:Bool) (p:Prop) (v:AV) (ob':Obs) (rd a:List Nat):ayf P np Q pre r b rs log is e ob ⟨p,v,ob',rd,a⟩=(p/\uc P np Q pre rs (log++[r.lg rd []]) is (m6 r.d (gdv r.g b v) e) ob):=(rfl)
theorem jf (d:Option Nat) (g:Option (Nat×Bool)) (u:Nat) (o:PO):zy P np Q pre d g u (.act o) rs log is e ob (some true)=ath P np Q pre ⟨d,g,u,.act o⟩ rs log is e (o.act (d.getD 0) e ob):=propext ⟨λ ⟨_,h⟩=>h,λ h=>⟨(.undef,[]),h⟩⟩
theorem ji (r:PR) (p:Prop) (v:AV) (ob':Obs) (rd a:List Nat):ath P np Q pre r rs log is e ⟨p,v,ob',rd,a⟩=(p/\uc P np Q pre rs (log++[r.lg rd a]) is (m6 r.d v e) ob'):=(rfl)
theorem bq (d:Option Nat) (g:Option (Nat×Bool)) (u:Nat) (o:PO):zy P np Q pre d g u (.act o) rs log is e ob (some false)=uc P np Q pre rs (log++[PR.lg ⟨d,g,u,.act o⟩ [] []]) is (m6 d .undef e) ob:=propext ⟨λ ⟨_,_,h⟩=>h,λ h=>⟨(.undef,[]),trivial,h⟩⟩
theorem au (d:Option Nat) (g:Option (Nat×Bool)) (u:Nat) (f:FuncId) (xs:List Opd):zy P np Q pre d g u (.call f xs) rs log is e ob (some false)=uc P np Q pre rs (log++[PR.lg ⟨d,g,u,.call f xs⟩ [] []]) is (m6 d .undef e) ob:=propext ⟨λ ⟨_,_,h⟩=>h,λ h=>⟨(.undef,[]),trivial,h⟩⟩
theorem fp (d:Option Nat) (g:Option (Nat×Bool)) (u:Nat) (f:FuncId) (xs:List Opd):zy P np Q pre d g u (.call f xs) rs log is e ob (some true)=dcA P np Q pre ⟨d,g,u,.call f xs⟩ f (ae true e xs) rs log is e ob (af (k7 e xs) (l8 ob (k7 e xs))):=(rfl)
theorem cz (d:Option Nat) (g:Option (Nat×Bool)) (u:Nat) (x:Opd) (xs:List Opd):zy P np Q pre d g u (.callv x xs) rs log is e ob (some true)=dcX P np Q pre ⟨d,g,u,.callv x xs⟩ ((x.ev e).may true/\ae true e xs) rs log is e ob (k7 e xs) (x.ev e).bare:=(rfl)
theorem je (d:Option Nat) (g:Option (Nat×Bool)) (u:Nat) (tbl:List (TypeId×FuncId)) (x:Opd) (xs:List Opd):zy P np Q pre d g u (.inv tbl x xs) rs log is e ob (some true)=dcI P np Q pre ⟨d,g,u,.inv tbl x xs⟩ tbl ((x.ev e).may true/\ae true e xs) rs log is e ob (k7 e xs) (x.ev e).bare:=(rfl)
theorem nz (r:PR) (tbl:List (TypeId×FuncId)) (p:Prop) (vs:List AV) (t:TypeId) (y:AV):dcI P np Q pre r tbl p rs log is e ob vs (.ifc t y)=ayk P np Q pre r p rs log is e ob vs y (bf t tbl):=by
 unfold dcI;simp only [od];generalize bf t tbl=q;cases q with
 | some f=>rfl
 | none=>exact propext ⟨λ ⟨_,h,_⟩=>h.elim,λ h=>h.elim⟩
theorem ft (r:PR) (p:Prop) (vs:List AV) (y:AV) (f:FuncId):ayk P np Q pre r p rs log is e ob vs y (some f)=dcA P np Q pre r f p rs log is e ob (af (y::vs) (l8 ob (y::vs))):=(rfl)
theorem bp (d:Option Nat) (g:Option (Nat×Bool)) (u:Nat) (tbl:List (TypeId×FuncId)) (x:Opd) (xs:List Opd):zy P np Q pre d g u (.inv tbl x xs) rs log is e ob (some false)=uc P np Q pre rs (log++[PR.lg ⟨d,g,u,.inv tbl x xs⟩ [] []]) is (m6 d .undef e) ob:=propext ⟨λ ⟨_,_,h⟩=>h,λ h=>⟨(.undef,[]),trivial,h⟩⟩
theorem sh (r:PR) (p:Prop) (vs:List AV) (f:FuncId) (cap:List AV) (k:Nat):dcX P np Q pre r p rs log is e ob vs (.fn (.func f) cap k)=dcA P np Q pre r f (p/\yj P f=true) rs log is e ob (af (cap.take k++(vs++cap.drop k)) (l8 ob (cap.take k++(vs++cap.drop k)))):=(rfl)
theorem aa (d:Option Nat) (g:Option (Nat×Bool)) (u:Nat) (x:Opd) (xs:List Opd):zy P np Q pre d g u (.callv x xs) rs log is e ob (some false)=uc P np Q pre rs (log++[PR.lg ⟨d,g,u,.callv x xs⟩ [] []]) is (m6 d .undef e) ob:=propext ⟨λ ⟨_,_,h⟩=>h,λ h=>⟨(.undef,[]),trivial,h⟩⟩
theorem jh (r:PR) (f:FuncId) (p:Prop) (as:List AV) (l:List Nat) (a:Bool):dcA P np Q pre r f p rs log is e ob (as,l,a)=dcB P np Q pre r f p rs log is e ob as l a (n9 ob 64 (l5 as) []):=(rfl)
theorem si (r:PR) (f:FuncId) (p:Prop) (as:List AV) (l:List Nat) (k:Bool) (ids:List Nat):dcB P np Q pre r f p rs log is e ob as l k ids=dcC P np Q pre r f p rs log is e ob (imL (fwd ob ids) as) l k ids (q8 (fwd ob ids) ob ids):=by
 unfold dcB;generalize q8 (fwd ob ids) ob ids=po;cases po with
 | none=>exact propext ⟨λ ⟨_,h,_⟩=>h.elim,λ h=>h.elim⟩
 | some po=>exact propext ⟨λ ⟨c,⟨i,b,a,d,j⟩,g⟩=>⟨i,c.1,c.2,b,a,d,j,g⟩,λ ⟨i,r,o,b,a,d,j,g⟩=>⟨(r,o),⟨i,b,a,d,j⟩,g⟩⟩
theorem jg (r:PR) (f:FuncId) (p:Prop) (as:List AV) (l:List Nat) (a:Bool) (ids:List Nat) (po:List Ob):dcC P np Q pre r f p rs log is e ob as l a ids (some po)=(p/\dcP P np Q pre r f rs log is e ob as l a ids po):=(rfl)
theorem oe (r:PR) (l ids:List Nat) (res:AV) (ro:List Ob):asq P np Q pre r rs log is e ob l ids res ro=uc P np Q pre rs (log++[r.lg (l++(ids++be r.u ids ro.length)) (be r.u ids ro.length)]) is (m6 r.d (imV (back ob r.u ids ro.length) res) e) (am ob r.u ids (back ob r.u ids ro.length) 0 ro):=(rfl)
end
variable {l ids:List Nat} {po ro:List Ob} {res:AV} {as:List AV}
theorem g7 {P:Program} {np:Nat} {Q:Ex->St->Prop} {b:List (List Nat)} {r:PR} {f:FuncId} {rs:List PR} {a:List Lg} {c:List Item} {e:Env} {ob:Obs}
 (h:a9 P f as po res ro) (g:okC r.u ids ro.length l true=true) (d:d7 po ro) (i:asq P np Q b r rs a c e ob l ids res ro):dcP P np Q b r f rs a c e ob as l true ids po:=
 ⟨res,ro,h,g,d,(λ h=>by cases h),i⟩
theorem v7 {P:Program} {np:Nat} {Q:Ex->St->Prop} {b:List (List Nat)} {r:PR} {f:FuncId} {rs:List PR} {a:List Lg} {d:List Item} {e:Env} {ob:Obs} {as':List AV} {c:Bool} (has:as=as') (h:dcP P np Q b r f rs a d e ob as' l c ids po):dcP P np Q b r f rs a d e ob as l c ids po:=has▸h
theorem rc (d:Nat) (x:AV) (e:Env) (n:Nat):put d x e n=if n=d then x else e n:=(rfl)
theorem qy (i:Nat) (x:Nat×Ob) (ob:Obs) (n:Nat):upd i x ob n=if n=i then some x else ob n:=(rfl)
theorem fb (d:Nat) (x:AV) (e:Env):m6 (some d) x e=put d x e:=(rfl)
theorem fg (x:AV) (e:Env):m6 none x e=e:=(rfl)
theorem xn (e:Env) (n:Nat):(Opd.t n).ev e=e n:=(rfl)
theorem xo (e:Env) (x:AV):(Opd.c x).ev e=x:=(rfl)
theorem xj (b:Bool) (x:AV):gdv none b x=x:=(rfl)
theorem xi (g:Nat×Bool) (b:Bool) (x:AV):gdv (some g) b x=.gd b x:=(rfl)
section
variable (np:Nat) (live:List (Nat×Bool)) (e:Env) (ob:Obs)
theorem gf (D:List AV->List Ob->List Ob->Prop):ve np live ⟨e,ob⟩ D=ajl D (nrm 64 np 2000000 (s6 e live ob).1 (s6 e live ob).2):=(rfl)
theorem fi (D:List AV->List Ob->List Ob->Prop) (vs:List AV) (pos a:List Ob):ajl D (some (vs,pos,a))=D vs pos a:=(rfl)
def zt (np lb:Nat) (vs:List AV) (ob:Obs) (ids:List Nat):Option (List AV×List Ob×List Ob):=match ma (pz np lb ob ids) ob (ag np np),ma (pz np lb ob ids) ob ids with
 | some pos,some los=>some (imL (pz np lb ob ids) vs,pos,los)
 | _,_=>none
theorem rq (a lb:Nat) (vs:List AV):nrm a np lb vs ob=zt np lb vs ob (gz np (n9 ob a (l5 vs++ag np np) [])):=(rfl)
theorem mv (vs:List AV) (pos a:List Ob):aey live vs pos a=⟨keep live vs,z5 1000000 pos (z5 2000000 a λ _=>none)⟩:=(rfl)
theorem nw (rs:List (Nat×Bool)) (D:AV->List Ob->Prop):aj7 np rs ⟨e,ob⟩ D=ain np (s6 e rs ob).2 D (ox (s6 e rs ob).2 (s6 e rs ob).1):=(rfl)
def atg (D:AV->List Ob->Prop):Option (List AV×List Ob×List Ob)->Prop
 | some (vs,pos,los)=>D (ni vs) (pos++los)
 | none=>False
theorem cw (D:AV->List Ob->Prop) (vs:List AV) (l:List Nat):ain np ob D (some (vs,l))=atg D (nrm 64 np (1000000+np) vs (freeze ob l)):=by
 show ajl _ _ = _;generalize nrm 64 np (1000000+np) vs (freeze ob l)=y;rcases y with _ | ⟨_,_,_⟩<;>rfl
theorem cu (D:AV->List Ob->Prop) (vs:List AV) (pos a:List Ob):atg D (some (vs,pos,a))=D (ni vs) (pos++a):=(rfl)
end
variable {α:Type}
theorem jp (a b:α):(bif true then a else b)=a:=(rfl)
theorem fw (a b:α):(bif false then a else b)=b:=(rfl)

section
variable (P:Program)
def mU (t:TypeId):TypeDesc:=match P.underlying t with
 | some d=>d
 | none=>.invalid
def mS (t:TypeId):Nat:=match P.info? t with
 | some i=>i.size
 | none=>0
def mY (t:TypeId):Nat:=match P.info? t with
 | some i=>i.bytes
 | none=>0
def mZ (t:TypeId):Value:=match P.info? t with
 | some i=>match i.zero with
   | some v=>v
   | none=>.bool false
 | none=>.bool false
def mE (t:TypeId):TypeId:=match mU P t with
 | .slice e=>e
 | .array _ e=>e
 | .map _ e=>e
 | _=>0
def axv:Nat->List TypeId->List TypeId
 | 0,_=>[]
 | n+1,l=>l++axv n l
def mT:Nat->TypeId->List TypeId
 | 0,t=>[t]
 | n+1,t=>match mU P t with
   | .struct fs=>fs.toList.flatMap λ f=>mT n f.type
   | .array k e=>axv k (mT n e)
   | _=>[t]
def mV1 (t:TypeId):Value->RV
 | .slice _ _ _=>.sl (match mU P t with | .slice e=>mS P e | _=>1) []
 | v=>.v v
def mV (t:TypeId):RV:=match mZ P t with
 | .agg cs=>.agg (List.zipWith (mV1 P) (mT P 5 t) cs.toList)
 | v=>mV1 P t v
def mA1 (t:TypeId):Value->AV
 | .slice _ _ _=>match mU P t with
   | .slice e=>.nils (mS P e) (mV P e)
   | _=>.nils 1 (.v (.bool false))
 | v=>.r (.v v)
def mA (t:TypeId):List AV:=match mZ P t with
 | .agg cs=>List.zipWith (mA1 P) (mT P 5 t) cs.toList
 | v=>[mA1 P t v]
def mO (t:TypeId):Operand->Opd
 | .tmp n=>.t n
 | .const v=>.c (mA1 P t v)
 | .func f=>.c (.fn (.func f) [])
 | .global _=>.t 0
def mQ (x:Operand):Opd:=match x with
 | .tmp n=>.t n
 | .const (.slice _ _ _)=>.c (.nils 1 (.v (.bool false)))
 | .const v=>.c (.r (.v v))
 | .func f=>.c (.fn (.func f) [])
 | .global _=>.t 0
def mP (x:Option Operand):Option Opd:=match x with
 | none=>none
 | some x=>some (mQ x)
def mG (t:TypeId):Option Nat:=match mU P t with
 | .struct _=>some (mS P t)
 | .array _ _=>some (mS P t)
 | _=>none
def mK (t:TypeId):Bool:=match mU P t with
 | .map k _=>match mU P k with
   | .string=>true
   | _=>false
 | _=>false
def mKd (t:TypeId):Nat:=match mU P t with
 | .int _=>0
 | .bool=>1
 | _=>2
def mNe:BinOp->Bool
 | .neq=>true
 | _=>false
def a0o (op:BinOp) (t:TypeId) (x y:Operand):PO:=match mU P t with
 | .bool=>.beq (mNe op) (mQ x) (mQ y)
 | .pointer _=>.eqn (mNe op) (mQ x)
 | .struct _=>.eqa (mNe op) ((mT P 5 t).map (mKd P)) (mQ x) (mQ y)
 | .array _ _=>.eqa (mNe op) ((mT P 5 t).map (mKd P)) (mQ x) (mQ y)
 | _=>.bin op (mQ x) (mQ y)
def azw (t:TypeId) (p:Nat×Operand):Nat×Nat×Opd:=match mU P t with
 | .struct fs=>match fs.toList[p.1]? with
   | some f=>(f.offset,mS P f.type,mO P f.type p.2)
   | none=>(0,0,mQ p.2)
 | _=>(p.1*mS P (mE P t),mS P (mE P t),mO P (mE P t) p.2)
def mTl (l:List TypeId) (i:Nat):TypeId:=match l[i]? with
 | some t=>t
 | none=>0
def a0n (b:Builtin) (t:TypeId) (a:List TypeId) (xs:List Operand):PX:=match b,xs with
 | .len,[x]=>match mU P (mTl a 0) with
   | .map _ _=>.see (.lenm (mQ x))
   | .string=>.see (.len true (mQ x))
   | _=>.see (.len false (mQ x))
 | .clear,[x]=>.act (.clr (mS P (mE P (mTl a 0))) (mV P (mE P (mTl a 0))) (mO P (mTl a 0) x))
 | .delete,[x,y]=>.act (.mdel (mK P (mTl a 0)) (mQ x) (mQ y))
 | .append,[x,y]=>.act (.app (mS P (mE P t)) (mV P (mE P t)) (mY P (mE P t)) (mO P t x) (mO P t y))
 | .copy,[x,y]=>match mU P (mTl a 1) with
   | .string=>.act (.cps (mO P (mTl a 0) x) (mO P (mTl a 1) y))
   | _=>.act (.cpy (mS P (mE P (mTl a 0))) (mO P (mTl a 0) x) (mO P (mTl a 1) y))
 | .min,x::ys=>.see (.mm false (mQ x) (ys.map mQ))
 | .max,x::ys=>.see (.mm true (mQ x) (ys.map mQ))
 | _,_=>.see (.nck (.t 0))
def mX (o:Oper):PX:=match o.op with
 | .move x=>.see (.mov (mO P o.type x))
 | .assign x=>.see (.mov (mO P o.type x))
 | .pick c a b=>.see (.pick (mO P o.type c) (mO P o.type a) (mO P o.type b))
 | .binOp op t x y _=>.see (a0o P op t x y)
 | .unOp op _ x=>.see (.un op (mQ x))
 | .convert a b x=>match mU P a,mU P b with
   | .int _,.int k=>.see (.conv k (mQ x))
   | .slice _,.string=>.see (.toStr (mQ x))
   | .string,.slice e=>.act (.toBytes (mV P e) (mQ x))
   | _,_=>.act (.mrk (mQ x))
 | .indexAddr t x i=>match mU P t with
   | .array n e=>.see (.iaa n (mS P e) (mQ x) (mQ i))
   | _=>.see (.ia (mS P (mE P t)) (mV P (mE P t)) (mQ x) (mQ i))
 | .index _ x i=>.see (.ixs (mQ x) (mQ i))
 | .load t x=>.see (.ld (mG P t) (mQ x))
 | .store t x y=>.act (.st (mS P t) (mQ x) (mO P t y))
 | .nilCheck x=>.see (.nck (mQ x))
 | .fieldAddr t x f=>match mU P t with
   | .struct fs=>match fs.toList[f]? with
     | some d=>.see (.fa d.offset (mQ x))
     | none=>.see (.nck (.t 0))
   | _=>.see (.nck (.t 0))
 | .field t x f=>match mU P t with
   | .struct fs=>match fs.toList[f]? with
     | some d=>.see (.fld d.offset (mG P d.type) (mQ x))
     | none=>.see (.nck (.t 0))
   | _=>.see (.nck (.t 0))
 | .slice t x lo hi mx=>match mU P t with
   | .string=>.see (.sls (mQ x) (mP lo) (mP hi))
   | .array n _=>.see (.sla n (mQ x))
   | _=>.see (.sll (mS P (mE P t)) (mO P t x) (mP lo) (mP hi) (mP mx))
 | .extract x i=>.see (.ext (mQ x) i)
 | .alloc t=>.act (.new (mA P t))
 | .box t x=>.act (.box (mO P t x))
 | .build t ps=>.see (.build (mA P t) (ps.toList.map (azw P t)))
 | .buildSlice t _ ps=>.act (.bsl (mS P (mE P t)) (mV P (mE P t)) (ps.toList.map λ p=>mO P (mE P t) p.2))
 | .makeSlice t l c=>.act (.mks (mS P (mE P t)) (mV P (mE P t)) (mY P (mE P t)) (mQ l) (mQ c))
 | .makeFunc f xs ys=>.see (.mkf f ((xs.toList++ys.toList).map mQ) xs.size)
 | .lookup t x i c=>.see (.lkp (mK P t) (mV P (mE P t)) c (mQ x) (mQ i))
 | .makeInterface t x=>.see (.mki t (mO P t x))
 | .typeAssert x _ t c=>.see (.tas t (mV P t) c (mQ x))
 | .entry x=>.see (.ent (mQ x))
 | .makeMap _ _=>.act .mkm
 | .mapEntry t x i=>.act (.ment (mK P t) (mV P (mE P t)) (mQ x) (mQ i))
 | .entryStore t x i y=>.act (.mest (mQ x) (mQ i) (mO P (mE P t) y))
 | .mapUpdate t x i y=>.act (.mset (mK P t) (mQ x) (mQ i) (mO P (mE P t) y))
 | .range _ x=>.act (.rng (mQ x))
 | .next x _=>.nxt (mQ x)
 | .call c=>match c.callee with
   | .builtin b=>a0n P b o.type c.argTypes.toList c.args.toList
   | .value (.func f)=>.call f (c.args.toList.map mQ)
   | .value x=>.callv (mQ x) (c.args.toList.map mQ)
   | .invoke _ _=>.see (.nck (.t 0))
 | _=>.see (.nck (.t 0))
def mC1 (o:Op):Nat:=match o with
 | .call c=>match c.callee with
   | .builtin _=>0
   | _=>1
 | _=>0
def mCs:List Oper->Nat
 | []=>0
 | o::os=>mC1 o.op+mCs os
def mCc:Code->Nat
 | .region _ ops _=>mCs ops.toList
 | .seq a b=>mCc a+mCc b
 | .cond _ a b=>mCc a+mCc b
 | .block _ c=>mCc c
 | .loop c=>mCc c
 | _=>0
def mGd (a:List Oper):Option (Nat×Bool)->Option (Nat×Bool)
 | none=>none
 | some (j,b)=>match a[j]? with
   | some o=>match o.dst with
     | some d=>some (d,b)
     | none=>none
   | none=>none
def mRs (a:List Oper):Nat->List Oper->List PR
 | _,[]=>[]
 | u,o::os=>match mC1 o.op with
   | 0=>⟨o.dst,mGd a o.guard,0,mX P o⟩::mRs a u os
   | _=>⟨o.dst,mGd a o.guard,u+1,mX P o⟩::mRs a (u+1) os
def mIn (x:Nat):List Nat->List Nat
 | []=>[x]
 | y::l=>match Nat.beq x y with
   | true=>y::l
   | false=>match Nat.ble x y with
     | true=>x::y::l
     | false=>y::mIn x l
def age (a:List (List Nat)):List Edge->List Nat
 | []=>[]
 | e::es=>match e.ground with
   | .textOnly _=>age a es
   | .gcOnly _=>age a es
   | _=>(e.on::(match a[e.on]? with | some l=>l | none=>[])).foldr mIn (age a es)
def axu (a:List (List Nat)):List Oper->List (List Nat)
 | []=>a
 | o::os=>axu (a++[age a o.after.toList]) os
def mkC:Nat->Code->PC
 | u,.region _ ops d=>match d with
   | true=>.drw (mRs P ops.toList u ops.toList) (axu [] ops.toList)
   | false=>.reg (mRs P ops.toList u ops.toList)
 | u,.seq a b=>.seq (mkC u a) (mkC (u+mCc a) b)
 | u,.cond x a b=>.cond (mQ x) (mkC u a) (mkC (u+mCc a) b)
 | u,.block i c=>.block i (mkC u c)
 | u,.loop c=>.loop (mkC u c)
 | _,.exit i=>.exit i
 | _,.ret=>.ret
 | _,_=>.skip
end
def mR (P:Program) (f:Func):List RSl:=f.results.toList.map λ r=>match r with
 | .tmp t=>(t,false,none)
 | .cell a t=>(a,false,some (t,mG P t))
structure Mk (P:Program) (f:Func) where
 x:List RSl×PC
 h:(mR P f,mkC P 0 (f.body.getD .skip))=x:=by conv=>lhs; reduce; try simp only [Int.reduceOfNat,Int.reduceNegSucc]
def Fun (P:Program) (f k:Nat) (rs:List RSl) (pc:PC):Prop:=
 ∀{args:List AV} {po ro:List Ob} {res:AV},args.length=k->po.length<=1000->run P po.length (afm po.length rs λ v os=>v=res/\os=ro) [.c pc] ⟨ij 0 args,ob0 po⟩->a9 P f args po res ro
variable {f k:Nat} {fn:Func} {pc:PC}
theorem se {P:Program} {rs:List RSl} (j:P.funcs[f]?=some fn) (l:fn.body=some (fn.body.getD .skip)) (m:fn.ntmps<=100000) (b:ic P fn.ntmps (fn.body.getD .skip) pc=true) (n:k<=fn.ntmps)
 (a:fn.results.toList=rs.map RSl.rv) (d:(rs.all λ p=>p.agg P)=true) (g:(rs.all λ p=>decide (p.1<fn.ntmps))=true) (e:(rs.map (·.1)).Nodup):Fun P f k rs pc:=
 λ i c h=>aks j l m b (by rw [i]; exact n) a d g e c (ako h)
def eqR:ResultVar->RSl->Bool
 | .tmp t,(a,_,none)=>t == a
 | .cell a t,(b,_,some (u,_))=>a == b&&t == u
 | _,_=>false
theorem amd:∀{l:List ResultVar} {rs:List RSl},q9 eqR l rs=true->l=rs.map RSl.rv
 | [],[],_=>rfl
 | [],_::_,h=>by cases h
 | _::_,[],h=>by cases h
 | x::l,y::rs,h=>by
   simp only [q9,zaa] at h;rw [zag,<- amd h.2];congr 1;obtain ⟨a,b,c⟩:=y;have d:=h.1;cases x<;>rcases c with _ | ⟨u,v⟩<;>simp [eqR] at d<;>simp [RSl.rv,d]
def ash (P:Program) (fn:Func) (k:Nat) (rs:List RSl) (pc:PC):Bool:=
 fn.body.isSome&&decide (fn.ntmps<=100000)&&ic P fn.ntmps (fn.body.getD .skip) pc&&decide (k<=fn.ntmps)&&q9 eqR fn.results.toList rs&&rs.all (λ p=>p.agg P)&&rs.all (λ p=>decide (p.1<fn.ntmps))&&decide (rs.map (·.1)).Nodup
theorem fm {P:Program} (b:P.funcs[f]?=some fn) {rs:List RSl} (h:ash P fn k rs pc=true:=by kernel_rfl):Fun P f k rs pc:=by
 simp only [ash,zaa,decide_eq_true_eq] at h;obtain ⟨⟨⟨⟨⟨⟨⟨a,d⟩,g⟩,m⟩,i⟩,e⟩,j⟩,l⟩:=h;refine se b ?_ d g m (amd i) e j l;cases hb:fn.body with
 | none=>rw [hb] at a; cases a
 | some c=>rfl
abbrev pb {P:Program} {fn:Func} (f k:Nat) (x:Mk P fn):Prop:=Fun P f k x.1.1 x.1.2
theorem Mk.t {P:Program} (m:Mk P fn) (a:P.funcs[f]?=some fn) {args:List AV} (b:run P po.length (afm po.length m.1.1 λ v os=>v=res/\os=ro) [.c m.1.2] ⟨ij 0 args,ob0 po⟩)
 (d:po.length<=1000:=by first | decide | simp) (h:ash P fn args.length m.1.1 m.1.2=true:=by kernel_rfl):a9 P f args po res ro:=fm a h rfl d b

theorem asl (n:Nat):@Nat.cast Int _ (no_index (OfNat.ofNat n))=OfNat.ofNat n:=rfl
attribute [push_cast high] asl
attribute [push_cast] eq_self iff_self
attribute [push_cast] ng mn mt cj db br mr iy fh ek jm ak nc ip my na iv et mq mw mu ck io bn oh dh fv jo de ss iu jl fu er ir mz nh rb ml mo ci wz qz oi jr nn nl ix rl nf iw eu jd ny jf ji bq au fp je bp nz ft cz sh aa jh si jg oe be List.range_zero rc qy fb fg xn xo xj xi gf fi rq zt mv nw cw cu bf n7 aq ov sa lc tt qg oz qf wa kp pq kw la vp pu ue uj toV tp tq gx bg gm yes ya bad o9 ig mmL ja vz eq2 eql AV.isA PO.see PO.act Vs.q Rs.and AV.bare AV.may ul yr yq um nj un1 oa qe ia2 iab leb uf ldb ldr ld1 rr sg fa1 uh bnd tx ou ui src ej bo k7 ae PO.see.mayO PO.see.bareO g9 m7 dv nv AV.rv rvs AV.elt frz freeze m0 t6 stb str st2 pa par qi uk pt vo x9 dp yi RV.cells AV.cells AV.one RV.one AV.boxable RV.good b7 s6 kj ox vt yf ye ku km lz AV.isNil ni ij af l8 dt t5 l5 zw n9 fwd yn ra q8 i8 di dz back am imV imL imO idx z5 obs keep ag sd gz pz nq ma uq Ob.own Value.oneCell' jp fw true_and and_true and_self true_implies imp_self implies_true Option.getD_some Option.getD_none zai List.length_nil List.length_map zag List.map_nil List.getD_cons_zero List.getD_cons_succ List.take_succ_cons List.take_zero List.drop_succ_cons List.drop_zero List.cons_append List.nil_append List.append_nil List.all_cons List.all_nil Bool.and_true Bool.true_and Bool.false_and Bool.and_self Bool.or_true Bool.true_or Bool.false_or Bool.or_false Bool.not_true Bool.not_false List.contains_cons List.contains_nil List.filter_cons List.filter_nil decide_true decide_false if_true if_false false_and and_false not_true not_false_eq_true Option.map_some Option.map_none List.getElem?_cons_zero List.getElem?_cons_succ List.getElem?_nil List.length_append beq_self_eq_true List.take_nil List.drop_nil false_implies zad ne_eq

end
end Go.Ev

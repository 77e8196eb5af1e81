import Derived.Orders
import Derived.Test.YtpibfnekkfhkmaaGreatM3
open Bool renaming and_eq_true → zaa, false_eq_true → zad
open Array renaming getD_eq_getD_getElem? → zab, getElem?_append → zaf, getElem?_eq_some_iff → zak
open List renaming all_eq_true → zac, map_cons → zah, getElem?_eq_some_iff → zai, length_cons → zaj
open Nat renaming le_refl → zae
open Option renaming map_eq_some_iff → zal
namespace Go.Ev
set_option maxHeartbeats 8000000
set_option maxRecDepth 100000
noncomputable section
open Go
set_option linter.unusedSectionVars false
set_option linter.unnecessarySimpa false
set_option linter.unusedVariables false
open Classical in
def su {L C:Type} (r:Nat->L->C) (a:Nat->L->Prop) (S:Nat->Prop):Nat->L->C
 | 0,l=>r 0 l
 | k+1,l=>if S k/\a k l then r (k+1) l else su r a S k l
section
variable {L C:Type} {n:Nat} {r:Nat->L->C} {Wt Us pre:Nat->L->Prop} {S:Nat->Prop} {pr:Nat->Nat->Prop}
theorem bhp (d:∀k l,k<n->¬Wt k l->r (k+1) l=r k l) (c:∀i j,i<j->j<n->¬pr j i->∀l,¬(Wt i l/\Us j l)/\¬(Wt j l/\Us i l))
 (p:∀j,S j->∀i,pr j i->S i) {j:Nat} (s:j<n) (o:¬S j) (u:∀i,pr j i->S i) {l:L} (f:Us j l):su r Wt S n l=r j l:=by
 have q:∀k,k<=j->su r Wt S k l=r k l:=λ k=>by
  induction k with
  | zero=>intro _; rfl
  | succ k ih=>
    intro w;simp only [su];by_cases b:Wt k l
    ·have:S k:=u k (Classical.byContradiction λ a=>(c k j (by omega) s a l).1 ⟨b,f⟩);rw [if_pos ⟨this,b⟩]
    rw [if_neg (λ h=>b h.2),ih (by omega),d k l (by omega) b]
 have t:∀m,j+m<=n->su r Wt S (j+m) l=r j l:=λ m=>by
  induction m with
  | zero=>intro _; exact q j (zae _)
  | succ m ih=>
    intro v;rw [show j+(m+1)=(j+m)+1 by omega];simp only [su];rw [if_neg,ih (by omega)];rintro ⟨g,b⟩
    have e:j<j+m:=by
     rcases Nat.eq_zero_or_pos m with h | h
     ·subst h; exact (o g).elim
     omega
    exact o (p _ g j (Classical.byContradiction λ a=>(c j (j+m) e (by omega) a l).2 ⟨b,f⟩))
 have:=t (n-j) (by omega)
 rwa [show j+(n-j)=n by omega] at this
theorem a2z {j:Nat} {l:L} (b:¬Wt j l):∀k,su r Wt (λ i=>S i\/i=j) k l=su r Wt S k l
 | 0=>rfl
 | k+1=>by
   simp only [su]
   have:((S k\/k=j)/\Wt k l)↔(S k/\Wt k l):=by
    constructor
    ·rintro ⟨h | h,a⟩
     ·exact ⟨h,a⟩
     subst h; exact (b a).elim
    rintro ⟨h,a⟩; exact ⟨.inl h,a⟩
   by_cases h:S k/\Wt k l
   ·rw [if_pos h,if_pos (this.2 h)]
   rw [if_neg h,if_neg (λ q=>h (this.1 q)),a2z b k]
theorem bcs (b:∀k l,k<n->Wt k l->Us k l) (a:∀i j,i<j->j<n->¬pr j i->∀l,¬(Wt i l/\Us j l)/\¬(Wt j l/\Us i l))
 (h:∀j,S j->∀i,pr j i->S i) {j:Nat} (p:j<n) (g:¬S j) {l:L} (f:Wt j l):su r Wt (λ i=>S i\/i=j) n l=r (j+1) l:=by
 have o:∀m,j+1+m<=n->su r Wt (λ i=>S i\/i=j) (j+1+m) l=r (j+1) l:=λ m=>by
  induction m with
  | zero=>
    intro _;simp only [su];rw [if_pos ⟨.inr rfl,f⟩]
  | succ m ih=>
    intro q;rw [show j+1+(m+1)=(j+1+m)+1 by omega];simp only [su];rw [if_neg,ih (by omega)];rintro ⟨e | e,d⟩
    ·exact g (h _ e j (Classical.byContradiction λ c=>(a j (j+1+m) (by omega) (by omega) c l).2 ⟨d,b j l p f⟩))
    omega
 have:=o (n-(j+1)) (by omega)
 rwa [show j+1+(n-(j+1))=n by omega] at this
theorem arj (a:∀k l,k<n->¬Wt k l->r (k+1) l=r k l) (c:∀k,k<n->S k) {l:L}:∀k,k<=n->su r Wt S k l=r k l
 | 0,_=>rfl
 | k+1,hk=>by
   simp only [su];by_cases b:Wt k l
   ·rw [if_pos ⟨c k (by omega),b⟩]
   rw [if_neg (λ h=>b h.2),arj a c k (by omega),a k l (by omega) b]
theorem awl (a:∀k,¬S k) {l:L}:∀k,su r Wt S k l=r 0 l
 | 0=>rfl
 | k+1=>by
   simp only [su];rw [if_neg (λ h=>a k h.1),awl a k]
theorem awk {p q:Nat->Bool} {j:Nat} (a:∀x,q x=true->p x=true) (d:p j=true) (c:q j=false):∀{l:List Nat},j∈l->l.countP q<l.countP p
 | x::l,h=>by
   have e:l.countP q<=l.countP p:=List.countP_mono_left λ x _=>a x;rw [List.countP_cons,List.countP_cons];rcases List.mem_cons.1 h with h | h
   ·subst h;rw [d,c];simp;omega
   have:=awk a d c h
   have:(if q x=true then 1 else 0)<=(if p x=true then 1 else 0):=by
    by_cases b:q x=true
    ·rw [if_pos b,if_pos (a x b)]; exact zae _
    rw [if_neg b]; exact Nat.zero_le _
   omega
end
def au3 (a b:List Nat):Bool:=a.all λ x=>!b.contains x
def bd8 (a b:Lg):Bool:=au3 a.d b.us&&au3 b.d a.us&&(au3 a.wr b.rd||(a.st&&b.ad))&&(au3 b.wr a.rd||(b.st&&a.ad))
def wv (b:List (List Nat)) (a:List Lg):Bool:=
 (List.range a.length).all λ j=>(List.range j).all λ i=>(b.getD j []).contains i||bd8 (a.getD i default) (a.getD j default)
def wpD (P:Program):List PR->List Lg->St->(List Lg->St->Prop)->Prop
 | [],log,s,K=>K log s
 | r::rs,log,s,K=>∃c:Ans,(r.out P s c).ok/\wpD P rs (log++[(r.out P s c).lg]) (r.out P s c).st K
theorem a0z {P:Program} {K:List Lg->St->Prop}:∀{rs:List PR} {b:List Lg} {s:St},wpD P rs b s K ->
 ∃(R:Nat->St) (C:Nat->Ans) (a:List Lg),R 0=s/\a.length=rs.length/\(∀k r,rs[k]?=some r->(r.out P (R k) (C k)).ok/\R (k+1)=(r.out P (R k) (C k)).st/\a[k]?=some (r.out P (R k) (C k)).lg)/\K (b++a) (R rs.length)
 | [],b,s,h=>⟨λ _=>s,λ _=>(.undef,[]),[],rfl,rfl,by simp,by rw [List.append_nil]; exact h⟩
 | r::rs,b,s,h=>by
   obtain ⟨c,i,l⟩:=h;obtain ⟨R,C,a,j,g,e,f⟩:=a0z l;refine ⟨λ k=>match k with | 0=>s | k+1=>R k,λ k=>match k with | 0=>c | k+1=>C k,(r.out P s c).lg::a,rfl,by simp [g],λ k q d=>?_,by simpa using f⟩;cases k with
   | zero=>simp at d; subst d; exact ⟨i,j,by simp⟩
   | succ k=>simp at d; exact ⟨(e k q d).1,(e k q d).2.1,by simpa using (e k q d).2.2⟩
inductive Lc where
 | t (i:Nat)
 | o (i:Nat)
 | p (i:Nat)
inductive Ct where
 | t (x:AV)
 | o (x:Option (Nat×Ob))
 | p (x:Option (Nat×Option Nat))
def bo (s:St):Lc->Ct
 | .t t=>.t (s.e t)
 | .o i=>.o (s.ob i)
 | .p i=>.p (pin (s.ob i))
theorem av2 {s s':St} (h:∀l,bo s l=bo s' l):s=s':=by
 rcases s with ⟨e,ob⟩
 rcases s' with ⟨e',ob'⟩
 have b:e=e':=funext λ t=>by simpa [bo] using h (.t t)
 have a:ob=ob':=funext λ t=>by simpa [bo] using h (.o t)
 rw [b,a]
def wrt (a:List Lg) (k:Nat):Lc->Prop
 | .t t=>t∈(a.getD k default).d
 | .o i=>i∈(a.getD k default).wr
 | .p i=>i∈(a.getD k default).wr/\(a.getD k default).st=false
def usd (a:List Lg) (k:Nat):Lc->Prop
 | .t t=>t∈(a.getD k default).us
 | .o i=>i∈(a.getD k default).rd/\(a.getD k default).ad=false
 | .p i=>i∈(a.getD k default).rd
variable {i:Nat}
theorem ahz {a b:List Nat} (h:au3 a b=true) (d:i∈a) (c:i∈b):False:=by
 simp only [au3,zac] at h;have:=h i d;simp [c] at this
variable {j:Nat}
theorem a9v {f:List (List Nat)} {c:List Lg} (h:wv f c=true) (k:i<j) (q:j<c.length) (n:¬(i∈f.getD j [])) (l:Lc):¬(wrt c i l/\usd c j l)/\¬(wrt c j l/\usd c i l):=by
 simp only [wv,zac,List.mem_range,Bool.or_eq_true] at h;have g:=(h j q i k).resolve_left (by simpa using n);simp only [bd8,zaa,Bool.or_eq_true] at g;obtain ⟨⟨⟨g,m⟩,d⟩,e⟩:=g;cases l with
 | t t=>exact ⟨λ ⟨a,b⟩=>ahz g a b,λ ⟨a,b⟩=>ahz m a b⟩
 | o t=>
   refine ⟨λ ⟨a,b⟩=>?_,λ ⟨a,b⟩=>?_⟩
   ·rcases d with d | ⟨_,d⟩
    ·exact ahz d a b.1
    rw [b.2] at d; cases d
   rcases e with e | ⟨_,e⟩
   ·exact ahz e a b.1
   rw [b.2] at e; cases e
 | p t=>
   refine ⟨λ ⟨a,b⟩=>?_,λ ⟨a,b⟩=>?_⟩
   ·rcases d with d | ⟨d,_⟩
    ·exact ahz d a.1 b
    rw [a.2] at d; cases d
   rcases e with e | ⟨e,_⟩
   ·exact ahz e a.1 b
   rw [a.2] at e; cases e
theorem ar0 {P:Program} {r:PR} {s:St} {c:Ans}:(r.out P s c).lg.us=gus r.g++(r.x.us++r.d.toList)/\(r.out P s c).lg.d=r.d.toList:=by
 rcases r with ⟨d,g,u,x⟩
 unfold PR.out;simp only;generalize yes s.e g=y;rcases y with _ | b
 ·cases x<;>exact ⟨rfl,rfl⟩
 cases x with
 | see o=>exact ⟨rfl,rfl⟩
 | act o=>cases b<;>exact ⟨rfl,rfl⟩
 | call f xs=>cases b with
   | false=>exact ⟨rfl,rfl⟩
   | true=>
     simp only [PX.out];generalize fb (n7 s.e xs) (q7 s.ob (n7 s.e xs))=q;simp only [dn];generalize ao _ _ _=po;cases po<;>exact ⟨rfl,rfl⟩
 | callv x xs=>cases b with
   | false=>exact ⟨rfl,rfl⟩
   | true=>
     simp only [PX.out];generalize (x.ev s.e).bare=y;cases y with
     | fn f cap k=>cases f with
       | func f=>
         simp only [acq];generalize fb (cap.take k++(n7 s.e xs++cap.drop k)) (q7 s.ob (cap.take k++(n7 s.e xs++cap.drop k)))=q;simp only [dn];generalize ao _ _ _=po;cases po<;>exact ⟨rfl,rfl⟩
       | _=>exact ⟨rfl,rfl⟩
     | _=>exact ⟨rfl,rfl⟩
 | inv tbl x xs=>cases b with
   | false=>exact ⟨rfl,rfl⟩
   | true=>
     simp only [PX.out];obtain ⟨rd,a,e⟩:=arq (P:=P) (r:=⟨d,g,u,.inv tbl x xs⟩) (s:=s) (c:=c) (tbl:=tbl) (p:=(x.ev s.e).may true/\eu true s.e xs) (vs:=n7 s.e xs) (y:=(x.ev s.e).bare);rw [e];exact ⟨rfl,rfl⟩
 | nxt x=>cases b<;>exact ⟨rfl,rfl⟩
theorem aj2 {d:Array Oper} {a:List (List Nat)} (h:atr d a=true) {o:Oper} (i:d[j]?=some o) :
 (∀e∈o.after,Region.binds .any e=true->e.on<j)/\∀k,k∈a.getD j []->∃e∈o.after,Region.binds .any e=true/\(e.on=k\/k∈a.getD e.on []):=by
 simp only [atr,zaa,zac,List.mem_range] at h;have b:=h.2 j (zak.1 i).1;rw [i] at b;rcases hp:a[j]? with _ | p
 ·rw [hp] at b; cases b
 rw [hp] at b;simp only [zaa,zac,Array.all_eq_true_iff_forall_mem] at b;refine ⟨λ e g c=>?_,λ k l=>?_⟩
 ·have:=b.1 e g;rw [c] at this;simpa using this
 have f:a.getD j []=p:=by simp [List.getD_eq_getElem?_getD,hp]
 rw [f] at l;have:=(b.2 k l).2;rw [Array.any_eq_true'] at this;obtain ⟨e,g,c⟩:=this;simp only [zaa,Bool.or_eq_true,beq_iff_eq,List.contains_iff_mem] at c;exact ⟨e,g,c.1,c.2⟩

def uo (fl:Bool) (id:Nat) (ob:Obs):AV->AV×Obs
 | .nils sz z=>if fl then (.own id (nv ob id) 0 0,upd id (nv ob id,.row sz z true true []) ob) else (.nils sz z,ob)
 | x=>(x,ob)
def au (e:Env):List (Nat×Bool)->Obs->List AV×Obs
 | [],ob=>([],ob)
 | (t,fl)::r,ob=>((uo fl (900000+t) ob (e t)).1::(au e r (uo fl (900000+t) ob (e t)).2).1,(au e r (uo fl (900000+t) ob (e t)).2).2)
def ays (D:List AV->List Ob->List Ob->Prop):Option (List AV×List Ob×List Ob)->Prop
 | some (vs,pos,los)=>D vs pos los
 | none=>False
def afn (np:Nat) (live:List (Nat×Bool)) (s:St) (D:List AV->List Ob->List Ob->Prop):Prop:=
 ays D (nrm 64 np 2000000 (au s.e live s.ob).1 (au s.e live s.ob).2)
def keep:List (Nat×Bool)->List AV->Env
 | l::ls,x::xs=>put l.1 x (keep ls xs)
 | _,_=>λ _=>.undef
def aqo (live:List (Nat×Bool)) (vs:List AV) (pos a:List Ob):St:=⟨keep live vs,ef 1000000 pos (ef 2000000 a λ _=>none)⟩
def W (P:Program) (np:Nat):PC->(Ex->St->Prop)->St->Prop
 | .skip,K,s=>K .nor s
 | .reg rs,K,s=>wpR P rs (K .nor) s
 | .seq a b,K,s=>W P np a (λ x s=>match x with | .nor=>W P np b K s | x=>K x s) s
 | .cond x a b,K,s=>match x.ev s.e with
   | .r (.v (.bool c))=>(c=true->W P np a K s)/\(c=false->W P np b K s)
   | _=>False
 | .block id c,K,s=>W P np c (λ x s=>match x with | .ex i=>if i=id then K .nor s else K (.ex i) s | x=>K x s) s
 | .loop c,K,s=>∃(live:List (Nat×Bool)) (I:List AV->List Ob->List Ob->Prop) (m:List AV->List Ob->List Ob->Nat),(live.all λ p=>decide (p.1<100000))=true/\afn np live s I /\
  ∀vs pos g,I vs pos g->W P np c (λ x s'=>match x with | .nor=>afn np live s' (λ h d f=>I h d f/\m h d f<m vs pos g) | x=>K x s') (aqo live vs pos g)
 | .exit i,K,s=>K (.ex i) s
 | .ret,K,s=>K .rt s
 | .drw rs pre,K,s=>wpD P rs [] s λ j s=>wv pre j=true/\K .nor s
section
variable {P:Program} {X:Cx} [GlC P X] {w w':World} {s:St} {ρ ρ':Pl->Option Nat} {a:Act} {o:Oper} {ob ob':Obs} {R R':Nat->Prop} {ops:Array Oper} {Q:Exit->Act->World->Prop}
theorem a5j (p:Gam X s ρ a w) {g:Option (Nat×Bool)} {b:Bool} (hc:bct ops o.guard g=true) (hy:yes s.e g=some b):Region.wanted o (yielded ops a.tmps)=b:=by
 unfold bct at hc;split at hc
 ·rename_i f;simp [yes] at hy;subst hy;simp [Region.wanted,f]
 ·rename_i j d t l n;simp only [zaa,beq_iff_eq] at hc;obtain ⟨rfl,m⟩:=hc;have c:=p.env t;simp only [yes] at hy;simp only [Region.wanted,n,yielded,m,Option.bind_some];generalize s.e t=x at c hy;unfold ah0 at hy;split at hy
  ·rename_i q;cases hy;have f:=n9 c
   have k:a.tmps[t]?=some (.bool q):=by
    rcases hq:a.tmps[t]? with _ | u
    ·simp [zab,hq,undef] at f
    simp [zab,hq] at f;rw [f]
   rw [k];cases d<;>cases q<;>rfl
  ·rename_i h q;cases hy;cases c with
   | gd _ f h3=>
   cases h
   ·have k:=h3 rfl;rcases hq:a.tmps[t]? with _ | u
    ·simp
    simp [zab,hq] at k;subst k;simp [undef]
   have i:=n9 (f rfl)
   have k:a.tmps[t]?=some (.bool q):=by
    rcases hq:a.tmps[t]? with _ | u
    ·simp [zab,hq,undef] at i
    simp [zab,hq] at i;rw [i]
   rw [k];cases d<;>cases q<;>rfl
  cases hy
 cases hc
theorem aut {f:FuncId} (h:ab9 P f=true) (args:Array Value):(callFunc f args).run P w=.ok (.enter f args) w:=by
 unfold ab9 at h;split at h
 ·rename_i fn b;simp at h;obtain ⟨a,c⟩:=h;have d:¬fn.body=none:=by intro e; rw [e] at a; cases a
  simp [callFunc,b,c,d]
 cases h
theorem a4u {f:FuncId} {args:List Opd} (h:ahm P o (.call f args)=true):∃c,o.op=.call c/\c.callee=.value (.func f)/\bf opd c.args.toList args=true/\ab9 P f=true:=by
 unfold ahm at h;cases ho:o.op<;>simp only [ho] at h<;>try (cases h; done)
 rename_i c;split at h
 ·rename_i d hc;simp only [zaa,beq_iff_eq] at h;obtain ⟨⟨rfl,a⟩,b⟩:=h;exact ⟨c,rfl,hc,a,b⟩
 cases h
theorem a0t {x:Opd} {args:List Opd} (h:ahm P o (.callv x args)=true):∃c x',o.op=.call c/\c.callee=.value x'/\opd x' x=true/\bf opd c.args.toList args=true:=by
 unfold ahm at h;cases ho:o.op<;>simp only [ho] at h<;>try (cases h; done)
 rename_i c;split at h
 ·rename_i x' hc;simp only [zaa] at h;exact ⟨c,x',rfl,hc,h.1,h.2⟩
 cases h
theorem a9g {tbl:List (TypeId×FuncId)} {x:Opd} {args:List Opd} (h:ahm P o (.inv tbl x args)=true):∃c r m,o.op=.call c/\c.callee=.invoke r m/\opd r x=true/\bf opd c.args.toList args=true/\tbl.all (aw0 P m)=true:=by
 unfold ahm at h;cases ho:o.op<;>simp only [ho] at h<;>try (cases h; done)
 rename_i c;split at h
 ·rename_i r m hc;simp only [zaa] at h;exact ⟨c,r,m,rfl,hc,h.1.1,h.1.2,h.2⟩
 cases h
theorem a9f {x:Opd} (h:ahm P o (.nxt x)=true):∃a,o.op=.next a false/\opd a x=true:=by
 unfold ahm at h;cases ho:o.op<;>simp only [ho] at h<;>try (cases h; done)
 rename_i a str;simp only [zaa,Bool.not_eq_true'] at h;obtain ⟨b,rfl⟩:=h;exact ⟨a,rfl,b⟩
theorem awb {t:TypeId} {f:FuncId}:∀{tbl:List (TypeId×FuncId)},ja t tbl=some f->(t,f)∈tbl
 | [],h=>by cases h
 | (t',f')::r,h=>by
   simp only [ja] at h;split at h
   ·rename_i a; cases h; subst a; simp
   exact List.mem_cons_of_mem _ (awb h)
theorem bkg {m:String} {t:TypeId} {f:FuncId} {v:Value} {as:Array Value} (h:aw0 P m (t,f)=true):(invoke (.fn (.method m) #[]) (#[.iface t v]++as)).run P w=.ok (.enter f (#[v]++as)) w:=by
 simp only [aw0,zaa] at h;obtain ⟨⟨x,a⟩,y⟩:=h;split at a
 ·rename_i i hi;split at a
  ·rename_i q s;simp only [zaa] at a;obtain ⟨z,a⟩:=a;split at a
   ·rename_i A b l;simp only [zaa,beq_iff_eq] at a;obtain ⟨n,rfl⟩:=a;rw [n] at l;obtain ⟨d,r,o⟩:=ci y;cases d with
    | pointer e=>
      have c:q.path=#[]:=by simpa using z
      obtain ⟨k,u⟩:∃k,P.types.size+Made.depth=k+1:=⟨P.types.size+(Made.depth-1),by unfold Made.depth; omega⟩
      have g:(#[Value.iface t v]++as)[0]?=some (.iface t v):=by
       rw [zaf,if_pos (by simp)]
       rfl
      have j:(#[Value.iface t v]++as).extract 1 (#[Value.iface t v]++as).size=as:=by
       rw [Array.extract_append];simp
      have p:(method (P.types.size+Made.depth) t v m).run P w=.ok (f,v) w:=by
       rw [u];simp [method,typeInfo,hi,s,c,follow,l,receiverAt,run_underlying r,Place.get]
      have hc:(callMethod (.iface t v) m as).run P w=.ok (.enter f (#[v]++as)) w:=by
       simp only [callMethod,Sem.run_bind,run_program,Result.andThen_ok,p];exact aut x _
      simp only [invoke,g,j];exact hc
    | _=>cases o
   cases a
  cases a
 cases a
theorem a7u {K:AV->Obs->Prop} {O:Operand} {u:AV} (F:Gam X s ρ a w) (S:o.op=.next O false) (T:RA X s ρ w u (a.eval O)) (h:ayr s.ob K u) :
 ∃c v t k,(execOp a.eval o).run P w=.ok (.value c) k/\K v t/\Gam X ⟨s.e,t⟩ ρ a k/\RA X ⟨s.e,t⟩ ρ k v c:=by
 unfold ayr at h;split at h
 ·rename_i id ver;unfold a34 at h;split at h
  ·rename_i p l f d W N;have n:=ap7 N;rcases hmp:ai s.ob p l with _ | ⟨es,c⟩
   ·rw [hmp] at h; exact h.elim
   rw [hmp] at h;obtain ⟨h1,h2,h3,h4⟩:=h;generalize E:a.eval O=v at T;cases T;rename_i h0 J;obtain ⟨b,m,rfl⟩:=J.live n;obtain ⟨b',A,R,V,Q⟩:=F.obj id ver _ n;rw [m] at R; cases R;obtain ⟨h5,Y,G,I⟩:=F.mapB hmp Q;cases G;have U:(leftOf es.toArray d.toArray).toList=go es d:=by simp [leftOf,go]
   rcases run_next_at (P:=P) w o.type b A f W d.toArray es.toArray c V I (by simpa using h1) h2 with ⟨hz,j⟩ | ⟨e,Z,k,C,j⟩
   ·refine ⟨.tuple #[.bool false],.tup [bl false],s.ob,w,by simp only [execOp,S,E,Sem.run_bind,j,Result.andThen_ok,Sem.run_pure],h3 ?_,F,?_⟩
    ·rw [<- U];exact List.eq_nil_of_length_eq_zero (by simpa using hz)
    refine .tup _ _ rfl λ i y c g hc=>?_
    match i with
    | 0=>simp at g hc; subst g; subst hc; exact .r (.v _)
    | i+1=>simp at g
   rw [U] at Z
   have D:Gam X s ρ a k:=by
    rcases C with rfl | rfl
    ·exact F
    exact F.drew _
   have L:k.heap=w.heap:=by rcases C with rfl | rfl<;>rfl
   have z:k.heap[b]?=some (.mapIter (some A) f d.toArray W):=by rw [L]; exact V
   have q:=ayy (y:=.mapIter (some A) f (d++[e.born]).toArray c) z;have x:d.toArray.push e.born=(d++[e.born]).toArray:=by simp
   rw [x,show ChangeMaps.setBlock k b (Obj.mapIter (some A) f (d++[e.born]).toArray c)={ k with heap:=k.heap.setIfInBounds b (Obj.mapIter (some A) f (d++[e.born]).toArray c) } from rfl] at j
   have M:RelA k (g9 X.B s.ob ρ k) s.ob ρ (.mp p l) (.map (some A)):=by
    cases Q;rename_i q1 q2;exact .mp _ _ _ q1 q2
   have H:=Stays.modifyG (x':=.iter (.mp p l) f (d++[e.born]) c) D n rfl m q (λ cs e fr h=>by rw [z] at h; cases h) ver (.inl ⟨rfl,trivial⟩)
   refine ⟨.tuple #[.bool true,e.key,e.val],.tup [bl true,.r (pe e.key),.r (pe e.val)],_,_,by simp only [execOp,S,E,Sem.run_bind,j,Result.andThen_ok,Sem.run_pure],h4 e Z,
    D.modifyG n rfl m q (λ cs e fr h=>by rw [z] at h; cases h) ver (.inl ⟨rfl,trivial⟩) (.inr ⟨rfl,trivial,λ _=>rfl⟩) ⟨b,A,m,q.new,M.stays H⟩,?_⟩
   refine .tup _ _ rfl λ i y c g hc=>?_
   match i with
   | 0=>simp at g hc; subst g; subst hc; exact .r (.v _)
   | 1=>simp at g hc; subst g; subst hc; exact .r (ah7 _)
   | 2=>simp at g hc; subst g; subst hc; exact .r (ah7 _)
   | i+3=>simp at g
  exact h.elim
 exact h.elim
theorem ayf {r:PR} {K:St->Prop} {N:Act->World->Prop} (C:Gam X s ρ a w) (hi:ops[i]?=some o) (h3:al3 P X.n ops o r=true) (h:r.wp P s K (yes s.e r.g)) (hN:∀s' ρ' a' w',K s'->Gam X s' ρ' a' w'->N a' w'):wpOp P ops Q i N a w:=by
 simp only [al3,zaa,beq_iff_eq] at h3;obtain ⟨⟨⟨L,B⟩,hg⟩,hx⟩:=h3;rcases hy:yes s.e r.g with _ | b
 ·rw [hy] at h; exact h.elim
 rw [hy] at h;have hw:=a5j C hg hy
 have p:∀x,(∀c,c=undef->RA X s ρ w x c)->Gam X ⟨t5 r.d x s.e,s.ob⟩ ρ (a.put o.dst undef) w:=λ x hx=>by
  rw [L];rcases hrd:r.d with _ | d
  ·exact C
  rw [hrd] at B;exact C.see (by simpa using B) (hx _ rfl)
 unfold wpOp;simp only [hi,hw];simp only [PR.wp] at h;rcases r with ⟨rd,rg,ru,rx⟩
 simp only at L B hg hx h hy p;cases rx with
 | see po=>
   obtain ⟨I,A⟩:=h;cases b with
   | true=>
     simp only [if_true];refine .inl ?_;obtain ⟨c,j,H⟩:=bf2 (P:=P) rfl C hx I;unfold Oper.wp;rw [j,Oper.upon_value,L];rcases rd with _ | d
     ·simp [a4j] at B
     refine hN _ ρ _ _ A (C.see (by simpa using B) ?_);unfold gdv;split
     ·exact H
     exact .gd true (λ _=>H) (by simp)
   | false=>
     simp only [zad,if_false];refine hN _ ρ _ _ A (p _ λ c hc=>?_);rcases rg with _ | g
     ·simp [yes] at hy
     simp only [gdv];exact .gd false (by simp) (λ _=>hc)
 | act po=>
   cases b with
   | false=>
     simp only [zad,if_false];exact hN _ ρ _ _ (h.2 rfl) (p _ λ c _=>.undef c)
   | true=>
     simp only [if_true];refine .inl ?_;obtain ⟨I,A⟩:=h.1 rfl;rcases rd with _ | d
     ·have h0:po.nod=true:=by simpa [a8b,a4j] using B
      obtain ⟨nx,w1,u,j,l,hv⟩:=apo (P:=P) C hx h0 I;unfold Oper.wp;rw [j];rcases hv with ⟨c,rfl,H⟩ | ⟨rfl,hv⟩
      ·rw [Oper.upon_value,L];exact hN _ u _ _ A l
      rw [Oper.upon_skip,L];exact hN _ u _ _ A l
     obtain ⟨nx,w1,u,j,l,hv⟩:=bil (P:=P) (d:=d) C hx (by simpa using B) I;unfold Oper.wp;rw [j];rcases hv with ⟨c,rfl,H⟩ | ⟨rfl,hv⟩
     ·rw [Oper.upon_value,L];exact hN _ u _ _ A (l.see (s:=⟨s.e,_⟩) (by simpa using B) H)
     rw [Oper.upon_skip,L];refine hN _ u _ _ A (l.see (s:=⟨s.e,_⟩) (by simpa using B) ?_);simp only [Option.getD_some];rw [hv];exact .undef _
 | call f args=>
   cases b with
   | false=>
     simp only [zad,if_false];exact hN _ ρ _ _ (h.2 rfl) (p _ λ c _=>.undef c)
   | true=>
     simp only [if_true];refine .inl ?_;obtain ⟨I,A⟩:=h.1 rfl;obtain ⟨c,S,D,E,J⟩:=a4u hx;obtain ⟨V,Z⟩:=ahx C rfl E I
     have j:(execOp a.eval o).run P w=.ok (.enter f (c.args.map a.eval)) w:=by
      have:=aut (w:=w) J (c.args.map a.eval);simp [execOp,S,resolve,D,Act.eval,Deferred.ofValue,invoke];exact this
     unfold Oper.wp;rw [j,Oper.upon_enter];refine (al4 C A (by simp [V]) λ i x cc F hc=>?_).mono ?_
     ·rw [Array.getElem?_map,zal] at hc;obtain ⟨y,hy,rfl⟩:=hc;exact Z i x y F (by simpa using hy)
     rintro e w1 ⟨cv,v,G,u,rfl,M,l,H⟩;simp only;rw [L];rcases rd with _ | d
     ·exact hN _ u _ _ M l
     exact hN _ u _ _ M (l.see (s:=⟨s.e,G⟩) (by simpa using B) H)
 | callv x args=>
   cases b with
   | false=>
     simp only [zad,if_false];exact hN _ ρ _ _ (h.2 rfl) (p _ λ c _=>.undef c)
   | true=>
     simp only [if_true];refine .inl ?_;obtain ⟨Y,I,A⟩:=h.1 rfl;obtain ⟨c,x',S,D,F,E⟩:=a0t hx;obtain ⟨V,Z⟩:=ahx C rfl E I;have J:=i9 C rfl F Y;generalize (x.ev s.e).bare=xv at J A;unfold a5h at A;split at A
     ·rename_i f cap k;obtain ⟨ha,A⟩:=A;generalize T:a.eval x'=cf at J;cases J;rename_i fs cs hl h5 hk
      have j:(execOp a.eval o).run P w=.ok (.enter f (fs++(c.args.map a.eval++cs))) w:=by
       have:=aut (w:=w) ha (fs++(c.args.map a.eval++cs));simp [execOp,S,resolve,D,T,Deferred.ofValue,invoke];exact this
      unfold Oper.wp;rw [j,Oper.upon_enter];have hb:(n7 s.e args).length=c.args.size:=by rw [V]; simp
      have h4:∀(i:Nat) (y:AV) (v:Value),(cap.take k)[i]?=some y->fs[i]?=some v->RA X s ρ w y v:=λ i y v hy hv=>by
       rw [List.getElem?_take] at hy;split at hy
       ·rename_i O;exact h5 i y v hy (by rw [zaf,if_pos (by omega)]; exact hv)
       cases hy
      have U:∀(i:Nat) (y:AV) (v:Value),(cap.drop k)[i]?=some y->cs[i]?=some v->RA X s ρ w y v:=λ i y v hy hv=>by
       rw [List.getElem?_drop] at hy;exact h5 (k+i) y v hy (by rw [zaf,if_neg (by omega),show k+i-fs.size=i by omega]; exact hv)
      have R:∀(xs ys:List AV) (us vs:Array Value),us.size=xs.length->(∀(i:Nat) (y:AV) (v:Value),xs[i]?=some y->us[i]?=some v->RA X s ρ w y v) ->
       (∀(i:Nat) (y:AV) (v:Value),ys[i]?=some y->vs[i]?=some v->RA X s ρ w y v)->∀(i:Nat) (y:AV) (v:Value),(xs++ys)[i]?=some y->(us++vs)[i]?=some v->RA X s ρ w y v:=
       λ xs ys us vs hs I A i y v hy hv=>by
        rw [List.getElem?_append] at hy;rw [zaf,hs] at hv;split at hy
        ·rename_i O;rw [if_pos O] at hv;exact I i y v hy hv
        rename_i O;rw [if_neg O] at hv;exact A _ y v hy hv
      have h9:(cap.take k).length=k:=by rw [List.length_take]; omega
      refine (al4 C A (by simp [V]; omega) (R _ _ _ _ (by rw [h9]; exact hk) h4 (R _ _ _ _ (by rw [hb]; simp) (λ i y v hy hv=>?_) U))).mono ?_
      ·rw [Array.getElem?_map,zal] at hv;obtain ⟨z,W,rfl⟩:=hv;exact Z i y z hy (by simpa using W)
      rintro e w1 ⟨cv,v,G,u,rfl,M,l,H⟩;simp only;rw [L];rcases rd with _ | d
      ·exact hN _ u _ _ M l
      exact hN _ u _ _ M (l.see (s:=⟨s.e,G⟩) (by simpa using B) H)
     cases A
 | inv tbl x args=>
   cases b with
   | false=>
     simp only [zad,if_false];exact hN _ ρ _ _ (h.2 rfl) (p _ λ c _=>.undef c)
   | true=>
     simp only [if_true];refine .inl ?_;obtain ⟨Y,I,A⟩:=h.1 rfl;obtain ⟨c,rv,m,S,D,F,E,h6⟩:=a9g hx;obtain ⟨V,Z⟩:=ahx C rfl E I;have J:=i9 C rfl F Y;generalize (x.ev s.e).bare=xv at J A;unfold apr at A;split at A
     ·rename_i t y;split at A
      ·rename_i f h7;generalize T:a.eval rv=cf at J;cases J;rename_i cy hy;have h8:=zac.1 h6 _ (awb h7)
       have j:(execOp a.eval o).run P w=.ok (.enter f (#[cy]++c.args.map a.eval)) w:=by
        have:=bkg (w:=w) (v:=cy) (as:=c.args.map a.eval) h8;simp only [execOp,S,resolve,D,T,Sem.run_bind,Sem.run_pure,Result.andThen_ok];exact this
       unfold Oper.wp;rw [j,Oper.upon_enter];refine (al4 C A (by simp [V]; omega) λ i z cc W hc=>?_).mono ?_
       ·cases i with
        | zero=>
          simp at W;rw [zaf,if_pos (by simp)] at hc;simp at hc;subst W; subst hc;exact hy
        | succ i=>
          simp only [List.getElem?_cons_succ] at W;rw [zaf,if_neg (by simp)] at hc;simp only [List.size_toArray,zaj,List.length_nil,Nat.zero_add,Nat.add_sub_cancel] at hc;rw [Array.getElem?_map,zal] at hc;obtain ⟨q,hq,rfl⟩:=hc;exact Z i z q W (by simpa using hq)
       rintro e w1 ⟨cv,v,G,u,rfl,M,l,H⟩;simp only;rw [L];rcases rd with _ | d
       ·exact hN _ u _ _ M l
       exact hN _ u _ _ M (l.see (s:=⟨s.e,G⟩) (by simpa using B) H)
      cases A
     cases A
 | nxt x=>
   cases b with
   | false=>
     simp only [zad,if_false];exact hN _ ρ _ _ (h.2 rfl) (p _ λ c _=>.undef c)
   | true=>
     simp only [if_true];refine .inl ?_;obtain ⟨Y,A⟩:=h.1 rfl;obtain ⟨it,S,F⟩:=a9f hx;have J:=i9 C rfl F Y;obtain ⟨c,v,G,w1,j,M,l,H⟩:=a7u (P:=P) C S J A;unfold Oper.wp;rw [j,Oper.upon_value,L];rcases rd with _ | d
     ·exact hN _ ρ _ _ M l
     exact hN _ ρ _ _ M (l.see (s:=⟨s.e,G⟩) (by simpa using B) H)
theorem a5l {rs:List PR} {l:List Oper} {K:St->Prop} {k:Nat} (c:∀i,i<l.length->ops[k+i]?=l[i]?) (b:bf (al3 P X.n ops) l rs=true) (g:Gam X s ρ a w) (h:wpR P rs K s)
 (hN:∀s' ρ' f d,K s'->Gam X s' ρ' f d->Q .normal f d):wpOps P ops Q (List.range' k l.length) a w:=by
 induction l generalizing rs k s ρ a w with
 | nil=>
   cases rs with
   | nil=>exact hN s ρ a w h g
   | cons r rs=>cases b
 | cons o l ih=>
   cases rs with
   | nil=>cases b
   | cons r rs=>
     simp only [bf,zaa] at b;have hi:ops[k]?=some o:=by have:=c 0 (by simp); simpa using this
     rw [zaj,List.range'_succ,wpOps_cons];refine ayf g hi b.1 h λ s' ρ' f d j e=>?_;exact ih (λ i hi=>by have:=c (i+1) (by simp; omega); rw [show k+1+i=k+(i+1) by omega,this]; simp) b.2 e j
theorem az7 {α g:Type} {f:α->g->Bool}:∀{c:List α} {ys:List g},bf f c ys=true->c.length=ys.length/\∀(i:Nat) (x:α) (y:g),c[i]?=some x->ys[i]?=some y->f x y=true
 | [],[],_=>⟨rfl,λ i x y h=>by simp at h⟩
 | [],_::_,h=>by cases h
 | _::_,[],h=>by cases h
 | x::c,y::ys,h=>by
   simp only [bf,zaa] at h;obtain ⟨j,k⟩:=az7 h.2;refine ⟨by simp [j],λ i a b d e=>?_⟩;cases i with
   | zero=>simp at d e; subst d; subst e; exact h.1
   | succ i=>simp at d e; exact k i a b d e
theorem a83 {rs:List PR} {G:List (List Nat)} {f:List Lg} {K:St->Prop} {R:Nat->St} {C:Nat->Ans} (ga:bf (al3 P X.n ops) ops.toList rs=true) (O:atr ops G=true) (gd:wv G f=true) (gn:f.length=rs.length)
 (hu:∀k r,rs[k]?=some r->(r.out P (R k) (C k)).ok/\R (k+1)=(r.out P (R k) (C k)).st/\f[k]?=some (r.out P (R k) (C k)).lg) (hK:K (R rs.length))
 (hN:∀s' ρ' a' w',K s'->Gam X s' ρ' a' w'->Q .normal a' w'):∀(F:Nat) (c:Array Bool) (s:St) (ρ:Pl->Option Nat) (a:Act) (w:World),c.size=ops.size ->
  (∀j,c.getD j false=true->∀i,i∈G.getD j []->c.getD i false=true)->(List.range ops.size).countP (λ k=>!c.getD k false)<=F ->
  (∀l,bo s l=su (λ k=>bo (R k)) (wrt f) (λ k=>c.getD k false=true) ops.size l)->Gam X s ρ a w->wpAny P .any ops Q F c a w:=by
 obtain ⟨I,ge⟩:=az7 ga;have I:ops.size=rs.length:=by simpa using I
 have hr:∀k,k<ops.size->∃o r,ops[k]?=some o/\rs[k]?=some r/\al3 P X.n ops o r=true/\(r.out P (R k) (C k)).ok/\R (k+1)=(r.out P (R k) (C k)).st/\f.getD k default=(r.out P (R k) (C k)).lg:=λ k v=>by
  have B:ops[k]?=some ops[k]:=by simp [v]
  have L:rs[k]?=some (rs[k]'(by omega)):=by simp [show k<rs.length by omega]
  obtain ⟨g1,g2,g3⟩:=hu k _ L;exact ⟨_,_,B,L,ge k _ _ (by simpa using B) L,g1,g2,by simp [List.getD_eq_getElem?_getD,g3]⟩
 have hd:∀k r,k<ops.size->rs[k]?=some r->f.getD k default=(r.out P (R k) (C k)).lg:=λ k r v h=>by
  obtain ⟨_,r',_,L,_,_,_,h3⟩:=hr k v;rw [h] at L; cases L; exact h3
 have D:∀k r,k<ops.size->rs[k]?=some r->(f.getD k default).ad=r.x.adr/\(f.getD k default).st=r.x.sto:=λ k r v h=>by
  rw [hd k r v h];exact a7r
 have hn:∀k i,k<ops.size->i∈(f.getD k default).wr->i∈(f.getD k default).rd/\(f.getD k default).ad=false:=λ k i v m=>by
  obtain ⟨o,r,B,L,h3,h4,h5,E⟩:=hr k v;refine ⟨?_,?_⟩
  ·simp only [E] at m |-;exact ((aul (s':=R k) h4 (λ _ _=>rfl) (λ _ _ _=>rfl) (λ _ _=>rfl)).2.2.2.1 i m).1
  rw [(D k r v L).1];cases T:r.x.adr with
  | false=>rfl
  | true=>
    rw [E] at m;rcases r with ⟨d,g,u,x⟩
    cases x with
    | see o=>
      unfold PR.out at m;simp only at m;generalize yes (R k).e g=y at m;rcases y with _ | b
      ·simp [PX.out,PR.lg] at m
      simp [PX.out,PR.lg] at m
    | _=>cases T
 have gg:∀k l,k<ops.size->wrt f k l->usd f k l:=λ k l v m=>by
  cases l with
  | t t=>
    obtain ⟨o,r,B,L,h3,h4,h5,E⟩:=hr k v;simp only [wrt,usd,E] at m |-;rw [ar0.2] at m;rw [ar0.1];simp [m]
  | o i=>exact hn k i v m
  | p i=>exact (hn k i v m.1).1
 have S:∀k l,k<ops.size->¬wrt f k l->bo (R (k+1)) l=bo (R k) l:=λ k l v m=>by
  obtain ⟨o,r,B,L,h3,h4,h5,E⟩:=hr k v;have hl:=aul (s':=R k) h4 (λ _ _=>rfl) (λ _ _ _=>rfl) (λ _ _=>rfl);rw [h5];cases l with
  | t t=>
    simp only [wrt,E,ar0.2] at m;simp only [bo,hl.2.2.1 t m]
  | o i=>
    simp only [wrt,E] at m;simp only [bo,hl.2.2.2.2 i m]
  | p i=>
    simp only [wrt,(D k r v L).2] at m;simp only [bo];by_cases hi:i∈(f.getD k default).wr
    ·have:r.x.sto=true:=by
      cases hsto:r.x.sto with
      | true=>rfl
      | false=>exact (m ⟨hi,hsto⟩).elim
     rw [a1x this]
    rw [E] at hi;rw [hl.2.2.2.2 i hi]
 have hg:∀i j,i<j->j<ops.size->¬(i∈G.getD j [])->∀l,¬(wrt f i l/\usd f j l)/\¬(wrt f j l/\usd f i l):=λ i j g6 hj hp l=>a9v gd g6 (by omega) hp l;intro F
 induction F with
 | zero=>
   intro c s ρ a w h9 W hm M hG
   have J:∀k,k<ops.size->c.getD k false=true:=λ k v=>by
    have h0:(List.range ops.size).countP (λ k=>!c.getD k false)=0:=by omega
    rw [List.countP_eq_zero] at h0;have:=h0 k (by simp [v]);simpa using this
   have hs:s=R rs.length:=av2 λ l=>by rw [M l,arj S J ops.size (zae _),I]
   refine ⟨?_,hN s ρ a w (by rw [hs]; exact hK) hG⟩;rcases hrd:Region.ready .any ops c with _ | ⟨j,js⟩
   ·rfl
   have hj:j∈Region.ready .any ops c:=by rw [hrd]; simp
   obtain ⟨B,o,ho,_⟩:=mem_ready.1 hj;have A:=(zak.1 ho).1;have:=J j A;rw [zab] at this B;have z:c[j]?=some (c[j]'(by omega)):=by simp [show j<c.size by omega]
   rw [z] at this B;simp at this B;rw [this] at B;cases B
 | succ F ih=>
   intro c s ρ a w h9 W hm M hG;refine ⟨λ g0=>?_,λ j hj=>?_⟩
   ·have J:∀k,k<ops.size->c.getD k false=true:=λ k=>by
     induction k using Nat.strongRecOn with
     | ind k ihk=>
       intro v;apply Classical.byContradiction;intro N
       have hf:c.getD k true=false:=by
        rw [zab] at N |-;have z:c[k]?=some (c[k]'(by omega)):=by simp [show k<c.size by omega]
        rw [z] at N |-;simpa using N
       obtain ⟨o,r,B,_⟩:=hr k v;have:k∈Region.ready .any ops c:=mem_ready.2 ⟨hf,o,B,λ e he hb=>ihk e.on ((aj2 O B).1 e he hb) (Nat.lt_trans ((aj2 O B).1 e he hb) v)⟩;rw [g0] at this;cases this
    have hs:s=R rs.length:=av2 λ l=>by rw [M l,arj S J ops.size (zae _),I]
    exact hN s ρ a w (by rw [hs]; exact hK) hG
   obtain ⟨Z,oj,h7,hq⟩:=mem_ready.1 hj;have A:=(zak.1 h7).1
   have U:¬(c.getD j false=true):=by
    rw [zab] at Z |-;have z:c[j]?=some (c[j]'(by omega)):=by simp [show j<c.size by omega]
    rw [z] at Z |-;simpa using Z
   obtain ⟨o,r,B,L,h3,h4,h5,E⟩:=hr j A
   have g4:∀i,i∈G.getD j []->c.getD i false=true:=λ i hi=>by
    obtain ⟨e,he,hb,h8⟩:=(aj2 O B).2 i hi;have hh:c.getD e.on false=true:=by rw [B] at h7; cases h7; exact hq e he hb
    rcases h8 with rfl | h8
    ·exact hh
    exact W _ hh i h8
   have V:∀l,usd f j l->bo s l=bo (R j) l:=λ l hl=>by
    rw [M l];exact bhp (pr:=λ j i=>i∈G.getD j []) S hg W A U g4 hl
   have hL:=aul (s':=s) h4 (λ t ht=>by
    have:=V (.t t) (by simp only [usd,E]; exact ht);simpa [bo] using this) (λ T i hi=>by
    have:=V (.o i) (by
     simp only [usd];rw [(D j r A L).1,E]
     exact ⟨hi,T⟩)
    simpa [bo] using this) (λ i hi=>by
    have:=V (.p i) (by simp only [usd,E]; exact hi)
    simpa [bo] using this)
   have H:∀k,(c.setIfInBounds j true).getD k false=true↔(c.getD k false=true\/k=j):=λ k=>by
    by_cases Y:k=j
    ·subst Y;simp [zab,h9,A]
    have:(c.setIfInBounds j true).getD k false=c.getD k false:=getD_set_ne false (Ne.symm Y);rw [this];simp [Y]
   refine ayf hG B h3 (bj5 (K:=λ s'=>∀l,bo s' l=su (λ k=>bo (R k)) (wrt f) (λ k=>(c.setIfInBounds j true).getD k false=true) ops.size l) hL.1 λ l=>?_) λ s' ρ' a' w' gl gb=>?_
   ·have g5:(λ k=>(c.setIfInBounds j true).getD k false=true)=λ k=>c.getD k false=true\/k=j:=funext λ k=>propext (H k);rw [g5];by_cases m:wrt f j l
    ·rw [bcs (pr:=λ j i=>i∈G.getD j []) gg hg W A U m,h5];cases l with
     | t t=>
       simp only [wrt,E,ar0.2] at m;simp only [bo,hL.2.1 t m]
     | o i=>
       simp only [wrt,E] at m;simp only [bo,(hL.2.2.2.1 i m).2]
     | p i=>
       have hz:=m.1;simp only [E] at hz;simp only [bo,(hL.2.2.2.1 i hz).2]
    rw [a2z m,<- M l];cases l with
    | t t=>
      simp only [wrt,E,ar0.2] at m;simp only [bo,hL.2.2.1 t m]
    | o i=>
      simp only [wrt,E] at m;simp only [bo,hL.2.2.2.2 i m]
    | p i=>
      simp only [bo];by_cases hi:i∈(f.getD j default).wr
      ·have:r.x.sto=true:=by
        cases hsto:r.x.sto with
        | true=>rfl
        | false=>exact (m ⟨hi,by rw [(D j r A L).2]; exact hsto⟩).elim
       rw [a1x this]
      rw [E] at hi;rw [hL.2.2.2.2 i hi]
   refine ih _ s' ρ' a' w' (by simpa using h9) (λ k v i hi=>?_) ?_ gl gb
   ·rw [H] at v |-;rcases v with v | rfl
    ·exact .inl (W k v i hi)
    exact .inl (g4 i hi)
   have:=awk (p:=λ k=>!c.getD k false) (q:=λ k=>!(c.setIfInBounds j true).getD k false) (j:=j) (λ x hx=>by
    have ha:¬((c.setIfInBounds j true).getD x false=true):=by simpa using hx
    rw [H] at ha
    simpa using λ h=>ha (.inl h)) (by simpa using U) (by have:=(H j).2 (.inr rfl); simp only [this,Bool.not_true]) (l:=List.range ops.size) (by simp [A])
   omega
def bl6 (X:Cx) (K:Ex->St->Prop):Exit->Act->World->Prop
 | .normal,a,w=>∃s ρ,K .nor s/\Gam X s ρ a w
 | .exit i,a,w=>∃s ρ,K (.ex i) s/\Gam X s ρ a w
 | .ret,a,w=>∃s ρ,K .rt s/\Gam X s ρ a w
 | _,_,_=>False
theorem ba9 {fl:Bool} {id:Nat} (d:id<1000000) {x:AV} (b:Gam X s ρ a w):∃ρ',Gam X ⟨s.e,(uo fl id s.ob x).2⟩ ρ' a w/\(∀(y:AV) (c:Value),RA X s ρ w y c->RA X ⟨s.e,(uo fl id s.ob x).2⟩ ρ' w y c) /\
 ∀(c:Value),RA X s ρ w x c->RA X ⟨s.e,(uo fl id s.ob x).2⟩ ρ' w (uo fl id s.ob x).1 c:=by
 unfold uo;split
 ·rename_i sz z;split
  ·refine ⟨u5 ρ id none,b.nil id _ (b.pnn id (asm d)) (λ v o h=>ab2 h) sz z true,λ y c h=>h.stays (Stays.nil id _ (λ v o h=>ab2 h) _),λ c h=>?_⟩;cases h;exact .own _ _ _ _ _ rfl (qt ⟨none,0,rfl,zae _,by simp,by simp,by simp⟩)
  exact ⟨ρ,b,λ _ _ h=>h,λ _ h=>h⟩
 exact ⟨ρ,b,λ _ _ h=>h,λ _ h=>h⟩
theorem aqw:∀{live:List (Nat×Bool)} {s:St} {ρ:Pl->Option Nat},(∀p∈live,p.1<100000)->Gam X s ρ a w->∃ρ',Gam X ⟨s.e,(au s.e live s.ob).2⟩ ρ' a w/\(∀(y:AV) (c:Value),RA X s ρ w y c->RA X ⟨s.e,(au s.e live s.ob).2⟩ ρ' w y c) /\
 (au s.e live s.ob).1.length=live.length/\∀(i t:Nat) (fl:Bool) (x:AV) (c:Value),live[i]?=some (t,fl)->(au s.e live s.ob).1[i]?=some x->RA X s ρ w (s.e t) c->RA X ⟨s.e,(au s.e live s.ob).2⟩ ρ' w x c
 | [],s,ρ,_,hG=>⟨ρ,hG,λ _ _ h=>h,rfl,λ i t fl x c h=>by simp at h⟩
 | (t,fl)::r,s,ρ,hl,hG=>by
   have z:t<100000:=hl (t,fl) (by simp);obtain ⟨m,n,g,l⟩:=ba9 (fl:=fl) (id:=900000+t) (by omega) (x:=s.e t) hG;obtain ⟨b,u,f,q,o⟩:=aqw (live:=r) (s:=⟨s.e,(uo fl (900000+t) s.ob (s.e t)).2⟩) (λ p v=>hl p (by simp [v])) n;refine ⟨b,u,λ y c h=>f y c (g y c h),by simp [au,q],λ i k d x c hi hx j=>?_⟩;cases i with
   | zero=>
     simp [au] at hi hx;obtain ⟨rfl,rfl⟩:=hi;subst hx;exact f _ c (l c j)
   | succ i=>
     simp [au] at hi hx;exact o i k d x c hi hx (g _ c j)
theorem a2e:∀{live:List (Nat×Bool)} {vs:List AV} (t:Nat),(∃(i:Nat) (fl:Bool) (x:AV),live[i]?=some (t,fl)/\vs[i]?=some x/\keep live vs t=x)\/keep live vs t=.undef
 | [],vs,t=>.inr (by simp [keep])
 | _::_,[],t=>.inr (by simp [keep])
 | (l,fl)::ls,v::vs,t=>by
   by_cases h:t=l
   ·subst h;exact .inl ⟨0,fl,v,rfl,rfl,by simp [keep,put]⟩
   have e:keep ((l,fl)::ls) (v::vs) t=keep ls vs t:=by simp [keep,put,h]
   rw [e];rcases a2e (live:=ls) (vs:=vs) t with ⟨i,a,x,d,b,c⟩ | f
   ·exact .inl ⟨i+1,a,x,by simpa using d,by simpa using b,c⟩
   exact .inr f
theorem aop {np:Nat} {live:List (Nat×Bool)} {D:List AV->List Ob->List Ob->Prop} (u:∀p∈live,p.1<100000) (A:np<=1000000) (f:∀id b,X.pn id=some b->1000000<=id/\id<1000000+np) (d:Gam X s ρ a w) (h:afn np live s D) :
 ∃vs pos c ρ',D vs pos c/\Gam X (aqo live vs pos c) ρ' a w:=by
 obtain ⟨m,n,E,B,y⟩:=aqw u d;unfold afn at h;rcases hn:nrm 64 np 2000000 (au s.e live s.ob).1 (au s.e live s.ob).2 with _ | ⟨vs,pos,c⟩
 ·rw [hn] at h; exact h.elim
 rw [hn] at h;obtain ⟨g,v,C,F,r⟩:=n.toMem.nrm hn (by omega) f;refine ⟨vs,pos,c,g,h,v,d.sz,d.df,λ t=>?_,d.pnn,d.small,d.base⟩;simp only [aqo];rcases a2e (live:=live) (vs:=vs) t with ⟨i,fl,x,q,j,o⟩ | z
 ·rw [o];have l:=(zai.1 j).1;have k:(au s.e live s.ob).1[i]?=some ((au s.e live s.ob).1[i]'(by omega)):=by simp [show i<(au s.e live s.ob).1.length by omega]
  exact r i _ x _ k j (y i t fl _ _ q k (d.env t))
 rw [z];exact .undef _
theorem a4h {S:Nat->Prop} (h:∃k,S k):∃k,S k/\∀j,S j->k<=j:=by
 obtain ⟨k,c⟩:=h
 induction k using Nat.strongRecOn with
 | _ k ih=>
   by_cases hx:∃j,j<k/\S j
   ·obtain ⟨j,b,a⟩:=hx;exact ih j b a
   refine ⟨k,c,λ j d=>?_⟩;rcases Nat.lt_or_ge j k with h | h
   ·exact absurd ⟨j,h,d⟩ hx
   exact h
theorem bim {np:Nat} (O:np<=1000000) (M:∀id b,X.pn id=some b->1000000<=id/\id<1000000+np):∀(pc:PC) (c:Code) (K:Ex->St->Prop) (s:St) (ρ:Pl->Option Nat) (a:Act) (w:World),qp P X.n c pc=true->W P np pc K s->Gam X s ρ a w->c.wp P (bl6 X K) a w:=by
 intro pc
 induction pc with
 | skip=>
   intro c K s ρ a w hc h g;cases c<;>simp only [qp] at hc<;>try (cases hc; done)
   exact wp_skip ⟨s,ρ,h,g⟩
 | reg rs=>
   intro c K s ρ a w hc h g;cases c<;>simp only [qp] at hc<;>try (cases hc; done)
   rename_i id u d;simp only [zaa,Bool.not_eq_true'] at hc;obtain ⟨rfl,hc⟩:=hc;refine wp_region ?_;rw [List.range_eq_range',<- Array.length_toList];exact a5l (k:=0) (l:=u.toList) (λ i hi=>by simp) hc g h λ s' ρ' F E Y B=>⟨s',ρ',Y,B⟩
 | seq p q ihp ihq=>
   intro c K s ρ a w hc h g;cases c<;>simp only [qp] at hc<;>try (cases hc; done)
   rename_i x y;simp only [zaa] at hc;refine wp_seq (wp_mono (ihp x _ s ρ a w hc.1 h g) λ e F E f=>?_);cases e with
   | normal=>
     obtain ⟨s',ρ',r,t⟩:=f;exact ihq y K s' ρ' F E hc.2 r t
   | exit i=>exact f
   | ret=>exact f
   | goto l=>exact f
   | panic ch=>exact f
   | outgrown=>exact f
 | cond x p q ihp ihq=>
   intro c K s ρ a w hc h g;cases c<;>simp only [qp] at hc<;>try (cases hc; done)
   rename_i y c1 c2;simp only [zaa] at hc;obtain ⟨⟨r,t⟩,U⟩:=hc;have hx:=ao7 g.env r;simp only [W] at h;generalize x.ev s.e=xv at hx h;split at h
   ·rename_i b;exact wp_cond_split (n9 hx) (λ hb=>ihp c1 K s ρ a w t (h.1 hb) g) (λ hb=>ihq c2 K s ρ a w U (h.2 hb) g)
   exact h.elim
 | block id p ih=>
   intro c K s ρ a w hc h g;cases c<;>simp only [qp] at hc<;>try (cases hc; done)
   rename_i h6 c';simp only [zaa,beq_iff_eq] at hc;obtain ⟨rfl,hc⟩:=hc;refine wp_block (wp_mono (ih c' _ s ρ a w hc h g) λ e F E f=>?_);cases e with
   | normal=>exact f
   | exit i=>
     obtain ⟨s',ρ',r,t⟩:=f;simp only [Exit.inBlock];simp only at r;split
     ·rename_i hi;rw [if_pos hi] at r;exact ⟨s',ρ',r,t⟩
     rename_i hi;rw [if_neg hi] at r;exact ⟨s',ρ',r,t⟩
   | ret=>exact f
   | goto l=>exact f
   | panic ch=>exact f
   | outgrown=>exact f
 | loop p ih=>
   intro c K s ρ a w hc h g;cases c<;>simp only [qp] at hc<;>try (cases hc; done)
   rename_i c';obtain ⟨live,I,m,hl,h0,hr⟩:=h;have J:∀p∈live,p.1<100000:=λ p f=>by simpa using zac.1 hl p f
   let S:Nat->Act->World->Prop:=λ k a w=>∃vs pos o ρ,I vs pos o/\Gam X (aqo live vs pos o) ρ a w/\m vs pos o=k
   refine wp_loop (λ a w=>∃k,S k a w) (λ a w=>open Classical in if hx:∃k,S k a w then (a4h hx).choose else 0) ?_ ?_
   ·obtain ⟨vs,pos,o,ρ',r,t⟩:=aop J O M g h0;exact ⟨_,vs,pos,o,ρ',r,t,rfl⟩
   intro a w hx;simp only [dif_pos hx];obtain ⟨vs,pos,o,ρ',r,t,U⟩:=(a4h hx).choose_spec.1;refine wp_mono (ih c' _ _ ρ' a w hc (hr vs pos o r) t) λ e F E f=>?_;cases e with
   | normal=>
     obtain ⟨s',h5,g1,g2⟩:=f;obtain ⟨G,z,v,L,Z,k2⟩:=aop J O M g2 g1;have D:∃k,S k F E:=⟨_,G,z,v,L,Z.1,k2,rfl⟩
     refine ⟨D,?_⟩;rw [dif_pos D,<- U];exact Nat.lt_of_le_of_lt ((a4h D).choose_spec.2 _ ⟨G,z,v,L,Z.1,k2,rfl⟩) Z.2
   | exit i=>exact f
   | ret=>exact f
   | goto l=>exact f
   | panic ch=>exact f
   | outgrown=>exact f
 | exit i=>
   intro c K s ρ a w hc h g;cases c<;>simp only [qp] at hc<;>try (cases hc; done)
   rename_i j;have:j=i:=by simpa using hc
   subst this;exact wp_exit ⟨s,ρ,h,g⟩
 | ret=>
   intro c K s ρ a w hc h g;cases c<;>simp only [qp] at hc<;>try (cases hc; done)
   exact wp_ret ⟨s,ρ,h,g⟩
 | drw rs pre=>
   intro c K s ρ a w hc h g;cases c<;>simp only [qp] at hc<;>try (cases hc; done)
   rename_i id u d;simp only [zaa] at hc;obtain ⟨⟨⟨rfl,hm⟩,V⟩,N⟩:=hc;obtain ⟨R,C,h7,h0,T,H,Q,Y⟩:=a0z h;refine wp_region_any hm ?_
   have A:∀k,¬((Array.replicate u.size false).getD k false=true):=λ k=>by
    rw [zab,Array.getElem?_replicate];split<;>simp
   refine a83 V N (by simpa using Q) T H Y (λ s' ρ' F E h4 B=>⟨s',ρ',h4,B⟩) u.size _ s ρ a _ (by simp) (λ j hj=>?_) ?_ (λ l=>?_) (g.drew _)
   ·exact (A j hj).elim
   ·exact Nat.le_trans List.countP_le_length (by simp)
   rw [awl A,h0]
end

def AV.isNil:AV->Bool
 | .nils _ _=>true
 | _=>false
def vw:List AV->Bool
 | []=>false
 | x::xs=>x.isNil||vw xs
def aib (ob:Obs):AV->Option (AV×List Nat)
 | .nils sz z=>some (.nils sz z,[])
 | x=>match x.rv ob with
   | some (y,l)=>some (.r y,l)
   | none=>none
def uv (ob:Obs):List AV->Option (List AV×List Nat)
 | []=>some ([],[])
 | x::xs=>match aib ob x,uv ob xs with
   | some (y,i),some (ys,j)=>some (y::ys,i++j)
   | _,_=>none
def aic (ob:Obs) (a:List AV):Bool->Option (AV×List Nat)
 | true=>match uv ob a with
   | some (ys,l)=>some (.agg ys,l)
   | none=>none
 | false=>match rvs ob a with
   | some (ys,l)=>some (.r (.agg ys),l)
   | none=>none
def age (ob:Obs):AV->Option (AV×List Nat)
 | .own id ver lo len=>match l9 ob id ver with
   | some (sz,_,_,wr,xs)=>if wr then some (.own id ver lo len,[]) else some (.r (.sl sz ((xs.drop lo).take len)),[])
   | none=>match u3 ob id ver with
     | some _=>some (.own id ver lo len,[])
     | none=>none
 | .agg xs=>aic ob xs (ur&&vw xs)
 | x=>some (x,[])
def yx (ob:Obs):List AV->Option (List AV×List Nat)
 | []=>some ([],[])
 | x::xs=>match age ob x,yx ob xs with
   | some (y,i),some (ys,j)=>some (y::ys,i++j)
   | _,_=>none
def xu:List AV->AV
 | [x]=>x
 | xs=>.tup xs
def aw5 (np:Nat) (ob:Obs) (D:AV->List Ob->Prop):Option (List AV×List Nat)->Prop
 | some (vs,l)=>ays (λ vs pos a=>D (xu vs) (pos++a)) (nrm 64 np (1000000+np) vs (freeze ob l))
 | none=>False
def azn (np:Nat) (rs:List (Nat×Bool)) (s:St) (D:AV->List Ob->Prop):Prop:=
 aw5 np (au s.e rs s.ob).2 D (yx (au s.e rs s.ob).2 (au s.e rs s.ob).1)
abbrev RSl:=Nat×Bool×Option (TypeId×Option Nat)
def opn (np:Nat) (b:List (Nat×Bool)) (D:AV->List Ob->Prop):List RSl->Env->Obs->Prop
 | [],e,ob=>azn np b ⟨e,ob⟩ D
 | (_,_,none)::r,e,ob=>opn np b D r e ob
 | (a,_,some (_,n))::r,e,ob=>(ld1 true n (e a) ob).ok/\opn np b D r (put a (ld1 true n (e a) ob).v e) ob
def arr (np:Nat) (rs:List RSl) (D:AV->List Ob->Prop):Ex->St->Prop
 | .nor,s=>opn np (rs.map λ p=>(p.1,p.2.1)) D rs s.e s.ob
 | .rt,s=>opn np (rs.map λ p=>(p.1,p.2.1)) D rs s.e s.ob
 | .ex _,_=>False
def RSl.rv:RSl->ResultVar
 | (t,_,none)=>.tmp t
 | (a,_,some (ty,_))=>.cell a ty
def RSl.agg (P:Program):RSl->Bool
 | (_,_,none)=>true
 | (_,_,some (ty,n))=>aoq P ty n
def qu:Nat->List AV->Env
 | _,[]=>λ _=>.undef
 | k,x::xs=>put k x (qu (k+1) xs)
theorem a22:∀{a:List AV} {k t:Nat},k<=t->qu k a t=(a[t-k]?).getD .undef
 | [],k,t,h=>by simp [qu]
 | x::a,k,t,h=>by
   simp only [qu,put];by_cases b:t=k
   ·subst b; simp
   rw [if_neg b,a22 (by omega),show t-k=(t-(k+1))+1 by omega];simp
theorem aq1:∀(a ys:List Ob) (k:Nat),ef k a (ef (k+a.length) ys λ _=>none)=obs k (a++ys)
 | [],[],k=>rfl
 | [],y::ys,k=>by
   have:=aq1 [] ys (k+1);simp only [ef,List.length_nil,Nat.add_zero,List.nil_append,obs] at this |-;rw [this]
 | x::a,ys,k=>by
   have:=aq1 a ys (k+1);simp only [ef,zaj,List.cons_append,obs] at this |-;rw [show k+(a.length+1)=k+1+a.length by omega,this]
section
variable {P:Program} {X:Cx} {w w':World} {s:St} {ρ ρ':Pl->Option Nat} {a:Act} {o:Oper} {ob ob':Obs} {R R':Nat->Prop}
theorem av6 {b:List Nat} (o:Gam X s ρ a w) {ob:Obs} (e:s.ob=Ev.freeze ob b):∀{f ys:List AV} {l:List Nat},uv ob f=some (ys,l)->(∀i,i∈l->i∈b) ->
 ys.length=f.length/\∀(i:Nat) (x y:AV) (c:Value),f[i]?=some x->ys[i]?=some y->RA X s ρ w x c->RA X s ρ w y c
 | [],ys,l,h,hs=>by simp [uv] at h; obtain ⟨rfl,rfl⟩:=h; simp
 | z::f,ys,l,h,hs=>by
   simp only [uv] at h;split at h
   ·rename_i v k A j d u;cases h;obtain ⟨q,t⟩:=av6 o e u (λ p m=>hs p (by simp [m]));refine ⟨by simp [q],λ i x y c hx hy n=>?_⟩;cases i with
    | zero=>
      simp at hx hy;subst hx; subst hy;unfold aib at d;split at d
      ·cases d; exact n
      split at d
      ·rename_i g;cases d;exact .r (asa o g (λ p m=>hs p (by simp [m])) e n)
      cases d
    | succ i=>
      simp at hx hy;exact t i x y c hx hy n
   cases h
theorem bbj {d:List Nat} (p:Gam X s ρ a w) {ob:Obs} (k:s.ob=Ev.freeze ob d) {x y:AV} {l:List Nat} {c:Value} (h:age ob x=some (y,l)) (g:∀i,i∈l->i∈d) (hx:RA X s ρ w x c):RA X s ρ w y c:=by
 unfold age at h;split at h
 ·split at h
  ·rename_i sz z v E m D;split at h
   ·cases h; exact hx
   rename_i o;cases h;obtain ⟨t,q,C⟩:=alw d ob _ (y8 D);rw [<- k,C (.inl (by simpa using o))] at q;exact .r (a7n p q hx)
  split at h
  ·cases h; exact hx
  cases h
 ·rename_i m;unfold aic at h;split at h
  ·split at h
   ·rename_i ys A b;cases h;cases hx;rename_i cs n e;obtain ⟨B,u⟩:=av6 p k b g;refine .agg _ _ (by rw [B]; exact n) λ i y c hy hc=>?_;have j:i<m.length:=by have:=(zai.1 hy).1; omega
    have f:m[i]?=some m[i]:=by simp [j]
    exact u i _ y c f hy (e i _ c f hc)
   cases h
  split at h
  ·rename_i ys A b;cases h;cases hx;rename_i cs n e;refine .r (.agg _ _ (by rw [uf b]; exact n) λ i y c hy hc=>?_);have j:i<m.length:=by have:=(zai.1 hy).1; have:=uf b; omega
   have f:m[i]?=some m[i]:=by simp [j]
   exact akb p k b g i _ y c f hy (e i _ c f hc)
  cases h
 cases h; exact hx
theorem ayl {b:List Nat} (g:Gam X s ρ a w) {ob:Obs} (d:s.ob=Ev.freeze ob b):∀{e ys:List AV} {l:List Nat},yx ob e=some (ys,l)->(∀i,i∈l->i∈b) ->
 ys.length=e.length/\∀(i:Nat) (x y:AV) (c:Value),e[i]?=some x->ys[i]?=some y->RA X s ρ w x c->RA X s ρ w y c
 | [],ys,l,h,hs=>by simp [yx] at h; obtain ⟨rfl,rfl⟩:=h; simp
 | z::e,ys,l,h,hs=>by
   simp only [yx] at h;split at h
   ·rename_i t k u j o r;cases h;obtain ⟨n,q⟩:=ayl g d r (λ p f=>hs p (by simp [f]));refine ⟨by simp [n],λ i x y c hx hy m=>?_⟩;cases i with
    | zero=>
      simp at hx hy;subst hx; subst hy;exact bbj g d o (λ p f=>hs p (by simp [f])) m
    | succ i=>
      simp at hx hy;exact q i x y c hx hy m
   cases h
def bmh:List Value->Value
 | [v]=>v
 | vs=>.tuple vs.toArray
def ayb (tmps:Array Value):ResultVar->Sem Value
 | .tmp t=>pure (tmps.getD t undef)
 | .cell a t=>do loadVar t (<- asAddr (tmps.getD a undef))
theorem a0j (fn:Func) (rs:List ResultVar) (h:fn.results.toList=rs) (tmps:Array Value) {cs:List Value} (e:(rs.mapM (ayb tmps)).run P w=.ok cs w):(results fn tmps).run P w=.ok (bmh cs) w:=by
 have d:fn.results=rs.toArray:=by rw [<- h]
 have c:(fn.results.mapM (m:=Sem) (ayb tmps)).run P w=.ok cs.toArray w:=by
  rw [d];simp only [List.mapM_toArray];simp only [map_eq_pure_bind,Sem.run_bind,e,Result.andThen_ok,Sem.run_pure]
 have b:(fn.results.mapM (m:=Sem) fun | .tmp t=>pure (tmps.getD t undef) | .cell a t=>do loadVar t (<- asAddr (tmps.getD a undef))).run P w=.ok cs.toArray w:=by
  rw [<- c];congr 2
 unfold results;rw [Sem.run_bind];refine (congrArg (λ r=>Result.andThen r _) b).trans ?_;clear c b d h e
 match cs with
 | []=>rfl
 | [t]=>rfl
 | t::t'::rs=>rfl
theorem bko {g:Bool} (e:g=true) {n:Option Nat} {u:AV} {v:Value} (j:Gam X s ρ a w) (d:(ld1 g n u s.ob).ok) (f:RA X s ρ w u v):∃b o,v=.pointer (some ⟨b,o,none⟩):=by
 cases u with
 | ptr id ver off=>
   simp only [ld1] at d;rcases hr:u3 s.ob id ver with _ | c
   ·rw [hr] at d; exact (d e).elim
   cases f;rename_i h;obtain ⟨b,_,hc⟩:=h.live (lh hr);exact ⟨b,off,hc⟩
 | oel id ver i off=>
   simp only [ld1] at d;rcases hr:l9 s.ob id ver with _ | c
   ·rw [hr] at d; exact (d e).elim
   cases f;rename_i h;obtain ⟨_,_,b,_,hc⟩:=h.live (y8 hr);exact ⟨b,_,hc⟩
 | rp ys=>cases f; exact ⟨_,_,rfl⟩
 | _=>exact (d.2 e).elim
theorem aum {np:Nat} {u:List (Nat×Bool)} {D:AV->List Ob->Prop} {tmps:Array Value} {ob:Obs}:∀{rs:List RSl} {e:Env} {a:Act},opn np u D rs e ob->Gam X ⟨e,ob⟩ ρ a w->(rs.all λ p=>p.agg P)=true->(∀p∈rs,p.1<X.n)->(rs.map (·.1)).Nodup ->
 (∀p∈rs,tmps.getD p.1 undef=a.tmps.getD p.1 undef)->∃e' m cs,Gam X ⟨e',ob⟩ ρ m w/\azn np u ⟨e',ob⟩ D/\((rs.map RSl.rv).mapM (ayb tmps)).run P w=.ok cs w/\cs.length=rs.length /\
  (∀(i:Nat) (p:RSl) (c:Value),rs[i]?=some p->cs[i]?=some c->RelA w (g9 X.B ob ρ w) ob ρ (e' p.1) c)/\∀t,t∉rs.map (·.1)->e' t=e t
 | [],e,a,h,hG,_,_,_,_=>⟨e,a,[],hG,h,by simp,rfl,by simp,λ _ _=>rfl⟩
 | (t,fl,none)::rs,e,a,h,hG,hag,hlt,hnd,htm=>by
   simp only [List.all_cons,zaa] at hag;simp only [zah,List.nodup_cons] at hnd;obtain ⟨e',m,cs,C,F,A,H,I,l⟩:=aum (rs:=rs) h hG hag.2 (λ p f=>hlt p (by simp [f])) hnd.2 (λ p f=>htm p (by simp [f]));refine ⟨e',m,tmps.getD t undef::cs,C,F,?_,by simp [H],λ i p c f hc=>?_,λ z g=>?_⟩
   ·simp only [zah,List.mapM_cons,Sem.run_bind,RSl.rv,ayb,Sem.run_pure,Result.andThen_ok];rw [A];simp only [Result.andThen_ok]
   ·cases i with
    | zero=>
      simp at f hc;subst f; subst hc;rw [l t hnd.1];have:=hG.env t;rw [<- htm (t,fl,none) (by simp)] at this;rw [zab] at this;exact this
    | succ i=>exact I i p c (by simpa using f) (by simpa using hc)
   simp at g;exact l z (by simpa using g.2)
 | (t,fl,some (ty,n))::rs,e,a,h,hG,hag,hlt,hnd,htm=>by
   simp only [List.all_cons,zaa] at hag;simp only [zah,List.nodup_cons] at hnd;obtain ⟨y,h⟩:=h;have L:a.eval (.tmp t)=a.tmps.getD t undef:=rfl;have q := a6d (P := P) (s := ⟨e, ob⟩) (o := { dst := none, op := .load ty (.tmp t), type := 0, pos := "", after := #[], guard := none }) rfl hG rfl hag.1 (hG.env t) y
   obtain ⟨c,d,K⟩:=q;obtain ⟨b,o,hv⟩:=bko rfl hG y (hG.env t)
   have k:(loadVar ty ⟨b,o,none⟩).run P w=.ok c w:=by
    simp only [execOp,L,hv,Instr.loadAt,Instr.sureAddr,Sem.run_bind,Sem.run_pure,Result.andThen_ok] at d;generalize (loadVar ty ⟨b,o,none⟩).run P w=r at d |-;cases r with
    | ok v w1=>simp only [Result.andThen_ok] at d; cases d; rfl
    | halt x w1=>cases d
   have G:=hG.see (hlt (t,fl,some (ty,n)) (by simp)) K
   obtain ⟨e',m,cs,C,F,A,H,I,l⟩:=aum (rs:=rs) (tmps:=tmps) h G hag.2 (λ p f=>hlt p (by simp [f])) hnd.2 (λ p f=>by
    rw [htm p (by simp [f])];have E:t≠p.1:=λ J=>hnd.1 (by rw [J]; exact List.mem_map_of_mem f)
    simp [Act.put,zab,Array.getElem?_setIfInBounds_ne E])
   refine ⟨e',m,c::cs,C,F,?_,by simp [H],λ i p c' f hc=>?_,λ z g=>?_⟩
   ·have j:=htm (t,fl,some (ty,n)) (by simp);simp only [zah,List.mapM_cons,Sem.run_bind,RSl.rv,ayb];simp only at j;rw [j,hv];simp only [asAddr,Sem.run_pure,Result.andThen_ok];rw [k];simp only [Result.andThen_ok];rw [A];simp only [Result.andThen_ok]
   ·cases i with
    | zero=>
      simp at f hc;subst f; subst hc;rw [l t hnd.1];simp only [put,if_true];exact K
    | succ i=>exact I i p c' (by simpa using f) (by simpa using hc)
   simp at g;rw [l z (by simpa using g.2)];simp [put,g.1]
def apq (P:Program) (f:FuncId) (args:List AV) (po:List Ob) (D:AV->List Ob->Prop):Prop:=
 ∀(w:World) (a:Array Value) (ρ:Pl->Option Nat) (B:Nat->Prop),Gl P w (ng (ob0 po) ρ)->(∀b,ng (ob0 po) ρ b\/w.heap.size<=b->B b) ->
  Mem ⟨0,ng (ob0 po) ρ,λ _=>none,B,w⟩ (ob0 po) ρ w->a.size=args.length ->
  (∀(i:Nat) (x:AV) (c:Value),args[i]?=some x->a[i]?=some c->RelA w (g9 B (ob0 po) ρ w) (ob0 po) ρ x c) ->
  Calls P f a w λ e d=>∃c ρ' res ro,e=.returned c/\D res ro/\Mem ⟨0,ng (ob0 po) ρ,pu po ρ,B,w⟩ (ob0 ro) ρ' d/\RelA d (g9 B (ob0 ro) ρ' d) (ob0 ro) ρ' res c
theorem amw {f:FuncId} {fn:Func} {c:Code} {pc:PC} {args:List AV} {po:List Ob} {D:AV->List Ob->Prop} {rs:List RSl} (hf:P.funcs[f]?=some fn) (hb:fn.body=some c) (hn:fn.ntmps<=100000) (h0:qp P fn.ntmps c pc=true)
 (hg:args.length<=fn.ntmps) (L:fn.results.toList=rs.map RSl.rv) (V:(rs.all λ p=>p.agg P)=true) (T:(rs.all λ p=>decide (p.1<fn.ntmps))=true) (h4:(rs.map (·.1)).Nodup) (hh:po.length<=1000)
 (h:W P po.length pc (arr po.length rs D) ⟨qu 0 args,ob0 po⟩):apq P f args po D:=by
 intro w g ρ B h3 hB U he H
 let X:Cx:=⟨fn.ntmps,ng (ob0 po) ρ,pu po ρ,B,w⟩
 haveI:GlC P X:=⟨h3⟩
 have C:∀id b,X.pn id=some b->ρ id=some b/\∃o,ob0 po id=some (0,o)/\o.pinned=true/\(o.isRow=true->zl X.w0 w b):=λ id b a=>by
  simp only [X,pu] at a;split at a
  ·rename_i v o hx;split at a
   ·rename_i J;have:=(aad hx).2.2;simp only at this;subst this;exact ⟨a,o,hx,J,λ _=>zl.refl _ _⟩
   cases a
  cases a
 have hX:Mem X (ob0 po) ρ w:=⟨U.obj,U.inj,U.keeps,U.own,C⟩
 have r:∀id b,X.pn id=some b->1000000<=id/\id<1000000+po.length:=λ id b a=>by
  obtain ⟨_,Z,hx,_⟩:=C id b a;obtain ⟨h1,h2,_⟩:=aad hx;have:=(zai.1 h2).1;exact ⟨h1,by omega⟩
 have hG:Gam X ⟨qu 0 args,ob0 po⟩ ρ { tmps:=g++Array.replicate (fn.ntmps-g.size) undef,defers:=[] } w:=by
  refine ⟨hX,by simp [X]; omega,rfl,λ t=>?_,λ id G=>?_,hn,hB⟩
  ·show RelA w (g9 X.B (ob0 po) ρ w) (ob0 po) ρ (qu 0 args t) _;rw [a22 (Nat.zero_le _),Nat.sub_zero];by_cases ht:t<args.length
   ·have hx:args[t]?=some args[t]:=by simp [ht]
    have hc:g[t]?=some (g[t]'(by omega)):=by simp [show t<g.size by omega]
    have:=H t _ _ hx hc;rw [hx];simp only [Option.getD_some];rw [zab,Array.getElem?_append_left (by omega),hc];exact this
   rw [List.getElem?_eq_none (by omega)];exact .undef _
  rcases a:X.pn id with _ | b
  ·rfl
  have h1:=(r id b a).1;have h2:=(r id b a).2
  rcases (show id<1000000\/2000000<=id by
   unfold par at G;by_cases q:1000000<=id
   ·rw [decide_eq_true q] at G;exact .inr (by have:=of_decide_eq_false G; omega)
   exact .inl (by omega)) with q | q<;>omega
 refine calls_of_wp hf hb (wp_mono (bim (by omega) r pc c _ _ ρ _ w h0 h hG) λ e R E a=>?_)
 have K:(∃s ρ,opn po.length (rs.map λ p=>(p.1,p.2.1)) D rs s.e s.ob/\Gam X s ρ R E)->R.defers=[]/\∃v,(results fn R.tmps).run P E=.ok v E/\∃c ρ' res ro,Ending.returned v=.returned c/\D res ro/\Mem ⟨0,ng (ob0 po) ρ,pu po ρ,B,w⟩ (ob0 ro) ρ' E/\RelA E (g9 B (ob0 ro) ρ' E) (ob0 ro) ρ' res c:=by
  rintro ⟨A,h9,Y,M⟩;obtain ⟨k,a1,cs,h5,hx,z,h6,u,_⟩:=aum (P:=P) (tmps:=R.tmps) Y M V (λ p a=>by simpa using zac.1 T p a) h4 (λ _ _=>rfl);refine ⟨M.df,_,a0j fn _ L R.tmps z,?_⟩;generalize j:(rs.map λ p=>(p.1,p.2.1))=d at hx;have h7:d.length=rs.length:=by rw [<- j]; simp
  obtain ⟨hd,g1,g2,g3,g4⟩:=aqw (live:=d) (λ p a=>by
   rw [<- j] at a;obtain ⟨q,hq,rfl⟩:=List.mem_map.1 a;have:q.1<fn.ntmps:=by simpa using zac.1 T q hq
   simp only
   omega) h5
  unfold azn at hx;simp only at g1 g2 g3 g4 hx;rcases J:yx (au k d A.ob).2 (au k d A.ob).1 with _ | ⟨vs,l⟩
  ·rw [J] at hx; exact hx.elim
  rw [J] at hx;simp only [aw5] at hx;have Q:=Gam.freeze (s:=⟨k,(au k d A.ob).2⟩) l g1;obtain ⟨k1,k2⟩:=ayl (s:=⟨k,Ev.freeze (au k d A.ob).2 l⟩) Q rfl J (λ _ h=>h);rcases hn2:nrm 64 po.length (1000000+po.length) vs (freeze (au k d A.ob).2 l) with _ | ⟨n,pos,m⟩
  ·rw [hn2] at hx; exact hx.elim
  rw [hn2] at hx;have hx:D (xu n) (pos++m):=hx;obtain ⟨F,I,m2,m3,m4⟩:=Q.toMem.nrm hn2 (zae _) r;rw [<- m3,aq1 pos m 1000000] at I m4;refine ⟨_,F,_,_,rfl,hx,⟨I.obj,I.inj,I.keeps,I.own,I.pin⟩,?_⟩
  have S:∀(i:Nat) (y:AV) (v:Value),n[i]?=some y->cs[i]?=some v->RelA E (g9 B (ob0 (pos++m)) F E) (ob0 (pos++m)) F y v:=λ i y v hy hv=>by
   have h8:=(zai.1 hv).1;obtain ⟨q,hr⟩:∃q,rs[i]?=some q:=⟨rs[i]'(by omega),by simp [show i<rs.length by omega]⟩
   have ha:d[i]?=some (q.1,q.2.1):=by rw [<- j,List.getElem?_map,hr]; rfl
   have a:(au k d A.ob).1[i]?=some ((au k d A.ob).1[i]'(by omega)):=by simp [show i<(au k d A.ob).1.length by omega]
   have N:vs[i]?=some (vs[i]'(by omega)):=by simp [show i<vs.length by omega]
   exact m4 i _ y _ N hy (k2 i _ _ _ a N (alx l (g4 i _ _ _ _ ha a (u i _ v hr hv))))
  have O:n.length=cs.length:=by omega
  clear hx;clear z u h6 g4
  match n,cs,O,S with
  | [],[],_,hv=>exact .tup _ _ (by simp) λ i x c hx=>by simp at hx
  | [x],[c],_,hv=>exact hv 0 x c rfl rfl
  | x::x'::xs,c::c'::cs,hl,hv=>exact .tup _ _ (by simp at hl |-; omega) λ i y v hy hc=>hv i y v hy (by simpa using hc)
  | [],_::_,hl,_=>simp at hl
  | _::_,[],hl,_=>simp at hl
  | [_],_::_::_,hl,_=>simp at hl
  | _::_::_,[_],hl,_=>simp at hl
 cases e with
 | normal=>exact K a
 | ret=>exact K a
 | exit i=>obtain ⟨_,_,h,_⟩:=a; exact h.elim
 | goto l=>exact a.elim
 | panic ch=>exact a.elim
 | outgrown=>exact a.elim
theorem a0e {f:FuncId} {fn:Func} {c:Code} {pc:PC} {args:List AV} {po ro:List Ob} {res:AV} {rs:List RSl} (s:P.funcs[f]?=some fn) (u:fn.body=some c) (t:fn.ntmps<=100000) (g:qp P fn.ntmps c pc=true)
 (k:args.length<=fn.ntmps) (d:fn.results.toList=rs.map RSl.rv) (l:(rs.all λ p=>p.agg P)=true) (j:(rs.all λ p=>decide (p.1<fn.ntmps))=true) (m:(rs.map (·.1)).Nodup) (n:po.length<=1000)
 (h:W P po.length pc (arr po.length rs λ v os=>v=res/\os=ro) ⟨qu 0 args,ob0 po⟩):a8 P f args po res ro:=by
 intro w a ρ B i r y o b;refine (amw s u t g k d l j m n h w a ρ B i r y o b).mono ?_;rintro e z ⟨c,ρ',_,_,rfl,⟨rfl,rfl⟩,q,x⟩;exact ⟨c,ρ',rfl,q,x⟩
end

structure Shut (p:Prop):Prop where
 out:p
inductive Item where
 | c (c:PC)
 | blk (id:Nat)
 | lp (live:List (Nat×Bool)) (D:List AV->List Ob->List Ob->Prop)
 | cut (S:Env->Obs->Prop)
section
variable {P:Program}
theorem al8 {f:FuncId} {u:Nat} {ob:Obs} {K j:AV->Obs->Prop} (m:∀v o,K v o->j v o) {vs:List AV} {a:Option (List AV×List Nat)} (h:ajj P f u ob K vs a):ajj P f u ob j vs a:=by
 have b:∀{ob:Obs} {ids:List Nat} {as:List AV} {l:List Nat} {k:Bool} {o:Option (List Ob)},aht P f u ob ids as l k K o->aht P f u ob ids as l k j o:=λ {ob ids as l k o} h=>by
  cases o with
  | none=>exact h
  | some po=>obtain ⟨r,o,d,e,c,p,n⟩:=h; exact ⟨r,o,d,e,c,p,m _ _ n⟩
 rcases a with _ | ⟨as,_ | ⟨i,l⟩⟩
 ·exact b h
 ·exact b h
 exact h.imp b (Or.imp b (Or.imp b (Or.imp (λ ⟨id,v,z,g,d,e,c⟩=>⟨id,v,z,g,d,e,λ ex=>b (c ex)⟩) λ ⟨id,v,sz,z,g,d,e,c⟩=>⟨id,v,sz,z,g,d,e,b c⟩)))
theorem axf:∀{rs:List PR} {K j:St->Prop} {s:St},(∀s,K s->j s)->wpR P rs K s->wpR P rs j s
 | [],K,j,s,hK,h=>hK s h
 | r::rs,K,j,s,hK,h=>by
   have i:∀s,wpR P rs K s->wpR P rs j s:=λ s=>axf hK;simp only [wpR] at h |-;generalize yes s.e r.g=y at h |-;cases y with
   | none=>exact h
   | some b=>
     simp only [PR.wp] at h |-;rcases r with ⟨d,g,u,x⟩
     cases x with
     | see o=>exact ⟨h.1,i _ h.2⟩
     | act o=>exact ⟨λ c=>⟨(h.1 c).1,i _ (h.1 c).2⟩,λ c=>i _ (h.2 c)⟩
     | call f xs=>exact ⟨λ c=>⟨(h.1 c).1,al8 (λ v o=>i _) (h.1 c).2⟩,λ c=>i _ (h.2 c)⟩
     | callv x xs=>
       refine ⟨λ c=>⟨(h.1 c).1,(h.1 c).2.1,?_⟩,λ c=>i _ (h.2 c)⟩;have a:=(h.1 c).2.2;simp only at a |-;generalize (x.ev s.e).bare=y at a |-;cases y with
       | fn f cap=>cases f with
         | func f=>exact ⟨a.1,al8 (λ v o=>i _) a.2⟩
         | _=>exact a
       | _=>exact a
     | inv tbl x xs=>
       refine ⟨λ c=>⟨(h.1 c).1,(h.1 c).2.1,?_⟩,λ c=>i _ (h.2 c)⟩;have a:=(h.1 c).2.2;simp only at a |-;generalize (x.ev s.e).bare=y at a |-;cases y with
       | ifc t y=>
         simp only [apr] at a |-;generalize ja t tbl=q at a |-;cases q with
         | some f=>exact al8 (λ v o=>i _) a
         | none=>exact a
       | _=>exact a
     | nxt x=>
       refine ⟨λ c=>⟨(h.1 c).1,?_⟩,λ c=>i _ (h.2 c)⟩;have a:=(h.1 c).2;simp only at a |-;unfold ayr at a |-;split at a
       ·unfold a34 at a |-;split at a
        ·unfold bbo at a |-;split at a
         ·exact ⟨a.1,a.2.1,λ q=>i _ (a.2.2.1 q),λ q k=>i _ (a.2.2.2 q k)⟩
         exact a
        exact a
       exact a
theorem axg:∀{rs:List PR} {a:List Lg} {K b:List Lg->St->Prop} {s:St},(∀l s,K l s->b l s)->wpD P rs a s K->wpD P rs a s b
 | [],a,K,b,s,hK,h=>hK a s h
 | r::rs,a,K,b,s,hK,h=>by
   obtain ⟨c,e,d⟩:=h;exact ⟨c,e,axg hK d⟩
theorem bl5 {np:Nat}:∀{pc:PC} {K e:Ex->St->Prop} {s:St},(∀x s,K x s->e x s)->W P np pc K s->W P np pc e s:=by
 intro pc
 induction pc with
 | skip=>intro K e s d h; exact d _ _ h
 | reg rs=>intro K e s d h; exact axf (d .nor) h
 | seq a b iha ihb=>
   intro K e s d h;refine iha (λ x s h=>?_) h;cases x with
   | nor=>exact ihb d h
   | _=>exact d _ _ h
 | cond x a b iha ihb=>
   intro K e s d h;unfold W at h |-;split at h
   ·exact ⟨λ q=>iha d (h.1 q),λ q=>ihb d (h.2 q)⟩
   exact h.elim
 | block id c ih=>
   intro K e s d h;refine ih (λ x s h=>?_) h;cases x with
   | ex i=>
     simp only at h |-;split
     ·rename_i hi; rw [if_pos hi] at h; exact d _ _ h
     rename_i hi; rw [if_neg hi] at h; exact d _ _ h
   | _=>exact d _ _ h
 | loop c ih=>
   intro K e s d h;obtain ⟨live,I,m,j,k,g⟩:=h;refine ⟨live,I,m,j,k,λ vs pos f hv=>ih (λ x s h=>?_) (g vs pos f hv)⟩;cases x with
   | nor=>exact h
   | _=>exact d _ _ h
 | exit i=>intro K e s d h; exact d _ _ h
 | ret=>intro K e s d h; exact d _ _ h
 | drw rs pre=>intro K e s d h; exact axg (λ l s h=>⟨h.1,d _ _ h.2⟩) h
end
mutual
def run (P:Program) (np:Nat) (Q:Ex->St->Prop):List Item->St->Prop
 | [],s=>Q .nor s
 | .c c::is,s=>W P np c (λ x s=>match x with | .nor=>run P np Q is s | x=>unw P np Q is x s) s
 | .blk _::is,s=>run P np Q is s
 | .lp live D::_,s=>afn np live s D
 | .cut S::_,s=>S s.e s.ob
def unw (P:Program) (np:Nat) (Q:Ex->St->Prop):List Item->Ex->St->Prop
 | [],x,s=>Q x s
 | .blk id::is,.ex i,s=>if i=id then run P np Q is s else unw P np Q is (.ex i) s
 | _::is,x,s=>unw P np Q is x s
end
def ec (P:Program) (np:Nat) (Q:Ex->St->Prop) (rs:List PR) (a:List Item) (e:Env) (ob:Obs):Prop:=wpR P rs (run P np Q a) ⟨e,ob⟩
def stp (P:Program) (np:Nat) (Q:Ex->St->Prop) (d:Option Nat) (g:Option (Nat×Bool)) (u:Nat) (x:PX) (rs:List PR) (a:List Item) (e:Env) (ob:Obs):Option Bool->Prop
 | some b=>x.wp P ⟨d,g,u,x⟩ ⟨e,ob⟩ (wpR P rs (run P np Q a)) b
 | none=>False
def bjc (P:Program) (np:Nat) (Q:Ex->St->Prop) (d:Option Nat) (g:Option (Nat×Bool)) (b:Bool) (rs:List PR) (a:List Item) (e:Env) (R:Rs) (ob:Obs):Prop:=
 R.ok/\ec P np Q rs a (t5 d (gdv g b R.v) e) ob
def az8 (P:Program) (np:Nat) (Q:Ex->St->Prop) (d:Option Nat) (rs:List PR) (a:List Item) (e:Env) (R:Rs):Prop:=
 R.ok/\ec P np Q rs a (t5 d R.v e) R.ob
def cnd (P:Program) (np:Nat) (Q:Ex->St->Prop) (x:AV) (a b:PC) (d:List Item) (s:St):Prop:=match x with
 | .r (.v (.bool c))=>Shut ((c=true->run P np Q (.c a::d) s)/\(c=false->run P np Q (.c b::d) s))
 | _=>False
def zt (P:Program) (np:Nat) (Q:Ex->St->Prop) (f:FuncId) (u:Nat) (d:Option Nat) (rs:List PR) (a:List Item) (e:Env) (ob:Obs) (vs:List AV):Option (List AV×List Nat)->Prop:=
 ajj P f u ob (λ v ob=>ec P np Q rs a (t5 d v e) ob) vs
def ajg (P:Program) (np:Nat) (Q:Ex->St->Prop) (f:FuncId) (u:Nat) (d:Option Nat) (rs:List PR) (a:List Item) (e:Env) (ob:Obs) (as:List AV) (l:List Nat) (b:Bool) (ids:List Nat):Prop:=
 aht P f u ob ids (imL (fwd ob ids) as) l b (λ v ob=>ec P np Q rs a (t5 d v e) ob) (ao (fwd ob ids) ob ids)
def a43 (P:Program) (np:Nat) (Q:Ex->St->Prop) (f:FuncId) (u:Nat) (d:Option Nat) (rs:List PR) (a:List Item) (e:Env) (ob:Obs) (as:List AV) (l:List Nat) (b:Bool) (ids:List Nat):Option (List Ob)->Prop:=
 aht P f u ob ids as l b (λ v ob=>ec P np Q rs a (t5 d v e) ob)
def atx (P:Program) (np:Nat) (Q:Ex->St->Prop) (f:FuncId) (u:Nat) (d:Option Nat) (rs:List PR) (a:List Item) (e:Env) (ob:Obs) (as:List AV) (l:List Nat) (b:Bool) (ids:List Nat) (po:List Ob):Prop:=
 a43 P np Q f u d rs a e ob as l b ids (some po)
def aft (P:Program) (np:Nat) (Q:Ex->St->Prop) (u:Nat) (d:Option Nat) (rs:List PR) (a:List Item) (e:Env) (ob:Obs) (ids:List Nat) (res:AV) (ro:List Ob):Prop:=
 ec P np Q rs a (t5 d (imV (back ob u ids ro.length) res) e) (gk ob u ids (back ob u ids ro.length) 0 ro)
def a42 (P:Program) (np:Nat) (Q:Ex->St->Prop) (u:Nat) (d:Option Nat) (rs:List PR) (a:List Item) (e:Env) (ob:Obs) (vs:List AV) (x:AV):Prop:=
 a5h P u ob vs (λ v ob=>ec P np Q rs a (t5 d v e) ob) x
def aty (P:Program) (np:Nat) (Q:Ex->St->Prop) (tbl:List (TypeId×FuncId)) (u:Nat) (d:Option Nat) (rs:List PR) (a:List Item) (e:Env) (ob:Obs) (vs:List AV) (x:AV):Prop:=
 apr P tbl u ob vs (λ v ob=>ec P np Q rs a (t5 d v e) ob) x
def a9l (P:Program) (np:Nat) (Q:Ex->St->Prop) (u:Nat) (d:Option Nat) (rs:List PR) (a:List Item) (e:Env) (ob:Obs) (vs:List AV) (x:AV):Option FuncId->Prop
 | some f=>zt P np Q f u d rs a e ob (x::vs) (q7 ob (x::vs))
 | none=>False
def bbm (P:Program) (np:Nat) (Q:Ex->St->Prop) (d:Option Nat) (rs:List PR) (a:List Item) (e:Env) (ob:Obs) (x:AV):Prop:=ayr ob (λ v ob=>ec P np Q rs a (t5 d v e) ob) x
def bj7 (P:Program) (np:Nat) (Q:Ex->St->Prop) (d:Option Nat) (rs:List PR) (a:List Item) (e:Env) (ob:Obs) (id ver:Nat) (x:Option (AV×Nat×List Nat×Nat)):Prop:=a34 id ver ob (λ v ob=>ec P np Q rs a (t5 d v e) ob) x
def bj6 (P:Program) (np:Nat) (Q:Ex->St->Prop) (d:Option Nat) (rs:List PR) (c:List Item) (e:Env) (ob:Obs) (id ver:Nat) (m:AV) (a:Nat) (b:List Nat) (f:Nat) (x:Option (List MapEntry×Nat)):Prop:=
 bbo id ver ob m a b f (λ v ob=>ec P np Q rs c (t5 d v e) ob) x
variable {d:Option Nat}
theorem ayq {P:Program} {np:Nat} {Q:Ex->St->Prop} {rs:List PR} {g:List Item} {e:Env} {ob:Obs} {id ver:Nat} {m:AV} {a h c:Nat} {b:List Nat} {es:List MapEntry} (j:∀e,e∈es->e.born<a) (k:a<=h)
 (i:go es b=[]->ec P np Q rs g (t5 d (.tup [bl false]) e) ob)
 (l:∀f,f∈go es b->ec P np Q rs g (t5 d (.tup [bl true,.r (pe f.key),.r (pe f.val)]) e) (upd id (ver,.iter m a (b++[f.born]) c) ob)):bj6 P np Q d rs g e ob id ver m a b h (some (es,c)):=
 ⟨j,k,i,l⟩
section
variable (P:Program) (np:Nat) (Q:Ex->St->Prop) (is:List Item) (s:St) (e:Env) (ob:Obs)
theorem xh (d:Option Nat) (g:Option (Nat×Bool)) (u:Nat) (tbl:List (TypeId×FuncId)) (x:Opd) (a:List Opd) (rs:List PR):stp P np Q d g u (.inv tbl x a) rs is e ob (some true)=((x.ev e).may true/\eu true e a/\aty P np Q tbl u d rs is e ob (n7 e a) (x.ev e).bare):=by
 simp [stp,PX.wp,aty,ec]
theorem ki (d:Option Nat) (g:Option (Nat×Bool)) (u:Nat) (tbl:List (TypeId×FuncId)) (x:Opd) (a:List Opd) (rs:List PR):stp P np Q d g u (.inv tbl x a) rs is e ob (some false)=ec P np Q rs is (t5 d .undef e) ob:=by
 simp [stp,PX.wp,ec]
theorem ku (u:Nat) (d:Option Nat) (rs:List PR) (tbl:List (TypeId×FuncId)) (vs:List AV) (t:TypeId) (x:AV):aty P np Q tbl u d rs is e ob vs (.ifc t x)=a9l P np Q u d rs is e ob vs x (ja t tbl):=by
 simp only [aty,apr];generalize ja t tbl=q;cases q<;>rfl
theorem jq (u:Nat) (d:Option Nat) (rs:List PR) (vs:List AV) (x:AV) (f:FuncId):a9l P np Q u d rs is e ob vs x (some f)=zt P np Q f u d rs is e ob (x::vs) (q7 ob (x::vs)):=(rfl)
theorem xg (d:Option Nat) (g:Option (Nat×Bool)) (u:Nat) (x:Opd) (rs:List PR):stp P np Q d g u (.nxt x) rs is e ob (some true)=((x.ev e).may true/\bbm P np Q d rs is e ob (x.ev e).bare):=by
 simp [stp,PX.wp,bbm,ec]
theorem ry (d:Option Nat) (rs:List PR) (id ver:Nat):bbm P np Q d rs is e ob (.ptr id ver 0)=bj7 P np Q d rs is e ob id ver (gr ob id ver):=(rfl)
theorem oh (d:Option Nat) (rs:List PR) (id ver f a b g:Nat) (c:List Nat):bj7 P np Q d rs is e ob id ver (some (.mp f a,b,c,g))=bj6 P np Q d rs is e ob id ver (.mp f a) b c g (ai ob f a):=(rfl)
theorem nj (d:Option Nat) (g:Option (Nat×Bool)) (u:Nat) (x:Opd) (a:List Opd) (rs:List PR):stp P np Q d g u (.callv x a) rs is e ob (some true)=((x.ev e).may true/\eu true e a/\a42 P np Q u d rs is e ob (n7 e a) (x.ev e).bare):=by
 simp [stp,PX.wp,a42,ec]
theorem td (u:Nat) (d:Option Nat) (rs:List PR) (vs:List AV) (f:FuncId) (cap:List AV) (k:Nat):a42 P np Q u d rs is e ob vs (.fn (.func f) cap k)=(ab9 P f=true/\zt P np Q f u d rs is e ob (cap.take k++(vs++cap.drop k)) (q7 ob (cap.take k++(vs++cap.drop k)))):=(rfl)
theorem gf (d:Option Nat) (g:Option (Nat×Bool)) (u:Nat) (x:Opd) (a:List Opd) (rs:List PR):stp P np Q d g u (.callv x a) rs is e ob (some false)=ec P np Q rs is (t5 d .undef e) ob:=by
 simp [stp,PX.wp,ec]
theorem xp:run P np Q [] s=Q .nor s:=by unfold run; rfl
theorem rf:run P np Q (.c .skip::is) s=run P np Q is s:=by rw [run]; rfl
theorem xm (a b:PC):run P np Q (.c (.seq a b)::is) s=run P np Q (.c a :: .c b::is) s:=by
 rw [run,W,run];congr 1;funext x s;cases x<;>simp only [run,unw]
theorem xo (a:List PR):run P np Q (.c (.reg a)::is) ⟨e,ob⟩=ec P np Q a is e ob:=by rw [run]; rfl
theorem rk:ec P np Q [] is e ob=run P np Q is ⟨e,ob⟩:=(rfl)
theorem nu (d:Option Nat) (g:Option (Nat×Bool)) (u:Nat) (x:PX) (rs:List PR):ec P np Q (⟨d,g,u,x⟩::rs) is e ob=stp P np Q d g u x rs is e ob (yes e g):=by
 show PR.wp P ⟨d,g,u,x⟩ ⟨e,ob⟩ (wpR P rs (run P np Q is)) (yes e g) = _;generalize yes e g=y;cases y<;>rfl
theorem xf (d:Option Nat) (g:Option (Nat×Bool)) (u:Nat) (o:PO) (rs:List PR) (b:Bool):stp P np Q d g u (.see o) rs is e ob (some b)=bjc P np Q d g b rs is e (o.see b e ob) ob:=(rfl)
theorem xl (d:Option Nat) (g:Option (Nat×Bool)) (b:Bool) (rs:List PR) (p:Prop) (v:AV) (ob':Obs) (rd a:List Nat):bjc P np Q d g b rs is e ⟨p,v,ob',rd,a⟩ ob=(p/\ec P np Q rs is (t5 d (gdv g b v) e) ob):=(rfl)
theorem xi (d:Option Nat) (g:Option (Nat×Bool)) (u:Nat) (o:PO) (rs:List PR):stp P np Q d g u (.act o) rs is e ob (some true)=az8 P np Q d rs is e (o.act (d.getD 0) e ob):=by
 simp [stp,PX.wp,az8,ec]
theorem kj (d:Option Nat) (g:Option (Nat×Bool)) (u:Nat) (o:PO) (rs:List PR):stp P np Q d g u (.act o) rs is e ob (some false)=ec P np Q rs is (t5 d .undef e) ob:=by
 simp [stp,PX.wp,ec]
theorem jl (d:Option Nat) (g:Option (Nat×Bool)) (u:Nat) (f:FuncId) (a:List Opd) (rs:List PR):stp P np Q d g u (.call f a) rs is e ob (some false)=ec P np Q rs is (t5 d .undef e) ob:=by
 simp [stp,PX.wp,ec]
theorem yn (d:Option Nat) (rs:List PR) (p:Prop) (v:AV) (ob':Obs) (rd a:List Nat):az8 P np Q d rs is e ⟨p,v,ob',rd,a⟩=(p/\ec P np Q rs is (t5 d v e) ob'):=(rfl)
theorem re (d:Option Nat) (g:Option (Nat×Bool)) (u:Nat) (f:FuncId) (a:List Opd) (rs:List PR):stp P np Q d g u (.call f a) rs is e ob (some true)=(eu true e a/\zt P np Q f u d rs is e ob (n7 e a) (q7 ob (n7 e a))):=by
 simp [stp,PX.wp,zt,ec]
theorem la (f:FuncId) (u:Nat) (d:Option Nat) (rs:List PR) (vs as:List AV):zt P np Q f u d rs is e ob vs (some (as,[]))=ajg P np Q f u d rs is e ob as [] true (s9 ob 64 (o6 as) []):=(rfl)
theorem jr {P:Program} {np:Nat} {Q:Ex->St->Prop} {a:List Item} {e:Env} {ob:Obs} {f:FuncId} {u:Nat} {rs:List PR} {vs as:List AV} {l:List Nat} (h:ajg P np Q f u d rs a e ob as (i::l) false (s9 ob 64 (o6 as) [])):zt P np Q f u d rs a e ob vs (some (as,i::l)):=Or.inr (Or.inl h)
theorem j9 {P:Program} {np:Nat} {Q:Ex->St->Prop} {a:List Item} {e:Env} {ob:Obs} {f:FuncId} {u:Nat} {rs:List PR} {vs as:List AV} {l:List Nat} (h:ajg P np Q f u d rs a e (freeze ob (i::l)) as (i::l) true (s9 (freeze ob (i::l)) 64 (o6 as) [])):zt P np Q f u d rs a e ob vs (some (as,i::l)):=Or.inl h
theorem ow (f:FuncId) (u:Nat) (d:Option Nat) (rs:List PR) (vs:List AV):zt P np Q f u d rs is e ob vs none=ajg P np Q f u d rs is e ob vs [] true (s9 ob 64 (o6 vs) []):=(rfl)
theorem ajh {P:Program} {np:Nat} {Q:Ex->St->Prop} {a:List Item} {e:Env} {ob:Obs} {f:FuncId} {u:Nat} {rs:List PR} {vs as:List AV} {l:List Nat} (h:ajg P np Q f u d rs a e ob vs [] true (s9 ob 64 (o6 vs) [])):zt P np Q f u d rs a e ob vs (some (as,i::l)):=Or.inr (Or.inr (Or.inl h))
theorem a44 {P:Program} {np:Nat} {Q:Ex->St->Prop} {g:List Item} {e:Env} {ob:Obs} {f:FuncId} {u:Nat} {rs:List PR} {vs as:List AV} {l:List Nat} (id v sz:Nat) (z:RV) (a:List RV) (c:ob id=some (v,.row sz z true true a)) (b:a≠[])
 (h:ajg P np Q f u d rs g e (upd id (v,.row sz z false true a) ob) vs [] true (s9 (upd id (v,.row sz z false true a) ob) 64 (o6 vs) [])):zt P np Q f u d rs g e ob vs (some (as,i::l)):=Or.inr (Or.inr (Or.inr (Or.inr ⟨id,v,sz,z,a,c,b,h⟩)))
theorem a9m {P:Program} {np:Nat} {Q:Ex->St->Prop} {g:List Item} {e:Env} {ob:Obs} {f:FuncId} {u:Nat} {rs:List PR} {vs as:List AV} {l:List Nat} (id v:Nat) (z:RV) (a:List Value) (c:ob id=some (v,.row 1 z true true (a.map RV.v))) (b:a≠[])
 (h:∀m,ajg P np Q f u d rs g e (upd id (v,.box (a.map (λ x=>AV.r (.v x))++List.replicate m .undef)) ob) vs [] true (s9 (upd id (v,.box (a.map (λ x=>AV.r (.v x))++List.replicate m .undef)) ob) 64 (o6 vs) [])):zt P np Q f u d rs g e ob vs (some (as,i::l)):=Or.inr (Or.inr (Or.inr (Or.inl ⟨id,v,z,a,c,b,h⟩)))
theorem tg (f:FuncId) (u:Nat) (d:Option Nat) (rs:List PR) (as:List AV) (l:List Nat) (a:Bool) (ids:List Nat):ajg P np Q f u d rs is e ob as l a ids=a43 P np Q f u d rs is e ob (imL (fwd ob ids) as) l a ids (ao (fwd ob ids) ob ids):=(rfl)
theorem kw (f:FuncId) (u:Nat) (d:Option Nat) (rs:List PR) (as:List AV) (l:List Nat) (a:Bool) (ids:List Nat) (po:List Ob):a43 P np Q f u d rs is e ob as l a ids (some po)=atx P np Q f u d rs is e ob as l a ids po:=(rfl)
theorem a6 {P:Program} {np:Nat} {Q:Ex->St->Prop} {a:List Item} {e:Env} {ob:Obs} {f:FuncId} {u:Nat} {rs:List PR} {as:List AV} {l:List Nat} {ids:List Nat} {po:List Ob} {res:AV} {ro:List Ob}
 (h:a8 P f as po res ro) (c:okC u ids ro.length l true=true) (g:ct po ro) (b:aft P np Q u d rs a e ob ids res ro):atx P np Q f u d rs a e ob as l true ids po:=
 ⟨res,ro,h,c,g,(λ h=>by cases h),b⟩
theorem b5 {P:Program} {np:Nat} {Q:Ex->St->Prop} {a:List Item} {e:Env} {ob:Obs} {f:FuncId} {u:Nat} {rs:List PR} {as as':List AV} {l:List Nat} {b:Bool} {ids:List Nat} {po:List Ob} (has:as=as') (h:atx P np Q f u d rs a e ob as' l b ids po):atx P np Q f u d rs a e ob as l b ids po:=has▸h
theorem lq {P:Program} {np:Nat} {Q:Ex->St->Prop} {a:List Item} {e:Env} {ob:Obs} {f:FuncId} {u:Nat} {rs:List PR} {as:List AV} {l:List Nat} {ids:List Nat} {po:List Ob} {res:AV} {ro:List Ob}
 (h:a8 P f as po res ro) (c:okC u ids ro.length l false=true) (i:ct po ro) (j:bj res) (g:∀o∈ro,jt o) (b:aft P np Q u d rs a e ob ids res ro):atx P np Q f u d rs a e ob as l false ids po:=
 ⟨res,ro,h,c,i,λ _=>⟨j,g⟩,b⟩
theorem ac4 (u:Nat) (d:Option Nat) (rs:List PR) (ids:List Nat) (res:AV) (ro:List Ob):aft P np Q u d rs is e ob ids res ro=ec P np Q rs is (t5 d (imV (back ob u ids ro.length) res) e) (gk ob u ids (back ob u ids ro.length) 0 ro):=(rfl)
theorem rj (x:Opd) (a b:PC):run P np Q (.c (.cond x a b)::is) ⟨e,ob⟩=cnd P np Q (x.ev e) a b is ⟨e,ob⟩:=by
 rw [run,W]; unfold cnd; split
 ·simp only [*,run]; exact propext ⟨λ h=>⟨h⟩,λ h=>h.out⟩
 simp [*]
theorem sx (a b:PC):cnd P np Q (.r (.v (.bool true))) a b is s=run P np Q (.c a::is) s:=propext ⟨λ h=>h.out.1 rfl,λ h=>⟨λ _=>h,λ h=>by cases h⟩⟩
theorem ou (a b:PC):cnd P np Q (.r (.v (.bool false))) a b is s=run P np Q (.c b::is) s:=propext ⟨λ h=>h.out.2 rfl,λ h=>⟨(λ h=>by cases h),λ _=>h⟩⟩
theorem b7 {P:Program} {np:Nat} {Q:Ex->St->Prop} {d:List Item} {s:St} {c:Bool} {a b:PC} (f:c=true->run P np Q (.c a::d) s) (e:c=false->run P np Q (.c b::d) s):cnd P np Q (.r (.v (.bool c))) a b d s:=⟨⟨f,e⟩⟩
theorem nt (id:Nat) (c:PC):run P np Q (.c (.block id c)::is) s=run P np Q (.c c :: .blk id::is) s:=by
 rw [run,W,run];congr 1;funext x s;cases x with
 | nor=>simp only [run]
 | ex i=>simp only [unw]
 | rt=>simp [unw]
theorem ri (i:Nat):run P np Q (.c (.exit i)::is) s=unw P np Q is (.ex i) s:=by rw [run]; rfl
theorem xn:run P np Q (.c .ret::is) s=unw P np Q is .rt s:=by rw [run]; rfl
theorem xt (i:Nat):run P np Q (.blk i::is) s=run P np Q is s:=by rw [run]
theorem abq (l:List (Nat×Bool)) (D:List AV->List Ob->List Ob->Prop):run P np Q (.lp l D::is) s=afn np l s D:=by rw [run]
theorem xc (x:Ex):unw P np Q [] x s=Q x s:=by unfold unw; rfl
theorem xe (i j:Nat):unw P np Q (.blk j::is) (.ex i) s=if i=j then run P np Q is s else unw P np Q is (.ex i) s:=by rw [unw]
theorem kh (j:Nat):unw P np Q (.blk j::is) .rt s=unw P np Q is .rt s:=by simp [unw]
theorem ag8 (c:PC) (x:Ex):unw P np Q (.c c::is) x s=unw P np Q is x s:=by cases x<;>simp [unw]
theorem abj (l:List (Nat×Bool)) (D:List AV->List Ob->List Ob->Prop) (x:Ex):unw P np Q (.lp l D::is) x s=unw P np Q is x s:=by cases x<;>simp [unw]
theorem xr (S:Env->Obs->Prop):run P np Q (.cut S::is) ⟨e,ob⟩=S e ob:=by rw [run]
theorem xd (S:Env->Obs->Prop) (x:Ex):unw P np Q (.cut S::is) x s=unw P np Q is x s:=by cases x<;>simp [unw]
theorem al2 {P:Program} {np:Nat} {Q:Ex->St->Prop} {d:List Item} {s:St} {c:Bool} {a b:PC} (S:Env->Obs->Prop) (g:∀e ob,S e ob->run P np Q d ⟨e,ob⟩)
 (k:c=true->run P np Q (.c a :: .cut S::d) s) (j:c=false->run P np Q (.c b :: .cut S::d) s):cnd P np Q (.r (.v (.bool c))) a b d s:=by
 have f:∀a,run P np Q (.c a :: .cut S::d) s->run P np Q (.c a::d) s:=λ a h=>by
  rw [run] at h |-;refine bl5 (λ x s h=>?_) h;cases x with
  | nor=>simp only [run] at h; exact g _ _ h
  | ex i=>simp only [unw] at h; exact h
  | rt=>simp only [unw] at h; exact h
 exact ⟨⟨λ h=>f a (k h),λ h=>f b (j h)⟩⟩
theorem b9 {P:Program} {np:Nat} {Q:Ex->St->Prop} {g:List Item} {s:St} {c:PC} (live:List (Nat×Bool)) (I:List AV->List Ob->List Ob->Prop) (m:List AV->List Ob->List Ob->Nat) (i:(live.all λ p=>decide (p.1<100000))=true) (j:afn np live s I)
 (h:∀vs pos a,I vs pos a->run P np Q (.c c :: .lp live (λ f d b=>I f d b/\m f d b<m vs pos a)::g) (aqo live vs pos a)):run P np Q (.c (.loop c)::g) s:=by
 rw [run,W];refine ⟨live,I,m,i,j,λ vs pos a hv=>?_⟩;have:=h vs pos a hv;rw [run] at this;refine cast (congrArg (λ K=>W P np c K (aqo live vs pos a)) ?_) this;funext x e;cases x<;>simp only [run,unw]
theorem a0a {P:Program} {np:Nat} {Q:Ex->St->Prop} {s:St} {c:PC} (h:run P np Q [.c c] s):W P np c Q s:=by
 rw [run] at h;refine cast (congrArg (λ K=>W P np c K s) ?_) h;funext x e;cases x<;>simp only [run,unw]
theorem yo (rs:List RSl) (D:AV->List Ob->Prop) (e:Env) (ob:Obs):arr np rs D .rt ⟨e,ob⟩=opn np (rs.map λ p=>(p.1,p.2.1)) D rs e ob:=(rfl)
theorem tj (rs:List RSl) (D:AV->List Ob->Prop) (e:Env) (ob:Obs):arr np rs D .nor ⟨e,ob⟩=opn np (rs.map λ p=>(p.1,p.2.1)) D rs e ob:=(rfl)
theorem xy (a:List (Nat×Bool)) (D:AV->List Ob->Prop) (e:Env) (ob:Obs):opn np a D [] e ob=azn np a ⟨e,ob⟩ D:=(rfl)
theorem xx (c:List (Nat×Bool)) (D:AV->List Ob->Prop) (a:Nat) (b:Bool) (r:List RSl) (e:Env) (ob:Obs):opn np c D ((a,b,none)::r) e ob=opn np c D r e ob:=(rfl)
def opf (np:Nat) (b:List (Nat×Bool)) (D:AV->List Ob->Prop) (a:Nat) (r:List RSl) (e:Env) (ob:Obs) (R:Rs):Prop:=R.ok/\opn np b D r (put a R.v e) ob
theorem rr (c:List (Nat×Bool)) (D:AV->List Ob->Prop) (a:Nat) (b:Bool) (t:TypeId) (n:Option Nat) (r:List RSl) (e:Env) (ob:Obs):opn np c D ((a,b,some (t,n))::r) e ob=opf np c D a r e ob (ld1 true n (e a) ob):=(rfl)
theorem abz (b:List (Nat×Bool)) (D:AV->List Ob->Prop) (a:Nat) (r:List RSl) (e:Env) (ob:Obs) (p:Prop) (v:AV) (ob':Obs) (rd c:List Nat):opf np b D a r e ob ⟨p,v,ob',rd,c⟩=(p/\opn np b D r (put a v e) ob):=(rfl)
end
def ad7 (P:Program) (np:Nat) (Q:Ex->St->Prop) (b:List (List Nat)) (rs:List PR) (a:List Lg) (c:List Item) (e:Env) (ob:Obs):Prop:=wpD P rs a ⟨e,ob⟩ λ a s=>wv b a=true/\run P np Q c s
def ajy (P:Program) (np:Nat) (Q:Ex->St->Prop) (b:List (List Nat)) (d:Option Nat) (g:Option (Nat×Bool)) (u:Nat) (x:PX) (rs:List PR) (a:List Lg) (f:List Item) (e:Env) (ob:Obs) (y:Option Bool):Prop:=
 ∃c:Ans,(x.out P ⟨d,g,u,x⟩ ⟨e,ob⟩ c y).ok/\wpD P rs (a++[(x.out P ⟨d,g,u,x⟩ ⟨e,ob⟩ c y).lg]) (x.out P ⟨d,g,u,x⟩ ⟨e,ob⟩ c y).st λ a s=>wv b a=true/\run P np Q f s
def bk9 (P:Program) (np:Nat) (Q:Ex->St->Prop) (c:List (List Nat)) (r:PR) (b:Bool) (rs:List PR) (a:List Lg) (f:List Item) (e:Env) (ob:Obs) (R:Rs):Prop:=
 R.ok/\ad7 P np Q c rs (a++[r.lg R.rd []]) f (t5 r.d (gdv r.g b R.v) e) ob
def bee (P:Program) (np:Nat) (Q:Ex->St->Prop) (b:List (List Nat)) (r:PR) (rs:List PR) (a:List Lg) (c:List Item) (e:Env) (R:Rs):Prop:=
 R.ok/\ad7 P np Q b rs (a++[r.lg R.rd R.wr]) c (t5 r.d R.v e) R.ob
def dcA (P:Program) (np:Nat) (Q:Ex->St->Prop) (d:List (List Nat)) (r:PR) (f:FuncId) (p:Prop) (rs:List PR) (b:List Lg) (g:List Item) (e:Env) (ob:Obs) (a:List AV×List Nat×Bool):Prop:=
 ∃c:Ans,(dn P r ⟨e,ob⟩ f p c a).ok/\wpD P rs (b++[(dn P r ⟨e,ob⟩ f p c a).lg]) (dn P r ⟨e,ob⟩ f p c a).st λ b s=>wv d b=true/\run P np Q g s
def dcX (P:Program) (np:Nat) (Q:Ex->St->Prop) (b:List (List Nat)) (r:PR) (p:Prop) (rs:List PR) (a:List Lg) (d:List Item) (e:Env) (ob:Obs) (vs:List AV) (y:AV):Prop:=
 ∃c:Ans,(acq P r ⟨e,ob⟩ p c vs y).ok/\wpD P rs (a++[(acq P r ⟨e,ob⟩ p c vs y).lg]) (acq P r ⟨e,ob⟩ p c vs y).st λ a s=>wv b a=true/\run P np Q d s
def dcI (P:Program) (np:Nat) (Q:Ex->St->Prop) (b:List (List Nat)) (r:PR) (tbl:List (TypeId×FuncId)) (p:Prop) (rs:List PR) (a:List Lg) (d:List Item) (e:Env) (ob:Obs) (vs:List AV) (y:AV):Prop:=
 ∃c:Ans,(yj P r ⟨e,ob⟩ tbl p c vs y).ok/\wpD P rs (a++[(yj P r ⟨e,ob⟩ tbl p c vs y).lg]) (yj P r ⟨e,ob⟩ tbl p c vs y).st λ a s=>wv b a=true/\run P np Q d s
def blb (P:Program) (np:Nat) (Q:Ex->St->Prop) (b:List (List Nat)) (r:PR) (p:Prop) (rs:List PR) (a:List Lg) (c:List Item) (e:Env) (ob:Obs) (vs:List AV) (y:AV):Option FuncId->Prop
 | some f=>dcA P np Q b r f p rs a c e ob (fb (y::vs) (q7 ob (y::vs)))
 | none=>False
def dcB (P:Program) (np:Nat) (Q:Ex->St->Prop) (b:List (List Nat)) (r:PR) (f:FuncId) (p:Prop) (rs:List PR) (a:List Lg) (g:List Item) (e:Env) (ob:Obs) (as:List AV) (l:List Nat) (d:Bool) (ids:List Nat):Prop:=
 ∃c:Ans,(aks P r ⟨e,ob⟩ f p c as l d ids (ao (fwd ob ids) ob ids)).ok/\wpD P rs (a++[(aks P r ⟨e,ob⟩ f p c as l d ids (ao (fwd ob ids) ob ids)).lg]) (aks P r ⟨e,ob⟩ f p c as l d ids (ao (fwd ob ids) ob ids)).st λ a s=>wv b a=true/\run P np Q g s
def a5e (P:Program) (np:Nat) (Q:Ex->St->Prop) (b:List (List Nat)) (r:PR) (rs:List PR) (a:List Lg) (c:List Item) (e:Env) (ob:Obs) (l:List Nat) (ids:List Nat) (res:AV) (ro:List Ob):Prop:=
 ad7 P np Q b rs (a++[r.lg (l++(ids++iz r.u ids ro.length)) (iz r.u ids ro.length)]) c (t5 r.d (imV (back ob r.u ids ro.length) res) e) (gk ob r.u ids (back ob r.u ids ro.length) 0 ro)
def dcP (P:Program) (np:Nat) (Q:Ex->St->Prop) (a:List (List Nat)) (r:PR) (f:FuncId) (rs:List PR) (b:List Lg) (d:List Item) (e:Env) (ob:Obs) (as:List AV) (l:List Nat) (c:Bool) (ids:List Nat) (po:List Ob):Prop:=
 ∃(res:AV) (ro:List Ob),a8 P f as po res ro/\okC r.u ids ro.length l c=true/\ct po ro/\(c=false->bj res/\∀o∈ro,jt o)/\a5e P np Q a r rs b d e ob l ids res ro
def dcC (P:Program) (np:Nat) (Q:Ex->St->Prop) (b:List (List Nat)) (r:PR) (f:FuncId) (p:Prop) (rs:List PR) (a:List Lg) (c:List Item) (e:Env) (ob:Obs) (as:List AV) (l:List Nat) (d:Bool) (ids:List Nat):Option (List Ob)->Prop
 | some po=>p/\dcP P np Q b r f rs a c e ob as l d ids po
 | none=>False
section
variable (P:Program) (np:Nat) (Q:Ex->St->Prop) (pre:List (List Nat)) (log:List Lg) (is:List Item) (e:Env) (ob:Obs) (rs:List PR)
theorem xq (a:List PR):run P np Q (.c (.drw a pre)::is) ⟨e,ob⟩=ad7 P np Q pre a [] is e ob:=by rw [run]; rfl
theorem rl:ad7 P np Q pre [] log is e ob=(wv pre log=true/\run P np Q is ⟨e,ob⟩):=(rfl)
theorem nw (d:Option Nat) (g:Option (Nat×Bool)) (u:Nat) (x:PX):ad7 P np Q pre (⟨d,g,u,x⟩::rs) log is e ob=ajy P np Q pre d g u x rs log is e ob (yes e g):=(rfl)
theorem sj (d:Option Nat) (g:Option (Nat×Bool)) (u:Nat) (o:PO) (b:Bool):ajy P np Q pre d g u (.see o) rs log is e ob (some b)=bk9 P np Q pre ⟨d,g,u,.see o⟩ b rs log is e ob (o.see b e ob):=propext ⟨λ ⟨_,h⟩=>h,λ h=>⟨(.undef,[]),h⟩⟩
theorem ye (r:PR) (b:Bool) (p:Prop) (v:AV) (ob':Obs) (rd a:List Nat):bk9 P np Q pre r b rs log is e ob ⟨p,v,ob',rd,a⟩=(p/\ad7 P np Q pre rs (log++[r.lg rd []]) is (t5 r.d (gdv r.g b v) e) ob):=(rfl)
theorem sn (d:Option Nat) (g:Option (Nat×Bool)) (u:Nat) (o:PO):ajy P np Q pre d g u (.act o) rs log is e ob (some true)=bee P np Q pre ⟨d,g,u,.act o⟩ rs log is e (o.act (d.getD 0) e ob):=propext ⟨λ ⟨_,h⟩=>h,λ h=>⟨(.undef,[]),h⟩⟩
theorem sr (r:PR) (p:Prop) (v:AV) (ob':Obs) (rd a:List Nat):bee P np Q pre r rs log is e ⟨p,v,ob',rd,a⟩=(p/\ad7 P np Q pre rs (log++[r.lg rd a]) is (t5 r.d v e) ob'):=(rfl)
theorem jp (d:Option Nat) (g:Option (Nat×Bool)) (u:Nat) (o:PO):ajy P np Q pre d g u (.act o) rs log is e ob (some false)=ad7 P np Q pre rs (log++[PR.lg ⟨d,g,u,.act o⟩ [] []]) is (t5 d .undef e) ob:=propext ⟨λ ⟨_,_,h⟩=>h,λ h=>⟨(.undef,[]),trivial,h⟩⟩
theorem gz (d:Option Nat) (g:Option (Nat×Bool)) (u:Nat) (f:FuncId) (a:List Opd):ajy P np Q pre d g u (.call f a) rs log is e ob (some false)=ad7 P np Q pre rs (log++[PR.lg ⟨d,g,u,.call f a⟩ [] []]) is (t5 d .undef e) ob:=propext ⟨λ ⟨_,_,h⟩=>h,λ h=>⟨(.undef,[]),trivial,h⟩⟩
theorem oo (d:Option Nat) (g:Option (Nat×Bool)) (u:Nat) (f:FuncId) (a:List Opd):ajy P np Q pre d g u (.call f a) rs log is e ob (some true)=dcA P np Q pre ⟨d,g,u,.call f a⟩ f (eu true e a) rs log is e ob (fb (n7 e a) (q7 ob (n7 e a))):=(rfl)
theorem kr (d:Option Nat) (g:Option (Nat×Bool)) (u:Nat) (x:Opd) (a:List Opd):ajy P np Q pre d g u (.callv x a) rs log is e ob (some true)=dcX P np Q pre ⟨d,g,u,.callv x a⟩ ((x.ev e).may true/\eu true e a) rs log is e ob (n7 e a) (x.ev e).bare:=(rfl)
theorem sk (d:Option Nat) (g:Option (Nat×Bool)) (u:Nat) (tbl:List (TypeId×FuncId)) (x:Opd) (a:List Opd):ajy P np Q pre d g u (.inv tbl x a) rs log is e ob (some true)=dcI P np Q pre ⟨d,g,u,.inv tbl x a⟩ tbl ((x.ev e).may true/\eu true e a) rs log is e ob (n7 e a) (x.ev e).bare:=(rfl)
theorem yf (r:PR) (tbl:List (TypeId×FuncId)) (p:Prop) (vs:List AV) (t:TypeId) (y:AV):dcI P np Q pre r tbl p rs log is e ob vs (.ifc t y)=blb P np Q pre r p rs log is e ob vs y (ja t tbl):=by
 unfold dcI;simp only [yj];generalize ja t tbl=q;cases q with
 | some f=>rfl
 | none=>exact propext ⟨λ ⟨_,h,_⟩=>h.elim,λ h=>h.elim⟩
theorem ot (r:PR) (p:Prop) (vs:List AV) (y:AV) (f:FuncId):blb P np Q pre r p rs log is e ob vs y (some f)=dcA P np Q pre r f p rs log is e ob (fb (y::vs) (q7 ob (y::vs))):=(rfl)
theorem jo (d:Option Nat) (g:Option (Nat×Bool)) (u:Nat) (tbl:List (TypeId×FuncId)) (x:Opd) (a:List Opd):ajy P np Q pre d g u (.inv tbl x a) rs log is e ob (some false)=ad7 P np Q pre rs (log++[PR.lg ⟨d,g,u,.inv tbl x a⟩ [] []]) is (t5 d .undef e) ob:=propext ⟨λ ⟨_,_,h⟩=>h,λ h=>⟨(.undef,[]),trivial,h⟩⟩
theorem aci (r:PR) (p:Prop) (vs:List AV) (f:FuncId) (cap:List AV) (k:Nat):dcX P np Q pre r p rs log is e ob vs (.fn (.func f) cap k)=dcA P np Q pre r f (p/\ab9 P f=true) rs log is e ob (fb (cap.take k++(vs++cap.drop k)) (q7 ob (cap.take k++(vs++cap.drop k)))):=(rfl)
theorem el (d:Option Nat) (g:Option (Nat×Bool)) (u:Nat) (x:Opd) (a:List Opd):ajy P np Q pre d g u (.callv x a) rs log is e ob (some false)=ad7 P np Q pre rs (log++[PR.lg ⟨d,g,u,.callv x a⟩ [] []]) is (t5 d .undef e) ob:=propext ⟨λ ⟨_,_,h⟩=>h,λ h=>⟨(.undef,[]),trivial,h⟩⟩
theorem sq (r:PR) (f:FuncId) (p:Prop) (as:List AV) (l:List Nat) (a:Bool):dcA P np Q pre r f p rs log is e ob (as,l,a)=dcB P np Q pre r f p rs log is e ob as l a (s9 ob 64 (o6 as) []):=(rfl)
theorem acj (r:PR) (f:FuncId) (p:Prop) (as:List AV) (l:List Nat) (k:Bool) (ids:List Nat):dcB P np Q pre r f p rs log is e ob as l k ids=dcC P np Q pre r f p rs log is e ob (imL (fwd ob ids) as) l k ids (ao (fwd ob ids) ob ids):=by
 unfold dcB;generalize ao (fwd ob ids) ob ids=po;cases po with
 | none=>exact propext ⟨λ ⟨_,h,_⟩=>h.elim,λ h=>h.elim⟩
 | some po=>exact propext ⟨λ ⟨c,⟨j,d,a,b,i⟩,g⟩=>⟨j,c.1,c.2,d,a,b,i,g⟩,λ ⟨j,r,o,d,a,b,i,g⟩=>⟨(r,o),⟨j,d,a,b,i⟩,g⟩⟩
theorem sp (r:PR) (f:FuncId) (p:Prop) (as:List AV) (l:List Nat) (a:Bool) (ids:List Nat) (po:List Ob):dcC P np Q pre r f p rs log is e ob as l a ids (some po)=(p/\dcP P np Q pre r f rs log is e ob as l a ids po):=(rfl)
theorem yk (r:PR) (l ids:List Nat) (res:AV) (ro:List Ob):a5e P np Q pre r rs log is e ob l ids res ro=ad7 P np Q pre rs (log++[r.lg (l++(ids++iz r.u ids ro.length)) (iz r.u ids ro.length)]) is (t5 r.d (imV (back ob r.u ids ro.length) res) e) (gk ob r.u ids (back ob r.u ids ro.length) 0 ro):=(rfl)
end
variable {f:FuncId} {l ids:List Nat} {po ro:List Ob} {res:AV} {as:List AV}
theorem d5 {P:Program} {np:Nat} {Q:Ex->St->Prop} {b:List (List Nat)} {r:PR} {rs:List PR} {a:List Lg} {c:List Item} {e:Env} {ob:Obs}
 (h:a8 P f as po res ro) (i:okC r.u ids ro.length l true=true) (d:ct po ro) (g:a5e P np Q b r rs a c e ob l ids res ro):dcP P np Q b r f rs a c e ob as l true ids po:=
 ⟨res,ro,h,i,d,(λ h=>by cases h),g⟩
theorem i5 {P:Program} {np:Nat} {Q:Ex->St->Prop} {b:List (List Nat)} {r:PR} {rs:List PR} {a:List Lg} {c:List Item} {e:Env} {ob:Obs} {as':List AV} {d:Bool} (has:as=as') (h:dcP P np Q b r f rs a c e ob as' l d ids po):dcP P np Q b r f rs a c e ob as l d ids po:=has▸h
theorem ach {P:Program} {np:Nat} {Q:Ex->St->Prop} {b:List (List Nat)} {r:PR} {rs:List PR} {a:List Lg} {c:List Item} {e:Env} {ob:Obs}
 (h:a8 P f as po res ro) (j:okC r.u ids ro.length (i::l) false=true) (d:ct po ro) (k:bj res) (m:∀o∈ro,jt o) (g:a5e P np Q b r rs a c e ob (i::l) ids res ro):dcP P np Q b r f rs a c e ob as (i::l) false ids po:=
 ⟨res,ro,h,j,d,λ _=>⟨k,m⟩,g⟩
theorem abt (d:Nat) (x:AV) (e:Env) (n:Nat):put d x e n=if n=d then x else e n:=(rfl)
theorem abi (i:Nat) (x:Nat×Ob) (ob:Obs) (n:Nat):upd i x ob n=if n=i then some x else ob n:=(rfl)
theorem nz (d:Nat) (x:AV) (e:Env):t5 (some d) x e=put d x e:=(rfl)
theorem oc (x:AV) (e:Env):t5 none x e=e:=(rfl)
theorem ahq (e:Env) (n:Nat):(Opd.t n).ev e=e n:=(rfl)
theorem ahr (e:Env) (x:AV):(Opd.c x).ev e=x:=(rfl)
theorem ahk (b:Bool) (x:AV):gdv none b x=x:=(rfl)
theorem ahj (g:Nat×Bool) (b:Bool) (x:AV):gdv (some g) b x=.gd b x:=(rfl)
section
variable (np:Nat) (live:List (Nat×Bool)) (e:Env) (ob:Obs)
theorem oy (D:List AV->List Ob->List Ob->Prop):afn np live ⟨e,ob⟩ D=ays D (nrm 64 np 2000000 (au e live ob).1 (au e live ob).2):=(rfl)
theorem ol (D:List AV->List Ob->List Ob->Prop) (vs:List AV) (pos a:List Ob):ays D (some (vs,pos,a))=D vs pos a:=(rfl)
def ajt (np lb:Nat) (vs:List AV) (ob:Obs) (ids:List Nat):Option (List AV×List Ob×List Ob):=match vz (aae np lb ob ids) ob (fj np np),vz (aae np lb ob ids) ob ids with
 | some pos,some los=>some (imL (aae np lb ob ids) vs,pos,los)
 | _,_=>none
theorem ab3 (a lb:Nat) (vs:List AV):nrm a np lb vs ob=ajt np lb vs ob (ql np (s9 ob a (o6 vs++fj np np) [])):=(rfl)
theorem xj (vs:List AV) (pos a:List Ob):aqo live vs pos a=⟨keep live vs,ef 1000000 pos (ef 2000000 a λ _=>none)⟩:=(rfl)
theorem yc (rs:List (Nat×Bool)) (D:AV->List Ob->Prop):azn np rs ⟨e,ob⟩ D=aw5 np (au e rs ob).2 D (yx (au e rs ob).2 (au e rs ob).1):=(rfl)
def bed (D:AV->List Ob->Prop):Option (List AV×List Ob×List Ob)->Prop
 | some (vs,pos,los)=>D (xu vs) (pos++los)
 | none=>False
theorem kq (D:AV->List Ob->Prop) (vs:List AV) (l:List Nat):aw5 np ob D (some (vs,l))=bed D (nrm 64 np (1000000+np) vs (freeze ob l)):=by
 show ays _ _ = _;generalize nrm 64 np (1000000+np) vs (freeze ob l)=y;rcases y with _ | ⟨_,_,_⟩<;>rfl
theorem kp (D:AV->List Ob->Prop) (vs:List AV) (pos a:List Ob):bed D (some (vs,pos,a))=D (xu vs) (pos++a):=(rfl)
end
variable {α:Type}
theorem th (a b:α):(bif true then a else b)=a:=(rfl)
theorem ox (a b:α):(bif false then a else b)=b:=(rfl)

section
variable (P:Program)
def mU (t:TypeId):TypeDesc:=match P.underlying t with
 | some d=>d
 | none=>.invalid
def mS (t:TypeId):Nat:=match P.info? t with
 | some i=>i.size
 | none=>0
def mY (t:TypeId):Nat:=match P.info? t with
 | some i=>i.bytes
 | none=>0
def mZ (t:TypeId):Value:=match P.info? t with
 | some i=>match i.zero with
   | some v=>v
   | none=>.bool false
 | none=>.bool false
def mE (t:TypeId):TypeId:=match mU P t with
 | .slice e=>e
 | .array _ e=>e
 | .map _ e=>e
 | _=>0
def bki:Nat->List TypeId->List TypeId
 | 0,_=>[]
 | n+1,l=>l++bki n l
def mT:Nat->TypeId->List TypeId
 | 0,t=>[t]
 | n+1,t=>match mU P t with
   | .struct fs=>fs.toList.flatMap λ f=>mT n f.type
   | .array k e=>bki k (mT n e)
   | _=>[t]
def mV1 (t:TypeId):Value->RV
 | .slice _ _ _=>.sl (match mU P t with | .slice e=>mS P e | _=>1) []
 | v=>.v v
def mV (t:TypeId):RV:=match mZ P t with
 | .agg cs=>.agg (List.zipWith (mV1 P) (mT P 5 t) cs.toList)
 | v=>mV1 P t v
def mA1 (t:TypeId):Value->AV
 | .slice _ _ _=>match mU P t with
   | .slice e=>.nils (mS P e) (mV P e)
   | _=>.nils 1 (.v (.bool false))
 | v=>.r (.v v)
def mA (t:TypeId):List AV:=match mZ P t with
 | .agg cs=>List.zipWith (mA1 P) (mT P 5 t) cs.toList
 | v=>[mA1 P t v]
def mO (t:TypeId):Operand->Opd
 | .tmp n=>.t n
 | .const v=>.c (mA1 P t v)
 | .func f=>.c (.fn (.func f) [])
 | .global _=>.t 0
def mQ (x:Operand):Opd:=match x with
 | .tmp n=>.t n
 | .const (.slice _ _ _)=>.c (.nils 1 (.v (.bool false)))
 | .const v=>.c (.r (.v v))
 | .func f=>.c (.fn (.func f) [])
 | .global _=>.t 0
def mP (x:Option Operand):Option Opd:=match x with
 | none=>none
 | some x=>some (mQ x)
def mG (t:TypeId):Option Nat:=match mU P t with
 | .struct _=>some (mS P t)
 | .array _ _=>some (mS P t)
 | _=>none
def mK (t:TypeId):Bool:=match mU P t with
 | .map k _=>match mU P k with
   | .string=>true
   | _=>false
 | _=>false
def mKd (t:TypeId):Nat:=match mU P t with
 | .int _=>0
 | .bool=>1
 | _=>2
def mNe:BinOp->Bool
 | .neq=>true
 | _=>false
def bn5 (op:BinOp) (t:TypeId) (x y:Operand):PO:=match mU P t with
 | .bool=>.beq (mNe op) (mQ x) (mQ y)
 | .pointer _=>.eqn (mNe op) (mQ x)
 | .struct _=>.eqa (mNe op) ((mT P 5 t).map (mKd P)) (mQ x) (mQ y)
 | .array _ _=>.eqa (mNe op) ((mT P 5 t).map (mKd P)) (mQ x) (mQ y)
 | _=>.bin op (mQ x) (mQ y)
def bm3 (t:TypeId) (p:Nat×Operand):Nat×Nat×Opd:=match mU P t with
 | .struct fs=>match fs.toList[p.1]? with
   | some f=>(f.offset,mS P f.type,mO P f.type p.2)
   | none=>(0,0,mQ p.2)
 | _=>(p.1*mS P (mE P t),mS P (mE P t),mO P (mE P t) p.2)
def mTl (l:List TypeId) (i:Nat):TypeId:=match l[i]? with
 | some t=>t
 | none=>0
def bn4 (b:Builtin) (t:TypeId) (a:List TypeId) (c:List Operand):PX:=match b,c with
 | .len,[x]=>match mU P (mTl a 0) with
   | .map _ _=>.see (.lenm (mQ x))
   | .string=>.see (.len true (mQ x))
   | _=>.see (.len false (mQ x))
 | .clear,[x]=>.act (.clr (mS P (mE P (mTl a 0))) (mV P (mE P (mTl a 0))) (mO P (mTl a 0) x))
 | .delete,[x,y]=>.act (.mdel (mK P (mTl a 0)) (mQ x) (mQ y))
 | .append,[x,y]=>.act (.app (mS P (mE P t)) (mV P (mE P t)) (mY P (mE P t)) (mO P t x) (mO P t y))
 | .copy,[x,y]=>match mU P (mTl a 1) with
   | .string=>.act (.cps (mO P (mTl a 0) x) (mO P (mTl a 1) y))
   | _=>.act (.cpy (mS P (mE P (mTl a 0))) (mO P (mTl a 0) x) (mO P (mTl a 1) y))
 | .min,x::ys=>.see (.mm false (mQ x) (ys.map mQ))
 | .max,x::ys=>.see (.mm true (mQ x) (ys.map mQ))
 | _,_=>.see (.nck (.t 0))
def mX (o:Oper):PX:=match o.op with
 | .move x=>.see (.mov (mO P o.type x))
 | .assign x=>.see (.mov (mO P o.type x))
 | .pick c a b=>.see (.pick (mO P o.type c) (mO P o.type a) (mO P o.type b))
 | .binOp op t x y _=>.see (bn5 P op t x y)
 | .unOp op _ x=>.see (.un op (mQ x))
 | .convert a b x=>match mU P a,mU P b with
   | .int _,.int k=>.see (.conv k (mQ x))
   | .slice _,.string=>.see (.toStr (mQ x))
   | .string,.slice e=>.act (.toBytes (mV P e) (mQ x))
   | _,_=>.act (.mrk (mQ x))
 | .indexAddr t x i=>match mU P t with
   | .array n e=>.see (.iaa n (mS P e) (mQ x) (mQ i))
   | _=>.see (.ia (mS P (mE P t)) (mV P (mE P t)) (mQ x) (mQ i))
 | .index _ x i=>.see (.ixs (mQ x) (mQ i))
 | .load t x=>.see (.ld (mG P t) (mQ x))
 | .store t x y=>.act (.st (mS P t) (mQ x) (mO P t y))
 | .nilCheck x=>.see (.nck (mQ x))
 | .fieldAddr t x f=>match mU P t with
   | .struct fs=>match fs.toList[f]? with
     | some d=>.see (.fa d.offset (mQ x))
     | none=>.see (.nck (.t 0))
   | _=>.see (.nck (.t 0))
 | .field t x f=>match mU P t with
   | .struct fs=>match fs.toList[f]? with
     | some d=>.see (.fld d.offset (mG P d.type) (mQ x))
     | none=>.see (.nck (.t 0))
   | _=>.see (.nck (.t 0))
 | .slice t x lo hi mx=>match mU P t with
   | .string=>.see (.sls (mQ x) (mP lo) (mP hi))
   | .array n _=>.see (.sla n (mQ x))
   | _=>.see (.sll (mS P (mE P t)) (mO P t x) (mP lo) (mP hi) (mP mx))
 | .extract x i=>.see (.ext (mQ x) i)
 | .alloc t=>.act (.new (mA P t))
 | .box t x=>.act (.box (mO P t x))
 | .build t ps=>.see (.build (mA P t) (ps.toList.map (bm3 P t)))
 | .buildSlice t _ ps=>.act (.bsl (mS P (mE P t)) (mV P (mE P t)) (ps.toList.map λ p=>mO P (mE P t) p.2))
 | .makeSlice t l c=>.act (.mks (mS P (mE P t)) (mV P (mE P t)) (mY P (mE P t)) (mQ l) (mQ c))
 | .makeFunc f xs ys=>.see (.mkf f ((xs.toList++ys.toList).map mQ) xs.size)
 | .lookup t x i c=>.see (.lkp (mK P t) (mV P (mE P t)) c (mQ x) (mQ i))
 | .makeInterface t x=>.see (.mki t (mO P t x))
 | .typeAssert x _ t c=>.see (.tas t (mV P t) c (mQ x))
 | .entry x=>.see (.ent (mQ x))
 | .makeMap _ _=>.act .mkm
 | .mapUpdate t x i y=>.act (.mset (mK P t) (mQ x) (mQ i) (mO P (mE P t) y))
 | .range _ x=>.act (.rng (mQ x))
 | .next x _=>.nxt (mQ x)
 | .call c=>match c.callee with
   | .builtin b=>bn4 P b o.type c.argTypes.toList c.args.toList
   | .value (.func f)=>.call f (c.args.toList.map mQ)
   | .value x=>.callv (mQ x) (c.args.toList.map mQ)
   | .invoke _ _=>.see (.nck (.t 0))
 | _=>.see (.nck (.t 0))
def mC1 (o:Op):Nat:=match o with
 | .call c=>match c.callee with
   | .builtin _=>0
   | _=>1
 | _=>0
def mCs:List Oper->Nat
 | []=>0
 | o::os=>mC1 o.op+mCs os
def mCc:Code->Nat
 | .region _ ops _=>mCs ops.toList
 | .seq a b=>mCc a+mCc b
 | .cond _ a b=>mCc a+mCc b
 | .block _ c=>mCc c
 | .loop c=>mCc c
 | _=>0
def mGd (a:List Oper):Option (Nat×Bool)->Option (Nat×Bool)
 | none=>none
 | some (j,b)=>match a[j]? with
   | some o=>match o.dst with
     | some d=>some (d,b)
     | none=>none
   | none=>none
def mRs (a:List Oper):Nat->List Oper->List PR
 | _,[]=>[]
 | u,o::os=>match mC1 o.op with
   | 0=>⟨o.dst,mGd a o.guard,0,mX P o⟩::mRs a u os
   | _=>⟨o.dst,mGd a o.guard,u+1,mX P o⟩::mRs a (u+1) os
def mIn (x:Nat):List Nat->List Nat
 | []=>[x]
 | y::l=>match Nat.beq x y with
   | true=>y::l
   | false=>match Nat.ble x y with
     | true=>x::y::l
     | false=>y::mIn x l
def as4 (a:List (List Nat)):List Edge->List Nat
 | []=>[]
 | e::es=>match e.ground with
   | .textOnly _=>as4 a es
   | .gcOnly _=>as4 a es
   | _=>(e.on::(match a[e.on]? with | some l=>l | none=>[])).foldr mIn (as4 a es)
def bkh (a:List (List Nat)):List Oper->List (List Nat)
 | []=>a
 | o::os=>bkh (a++[as4 a o.after.toList]) os
def mkC:Nat->Code->PC
 | u,.region _ ops d=>match d with
   | true=>.drw (mRs P ops.toList u ops.toList) (bkh [] ops.toList)
   | false=>.reg (mRs P ops.toList u ops.toList)
 | u,.seq a b=>.seq (mkC u a) (mkC (u+mCc a) b)
 | u,.cond x a b=>.cond (mQ x) (mkC u a) (mkC (u+mCc a) b)
 | u,.block i c=>.block i (mkC u c)
 | u,.loop c=>.loop (mkC u c)
 | _,.exit i=>.exit i
 | _,.ret=>.ret
 | _,_=>.skip
end
def mR (P:Program) (f:Func):List RSl:=f.results.toList.map λ r=>match r with
 | .tmp t=>(t,false,none)
 | .cell a t=>(a,false,some (t,mG P t))
structure Mk (P:Program) (f:Func) where
 x:List RSl×PC
 h:(mR P f,mkC P 0 (f.body.getD .skip))=x:=by conv=>lhs; reduce; try simp only [Int.reduceOfNat,Int.reduceNegSucc]
def Fun (P:Program) (f k:Nat) (rs:List RSl) (pc:PC):Prop:=
 ∀{args:List AV} {po ro:List Ob} {res:AV},args.length=k->po.length<=1000->run P po.length (arr po.length rs λ v os=>v=res/\os=ro) [.c pc] ⟨qu 0 args,ob0 po⟩->a8 P f args po res ro
variable {k:Nat} {fn:Func} {pc:PC}
theorem afh {P:Program} {f:Nat} {rs:List RSl} (j:P.funcs[f]?=some fn) (m:fn.body=some (fn.body.getD .skip)) (l:fn.ntmps<=100000) (d:qp P fn.ntmps (fn.body.getD .skip) pc=true) (n:k<=fn.ntmps)
 (a:fn.results.toList=rs.map RSl.rv) (g:(rs.all λ p=>p.agg P)=true) (i:(rs.all λ p=>decide (p.1<fn.ntmps))=true) (b:(rs.map (·.1)).Nodup):Fun P f k rs pc:=
 λ e c h=>a0e j m l d (by rw [e]; exact n) a g i b c (a0a h)
def eqR:ResultVar->RSl->Bool
 | .tmp t,(a,_,none)=>t == a
 | .cell a t,(b,_,some (u,_))=>a == b&&t == u
 | _,_=>false
theorem a2u:∀{l:List ResultVar} {rs:List RSl},bf eqR l rs=true->l=rs.map RSl.rv
 | [],[],_=>rfl
 | [],_::_,h=>by cases h
 | _::_,[],h=>by cases h
 | x::l,y::rs,h=>by
   simp only [bf,zaa] at h;rw [zah,<- a2u h.2];congr 1;obtain ⟨a,b,c⟩:=y;have d:=h.1;cases x<;>rcases c with _ | ⟨u,v⟩<;>simp [eqR] at d<;>simp [RSl.rv,d]
def bcu (P:Program) (fn:Func) (k:Nat) (rs:List RSl) (pc:PC):Bool:=
 fn.body.isSome&&decide (fn.ntmps<=100000)&&qp P fn.ntmps (fn.body.getD .skip) pc&&decide (k<=fn.ntmps)&&bf eqR fn.results.toList rs&&rs.all (λ p=>p.agg P)&&rs.all (λ p=>decide (p.1<fn.ntmps))&&decide (rs.map (·.1)).Nodup
theorem apf {P:Program} {f:Nat} (b:P.funcs[f]?=some fn) {rs:List RSl} (h:bcu P fn k rs pc=true:=by kernel_rfl):Fun P f k rs pc:=by
 simp only [bcu,zaa,decide_eq_true_eq] at h;obtain ⟨⟨⟨⟨⟨⟨⟨a,d⟩,g⟩,j⟩,l⟩,i⟩,m⟩,e⟩:=h;refine afh b ?_ d g j (a2u l) i m e;cases hb:fn.body with
 | none=>rw [hb] at a; cases a
 | some c=>rfl
abbrev a0c {P:Program} {fn:Func} (f k:Nat) (x:Mk P fn):Prop:=Fun P f k x.1.1 x.1.2
theorem Mk.t {P:Program} (m:Mk P fn) {f:Nat} (a:P.funcs[f]?=some fn) {args:List AV} (d:run P po.length (arr po.length m.1.1 λ v os=>v=res/\os=ro) [.c m.1.2] ⟨qu 0 args,ob0 po⟩)
 (b:po.length<=1000:=by first | decide | simp) (h:bcu P fn args.length m.1.1 m.1.2=true:=by kernel_rfl):a8 P f args po res ro:=apf a h rfl b d

theorem bcz (n:Nat):@Nat.cast Int _ (no_index (OfNat.ofNat n))=OfNat.ofNat n:=rfl
attribute [push_cast high] bcz
attribute [push_cast] eq_self iff_self
attribute [push_cast] xr xd xh ki ku jq xg ry oh nj td gf xp rf xm xo rk nu xf xl xi kj re jl yn la ow tg kw ac4 rj sx ou nt ri xn xt abq xc xe kh ag8 abj yo tj xy xx rr abz xq rl nw sj ye sn sr jp gz oo sk jo yf ot kr aci el sq acj sp yk iz List.range_zero abt abi nz oc ahq ahr ahk ahj oy ol ab3 ajt xj yc kq kp ja ai gr yw ab7 vc ajl aaj yz aai agk zb zr uz va agc aaa aee agl toV ady adz qh sa pe yes ah0 bad ag qr mmL se agj eq2 eql AV.isA PO.see PO.act Vs.q Rs.and AV.bare AV.may aer ain aim aes xw un1 yh aah ia2 iab leb aeh ldb ldr ld1 ab4 acg fa1 ajw bnd ad4 yu aen src ni jn n7 eu PO.see.mayO PO.see.bareO l9 u3 mr nv AV.rv rvs AV.elt frz freeze u9 dp stb str st2 za par aal aep zy agb dr ma aju RV.cells AV.cells AV.one RV.one AV.boxable RV.good d9 au uo yx age aic aib uv ur vw AV.isNil xu qu fb q7 mn br o6 ajv s9 fwd aig abo ao m0 lf mv back gk imV imL imO idx ef obs keep fj ab8 ql aae xz vz aex Ob.own Value.oneCell' th ox true_and and_true and_self true_implies imp_self implies_true Option.getD_some Option.getD_none zaj List.length_nil List.length_map zah List.map_nil List.getD_cons_zero List.getD_cons_succ List.take_succ_cons List.take_zero List.drop_succ_cons List.drop_zero List.cons_append List.nil_append List.append_nil List.all_cons List.all_nil Bool.and_true Bool.true_and Bool.false_and Bool.and_self Bool.or_true Bool.true_or Bool.false_or Bool.or_false Bool.not_true Bool.not_false List.contains_cons List.contains_nil List.filter_cons List.filter_nil decide_true decide_false if_true if_false false_and and_false not_true not_false_eq_true Option.map_some Option.map_none List.getElem?_cons_zero List.getElem?_cons_succ List.getElem?_nil List.length_append beq_self_eq_true List.take_nil List.drop_nil false_implies zad ne_eq

end
end Go.Ev

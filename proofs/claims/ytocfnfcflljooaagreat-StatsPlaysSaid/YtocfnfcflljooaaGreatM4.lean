import Derived.Orders
import Derived.Test.YtocfnfcflljooaaGreatM3
open Bool renaming and_eq_true → zaa, false_eq_true → zad
open Array renaming getD_eq_getD_getElem? → zab, getElem?_append → zaf, getElem?_eq_some_iff → zaj
open List renaming all_eq_true → zac, map_cons → zag, getElem?_eq_some_iff → zah, length_cons → zai
open Nat renaming le_refl → zae
open Option renaming map_eq_some_iff → zak
namespace Go.Ev
set_option maxHeartbeats 8000000
set_option maxRecDepth 100000
noncomputable section
open Go
set_option linter.unusedSectionVars false
set_option linter.unnecessarySimpa false
set_option linter.unusedSimpArgs false
set_option linter.unusedVariables false
open Classical in
def mb {L C:Type} (r:Nat->L->C) (Wt:Nat->L->Prop) (S:Nat->Prop):Nat->L->C
 | 0,l=>r 0 l
 | k+1,l=>if S k/\Wt k l then r (k+1) l else mb r Wt S k l
section
variable {L C:Type} {n:Nat} {r:Nat->L->C} {Wt Us pre:Nat->L->Prop} {S:Nat->Prop} {pr:Nat->Nat->Prop}
theorem a0w (c:∀k l,k<n->¬Wt k l->r (k+1) l=r k l) (d:∀i j,i<j->j<n->¬pr j i->∀l,¬(Wt i l/\Us j l)/\¬(Wt j l/\Us i l))
 (q:∀j,S j->∀i,pr j i->S i) {j:Nat} (u:j<n) (g:¬S j) (p:∀i,pr j i->S i) {l:L} (o:Us j l):mb r Wt S n l=r j l:=by
 have s:∀k,k<=j->mb r Wt S k l=r k l:=λ k=>by
  induction k with
  | zero=>intro _; rfl
  | succ k ih=>
    intro w;simp only [mb];by_cases b:Wt k l
    ·have:S k:=p k (Classical.byContradiction λ a=>(d k j (by omega) u a l).1 ⟨b,o⟩);rw [if_pos ⟨this,b⟩]
    rw [if_neg (λ h=>b h.2),ih (by omega),c k l (by omega) b]
 have t:∀m,j+m<=n->mb r Wt S (j+m) l=r j l:=λ m=>by
  induction m with
  | zero=>intro _; exact s j (zae _)
  | succ m ih=>
    intro v;rw [show j+(m+1)=(j+m)+1 by omega];simp only [mb];rw [if_neg,ih (by omega)];rintro ⟨f,b⟩
    have e:j<j+m:=by
     rcases Nat.eq_zero_or_pos m with h | h
     ·subst h; exact (g f).elim
     omega
    exact g (q _ f j (Classical.byContradiction λ a=>(d j (j+m) e (by omega) a l).2 ⟨b,o⟩))
 have:=t (n-j) (by omega)
 rwa [show j+(n-j)=n by omega] at this
theorem aqh {j:Nat} {l:L} (b:¬Wt j l):∀k,mb r Wt (λ i=>S i\/i=j) k l=mb r Wt S k l
 | 0=>rfl
 | k+1=>by
   simp only [mb]
   have:((S k\/k=j)/\Wt k l)↔(S k/\Wt k l):=by
    constructor
    ·rintro ⟨h | h,a⟩
     ·exact ⟨h,a⟩
     subst h; exact (b a).elim
    rintro ⟨h,a⟩; exact ⟨.inl h,a⟩
   by_cases h:S k/\Wt k l
   ·rw [if_pos h,if_pos (this.2 h)]
   rw [if_neg h,if_neg (λ q=>h (this.1 q)),aqh b k]
theorem aw0 (c:∀k l,k<n->Wt k l->Us k l) (d:∀i j,i<j->j<n->¬pr j i->∀l,¬(Wt i l/\Us j l)/\¬(Wt j l/\Us i l))
 (o:∀j,S j->∀i,pr j i->S i) {j:Nat} (p:j<n) (h:¬S j) {l:L} (e:Wt j l):mb r Wt (λ i=>S i\/i=j) n l=r (j+1) l:=by
 have g:∀m,j+1+m<=n->mb r Wt (λ i=>S i\/i=j) (j+1+m) l=r (j+1) l:=λ m=>by
  induction m with
  | zero=>
    intro _;simp only [mb];rw [if_pos ⟨.inr rfl,e⟩]
  | succ m ih=>
    intro q;rw [show j+1+(m+1)=(j+1+m)+1 by omega];simp only [mb];rw [if_neg,ih (by omega)];rintro ⟨f | f,a⟩
    ·exact h (o _ f j (Classical.byContradiction λ b=>(d j (j+1+m) (by omega) (by omega) b l).2 ⟨a,c j l p e⟩))
    omega
 have:=g (n-(j+1)) (by omega)
 rwa [show j+1+(n-(j+1))=n by omega] at this
theorem ail (a:∀k l,k<n->¬Wt k l->r (k+1) l=r k l) (c:∀k,k<n->S k) {l:L}:∀k,k<=n->mb r Wt S k l=r k l
 | 0,_=>rfl
 | k+1,hk=>by
   simp only [mb];by_cases b:Wt k l
   ·rw [if_pos ⟨c k (by omega),b⟩]
   rw [if_neg (λ h=>b h.2),ail a c k (by omega),a k l (by omega) b]
theorem alr (a:∀k,¬S k) {l:L}:∀k,mb r Wt S k l=r 0 l
 | 0=>rfl
 | k+1=>by
   simp only [mb];rw [if_neg (λ h=>a k h.1),alr a k]
theorem alq {p q:Nat->Bool} {j:Nat} (a:∀x,q x=true->p x=true) (c:p j=true) (d:q j=false):∀{l:List Nat},j∈l->l.countP q<l.countP p
 | x::l,h=>by
   have e:l.countP q<=l.countP p:=List.countP_mono_left λ x _=>a x;rw [List.countP_cons,List.countP_cons];rcases List.mem_cons.1 h with h | h
   ·subst h;rw [c,d];simp;omega
   have:=alq a c d h
   have:(if q x=true then 1 else 0)<=(if p x=true then 1 else 0):=by
    by_cases b:q x=true
    ·rw [if_pos b,if_pos (a x b)]; exact zae _
    rw [if_neg b]; exact Nat.zero_le _
   omega
end
def aky (a b:List Nat):Bool:=a.all λ x=>!b.contains x
def ax3 (a b:Lg):Bool:=aky a.d b.us&&aky b.d a.us&&(aky a.wr b.rd||(a.st&&b.ad))&&(aky b.wr a.rd||(b.st&&a.ad))
def ot (b:List (List Nat)) (a:List Lg):Bool:=
 (List.range a.length).all λ j=>(List.range j).all λ i=>(b.getD j []).contains i||ax3 (a.getD i default) (a.getD j default)
def wpD (P:Program):List PR->List Lg->St->(List Lg->St->Prop)->Prop
 | [],log,s,K=>K log s
 | r::rs,log,s,K=>∃c:Ans,(r.out P s c).ok/\wpD P rs (log++[(r.out P s c).lg]) (r.out P s c).st K
theorem ao0 {P:Program} {K:List Lg->St->Prop}:∀{rs:List PR} {b:List Lg} {s:St},wpD P rs b s K ->
 ∃(R:Nat->St) (C:Nat->Ans) (a:List Lg),R 0=s/\a.length=rs.length/\(∀k r,rs[k]?=some r->(r.out P (R k) (C k)).ok/\R (k+1)=(r.out P (R k) (C k)).st/\a[k]?=some (r.out P (R k) (C k)).lg)/\K (b++a) (R rs.length)
 | [],b,s,h=>⟨λ _=>s,λ _=>(.undef,[]),[],rfl,rfl,by simp,by rw [List.append_nil]; exact h⟩
 | r::rs,b,s,h=>by
   obtain ⟨c,j,l⟩:=h;obtain ⟨R,C,a,f,g,e,i⟩:=ao0 l;refine ⟨λ k=>match k with | 0=>s | k+1=>R k,λ k=>match k with | 0=>c | k+1=>C k,(r.out P s c).lg::a,rfl,by simp [g],λ k q d=>?_,by simpa using i⟩;cases k with
   | zero=>simp at d; subst d; exact ⟨j,f,by simp⟩
   | succ k=>simp at d; exact ⟨(e k q d).1,(e k q d).2.1,by simpa using (e k q d).2.2⟩
inductive Lc where
 | t (i:Nat)
 | o (i:Nat)
 | p (i:Nat)
inductive Ct where
 | t (x:AV)
 | o (x:Option (Nat×Ob))
 | p (x:Option (Nat×Option Nat))
def z5 (s:St):Lc->Ct
 | .t t=>.t (s.e t)
 | .o i=>.o (s.ob i)
 | .p i=>.p (pin (s.ob i))
theorem alf {s s':St} (h:∀l,z5 s l=z5 s' l):s=s':=by
 rcases s with ⟨e,ob⟩
 rcases s' with ⟨e',ob'⟩
 have a:e=e':=funext λ t=>by simpa [z5] using h (.t t)
 have b:ob=ob':=funext λ t=>by simpa [z5] using h (.o t)
 rw [a,b]
def wrt (a:List Lg) (k:Nat):Lc->Prop
 | .t t=>t∈(a.getD k default).d
 | .o i=>i∈(a.getD k default).wr
 | .p i=>i∈(a.getD k default).wr/\(a.getD k default).st=false
def usd (a:List Lg) (k:Nat):Lc->Prop
 | .t t=>t∈(a.getD k default).us
 | .o i=>i∈(a.getD k default).rd/\(a.getD k default).ad=false
 | .p i=>i∈(a.getD k default).rd
variable {i:Nat}
theorem aax {a b:List Nat} (h:aky a b=true) (c:i∈a) (d:i∈b):False:=by
 simp only [aky,zac] at h;have:=h i c;simp [d] at this
variable {j:Nat}
theorem au4 {f:List (List Nat)} {c:List Lg} (h:ot f c=true) (k:i<j) (n:j<c.length) (m:¬(i∈f.getD j [])) (l:Lc):¬(wrt c i l/\usd c j l)/\¬(wrt c j l/\usd c i l):=by
 simp only [ot,zac,List.mem_range,Bool.or_eq_true] at h;have g:=(h j n i k).resolve_left (by simpa using m);simp only [ax3,zaa,Bool.or_eq_true] at g;obtain ⟨⟨⟨g,q⟩,e⟩,d⟩:=g;cases l with
 | t t=>exact ⟨λ ⟨a,b⟩=>aax g a b,λ ⟨a,b⟩=>aax q a b⟩
 | o t=>
   refine ⟨λ ⟨a,b⟩=>?_,λ ⟨a,b⟩=>?_⟩
   ·rcases e with e | ⟨_,e⟩
    ·exact aax e a b.1
    rw [b.2] at e; cases e
   rcases d with d | ⟨_,d⟩
   ·exact aax d a b.1
   rw [b.2] at d; cases d
 | p t=>
   refine ⟨λ ⟨a,b⟩=>?_,λ ⟨a,b⟩=>?_⟩
   ·rcases e with e | ⟨e,_⟩
    ·exact aax e a.1 b
    rw [a.2] at e; cases e
   rcases d with d | ⟨d,_⟩
   ·exact aax d a.1 b
   rw [a.2] at d; cases d
theorem aiw {P:Program} {r:PR} {s:St} {c:Ans}:(r.out P s c).lg.us=gus r.g++(r.x.us++r.d.toList)/\(r.out P s c).lg.d=r.d.toList:=by
 rcases r with ⟨d,g,u,x⟩
 unfold PR.out;simp only;generalize yes s.e g=y;rcases y with _ | b
 ·cases x<;>exact ⟨rfl,rfl⟩
 cases x with
 | see o=>exact ⟨rfl,rfl⟩
 | act o=>cases b<;>exact ⟨rfl,rfl⟩
 | call f xs=>cases b with
   | false=>exact ⟨rfl,rfl⟩
   | true=>
     simp only [PX.out];generalize bj (n6 s.e xs) (q7 s.ob (n6 s.e xs))=q;simp only [ak];generalize v9 _ _ _=po;cases po<;>exact ⟨rfl,rfl⟩
 | callv x xs=>cases b with
   | false=>exact ⟨rfl,rfl⟩
   | true=>
     simp only [PX.out];generalize (x.ev s.e).bare=y;cases y with
     | fn f cap k=>cases f with
       | func f=>
         simp only [vj];generalize bj (cap.take k++(n6 s.e xs++cap.drop k)) (q7 s.ob (cap.take k++(n6 s.e xs++cap.drop k)))=q;simp only [ak];generalize v9 _ _ _=po;cases po<;>exact ⟨rfl,rfl⟩
       | _=>exact ⟨rfl,rfl⟩
     | _=>exact ⟨rfl,rfl⟩
 | inv tbl x xs=>cases b with
   | false=>exact ⟨rfl,rfl⟩
   | true=>
     simp only [PX.out];obtain ⟨rd,a,e⟩:=aio (P:=P) (r:=⟨d,g,u,.inv tbl x xs⟩) (s:=s) (c:=c) (tbl:=tbl) (p:=(x.ev s.e).may true/\bi true s.e xs) (vs:=n6 s.e xs) (y:=(x.ev s.e).bare);rw [e];exact ⟨rfl,rfl⟩
 | nxt x=>cases b<;>exact ⟨rfl,rfl⟩
theorem aci {d:Array Oper} {a:List (List Nat)} (h:ajz d a=true) {o:Oper} (l:d[j]?=some o) :
 (∀e∈o.after,Region.binds .any e=true->e.on<j)/\∀k,k∈a.getD j []->∃e∈o.after,Region.binds .any e=true/\(e.on=k\/k∈a.getD e.on []):=by
 simp only [ajz,zaa,zac,List.mem_range] at h;have b:=h.2 j (zaj.1 l).1;rw [l] at b;rcases hp:a[j]? with _ | p
 ·rw [hp] at b; cases b
 rw [hp] at b;simp only [zaa,zac,Array.all_eq_true_iff_forall_mem] at b;refine ⟨λ e f c=>?_,λ k i=>?_⟩
 ·have:=b.1 e f;rw [c] at this;simpa using this
 have g:a.getD j []=p:=by simp [List.getD_eq_getElem?_getD,hp]
 rw [g] at i;have:=(b.2 k i).2;rw [Array.any_eq_true'] at this;obtain ⟨e,f,c⟩:=this;simp only [zaa,Bool.or_eq_true,beq_iff_eq,List.contains_iff_mem] at c;exact ⟨e,f,c.1,c.2⟩

def mz (fl:Bool) (id:Nat) (ob:Obs):AV->AV×Obs
 | .nils sz z=>if fl then (.own id (nv ob id) 0 0,upd id (nv ob id,.row sz z true true []) ob) else (.nils sz z,ob)
 | x=>(x,ob)
def x8 (e:Env):List (Nat×Bool)->Obs->List AV×Obs
 | [],ob=>([],ob)
 | (t,fl)::r,ob=>((mz fl (900000+t) ob (e t)).1::(x8 e r (mz fl (900000+t) ob (e t)).2).1,(x8 e r (mz fl (900000+t) ob (e t)).2).2)
def am6 (D:List AV->List Ob->List Ob->Prop):Option (List AV×List Ob×List Ob)->Prop
 | some (vs,pos,los)=>D vs pos los
 | none=>False
def yr (np:Nat) (live:List (Nat×Bool)) (s:St) (D:List AV->List Ob->List Ob->Prop):Prop:=
 am6 D (nrm 64 np 2000000 (x8 s.e live s.ob).1 (x8 s.e live s.ob).2)
def keep:List (Nat×Bool)->List AV->Env
 | l::ls,x::xs=>put l.1 x (keep ls xs)
 | _,_=>λ _=>.undef
def ahx (live:List (Nat×Bool)) (vs:List AV) (pos a:List Ob):St:=⟨keep live vs,az 1000000 pos (az 2000000 a λ _=>none)⟩
def W (P:Program) (np:Nat):PC->(Ex->St->Prop)->St->Prop
 | .skip,K,s=>K .nor s
 | .reg rs,K,s=>wpR P rs (K .nor) s
 | .seq a b,K,s=>W P np a (λ x s=>match x with | .nor=>W P np b K s | x=>K x s) s
 | .cond x a b,K,s=>match x.ev s.e with
   | .r (.v (.bool c))=>(c=true->W P np a K s)/\(c=false->W P np b K s)
   | _=>False
 | .block id c,K,s=>W P np c (λ x s=>match x with | .ex i=>if i=id then K .nor s else K (.ex i) s | x=>K x s) s
 | .loop c,K,s=>∃(live:List (Nat×Bool)) (I:List AV->List Ob->List Ob->Prop) (m:List AV->List Ob->List Ob->Nat),(live.all λ p=>decide (p.1<100000))=true/\yr np live s I /\
  ∀vs pos g,I vs pos g->W P np c (λ x s'=>match x with | .nor=>yr np live s' (λ h d f=>I h d f/\m h d f<m vs pos g) | x=>K x s') (ahx live vs pos g)
 | .exit i,K,s=>K (.ex i) s
 | .ret,K,s=>K .rt s
 | .drw rs pre,K,s=>wpD P rs [] s λ j s=>ot pre j=true/\K .nor s
section
variable {P:Program} {X:Cx} [GlC P X] {w w':World} {s:St} {ρ ρ':Pl->Option Nat} {a:Act} {o:Oper} {ob ob':Obs} {R R':Nat->Prop} {ops:Array Oper} {Q:Exit->Act->World->Prop}
theorem ar9 (p:Gam X s ρ a w) {g:Option (Nat×Bool)} {b:Bool} (hc:aw1 ops o.guard g=true) (hy:yes s.e g=some b):Region.wanted o (yielded ops a.tmps)=b:=by
 unfold aw1 at hc;split at hc
 ·rename_i f;simp [yes] at hy;subst hy;simp [Region.wanted,f]
 ·rename_i j d t l n;simp only [zaa,beq_iff_eq] at hc;obtain ⟨rfl,m⟩:=hc;have c:=p.env t;simp only [yes] at hy;simp only [Region.wanted,n,yielded,m,Option.bind_some];generalize s.e t=x at c hy;unfold aaz at hy;split at hy
  ·rename_i q;cases hy;have f:=m7 c
   have k:a.tmps[t]?=some (.bool q):=by
    rcases hq:a.tmps[t]? with _ | u
    ·simp [zab,hq,undef] at f
    simp [zab,hq] at f;rw [f]
   rw [k];cases d<;>cases q<;>rfl
  ·rename_i h q;cases hy;cases c with
   | gd _ f h3=>
   cases h
   ·have k:=h3 rfl;rcases hq:a.tmps[t]? with _ | u
    ·simp
    simp [zab,hq] at k;subst k;simp [undef]
   have i:=m7 (f rfl)
   have k:a.tmps[t]?=some (.bool q):=by
    rcases hq:a.tmps[t]? with _ | u
    ·simp [zab,hq,undef] at i
    simp [zab,hq] at i;rw [i]
   rw [k];cases d<;>cases q<;>rfl
  cases hy
 cases hc
theorem akr {f:FuncId} (h:zl P f=true) (args:Array Value):(callFunc f args).run P w=.ok (.enter f args) w:=by
 unfold zl at h;split at h
 ·rename_i fn b;simp at h;obtain ⟨a,d⟩:=h;have c:¬fn.body=none:=by intro e; rw [e] at a; cases a
  simp [callFunc,b,d,c]
 cases h
theorem arr {f:FuncId} {args:List Opd} (h:aao P o (.call f args)=true):∃c,o.op=.call c/\c.callee=.value (.func f)/\x7 opd c.args.toList args=true/\zl P f=true:=by
 unfold aao at h;cases ho:o.op<;>simp only [ho] at h<;>try (cases h; done)
 rename_i c;split at h
 ·rename_i d hc;simp only [zaa,beq_iff_eq] at h;obtain ⟨⟨rfl,b⟩,a⟩:=h;exact ⟨c,rfl,hc,b,a⟩
 cases h
theorem aov {x:Opd} {args:List Opd} (h:aao P o (.callv x args)=true):∃c x',o.op=.call c/\c.callee=.value x'/\opd x' x=true/\x7 opd c.args.toList args=true:=by
 unfold aao at h;cases ho:o.op<;>simp only [ho] at h<;>try (cases h; done)
 rename_i c;split at h
 ·rename_i x' hc;simp only [zaa] at h;exact ⟨c,x',rfl,hc,h.1,h.2⟩
 cases h
theorem aur {tbl:List (TypeId×FuncId)} {x:Opd} {args:List Opd} (h:aao P o (.inv tbl x args)=true):∃c r m,o.op=.call c/\c.callee=.invoke r m/\opd r x=true/\x7 opd c.args.toList args=true/\tbl.all (alz P m)=true:=by
 unfold aao at h;cases ho:o.op<;>simp only [ho] at h<;>try (cases h; done)
 rename_i c;split at h
 ·rename_i r m hc;simp only [zaa] at h;exact ⟨c,r,m,rfl,hc,h.1.1,h.1.2,h.2⟩
 cases h
theorem auq {x:Opd} (h:aao P o (.nxt x)=true):∃a,o.op=.next a false/\opd a x=true:=by
 unfold aao at h;cases ho:o.op<;>simp only [ho] at h<;>try (cases h; done)
 rename_i a str;simp only [zaa,Bool.not_eq_true'] at h;obtain ⟨b,rfl⟩:=h;exact ⟨a,rfl,b⟩
theorem alj {t:TypeId} {f:FuncId}:∀{tbl:List (TypeId×FuncId)},db t tbl=some f->(t,f)∈tbl
 | [],h=>by cases h
 | (t',f')::r,h=>by
   simp only [db] at h;split at h
   ·rename_i a; cases h; subst a; simp
   exact List.mem_cons_of_mem _ (alj h)
theorem a22 {m:String} {t:TypeId} {f:FuncId} {v:Value} {as:Array Value} (h:alz P m (t,f)=true):(invoke (.fn (.method m) #[]) (#[.iface t v]++as)).run P w=.ok (.enter f (#[v]++as)) w:=by
 simp only [alz,zaa] at h;obtain ⟨⟨p,a⟩,y⟩:=h;split at a
 ·rename_i i s;split at a
  ·rename_i q x;simp only [zaa] at a;obtain ⟨u,a⟩:=a;split at a
   ·rename_i B b j;simp only [zaa,beq_iff_eq] at a;obtain ⟨o,rfl⟩:=a;rw [o] at j;obtain ⟨d,z,n⟩:=ab y;cases d with
    | pointer e=>
      have g:q.path=#[]:=by simpa using u
      obtain ⟨k,A⟩:∃k,P.types.size+Made.depth=k+1:=⟨P.types.size+(Made.depth-1),by unfold Made.depth; omega⟩
      have c:(#[Value.iface t v]++as)[0]?=some (.iface t v):=by
       rw [zaf,if_pos (by simp)]
       rfl
      have l:(#[Value.iface t v]++as).extract 1 (#[Value.iface t v]++as).size=as:=by
       rw [Array.extract_append];simp
      have r:(method (P.types.size+Made.depth) t v m).run P w=.ok (f,v) w:=by
       rw [A];simp [method,typeInfo,s,x,g,follow,j,receiverAt,run_underlying z,Place.get]
      have hc:(callMethod (.iface t v) m as).run P w=.ok (.enter f (#[v]++as)) w:=by
       simp only [callMethod,Sem.run_bind,run_program,Result.andThen_ok,r];exact akr p _
      simp only [invoke,c,l];exact hc
    | _=>cases n
   cases a
  cases a
 cases a
theorem atx {K:AV->Obs->Prop} {O:Operand} {u:AV} (E:Gam X s ρ a w) (U:o.op=.next O false) (V:RA X s ρ w u (a.eval O)) (h:am4 s.ob K u) :
 ∃c v p k,(execOp a.eval o).run P w=.ok (.value c) k/\K v p/\Gam X ⟨s.e,p⟩ ρ a k/\RA X ⟨s.e,p⟩ ρ k v c:=by
 unfold am4 at h;split at h
 ·rename_i id ver;unfold aq7 at h;split at h
  ·rename_i z l f d S H;have n:=ahh H;rcases hmp:t9 s.ob z l with _ | ⟨es,c⟩
   ·rw [hmp] at h; exact h.elim
   rw [hmp] at h;obtain ⟨h1,h2,h3,h4⟩:=h;generalize F:a.eval O=v at V;cases V;rename_i h0 L;obtain ⟨b,m,rfl⟩:=L.live n;obtain ⟨b',t,T,Y,W⟩:=E.obj id ver _ n;rw [m] at T; cases T;obtain ⟨h5,R,J,N⟩:=E.mapB hmp W;cases J;have Z:(leftOf es.toArray d.toArray).toList=ca es d:=by simp [leftOf,ca]
   rcases run_next_at (P:=P) w o.type b t f S d.toArray es.toArray c Y N (by simpa using h1) h2 with ⟨hz,j⟩ | ⟨e,Q,k,C,j⟩
   ·refine ⟨.tuple #[.bool false],.tup [bl false],s.ob,w,by simp only [execOp,U,F,Sem.run_bind,j,Result.andThen_ok,Sem.run_pure],h3 ?_,E,?_⟩
    ·rw [<- Z];exact List.eq_nil_of_length_eq_zero (by simpa using hz)
    refine .tup _ _ rfl λ i y c g hc=>?_
    match i with
    | 0=>simp at g hc; subst g; subst hc; exact .r (.v _)
    | i+1=>simp at g
   rw [Z] at Q
   have D:Gam X s ρ a k:=by
    rcases C with rfl | rfl
    ·exact E
    exact E.drew _
   have G:k.heap=w.heap:=by rcases C with rfl | rfl<;>rfl
   have q:k.heap[b]?=some (.mapIter (some t) f d.toArray S):=by rw [G]; exact Y
   have x:=aia (y:=.mapIter (some t) f (d++[e.born]).toArray c) q;have A:d.toArray.push e.born=(d++[e.born]).toArray:=by simp
   rw [A,show ChangeMaps.setBlock k b (Obj.mapIter (some t) f (d++[e.born]).toArray c)={ k with heap:=k.heap.setIfInBounds b (Obj.mapIter (some t) f (d++[e.born]).toArray c) } from rfl] at j
   have M:RelA k (j8 X.B s.ob ρ k) s.ob ρ (.mp z l) (.map (some t)):=by
    cases W;rename_i q1 q2;exact .mp _ _ _ q1 q2
   have I:=Stays.modifyG (x':=.iter (.mp z l) f (d++[e.born]) c) D n rfl m x (λ cs e fr h=>by rw [q] at h; cases h) ver (.inl ⟨rfl,trivial⟩)
   refine ⟨.tuple #[.bool true,e.key,e.val],.tup [bl true,.r (jq e.key),.r (jq e.val)],_,_,by simp only [execOp,U,F,Sem.run_bind,j,Result.andThen_ok,Sem.run_pure],h4 e Q,
    D.modifyG n rfl m x (λ cs e fr h=>by rw [q] at h; cases h) ver (.inl ⟨rfl,trivial⟩) (.inr ⟨rfl,trivial,λ _=>rfl⟩) ⟨b,t,m,x.new,M.stays I⟩,?_⟩
   refine .tup _ _ rfl λ i y c g hc=>?_
   match i with
   | 0=>simp at g hc; subst g; subst hc; exact .r (.v _)
   | 1=>simp at g hc; subst g; subst hc; exact .r (xh _)
   | 2=>simp at g hc; subst g; subst hc; exact .r (xh _)
   | i+3=>simp at g
  exact h.elim
 exact h.elim
theorem amx {r:PR} {K:St->Prop} {N:Act->World->Prop} (G:Gam X s ρ a w) (hi:ops[i]?=some o) (h5:aee P X.n ops o r=true) (h:r.wp P s K (yes s.e r.g)) (C:∀s' ρ' a' w',K s'->Gam X s' ρ' a' w'->N a' w'):wpOp P ops Q i N a w:=by
 simp only [aee,zaa,beq_iff_eq] at h5;obtain ⟨⟨⟨O,B⟩,hg⟩,hx⟩:=h5;rcases hy:yes s.e r.g with _ | b
 ·rw [hy] at h; exact h.elim
 rw [hy] at h;have hw:=ar9 G hg hy
 have p:∀x,(∀c,c=undef->RA X s ρ w x c)->Gam X ⟨s8 r.d x s.e,s.ob⟩ ρ (a.put o.dst undef) w:=λ x hx=>by
  rw [O];rcases hrd:r.d with _ | d
  ·exact G
  rw [hrd] at B;exact G.see (by simpa using B) (hx _ rfl)
 unfold wpOp;simp only [hi,hw];simp only [PR.wp] at h;rcases r with ⟨rd,rg,ru,rx⟩
 simp only at O B hg hx h hy p;cases rx with
 | see po=>
   obtain ⟨L,A⟩:=h;cases b with
   | true=>
     simp only [if_true];refine .inl ?_;obtain ⟨c,j,J⟩:=azc (P:=P) rfl G hx L;unfold Oper.wp;rw [j,Oper.upon_value,O];rcases rd with _ | d
     ·simp [arn] at B
     refine C _ ρ _ _ A (G.see (by simpa using B) ?_);unfold gdv;split
     ·exact J
     exact .gd true (λ _=>J) (by simp)
   | false=>
     simp only [zad,if_false];refine C _ ρ _ _ A (p _ λ c hc=>?_);rcases rg with _ | g
     ·simp [yes] at hy
     simp only [gdv];exact .gd false (by simp) (λ _=>hc)
 | act po=>
   cases b with
   | false=>
     simp only [zad,if_false];exact C _ ρ _ _ (h.2 rfl) (p _ λ c _=>.undef c)
   | true=>
     simp only [if_true];refine .inl ?_;obtain ⟨L,A⟩:=h.1 rfl;rcases rd with _ | d
     ·have h0:po.nod=true:=by simpa [auc,arn] using B
      obtain ⟨nx,w1,u,j,l,D⟩:=adg (P:=P) G hx h0 L;unfold Oper.wp;rw [j];rcases D with ⟨c,rfl,J⟩ | ⟨rfl,D⟩
      ·rw [Oper.upon_value,O];exact C _ u _ _ A l
      rw [Oper.upon_skip,O];exact C _ u _ _ A l
     obtain ⟨nx,w1,u,j,l,D⟩:=a1m (P:=P) (d:=d) G hx (by simpa using B) L;unfold Oper.wp;rw [j];rcases D with ⟨c,rfl,J⟩ | ⟨rfl,D⟩
     ·rw [Oper.upon_value,O];exact C _ u _ _ A (l.see (s:=⟨s.e,_⟩) (by simpa using B) J)
     rw [Oper.upon_skip,O];refine C _ u _ _ A (l.see (s:=⟨s.e,_⟩) (by simpa using B) ?_);simp only [Option.getD_some];rw [D];exact .undef _
 | call f args=>
   cases b with
   | false=>
     simp only [zad,if_false];exact C _ ρ _ _ (h.2 rfl) (p _ λ c _=>.undef c)
   | true=>
     simp only [if_true];refine .inl ?_;obtain ⟨L,A⟩:=h.1 rfl;obtain ⟨c,W,E,F,M⟩:=arr hx;obtain ⟨Y,g2⟩:=aav G rfl F L
     have j:(execOp a.eval o).run P w=.ok (.enter f (c.args.map a.eval)) w:=by
      have:=akr (w:=w) M (c.args.map a.eval);simp [execOp,W,resolve,E,Act.eval,Deferred.ofValue,invoke];exact this
     unfold Oper.wp;rw [j,Oper.upon_enter];refine (aeg G A (by simp [Y]) λ i x cc I hc=>?_).mono ?_
     ·rw [Array.getElem?_map,zak] at hc;obtain ⟨y,hy,rfl⟩:=hc;exact g2 i x y I (by simpa using hy)
     rintro e w1 ⟨cv,v,H,u,rfl,R,l,J⟩;simp only;rw [O];rcases rd with _ | d
     ·exact C _ u _ _ R l
     exact C _ u _ _ R (l.see (s:=⟨s.e,H⟩) (by simpa using B) J)
 | callv x args=>
   cases b with
   | false=>
     simp only [zad,if_false];exact C _ ρ _ _ (h.2 rfl) (p _ λ c _=>.undef c)
   | true=>
     simp only [if_true];refine .inl ?_;obtain ⟨hm,L,A⟩:=h.1 rfl;obtain ⟨c,x',W,E,I,F⟩:=aov hx;obtain ⟨Y,g2⟩:=aav G rfl F L;have M:=j7 G rfl I hm;generalize (x.ev s.e).bare=xv at M A;unfold ar8 at A;split at A
     ·rename_i f cap k;obtain ⟨ha,A⟩:=A;generalize U:a.eval x'=cf at M;cases M;rename_i fs cs hl h3 hk
      have j:(execOp a.eval o).run P w=.ok (.enter f (fs++(c.args.map a.eval++cs))) w:=by
       have:=akr (w:=w) ha (fs++(c.args.map a.eval++cs));simp [execOp,W,resolve,E,U,Deferred.ofValue,invoke];exact this
      unfold Oper.wp;rw [j,Oper.upon_enter];have hb:(n6 s.e args).length=c.args.size:=by rw [Y]; simp
      have h7:∀(i:Nat) (y:AV) (v:Value),(cap.take k)[i]?=some y->fs[i]?=some v->RA X s ρ w y v:=λ i y v hy D=>by
       rw [List.getElem?_take] at hy;split at hy
       ·rename_i S;exact h3 i y v hy (by rw [zaf,if_pos (by omega)]; exact D)
       cases hy
      have V:∀(i:Nat) (y:AV) (v:Value),(cap.drop k)[i]?=some y->cs[i]?=some v->RA X s ρ w y v:=λ i y v hy D=>by
       rw [List.getElem?_drop] at hy;exact h3 (k+i) y v hy (by rw [zaf,if_neg (by omega),show k+i-fs.size=i by omega]; exact D)
      have T:∀(xs ys:List AV) (us vs:Array Value),us.size=xs.length->(∀(i:Nat) (y:AV) (v:Value),xs[i]?=some y->us[i]?=some v->RA X s ρ w y v) ->
       (∀(i:Nat) (y:AV) (v:Value),ys[i]?=some y->vs[i]?=some v->RA X s ρ w y v)->∀(i:Nat) (y:AV) (v:Value),(xs++ys)[i]?=some y->(us++vs)[i]?=some v->RA X s ρ w y v:=
       λ xs ys us vs hs L A i y v hy D=>by
        rw [List.getElem?_append] at hy;rw [zaf,hs] at D;split at hy
        ·rename_i S;rw [if_pos S] at D;exact L i y v hy D
        rename_i S;rw [if_neg S] at D;exact A _ y v hy D
      have h9:(cap.take k).length=k:=by rw [List.length_take]; omega
      refine (aeg G A (by simp [Y]; omega) (T _ _ _ _ (by rw [h9]; exact hk) h7 (T _ _ _ _ (by rw [hb]; simp) (λ i y v hy D=>?_) V))).mono ?_
      ·rw [Array.getElem?_map,zak] at D;obtain ⟨z,Z,rfl⟩:=D;exact g2 i y z hy (by simpa using Z)
      rintro e w1 ⟨cv,v,H,u,rfl,R,l,J⟩;simp only;rw [O];rcases rd with _ | d
      ·exact C _ u _ _ R l
      exact C _ u _ _ R (l.see (s:=⟨s.e,H⟩) (by simpa using B) J)
     cases A
 | inv tbl x args=>
   cases b with
   | false=>
     simp only [zad,if_false];exact C _ ρ _ _ (h.2 rfl) (p _ λ c _=>.undef c)
   | true=>
     simp only [if_true];refine .inl ?_;obtain ⟨hm,L,A⟩:=h.1 rfl;obtain ⟨c,rv,m,W,E,I,F,h4⟩:=aur hx;obtain ⟨Y,g2⟩:=aav G rfl F L;have M:=j7 G rfl I hm;generalize (x.ev s.e).bare=xv at M A;unfold ag7 at A;split at A
     ·rename_i t y;split at A
      ·rename_i f h6;generalize U:a.eval rv=cf at M;cases M;rename_i cy hy;have h8:=zac.1 h4 _ (alj h6)
       have j:(execOp a.eval o).run P w=.ok (.enter f (#[cy]++c.args.map a.eval)) w:=by
        have:=a22 (w:=w) (v:=cy) (as:=c.args.map a.eval) h8;simp only [execOp,W,resolve,E,U,Sem.run_bind,Sem.run_pure,Result.andThen_ok];exact this
       unfold Oper.wp;rw [j,Oper.upon_enter];refine (aeg G A (by simp [Y]; omega) λ i z cc Z hc=>?_).mono ?_
       ·cases i with
        | zero=>
          simp at Z;rw [zaf,if_pos (by simp)] at hc;simp at hc;subst Z; subst hc;exact hy
        | succ i=>
          simp only [List.getElem?_cons_succ] at Z;rw [zaf,if_neg (by simp)] at hc;simp only [List.size_toArray,zai,List.length_nil,Nat.zero_add,Nat.add_sub_cancel] at hc;rw [Array.getElem?_map,zak] at hc;obtain ⟨q,hq,rfl⟩:=hc;exact g2 i z q Z (by simpa using hq)
       rintro e w1 ⟨cv,v,H,u,rfl,R,l,J⟩;simp only;rw [O];rcases rd with _ | d
       ·exact C _ u _ _ R l
       exact C _ u _ _ R (l.see (s:=⟨s.e,H⟩) (by simpa using B) J)
      cases A
     cases A
 | nxt x=>
   cases b with
   | false=>
     simp only [zad,if_false];exact C _ ρ _ _ (h.2 rfl) (p _ λ c _=>.undef c)
   | true=>
     simp only [if_true];refine .inl ?_;obtain ⟨hm,A⟩:=h.1 rfl;obtain ⟨it,W,I⟩:=auq hx;have M:=j7 G rfl I hm;obtain ⟨c,v,H,w1,j,R,l,J⟩:=atx (P:=P) G W M A;unfold Oper.wp;rw [j,Oper.upon_value,O];rcases rd with _ | d
     ·exact C _ ρ _ _ R l
     exact C _ ρ _ _ R (l.see (s:=⟨s.e,H⟩) (by simpa using B) J)
theorem asc {rs:List PR} {l:List Oper} {K:St->Prop} {k:Nat} (c:∀i,i<l.length->ops[k+i]?=l[i]?) (b:x7 (aee P X.n ops) l rs=true) (g:Gam X s ρ a w) (h:wpR P rs K s)
 (j:∀s' ρ' d w',K s'->Gam X s' ρ' d w'->Q .normal d w'):wpOps P ops Q (List.range' k l.length) a w:=by
 induction l generalizing rs k s ρ a w with
 | nil=>
   cases rs with
   | nil=>exact j s ρ a w h g
   | cons r rs=>cases b
 | cons o l ih=>
   cases rs with
   | nil=>cases b
   | cons r rs=>
     simp only [x7,zaa] at b;have f:ops[k]?=some o:=by have:=c 0 (by simp); simpa using this
     rw [zai,List.range'_succ,wpOps_cons];refine amx g f b.1 h λ s' ρ' d w' m e=>?_;exact ih (λ i f=>by have:=c (i+1) (by simp; omega); rw [show k+1+i=k+(i+1) by omega,this]; simp) b.2 e m
theorem aog {α e:Type} {f:α->e->Bool}:∀{xs:List α} {ys:List e},x7 f xs ys=true->xs.length=ys.length/\∀(i:Nat) (x:α) (y:e),xs[i]?=some x->ys[i]?=some y->f x y=true
 | [],[],_=>⟨rfl,λ i x y h=>by simp at h⟩
 | [],_::_,h=>by cases h
 | _::_,[],h=>by cases h
 | x::xs,y::ys,h=>by
   simp only [x7,zaa] at h;obtain ⟨g,j⟩:=aog h.2;refine ⟨by simp [g],λ i a b c d=>?_⟩;cases i with
   | zero=>simp at c d; subst c; subst d; exact h.1
   | succ i=>simp at c d; exact j i a b c d
theorem auj {rs:List PR} {H:List (List Nat)} {f:List Lg} {K:St->Prop} {R:Nat->St} {C:Nat->Ans} (ga:x7 (aee P X.n ops) ops.toList rs=true) (Y:ajz ops H=true) (gg:ot H f=true) (gl:f.length=rs.length)
 (hm:∀k r,rs[k]?=some r->(r.out P (R k) (C k)).ok/\R (k+1)=(r.out P (R k) (C k)).st/\f[k]?=some (r.out P (R k) (C k)).lg) (hK:K (R rs.length))
 (hN:∀s' ρ' a' w',K s'->Gam X s' ρ' a' w'->Q .normal a' w'):∀(F:Nat) (c:Array Bool) (s:St) (ρ:Pl->Option Nat) (a:Act) (w:World),c.size=ops.size ->
  (∀j,c.getD j false=true->∀i,i∈H.getD j []->c.getD i false=true)->(List.range ops.size).countP (λ k=>!c.getD k false)<=F ->
  (∀l,z5 s l=mb (λ k=>z5 (R k)) (wrt f) (λ k=>c.getD k false=true) ops.size l)->Gam X s ρ a w->wpAny P .any ops Q F c a w:=by
 obtain ⟨I,gc⟩:=aog ga;have I:ops.size=rs.length:=by simpa using I
 have hr:∀k,k<ops.size->∃o r,ops[k]?=some o/\rs[k]?=some r/\aee P X.n ops o r=true/\(r.out P (R k) (C k)).ok/\R (k+1)=(r.out P (R k) (C k)).st/\f.getD k default=(r.out P (R k) (C k)).lg:=λ k v=>by
  have D:ops[k]?=some ops[k]:=by simp [v]
  have L:rs[k]?=some (rs[k]'(by omega)):=by simp [show k<rs.length by omega]
  obtain ⟨g1,g2,g3⟩:=hm k _ L;exact ⟨_,_,D,L,gc k _ _ (by simpa using D) L,g1,g2,by simp [List.getD_eq_getElem?_getD,g3]⟩
 have g4:∀k r,k<ops.size->rs[k]?=some r->f.getD k default=(r.out P (R k) (C k)).lg:=λ k r v h=>by
  obtain ⟨_,r',_,L,_,_,_,h3⟩:=hr k v;rw [h] at L; cases L; exact h3
 have B:∀k r,k<ops.size->rs[k]?=some r->(f.getD k default).ad=r.x.adr/\(f.getD k default).st=r.x.sto:=λ k r v h=>by
  rw [g4 k r v h];exact atu
 have hh:∀k i,k<ops.size->i∈(f.getD k default).wr->i∈(f.getD k default).rd/\(f.getD k default).ad=false:=λ k i v m=>by
  obtain ⟨o,r,D,L,h3,h4,h5,E⟩:=hr k v;refine ⟨?_,?_⟩
  ·simp only [E] at m |-;exact ((akl (s':=R k) h4 (λ _ _=>rfl) (λ _ _ _=>rfl) (λ _ _=>rfl)).2.2.2.1 i m).1
  rw [(B k r v L).1];cases T:r.x.adr with
  | false=>rfl
  | true=>
    rw [E] at m;rcases r with ⟨d,g,u,x⟩
    cases x with
    | see o=>
      unfold PR.out at m;simp only at m;generalize yes (R k).e g=y at m;rcases y with _ | b
      ·simp [PX.out,PR.lg] at m
      simp [PX.out,PR.lg] at m
    | _=>cases T
 have gb:∀k l,k<ops.size->wrt f k l->usd f k l:=λ k l v m=>by
  cases l with
  | t t=>
    obtain ⟨o,r,D,L,h3,h4,h5,E⟩:=hr k v;simp only [wrt,usd,E] at m |-;rw [aiw.2] at m;rw [aiw.1];simp [m]
  | o i=>exact hh k i v m
  | p i=>exact (hh k i v m.1).1
 have O:∀k l,k<ops.size->¬wrt f k l->z5 (R (k+1)) l=z5 (R k) l:=λ k l v m=>by
  obtain ⟨o,r,D,L,h3,h4,h5,E⟩:=hr k v;have hl:=akl (s':=R k) h4 (λ _ _=>rfl) (λ _ _ _=>rfl) (λ _ _=>rfl);rw [h5];cases l with
  | t t=>
    simp only [wrt,E,aiw.2] at m;simp only [z5,hl.2.2.1 t m]
  | o i=>
    simp only [wrt,E] at m;simp only [z5,hl.2.2.2.2 i m]
  | p i=>
    simp only [wrt,(B k r v L).2] at m;simp only [z5];by_cases G:i∈(f.getD k default).wr
    ·have:r.x.sto=true:=by
      cases hsto:r.x.sto with
      | true=>rfl
      | false=>exact (m ⟨G,hsto⟩).elim
     rw [apn this]
    rw [E] at G;rw [hl.2.2.2.2 i G]
 have hd:∀i j,i<j->j<ops.size->¬(i∈H.getD j [])->∀l,¬(wrt f i l/\usd f j l)/\¬(wrt f j l/\usd f i l):=λ i j g6 hj hp l=>au4 gg g6 (by omega) hp l;intro F
 induction F with
 | zero=>
   intro c s ρ a w h7 S hz V hG
   have M:∀k,k<ops.size->c.getD k false=true:=λ k v=>by
    have h0:(List.range ops.size).countP (λ k=>!c.getD k false)=0:=by omega
    rw [List.countP_eq_zero] at h0;have:=h0 k (by simp [v]);simpa using this
   have hs:s=R rs.length:=alf λ l=>by rw [V l,ail O M ops.size (zae _),I]
   refine ⟨?_,hN s ρ a w (by rw [hs]; exact hK) hG⟩;rcases hrd:Region.ready .any ops c with _ | ⟨j,js⟩
   ·rfl
   have hj:j∈Region.ready .any ops c:=by rw [hrd]; simp
   obtain ⟨D,o,ho,_⟩:=mem_ready.1 hj;have A:=(zaj.1 ho).1;have:=M j A;rw [zab] at this D;have z:c[j]?=some (c[j]'(by omega)):=by simp [show j<c.size by omega]
   rw [z] at this D;simp at this D;rw [this] at D;cases D
 | succ F ih=>
   intro c s ρ a w h7 S hz V hG;refine ⟨λ hv=>?_,λ j hj=>?_⟩
   ·have M:∀k,k<ops.size->c.getD k false=true:=λ k=>by
     induction k using Nat.strongRecOn with
     | ind k ihk=>
       intro v;apply Classical.byContradiction;intro W
       have hf:c.getD k true=false:=by
        rw [zab] at W |-;have z:c[k]?=some (c[k]'(by omega)):=by simp [show k<c.size by omega]
        rw [z] at W |-;simpa using W
       obtain ⟨o,r,D,_⟩:=hr k v;have:k∈Region.ready .any ops c:=mem_ready.2 ⟨hf,o,D,λ e he hb=>ihk e.on ((aci Y D).1 e he hb) (Nat.lt_trans ((aci Y D).1 e he hb) v)⟩;rw [hv] at this;cases this
    have hs:s=R rs.length:=alf λ l=>by rw [V l,ail O M ops.size (zae _),I]
    exact hN s ρ a w (by rw [hs]; exact hK) hG
   obtain ⟨Z,oj,h8,g5⟩:=mem_ready.1 hj;have A:=(zaj.1 h8).1
   have N:¬(c.getD j false=true):=by
    rw [zab] at Z |-;have z:c[j]?=some (c[j]'(by omega)):=by simp [show j<c.size by omega]
    rw [z] at Z |-;simpa using Z
   obtain ⟨o,r,D,L,h3,h4,h5,E⟩:=hr j A
   have g0:∀i,i∈H.getD j []->c.getD i false=true:=λ i G=>by
    obtain ⟨e,he,hb,h9⟩:=(aci Y D).2 i G;have hg:c.getD e.on false=true:=by rw [D] at h8; cases h8; exact g5 e he hb
    rcases h9 with rfl | h9
    ·exact hg
    exact S _ hg i h9
   have U:∀l,usd f j l->z5 s l=z5 (R j) l:=λ l hl=>by
    rw [V l];exact a0w (pr:=λ j i=>i∈H.getD j []) O hd S A N g0 hl
   have hL:=akl (s':=s) h4 (λ t ht=>by
    have:=U (.t t) (by simp only [usd,E]; exact ht);simpa [z5] using this) (λ T i G=>by
    have:=U (.o i) (by
     simp only [usd];rw [(B j r A L).1,E]
     exact ⟨G,T⟩)
    simpa [z5] using this) (λ i G=>by
    have:=U (.p i) (by simp only [usd,E]; exact G)
    simpa [z5] using this)
   have J:∀k,(c.setIfInBounds j true).getD k false=true↔(c.getD k false=true\/k=j):=λ k=>by
    by_cases ha:k=j
    ·subst ha;simp [zab,h7,A]
    have:(c.setIfInBounds j true).getD k false=c.getD k false:=getD_set_ne false (Ne.symm ha);rw [this];simp [ha]
   refine amx hG D h3 (a2u (K:=λ s'=>∀l,z5 s' l=mb (λ k=>z5 (R k)) (wrt f) (λ k=>(c.setIfInBounds j true).getD k false=true) ops.size l) hL.1 λ l=>?_) λ s' ρ' a' w' g7 gd=>?_
   ·have hn:(λ k=>(c.setIfInBounds j true).getD k false=true)=λ k=>c.getD k false=true\/k=j:=funext λ k=>propext (J k);rw [hn];by_cases m:wrt f j l
    ·rw [aw0 (pr:=λ j i=>i∈H.getD j []) gb hd S A N m,h5];cases l with
     | t t=>
       simp only [wrt,E,aiw.2] at m;simp only [z5,hL.2.1 t m]
     | o i=>
       simp only [wrt,E] at m;simp only [z5,(hL.2.2.2.1 i m).2]
     | p i=>
       have hq:=m.1;simp only [E] at hq;simp only [z5,(hL.2.2.2.1 i hq).2]
    rw [aqh m,<- V l];cases l with
    | t t=>
      simp only [wrt,E,aiw.2] at m;simp only [z5,hL.2.2.1 t m]
    | o i=>
      simp only [wrt,E] at m;simp only [z5,hL.2.2.2.2 i m]
    | p i=>
      simp only [z5];by_cases G:i∈(f.getD j default).wr
      ·have:r.x.sto=true:=by
        cases hsto:r.x.sto with
        | true=>rfl
        | false=>exact (m ⟨G,by rw [(B j r A L).2]; exact hsto⟩).elim
       rw [apn this]
      rw [E] at G;rw [hL.2.2.2.2 i G]
   refine ih _ s' ρ' a' w' (by simpa using h7) (λ k v i G=>?_) ?_ g7 gd
   ·rw [J] at v |-;rcases v with v | rfl
    ·exact .inl (S k v i G)
    exact .inl (g0 i G)
   have:=alq (p:=λ k=>!c.getD k false) (q:=λ k=>!(c.setIfInBounds j true).getD k false) (j:=j) (λ x hx=>by
    have hu:¬((c.setIfInBounds j true).getD x false=true):=by simpa using hx
    rw [J] at hu
    simpa using λ h=>hu (.inl h)) (by simpa using N) (by have:=(J j).2 (.inr rfl); simp only [this,Bool.not_true]) (l:=List.range ops.size) (by simp [A])
   omega
def aj8 (X:Cx) (K:Ex->St->Prop):Exit->Act->World->Prop
 | .normal,a,w=>∃s ρ,K .nor s/\Gam X s ρ a w
 | .exit i,a,w=>∃s ρ,K (.ex i) s/\Gam X s ρ a w
 | .ret,a,w=>∃s ρ,K .rt s/\Gam X s ρ a w
 | _,_,_=>False
theorem av3 {fl:Bool} {id:Nat} (d:id<1000000) {x:AV} (b:Gam X s ρ a w):∃ρ',Gam X ⟨s.e,(mz fl id s.ob x).2⟩ ρ' a w/\(∀(y:AV) (c:Value),RA X s ρ w y c->RA X ⟨s.e,(mz fl id s.ob x).2⟩ ρ' w y c) /\
 ∀(c:Value),RA X s ρ w x c->RA X ⟨s.e,(mz fl id s.ob x).2⟩ ρ' w (mz fl id s.ob x).1 c:=by
 unfold mz;split
 ·rename_i sz z;split
  ·refine ⟨s6 ρ id none,b.nil id _ (b.pnn id (ai8 d)) (λ v o h=>ut h) sz z true,λ y c h=>h.stays (Stays.nil id _ (λ v o h=>ut h) _),λ c h=>?_⟩;cases h;exact .own _ _ _ _ _ rfl (jk ⟨none,0,rfl,zae _,by simp,by simp,by simp⟩)
  exact ⟨ρ,b,λ _ _ h=>h,λ _ h=>h⟩
 exact ⟨ρ,b,λ _ _ h=>h,λ _ h=>h⟩
theorem ah3:∀{live:List (Nat×Bool)} {s:St} {ρ:Pl->Option Nat},(∀p∈live,p.1<100000)->Gam X s ρ a w->∃ρ',Gam X ⟨s.e,(x8 s.e live s.ob).2⟩ ρ' a w/\(∀(y:AV) (c:Value),RA X s ρ w y c->RA X ⟨s.e,(x8 s.e live s.ob).2⟩ ρ' w y c) /\
 (x8 s.e live s.ob).1.length=live.length/\∀(i t:Nat) (fl:Bool) (x:AV) (c:Value),live[i]?=some (t,fl)->(x8 s.e live s.ob).1[i]?=some x->RA X s ρ w (s.e t) c->RA X ⟨s.e,(x8 s.e live s.ob).2⟩ ρ' w x c
 | [],s,ρ,_,hG=>⟨ρ,hG,λ _ _ h=>h,rfl,λ i t fl x c h=>by simp at h⟩
 | (t,fl)::r,s,ρ,hl,hG=>by
   have A:t<100000:=hl (t,fl) (by simp);obtain ⟨v,m,k,u⟩:=av3 (fl:=fl) (id:=900000+t) (by omega) (x:=s.e t) hG;obtain ⟨f,z,j,o,l⟩:=ah3 (live:=r) (s:=⟨s.e,(mz fl (900000+t) s.ob (s.e t)).2⟩) (λ p n=>hl p (by simp [n])) m;refine ⟨f,z,λ y c h=>j y c (k y c h),by simp [x8,o],λ i q d x c b hx g=>?_⟩;cases i with
   | zero=>
     simp [x8] at b hx;obtain ⟨rfl,rfl⟩:=b;subst hx;exact j _ c (u c g)
   | succ i=>
     simp [x8] at b hx;exact l i q d x c b hx (k _ c g)
theorem ap1:∀{live:List (Nat×Bool)} {vs:List AV} (t:Nat),(∃(i:Nat) (fl:Bool) (x:AV),live[i]?=some (t,fl)/\vs[i]?=some x/\keep live vs t=x)\/keep live vs t=.undef
 | [],vs,t=>.inr (by simp [keep])
 | _::_,[],t=>.inr (by simp [keep])
 | (l,fl)::ls,v::vs,t=>by
   by_cases h:t=l
   ·subst h;exact .inl ⟨0,fl,v,rfl,rfl,by simp [keep,put]⟩
   have e:keep ((l,fl)::ls) (v::vs) t=keep ls vs t:=by simp [keep,put,h]
   rw [e];rcases ap1 (live:=ls) (vs:=vs) t with ⟨i,a,x,b,f,c⟩ | d
   ·exact .inl ⟨i+1,a,x,by simpa using b,by simpa using f,c⟩
   exact .inr d
theorem age {np:Nat} {live:List (Nat×Bool)} {D:List AV->List Ob->List Ob->Prop} (A:∀p∈live,p.1<100000) (z:np<=1000000) (f:∀id b,X.pn id=some b->1000000<=id/\id<1000000+np) (d:Gam X s ρ a w) (h:yr np live s D) :
 ∃vs pos c ρ',D vs pos c/\Gam X (ahx live vs pos c) ρ' a w:=by
 obtain ⟨u,o,C,E,q⟩:=ah3 A d;unfold yr at h;rcases hn:nrm 64 np 2000000 (x8 s.e live s.ob).1 (x8 s.e live s.ob).2 with _ | ⟨vs,pos,c⟩
 ·rw [hn] at h; exact h.elim
 rw [hn] at h;obtain ⟨g,v,F,B,l⟩:=o.toMem.nrm hn (by omega) f;refine ⟨vs,pos,c,g,h,v,d.sz,d.df,λ t=>?_,d.pnn,d.small,d.base⟩;simp only [ahx];rcases ap1 (live:=live) (vs:=vs) t with ⟨i,fl,x,r,k,m⟩ | y
 ·rw [m];have n:=(zah.1 k).1;have j:(x8 s.e live s.ob).1[i]?=some ((x8 s.e live s.ob).1[i]'(by omega)):=by simp [show i<(x8 s.e live s.ob).1.length by omega]
  exact l i _ x _ j k (q i t fl _ _ r j (d.env t))
 rw [y];exact .undef _
theorem aj8.mono {K c:Ex->St->Prop} (h:∀x s,K x s->c x s) {e:Exit} {a:Act} {w:World} (b:aj8 X K e a w):aj8 X c e a w:=by
 cases e<;>first
  | (obtain ⟨s,ρ,d,f⟩:=b; exact ⟨s,ρ,h _ _ d,f⟩)
  | exact b.elim
theorem least {S:Nat->Prop} (h:∃k,S k):∃k,S k/\∀j,S j->k<=j:=by
 obtain ⟨k,c⟩:=h
 induction k using Nat.strongRecOn with
 | _ k ih=>
   by_cases hx:∃j,j<k/\S j
   ·obtain ⟨j,a,d⟩:=hx;exact ih j a d
   refine ⟨k,c,λ j b=>?_⟩;rcases Nat.lt_or_ge j k with h | h
   ·exact absurd ⟨j,h,b⟩ hx
   exact h
theorem a1n {np:Nat} (N:np<=1000000) (G:∀id b,X.pn id=some b->1000000<=id/\id<1000000+np):∀(pc:PC) (c:Code) (K:Ex->St->Prop) (s:St) (ρ:Pl->Option Nat) (a:Act) (w:World),km P X.n c pc=true->W P np pc K s->Gam X s ρ a w->c.wp P (aj8 X K) a w:=by
 intro pc
 induction pc with
 | skip=>
   intro c K s ρ a w hc h g;cases c<;>simp only [km] at hc<;>try (cases hc; done)
   exact wp_skip ⟨s,ρ,h,g⟩
 | reg rs=>
   intro c K s ρ a w hc h g;cases c<;>simp only [km] at hc<;>try (cases hc; done)
   rename_i id u d;simp only [zaa,Bool.not_eq_true'] at hc;obtain ⟨rfl,hc⟩:=hc;refine wp_region ?_;rw [List.range_eq_range',<- Array.length_toList];exact asc (k:=0) (l:=u.toList) (λ i O=>by simp) hc g h λ s' ρ' E w' Y D=>⟨s',ρ',Y,D⟩
 | seq p q ihp ihq=>
   intro c K s ρ a w hc h g;cases c<;>simp only [km] at hc<;>try (cases hc; done)
   rename_i x y;simp only [zaa] at hc;refine wp_seq (wp_mono (ihp x _ s ρ a w hc.1 h g) λ e E w' f=>?_);cases e with
   | normal=>
     obtain ⟨s',ρ',r,t⟩:=f;exact ihq y K s' ρ' E w' hc.2 r t
   | exit i=>exact f
   | ret=>exact f
   | goto l=>exact f
   | panic ch=>exact f
   | outgrown=>exact f
 | cond x p q ihp ihq=>
   intro c K s ρ a w hc h g;cases c<;>simp only [km] at hc<;>try (cases hc; done)
   rename_i y c1 c2;simp only [zaa] at hc;obtain ⟨⟨r,t⟩,Q⟩:=hc;have hx:=agq g.env r;simp only [W] at h;generalize x.ev s.e=xv at hx h;split at h
   ·rename_i b;exact wp_cond_split (m7 hx) (λ hb=>ihp c1 K s ρ a w t (h.1 hb) g) (λ hb=>ihq c2 K s ρ a w Q (h.2 hb) g)
   exact h.elim
 | block id p ih=>
   intro c K s ρ a w hc h g;cases c<;>simp only [km] at hc<;>try (cases hc; done)
   rename_i h5 c';simp only [zaa,beq_iff_eq] at hc;obtain ⟨rfl,hc⟩:=hc;refine wp_block (wp_mono (ih c' _ s ρ a w hc h g) λ e E w' f=>?_);cases e with
   | normal=>exact f
   | exit i=>
     obtain ⟨s',ρ',r,t⟩:=f;simp only [Exit.inBlock];simp only at r;split
     ·rename_i O;rw [if_pos O] at r;exact ⟨s',ρ',r,t⟩
     rename_i O;rw [if_neg O] at r;exact ⟨s',ρ',r,t⟩
   | ret=>exact f
   | goto l=>exact f
   | panic ch=>exact f
   | outgrown=>exact f
 | loop p ih=>
   intro c K s ρ a w hc h g;cases c<;>simp only [km] at hc<;>try (cases hc; done)
   rename_i c';obtain ⟨live,I,m,hl,h0,hr⟩:=h;have J:∀p∈live,p.1<100000:=λ p f=>by simpa using zac.1 hl p f
   let S:Nat->Act->World->Prop:=λ k a w=>∃vs pos o ρ,I vs pos o/\Gam X (ahx live vs pos o) ρ a w/\m vs pos o=k
   refine wp_loop (λ a w=>∃k,S k a w) (λ a w=>open Classical in if hx:∃k,S k a w then (least hx).choose else 0) ?_ ?_
   ·obtain ⟨vs,pos,o,ρ',r,t⟩:=age J N G g h0;exact ⟨_,vs,pos,o,ρ',r,t,rfl⟩
   intro a w hx;simp only [dif_pos hx];obtain ⟨vs,pos,o,ρ',r,t,Q⟩:=(least hx).choose_spec.1;refine wp_mono (ih c' _ _ ρ' a w hc (hr vs pos o r) t) λ e E w' f=>?_;cases e with
   | normal=>
     obtain ⟨s',h4,g1,g2⟩:=f;obtain ⟨F,z,v,L,k1,k2⟩:=age J N G g2 g1;have B:∃k,S k E w':=⟨_,F,z,v,L,k1.1,k2,rfl⟩
     refine ⟨B,?_⟩;rw [dif_pos B,<- Q];exact Nat.lt_of_le_of_lt ((least B).choose_spec.2 _ ⟨F,z,v,L,k1.1,k2,rfl⟩) k1.2
   | exit i=>exact f
   | ret=>exact f
   | goto l=>exact f
   | panic ch=>exact f
   | outgrown=>exact f
 | exit i=>
   intro c K s ρ a w hc h g;cases c<;>simp only [km] at hc<;>try (cases hc; done)
   rename_i j;have:j=i:=by simpa using hc
   subst this;exact wp_exit ⟨s,ρ,h,g⟩
 | ret=>
   intro c K s ρ a w hc h g;cases c<;>simp only [km] at hc<;>try (cases hc; done)
   exact wp_ret ⟨s,ρ,h,g⟩
 | drw rs pre=>
   intro c K s ρ a w hc h g;cases c<;>simp only [km] at hc<;>try (cases hc; done)
   rename_i id u d;simp only [zaa] at hc;obtain ⟨⟨⟨rfl,hm⟩,U⟩,M⟩:=hc;obtain ⟨R,C,h6,h0,T,H,V,Y⟩:=ao0 h;refine wp_region_any hm ?_
   have A:∀k,¬((Array.replicate u.size false).getD k false=true):=λ k=>by
    rw [zab,Array.getElem?_replicate];split<;>simp
   refine auj U M (by simpa using V) T H Y (λ s' ρ' E w' Z D=>⟨s',ρ',Z,D⟩) u.size _ s ρ a _ (by simp) (λ j hj=>?_) ?_ (λ l=>?_) (g.drew _)
   ·exact (A j hj).elim
   ·exact Nat.le_trans List.countP_le_length (by simp)
   rw [alr A,h0]
end

def AV.isNil:AV->Bool
 | .nils _ _=>true
 | _=>false
def om:List AV->Bool
 | []=>false
 | x::xs=>x.isNil||om xs
def aa4 (ob:Obs):AV->Option (AV×List Nat)
 | .nils sz z=>some (.nils sz z,[])
 | x=>match x.rv ob with
   | some (y,l)=>some (.r y,l)
   | none=>none
def nj (ob:Obs):List AV->Option (List AV×List Nat)
 | []=>some ([],[])
 | x::xs=>match aa4 ob x,nj ob xs with
   | some (y,i),some (ys,j)=>some (y::ys,i++j)
   | _,_=>none
def aa5 (ob:Obs) (xs:List AV):Bool->Option (AV×List Nat)
 | true=>match nj ob xs with
   | some (ys,l)=>some (.agg ys,l)
   | none=>none
 | false=>match rvs ob xs with
   | some (ys,l)=>some (.r (.agg ys),l)
   | none=>none
def zj (ob:Obs):AV->Option (AV×List Nat)
 | .own id ver lo len=>match l9 ob id ver with
   | some (sz,_,_,wr,xs)=>if wr then some (.own id ver lo len,[]) else some (.r (.sl sz ((xs.drop lo).take len)),[])
   | none=>match t5 ob id ver with
     | some _=>some (.own id ver lo len,[])
     | none=>none
 | .agg xs=>aa5 ob xs (na&&om xs)
 | x=>some (x,[])
def rf (ob:Obs):List AV->Option (List AV×List Nat)
 | []=>some ([],[])
 | x::xs=>match zj ob x,rf ob xs with
   | some (y,i),some (ys,j)=>some (y::ys,i++j)
   | _,_=>none
def qc:List AV->AV
 | [x]=>x
 | xs=>.tup xs
def al1 (np:Nat) (ob:Obs) (D:AV->List Ob->Prop):Option (List AV×List Nat)->Prop
 | some (vs,l)=>am6 (λ vs pos a=>D (qc vs) (pos++a)) (nrm 64 np (1000000+np) vs (freeze ob l))
 | none=>False
def anz (np:Nat) (rs:List (Nat×Bool)) (s:St) (D:AV->List Ob->Prop):Prop:=
 al1 np (x8 s.e rs s.ob).2 D (rf (x8 s.e rs s.ob).2 (x8 s.e rs s.ob).1)
abbrev RSl:=Nat×Bool×Option (TypeId×Option Nat)
def opn (np:Nat) (b:List (Nat×Bool)) (D:AV->List Ob->Prop):List RSl->Env->Obs->Prop
 | [],e,ob=>anz np b ⟨e,ob⟩ D
 | (_,_,none)::r,e,ob=>opn np b D r e ob
 | (a,_,some (_,n))::r,e,ob=>(ld1 true n (e a) ob).ok/\opn np b D r (put a (ld1 true n (e a) ob).v e) ob
def ais (np:Nat) (rs:List RSl) (D:AV->List Ob->Prop):Ex->St->Prop
 | .nor,s=>opn np (rs.map λ p=>(p.1,p.2.1)) D rs s.e s.ob
 | .rt,s=>opn np (rs.map λ p=>(p.1,p.2.1)) D rs s.e s.ob
 | .ex _,_=>False
def RSl.rv:RSl->ResultVar
 | (t,_,none)=>.tmp t
 | (a,_,some (ty,_))=>.cell a ty
def RSl.agg (P:Program):RSl->Bool
 | (_,_,none)=>true
 | (_,_,some (ty,n))=>ack P ty n
def kp:Nat->List AV->Env
 | _,[]=>λ _=>.undef
 | k,x::xs=>put k x (kp (k+1) xs)
theorem aqn:∀{xs:List AV} {k t:Nat},k<=t->kp k xs t=(xs[t-k]?).getD .undef
 | [],k,t,h=>by simp [kp]
 | x::xs,k,t,h=>by
   simp only [kp,put];by_cases a:t=k
   ·subst a; simp
   rw [if_neg a,aqn (by omega),show t-k=(t-(k+1))+1 by omega];simp
theorem ah8:∀(xs ys:List Ob) (k:Nat),az k xs (az (k+xs.length) ys λ _=>none)=obs k (xs++ys)
 | [],[],k=>rfl
 | [],y::ys,k=>by
   have:=ah8 [] ys (k+1);simp only [az,List.length_nil,Nat.add_zero,List.nil_append,obs] at this |-;rw [this]
 | x::xs,ys,k=>by
   have:=ah8 xs ys (k+1);simp only [az,zai,List.cons_append,obs] at this |-;rw [show k+(xs.length+1)=k+1+xs.length by omega,this]
section
variable {P:Program} {X:Cx} {w w':World} {s:St} {ρ ρ':Pl->Option Nat} {a:Act} {o:Oper} {ob ob':Obs} {R R':Nat->Prop}
theorem alh {b:List Nat} (n:Gam X s ρ a w) {ob:Obs} (e:s.ob=Ev.freeze ob b):∀{xs ys:List AV} {l:List Nat},nj ob xs=some (ys,l)->(∀i,i∈l->i∈b) ->
 ys.length=xs.length/\∀(i:Nat) (x y:AV) (c:Value),xs[i]?=some x->ys[i]?=some y->RA X s ρ w x c->RA X s ρ w y c
 | [],ys,l,h,hs=>by simp [nj] at h; obtain ⟨rfl,rfl⟩:=h; simp
 | z::xs,ys,l,h,hs=>by
   simp only [nj] at h;split at h
   ·rename_i u k v j d q;cases h;obtain ⟨o,t⟩:=alh n e q (λ p f=>hs p (by simp [f]));refine ⟨by simp [o],λ i x y c hx hy g=>?_⟩;cases i with
    | zero=>
      simp at hx hy;subst hx; subst hy;unfold aa4 at d;split at d
      ·cases d; exact g
      split at d
      ·rename_i m;cases d;exact .r (ai0 n m (λ p f=>hs p (by simp [f])) e g)
      cases d
    | succ i=>
      simp at hx hy;exact t i x y c hx hy g
   cases h
theorem awa {b:List Nat} (m:Gam X s ρ a w) {ob:Obs} (k:s.ob=Ev.freeze ob b) {x y:AV} {l:List Nat} {c:Value} (h:zj ob x=some (y,l)) (g:∀i,i∈l->i∈b) (hx:RA X s ρ w x c):RA X s ρ w y c:=by
 unfold zj at h;split at h
 ·split at h
  ·rename_i sz z u D xs q;split at h
   ·cases h; exact hx
   rename_i n;cases h;obtain ⟨v,p,B⟩:=aea b ob _ (u4 q);rw [<- k,B (.inl (by simpa using n))] at p;exact .r (atr m p hx)
  split at h
  ·cases h; exact hx
  cases h
 ·rename_i xs;unfold aa5 at h;split at h
  ·split at h
   ·rename_i ys t f;cases h;cases hx;rename_i cs o d;obtain ⟨A,C⟩:=alh m k f g;refine .agg _ _ (by rw [A]; exact o) λ i y c hy hc=>?_;have j:i<xs.length:=by have:=(zah.1 hy).1; omega
    have e:xs[i]?=some xs[i]:=by simp [j]
    exact C i _ y c e hy (d i _ c e hc)
   cases h
  split at h
  ·rename_i ys t f;cases h;cases hx;rename_i cs o d;refine .r (.agg _ _ (by rw [mt f]; exact o) λ i y c hy hc=>?_);have j:i<xs.length:=by have:=(zah.1 hy).1; have:=mt f; omega
   have e:xs[i]?=some xs[i]:=by simp [j]
   exact acs m k f g i _ y c e hy (d i _ c e hc)
  cases h
 cases h; exact hx
theorem am1 {b:List Nat} (g:Gam X s ρ a w) {ob:Obs} (d:s.ob=Ev.freeze ob b):∀{xs ys:List AV} {l:List Nat},rf ob xs=some (ys,l)->(∀i,i∈l->i∈b) ->
 ys.length=xs.length/\∀(i:Nat) (x y:AV) (c:Value),xs[i]?=some x->ys[i]?=some y->RA X s ρ w x c->RA X s ρ w y c
 | [],ys,l,h,hs=>by simp [rf] at h; obtain ⟨rfl,rfl⟩:=h; simp
 | z::xs,ys,l,h,hs=>by
   simp only [rf] at h;split at h
   ·rename_i r k t j n o;cases h;obtain ⟨m,q⟩:=am1 g d o (λ p e=>hs p (by simp [e]));refine ⟨by simp [m],λ i x y c hx hy f=>?_⟩;cases i with
    | zero=>
      simp at hx hy;subst hx; subst hy;exact awa g d n (λ p e=>hs p (by simp [e])) f
    | succ i=>
      simp at hx hy;exact q i x y c hx hy f
   cases h
def a4p:List Value->Value
 | [v]=>v
 | vs=>.tuple vs.toArray
def amr (tmps:Array Value):ResultVar->Sem Value
 | .tmp t=>pure (tmps.getD t undef)
 | .cell a t=>do loadVar t (<- asAddr (tmps.getD a undef))
theorem aop (fn:Func) (rs:List ResultVar) (h:fn.results.toList=rs) (tmps:Array Value) {cs:List Value} (e:(rs.mapM (amr tmps)).run P w=.ok cs w):(results fn tmps).run P w=.ok (a4p cs) w:=by
 have c:fn.results=rs.toArray:=by rw [<- h]
 have d:(fn.results.mapM (m:=Sem) (amr tmps)).run P w=.ok cs.toArray w:=by
  rw [c];simp only [List.mapM_toArray];simp only [map_eq_pure_bind,Sem.run_bind,e,Result.andThen_ok,Sem.run_pure]
 have b:(fn.results.mapM (m:=Sem) fun | .tmp t=>pure (tmps.getD t undef) | .cell a t=>do loadVar t (<- asAddr (tmps.getD a undef))).run P w=.ok cs.toArray w:=by
  rw [<- d];congr 2
 unfold results;rw [Sem.run_bind];refine (congrArg (λ r=>Result.andThen r _) b).trans ?_;clear d b c h e
 match cs with
 | []=>rfl
 | [t]=>rfl
 | t::t'::rs=>rfl
theorem a3c {g:Bool} (f:g=true) {n:Option Nat} {u:AV} {v:Value} (j:Gam X s ρ a w) (d:(ld1 g n u s.ob).ok) (e:RA X s ρ w u v):∃b o,v=.pointer (some ⟨b,o,none⟩):=by
 cases u with
 | ptr id ver off=>
   simp only [ld1] at d;rcases hr:t5 s.ob id ver with _ | c
   ·rw [hr] at d; exact (d f).elim
   cases e;rename_i h;obtain ⟨b,_,hc⟩:=h.live (fv hr);exact ⟨b,off,hc⟩
 | oel id ver i off=>
   simp only [ld1] at d;rcases hr:l9 s.ob id ver with _ | c
   ·rw [hr] at d; exact (d f).elim
   cases e;rename_i h;obtain ⟨_,_,b,_,hc⟩:=h.live (u4 hr);exact ⟨b,_,hc⟩
 | rp ys=>cases e; exact ⟨_,_,rfl⟩
 | _=>exact (d.2 f).elim
theorem akm {np:Nat} {l:List (Nat×Bool)} {D:AV->List Ob->Prop} {tmps:Array Value} {ob:Obs}:∀{rs:List RSl} {e:Env} {a:Act},opn np l D rs e ob->Gam X ⟨e,ob⟩ ρ a w->(rs.all λ p=>p.agg P)=true->(∀p∈rs,p.1<X.n)->(rs.map (·.1)).Nodup ->
 (∀p∈rs,tmps.getD p.1 undef=a.tmps.getD p.1 undef)->∃e' q cs,Gam X ⟨e',ob⟩ ρ q w/\anz np l ⟨e',ob⟩ D/\((rs.map RSl.rv).mapM (amr tmps)).run P w=.ok cs w/\cs.length=rs.length /\
  (∀(i:Nat) (p:RSl) (c:Value),rs[i]?=some p->cs[i]?=some c->RelA w (j8 X.B ob ρ w) ob ρ (e' p.1) c)/\∀t,t∉rs.map (·.1)->e' t=e t
 | [],e,a,h,hG,_,_,_,_=>⟨e,a,[],hG,h,by simp,rfl,by simp,λ _ _=>rfl⟩
 | (t,fl,none)::rs,e,a,h,hG,hag,hlt,hnd,htm=>by
   simp only [List.all_cons,zaa] at hag;simp only [zag,List.nodup_cons] at hnd;obtain ⟨e',q,cs,C,J,I,G,A,u⟩:=akm (rs:=rs) h hG hag.2 (λ p f=>hlt p (by simp [f])) hnd.2 (λ p f=>htm p (by simp [f]));refine ⟨e',q,tmps.getD t undef::cs,C,J,?_,by simp [G],λ i p c f hc=>?_,λ H g=>?_⟩
   ·simp only [zag,List.mapM_cons,Sem.run_bind,RSl.rv,amr,Sem.run_pure,Result.andThen_ok];rw [I];simp only [Result.andThen_ok]
   ·cases i with
    | zero=>
      simp at f hc;subst f; subst hc;rw [u t hnd.1];have:=hG.env t;rw [<- htm (t,fl,none) (by simp)] at this;rw [zab] at this;exact this
    | succ i=>exact A i p c (by simpa using f) (by simpa using hc)
   simp at g;exact u H (by simpa using g.2)
 | (t,fl,some (ty,n))::rs,e,a,h,hG,hag,hlt,hnd,htm=>by
   simp only [List.all_cons,zaa] at hag;simp only [zag,List.nodup_cons] at hnd;obtain ⟨y,h⟩:=h;have M:a.eval (.tmp t)=a.tmps.getD t undef:=rfl;have m := asv (P := P) (s := ⟨e, ob⟩) (o := { dst := none, op := .load ty (.tmp t), type := 0, pos := "", after := #[], guard := none }) rfl hG rfl hag.1 (hG.env t) y
   obtain ⟨c,d,K⟩:=m;obtain ⟨b,o,L⟩:=a3c rfl hG y (hG.env t)
   have k:(loadVar ty ⟨b,o,none⟩).run P w=.ok c w:=by
    simp only [execOp,M,L,Instr.loadAt,Instr.sureAddr,Sem.run_bind,Sem.run_pure,Result.andThen_ok] at d;generalize (loadVar ty ⟨b,o,none⟩).run P w=r at d |-;cases r with
    | ok v w1=>simp only [Result.andThen_ok] at d; cases d; rfl
    | halt x w1=>cases d
   have E:=hG.see (hlt (t,fl,some (ty,n)) (by simp)) K
   obtain ⟨e',q,cs,C,J,I,G,A,u⟩:=akm (rs:=rs) (tmps:=tmps) h E hag.2 (λ p f=>hlt p (by simp [f])) hnd.2 (λ p f=>by
    rw [htm p (by simp [f])];have z:t≠p.1:=λ F=>hnd.1 (by rw [F]; exact List.mem_map_of_mem f)
    simp [Act.put,zab,Array.getElem?_setIfInBounds_ne z])
   refine ⟨e',q,c::cs,C,J,?_,by simp [G],λ i p c' f hc=>?_,λ H g=>?_⟩
   ·have j:=htm (t,fl,some (ty,n)) (by simp);simp only [zag,List.mapM_cons,Sem.run_bind,RSl.rv,amr];simp only at j;rw [j,L];simp only [asAddr,Sem.run_pure,Result.andThen_ok];rw [k];simp only [Result.andThen_ok];rw [I];simp only [Result.andThen_ok]
   ·cases i with
    | zero=>
      simp at f hc;subst f; subst hc;rw [u t hnd.1];simp only [put,if_true];exact K
    | succ i=>exact A i p c' (by simpa using f) (by simpa using hc)
   simp at g;rw [u H (by simpa using g.2)];simp [put,g.1]
def ag6 (P:Program) (f:FuncId) (args:List AV) (po:List Ob) (D:AV->List Ob->Prop):Prop:=
 ∀(w:World) (a:Array Value) (ρ:Pl->Option Nat) (B:Nat->Prop),Gl P w (ic (ob0 po) ρ)->(∀b,ic (ob0 po) ρ b\/w.heap.size<=b->B b) ->
  Mem ⟨0,ic (ob0 po) ρ,λ _=>none,B,w⟩ (ob0 po) ρ w->a.size=args.length ->
  (∀(i:Nat) (x:AV) (c:Value),args[i]?=some x->a[i]?=some c->RelA w (j8 B (ob0 po) ρ w) (ob0 po) ρ x c) ->
  Calls P f a w λ e w'=>∃c ρ' res ro,e=.returned c/\D res ro/\Mem ⟨0,ic (ob0 po) ρ,ke po ρ,B,w⟩ (ob0 ro) ρ' w'/\RelA w' (j8 B (ob0 ro) ρ' w') (ob0 ro) ρ' res c
theorem ae1 {f:FuncId} {fn:Func} {c:Code} {pc:PC} {args:List AV} {po:List Ob} {D:AV->List Ob->Prop} {rs:List RSl} (hf:P.funcs[f]?=some fn) (hb:fn.body=some c) (hn:fn.ntmps<=100000) (h5:km P fn.ntmps c pc=true)
 (he:args.length<=fn.ntmps) (M:fn.results.toList=rs.map RSl.rv) (h0:(rs.all λ p=>p.agg P)=true) (R:(rs.all λ p=>decide (p.1<fn.ntmps))=true) (h7:(rs.map (·.1)).Nodup) (hd:po.length<=1000)
 (h:W P po.length pc (ais po.length rs D) ⟨kp 0 args,ob0 po⟩):ag6 P f args po D:=by
 intro w d ρ B h3 hB U hh F
 let X:Cx:=⟨fn.ntmps,ic (ob0 po) ρ,ke po ρ,B,w⟩
 haveI:GlC P X:=⟨h3⟩
 have C:∀id b,X.pn id=some b->ρ id=some b/\∃o,ob0 po id=some (0,o)/\o.pinned=true/\(o.isRow=true->se X.w0 w b):=λ id b a=>by
  simp only [X,ke] at a;split at a
  ·rename_i v o hx;split at a
   ·rename_i Q;have:=(sj hx).2.2;simp only at this;subst this;exact ⟨a,o,hx,Q,λ _=>se.refl _ _⟩
   cases a
  cases a
 have hX:Mem X (ob0 po) ρ w:=⟨U.obj,U.inj,U.keeps,U.own,C⟩
 have n:∀id b,X.pn id=some b->1000000<=id/\id<1000000+po.length:=λ id b a=>by
  obtain ⟨_,Y,hx,_⟩:=C id b a;obtain ⟨h1,h2,_⟩:=sj hx;have:=(zah.1 h2).1;exact ⟨h1,by omega⟩
 have hG:Gam X ⟨kp 0 args,ob0 po⟩ ρ { tmps:=d++Array.replicate (fn.ntmps-d.size) undef,defers:=[] } w:=by
  refine ⟨hX,by simp [X]; omega,rfl,λ t=>?_,λ id H=>?_,hn,hB⟩
  ·show RelA w (j8 X.B (ob0 po) ρ w) (ob0 po) ρ (kp 0 args t) _;rw [aqn (Nat.zero_le _),Nat.sub_zero];by_cases ht:t<args.length
   ·have hx:args[t]?=some args[t]:=by simp [ht]
    have hc:d[t]?=some (d[t]'(by omega)):=by simp [show t<d.size by omega]
    have:=F t _ _ hx hc;rw [hx];simp only [Option.getD_some];rw [zab,Array.getElem?_append_left (by omega),hc];exact this
   rw [List.getElem?_eq_none (by omega)];exact .undef _
  rcases a:X.pn id with _ | b
  ·rfl
  have h1:=(n id b a).1;have h2:=(n id b a).2
  rcases (show id<1000000\/2000000<=id by
   unfold par at H;by_cases q:1000000<=id
   ·rw [decide_eq_true q] at H;exact .inr (by have:=of_decide_eq_false H; omega)
   exact .inl (by omega)) with q | q<;>omega
 refine calls_of_wp hf hb (wp_mono (a1n (by omega) n pc c _ _ ρ _ w h5 h hG) λ e T w' a=>?_)
 have O:(∃s ρ,opn po.length (rs.map λ p=>(p.1,p.2.1)) D rs s.e s.ob/\Gam X s ρ T w')->T.defers=[]/\∃v,(results fn T.tmps).run P w'=.ok v w'/\∃c ρ' res ro,Ending.returned v=.returned c/\D res ro/\Mem ⟨0,ic (ob0 po) ρ,ke po ρ,B,w⟩ (ob0 ro) ρ' w'/\RelA w' (j8 B (ob0 ro) ρ' w') (ob0 ro) ρ' res c:=by
  rintro ⟨u,hg,h4,J⟩;obtain ⟨k,a1,cs,h6,hx,z,Z,A,_⟩:=akm (P:=P) (tmps:=T.tmps) h4 J h0 (λ p a=>by simpa using zac.1 R p a) h7 (λ _ _=>rfl);refine ⟨J.df,_,aop fn _ M T.tmps z,?_⟩;generalize j:(rs.map λ p=>(p.1,p.2.1))=g at hx;have h8:g.length=rs.length:=by rw [<- j]; simp
  obtain ⟨hi,g1,g2,g3,V⟩:=ah3 (live:=g) (λ p a=>by
   rw [<- j] at a;obtain ⟨q,hq,rfl⟩:=List.mem_map.1 a;have:q.1<fn.ntmps:=by simpa using zac.1 R q hq
   simp only
   omega) h6
  unfold anz at hx;simp only at g1 g2 g3 V hx;rcases Q:rf (x8 k g u.ob).2 (x8 k g u.ob).1 with _ | ⟨vs,l⟩
  ·rw [Q] at hx; exact hx.elim
  rw [Q] at hx;simp only [al1] at hx;have S:=Gam.freeze (s:=⟨k,(x8 k g u.ob).2⟩) l g1;obtain ⟨k1,k2⟩:=am1 (s:=⟨k,Ev.freeze (x8 k g u.ob).2 l⟩) S rfl Q (λ _ h=>h);rcases hn2:nrm 64 po.length (1000000+po.length) vs (freeze (x8 k g u.ob).2 l) with _ | ⟨r,pos,m⟩
  ·rw [hn2] at hx; exact hx.elim
  rw [hn2] at hx;have hx:D (qc r) (pos++m):=hx;obtain ⟨E,I,m2,m3,m4⟩:=S.toMem.nrm hn2 (zae _) n;rw [<- m3,ah8 pos m 1000000] at I m4;refine ⟨_,E,_,_,rfl,hx,⟨I.obj,I.inj,I.keeps,I.own,I.pin⟩,?_⟩
  have L:∀(i:Nat) (y:AV) (v:Value),r[i]?=some y->cs[i]?=some v->RelA w' (j8 B (ob0 (pos++m)) E w') (ob0 (pos++m)) E y v:=λ i y v hy G=>by
   have h9:=(zah.1 G).1;obtain ⟨q,hr⟩:∃q,rs[i]?=some q:=⟨rs[i]'(by omega),by simp [show i<rs.length by omega]⟩
   have ha:g[i]?=some (q.1,q.2.1):=by rw [<- j,List.getElem?_map,hr]; rfl
   have a:(x8 k g u.ob).1[i]?=some ((x8 k g u.ob).1[i]'(by omega)):=by simp [show i<(x8 k g u.ob).1.length by omega]
   have N:vs[i]?=some (vs[i]'(by omega)):=by simp [show i<vs.length by omega]
   exact m4 i _ y _ N hy (k2 i _ _ _ a N (aeb l (V i _ _ _ _ ha a (A i _ v hr G))))
  have K:r.length=cs.length:=by omega
  clear hx;clear z A Z V
  match r,cs,K,L with
  | [],[],_,G=>exact .tup _ _ (by simp) λ i x c hx=>by simp at hx
  | [x],[c],_,G=>exact G 0 x c rfl rfl
  | x::x'::xs,c::c'::cs,hl,G=>exact .tup _ _ (by simp at hl |-; omega) λ i y v hy hc=>G i y v hy (by simpa using hc)
  | [],_::_,hl,_=>simp at hl
  | _::_,[],hl,_=>simp at hl
  | [_],_::_::_,hl,_=>simp at hl
  | _::_::_,[_],hl,_=>simp at hl
 cases e with
 | normal=>exact O a
 | ret=>exact O a
 | exit i=>obtain ⟨_,_,h,_⟩:=a; exact h.elim
 | goto l=>exact a.elim
 | panic ch=>exact a.elim
 | outgrown=>exact a.elim
theorem aon {f:FuncId} {fn:Func} {c:Code} {pc:PC} {args:List AV} {po ro:List Ob} {res:AV} {rs:List RSl} (r:P.funcs[f]?=some fn) (y:fn.body=some c) (u:fn.ntmps<=100000) (j:km P fn.ntmps c pc=true)
 (i:args.length<=fn.ntmps) (d:fn.results.toList=rs.map RSl.rv) (q:(rs.all λ p=>p.agg P)=true) (m:(rs.all λ p=>decide (p.1<fn.ntmps))=true) (o:(rs.map (·.1)).Nodup) (g:po.length<=1000)
 (h:W P po.length pc (ais po.length rs λ v os=>v=res/\os=ro) ⟨kp 0 args,ob0 po⟩):a9 P f args po res ro:=by
 intro w b ρ B l x t n a;refine (ae1 r y u j i d q m o g h w b ρ B l x t n a).mono ?_;rintro e w' ⟨c,ρ',_,_,rfl,⟨rfl,rfl⟩,k,s⟩;exact ⟨c,ρ',rfl,k,s⟩
end

structure Shut (p:Prop):Prop where
 out:p
inductive Item where
 | c (c:PC)
 | blk (id:Nat)
 | lp (live:List (Nat×Bool)) (D:List AV->List Ob->List Ob->Prop)
 | cut (S:Env->Obs->Prop)
section
variable {P:Program}
theorem aej {f:FuncId} {u:Nat} {ob:Obs} {K g:AV->Obs->Prop} (k:∀v o,K v o->g v o) {vs:List AV} {a:Option (List AV×List Nat)} (h:ab6 P f u ob K vs a):ab6 P f u ob g vs a:=by
 have b:∀{ob:Obs} {ids:List Nat} {as:List AV} {l:List Nat} {j:Bool} {o:Option (List Ob)},aat P f u ob ids as l j K o->aat P f u ob ids as l j g o:=λ {ob ids as l j o} h=>by
  cases o with
  | none=>exact h
  | some po=>obtain ⟨r,o,d,e,c,m,n⟩:=h; exact ⟨r,o,d,e,c,m,k _ _ n⟩
 rcases a with _ | ⟨as,_ | ⟨i,l⟩⟩
 ·exact b h
 ·exact b h
 exact h.imp b (Or.imp b (Or.imp b (Or.imp (λ ⟨id,v,z,xs,d,e,c⟩=>⟨id,v,z,xs,d,e,λ ex=>b (c ex)⟩) λ ⟨id,v,sz,z,xs,d,e,c⟩=>⟨id,v,sz,z,xs,d,e,b c⟩)))
theorem al7:∀{rs:List PR} {K j:St->Prop} {s:St},(∀s,K s->j s)->wpR P rs K s->wpR P rs j s
 | [],K,j,s,hK,h=>hK s h
 | r::rs,K,j,s,hK,h=>by
   have i:∀s,wpR P rs K s->wpR P rs j s:=λ s=>al7 hK;simp only [wpR] at h |-;generalize yes s.e r.g=y at h |-;cases y with
   | none=>exact h
   | some b=>
     simp only [PR.wp] at h |-;rcases r with ⟨d,g,u,x⟩
     cases x with
     | see o=>exact ⟨h.1,i _ h.2⟩
     | act o=>exact ⟨λ c=>⟨(h.1 c).1,i _ (h.1 c).2⟩,λ c=>i _ (h.2 c)⟩
     | call f xs=>exact ⟨λ c=>⟨(h.1 c).1,aej (λ v o=>i _) (h.1 c).2⟩,λ c=>i _ (h.2 c)⟩
     | callv x xs=>
       refine ⟨λ c=>⟨(h.1 c).1,(h.1 c).2.1,?_⟩,λ c=>i _ (h.2 c)⟩;have a:=(h.1 c).2.2;simp only at a |-;generalize (x.ev s.e).bare=y at a |-;cases y with
       | fn f cap=>cases f with
         | func f=>exact ⟨a.1,aej (λ v o=>i _) a.2⟩
         | _=>exact a
       | _=>exact a
     | inv tbl x xs=>
       refine ⟨λ c=>⟨(h.1 c).1,(h.1 c).2.1,?_⟩,λ c=>i _ (h.2 c)⟩;have a:=(h.1 c).2.2;simp only at a |-;generalize (x.ev s.e).bare=y at a |-;cases y with
       | ifc t y=>
         simp only [ag7] at a |-;generalize db t tbl=q at a |-;cases q with
         | some f=>exact aej (λ v o=>i _) a
         | none=>exact a
       | _=>exact a
     | nxt x=>
       refine ⟨λ c=>⟨(h.1 c).1,?_⟩,λ c=>i _ (h.2 c)⟩;have a:=(h.1 c).2;simp only at a |-;unfold am4 at a |-;split at a
       ·unfold aq7 at a |-;split at a
        ·unfold awd at a |-;split at a
         ·exact ⟨a.1,a.2.1,λ q=>i _ (a.2.2.1 q),λ q k=>i _ (a.2.2.2 q k)⟩
         exact a
        exact a
       exact a
theorem al8:∀{rs:List PR} {a:List Lg} {K b:List Lg->St->Prop} {s:St},(∀l s,K l s->b l s)->wpD P rs a s K->wpD P rs a s b
 | [],a,K,b,s,hK,h=>hK a s h
 | r::rs,a,K,b,s,hK,h=>by
   obtain ⟨c,d,e⟩:=h;exact ⟨c,d,al8 hK e⟩
theorem a4h {np:Nat}:∀{pc:PC} {K e:Ex->St->Prop} {s:St},(∀x s,K x s->e x s)->W P np pc K s->W P np pc e s:=by
 intro pc
 induction pc with
 | skip=>intro K e s d h; exact d _ _ h
 | reg rs=>intro K e s d h; exact al7 (d .nor) h
 | seq a b iha ihb=>
   intro K e s d h;refine iha (λ x s h=>?_) h;cases x with
   | nor=>exact ihb d h
   | _=>exact d _ _ h
 | cond x a b iha ihb=>
   intro K e s d h;unfold W at h |-;split at h
   ·exact ⟨λ q=>iha d (h.1 q),λ q=>ihb d (h.2 q)⟩
   exact h.elim
 | block id c ih=>
   intro K e s d h;refine ih (λ x s h=>?_) h;cases x with
   | ex i=>
     simp only at h |-;split
     ·rename_i f; rw [if_pos f] at h; exact d _ _ h
     rename_i f; rw [if_neg f] at h; exact d _ _ h
   | _=>exact d _ _ h
 | loop c ih=>
   intro K e s d h;obtain ⟨live,I,m,n,o,j⟩:=h;refine ⟨live,I,m,n,o,λ vs pos g k=>ih (λ x s h=>?_) (j vs pos g k)⟩;cases x with
   | nor=>exact h
   | _=>exact d _ _ h
 | exit i=>intro K e s d h; exact d _ _ h
 | ret=>intro K e s d h; exact d _ _ h
 | drw rs pre=>intro K e s d h; exact al8 (λ l s h=>⟨h.1,d _ _ h.2⟩) h
end
mutual
def run (P:Program) (np:Nat) (Q:Ex->St->Prop):List Item->St->Prop
 | [],s=>Q .nor s
 | .c c::is,s=>W P np c (λ x s=>match x with | .nor=>run P np Q is s | x=>unw P np Q is x s) s
 | .blk _::is,s=>run P np Q is s
 | .lp live D::_,s=>yr np live s D
 | .cut S::_,s=>S s.e s.ob
def unw (P:Program) (np:Nat) (Q:Ex->St->Prop):List Item->Ex->St->Prop
 | [],x,s=>Q x s
 | .blk id::is,.ex i,s=>if i=id then run P np Q is s else unw P np Q is (.ex i) s
 | _::is,x,s=>unw P np Q is x s
end
def ay (P:Program) (np:Nat) (Q:Ex->St->Prop) (rs:List PR) (a:List Item) (e:Env) (ob:Obs):Prop:=wpR P rs (run P np Q a) ⟨e,ob⟩
def stp (P:Program) (np:Nat) (Q:Ex->St->Prop) (d:Option Nat) (g:Option (Nat×Bool)) (u:Nat) (x:PX) (rs:List PR) (a:List Item) (e:Env) (ob:Obs):Option Bool->Prop
 | some b=>x.wp P ⟨d,g,u,x⟩ ⟨e,ob⟩ (wpR P rs (run P np Q a)) b
 | none=>False
def a13 (P:Program) (np:Nat) (Q:Ex->St->Prop) (d:Option Nat) (g:Option (Nat×Bool)) (b:Bool) (rs:List PR) (a:List Item) (e:Env) (R:Rs) (ob:Obs):Prop:=
 R.ok/\ay P np Q rs a (s8 d (gdv g b R.v) e) ob
def aoh (P:Program) (np:Nat) (Q:Ex->St->Prop) (d:Option Nat) (rs:List PR) (a:List Item) (e:Env) (R:Rs):Prop:=
 R.ok/\ay P np Q rs a (s8 d R.v e) R.ob
def cnd (P:Program) (np:Nat) (Q:Ex->St->Prop) (x:AV) (a b:PC) (d:List Item) (s:St):Prop:=match x with
 | .r (.v (.bool c))=>Shut ((c=true->run P np Q (.c a::d) s)/\(c=false->run P np Q (.c b::d) s))
 | _=>False
def vk (P:Program) (np:Nat) (Q:Ex->St->Prop) (f:FuncId) (u:Nat) (d:Option Nat) (rs:List PR) (a:List Item) (e:Env) (ob:Obs) (vs:List AV):Option (List AV×List Nat)->Prop:=
 ab6 P f u ob (λ v ob=>ay P np Q rs a (s8 d v e) ob) vs
def aeh (P:Program) (np:Nat) (Q:Ex->St->Prop) (f:FuncId) (u:Nat) (d:Option Nat) (rs:List PR) (a:List Item) (e:Env) (ob:Obs) (as:List AV) (l:List Nat) (b:Bool) (ids:List Nat):Prop:=
 aat P f u ob ids (imL (fwd ob ids) as) l b (λ v ob=>ay P np Q rs a (s8 d v e) ob) (v9 (fwd ob ids) ob ids)
def arz (P:Program) (np:Nat) (Q:Ex->St->Prop) (f:FuncId) (u:Nat) (d:Option Nat) (rs:List PR) (a:List Item) (e:Env) (ob:Obs) (as:List AV) (l:List Nat) (b:Bool) (ids:List Nat):Option (List Ob)->Prop:=
 aat P f u ob ids as l b (λ v ob=>ay P np Q rs a (s8 d v e) ob)
def aj2 (P:Program) (np:Nat) (Q:Ex->St->Prop) (f:FuncId) (u:Nat) (d:Option Nat) (rs:List PR) (a:List Item) (e:Env) (ob:Obs) (as:List AV) (l:List Nat) (b:Bool) (ids:List Nat) (po:List Ob):Prop:=
 arz P np Q f u d rs a e ob as l b ids (some po)
def aft (P:Program) (np:Nat) (Q:Ex->St->Prop) (u:Nat) (d:Option Nat) (rs:List PR) (a:List Item) (e:Env) (ob:Obs) (ids:List Nat) (res:AV) (ro:List Ob):Prop:=
 ay P np Q rs a (s8 d (imV (back ob u ids ro.length) res) e) (bw ob u ids (back ob u ids ro.length) 0 ro)
def ary (P:Program) (np:Nat) (Q:Ex->St->Prop) (u:Nat) (d:Option Nat) (rs:List PR) (a:List Item) (e:Env) (ob:Obs) (vs:List AV) (x:AV):Prop:=
 ar8 P u ob vs (λ v ob=>ay P np Q rs a (s8 d v e) ob) x
def aj3 (P:Program) (np:Nat) (Q:Ex->St->Prop) (tbl:List (TypeId×FuncId)) (u:Nat) (d:Option Nat) (rs:List PR) (a:List Item) (e:Env) (ob:Obs) (vs:List AV) (x:AV):Prop:=
 ag7 P tbl u ob vs (λ v ob=>ay P np Q rs a (s8 d v e) ob) x
def aux (P:Program) (np:Nat) (Q:Ex->St->Prop) (u:Nat) (d:Option Nat) (rs:List PR) (a:List Item) (e:Env) (ob:Obs) (vs:List AV) (x:AV):Option FuncId->Prop
 | some f=>vk P np Q f u d rs a e ob (x::vs) (q7 ob (x::vs))
 | none=>False
def awc (P:Program) (np:Nat) (Q:Ex->St->Prop) (d:Option Nat) (rs:List PR) (a:List Item) (e:Env) (ob:Obs) (x:AV):Prop:=am4 ob (λ v ob=>ay P np Q rs a (s8 d v e) ob) x
def a2w (P:Program) (np:Nat) (Q:Ex->St->Prop) (d:Option Nat) (rs:List PR) (a:List Item) (e:Env) (ob:Obs) (id ver:Nat) (x:Option (AV×Nat×List Nat×Nat)):Prop:=aq7 id ver ob (λ v ob=>ay P np Q rs a (s8 d v e) ob) x
def a2v (P:Program) (np:Nat) (Q:Ex->St->Prop) (d:Option Nat) (rs:List PR) (f:List Item) (e:Env) (ob:Obs) (id ver:Nat) (m:AV) (a:Nat) (b:List Nat) (c:Nat) (x:Option (List MapEntry×Nat)):Prop:=
 awd id ver ob m a b c (λ v ob=>ay P np Q rs f (s8 d v e) ob) x
variable {d:Option Nat}
theorem am3 {P:Program} {np:Nat} {Q:Ex->St->Prop} {rs:List PR} {g:List Item} {e:Env} {ob:Obs} {id ver:Nat} {m:AV} {a h c:Nat} {b:List Nat} {es:List MapEntry} (j:∀e,e∈es->e.born<a) (l:a<=h)
 (i:ca es b=[]->ay P np Q rs g (s8 d (.tup [bl false]) e) ob)
 (k:∀f,f∈ca es b->ay P np Q rs g (s8 d (.tup [bl true,.r (jq f.key),.r (jq f.val)]) e) (upd id (ver,.iter m a (b++[f.born]) c) ob)):a2v P np Q d rs g e ob id ver m a b h (some (es,c)):=
 ⟨j,l,i,k⟩
section
variable (P:Program) (np:Nat) (Q:Ex->St->Prop) (is:List Item) (s:St) (e:Env) (ob:Obs)
theorem pf (d:Option Nat) (g:Option (Nat×Bool)) (u:Nat) (tbl:List (TypeId×FuncId)) (x:Opd) (xs:List Opd) (rs:List PR):stp P np Q d g u (.inv tbl x xs) rs is e ob (some true)=((x.ev e).may true/\bi true e xs/\aj3 P np Q tbl u d rs is e ob (n6 e xs) (x.ev e).bare):=by
 simp [stp,PX.wp,aj3,ay]
theorem eu (d:Option Nat) (g:Option (Nat×Bool)) (u:Nat) (tbl:List (TypeId×FuncId)) (x:Opd) (xs:List Opd) (rs:List PR):stp P np Q d g u (.inv tbl x xs) rs is e ob (some false)=ay P np Q rs is (s8 d .undef e) ob:=by
 simp [stp,PX.wp,ay]
theorem fo (u:Nat) (d:Option Nat) (rs:List PR) (tbl:List (TypeId×FuncId)) (vs:List AV) (t:TypeId) (x:AV):aj3 P np Q tbl u d rs is e ob vs (.ifc t x)=aux P np Q u d rs is e ob vs x (db t tbl):=by
 simp only [aj3,ag7];generalize db t tbl=q;cases q<;>rfl
theorem dz (u:Nat) (d:Option Nat) (rs:List PR) (vs:List AV) (x:AV) (f:FuncId):aux P np Q u d rs is e ob vs x (some f)=vk P np Q f u d rs is e ob (x::vs) (q7 ob (x::vs)):=(rfl)
theorem pe (d:Option Nat) (g:Option (Nat×Bool)) (u:Nat) (x:Opd) (rs:List PR):stp P np Q d g u (.nxt x) rs is e ob (some true)=((x.ev e).may true/\awc P np Q d rs is e ob (x.ev e).bare):=by
 simp [stp,PX.wp,awc,ay]
theorem lj (d:Option Nat) (rs:List PR) (id ver:Nat):awc P np Q d rs is e ob (.ptr id ver 0)=a2w P np Q d rs is e ob id ver (cb ob id ver):=(rfl)
theorem iz (d:Option Nat) (rs:List PR) (id ver f a b g:Nat) (c:List Nat):a2w P np Q d rs is e ob id ver (some (.mp f a,b,c,g))=a2v P np Q d rs is e ob id ver (.mp f a) b c g (t9 ob f a):=(rfl)
theorem ij (d:Option Nat) (g:Option (Nat×Bool)) (u:Nat) (x:Opd) (xs:List Opd) (rs:List PR):stp P np Q d g u (.callv x xs) rs is e ob (some true)=((x.ev e).may true/\bi true e xs/\ary P np Q u d rs is e ob (n6 e xs) (x.ev e).bare):=by
 simp [stp,PX.wp,ary,ay]
theorem me (u:Nat) (d:Option Nat) (rs:List PR) (vs:List AV) (f:FuncId) (cap:List AV) (k:Nat):ary P np Q u d rs is e ob vs (.fn (.func f) cap k)=(zl P f=true/\vk P np Q f u d rs is e ob (cap.take k++(vs++cap.drop k)) (q7 ob (cap.take k++(vs++cap.drop k)))):=(rfl)
theorem br (d:Option Nat) (g:Option (Nat×Bool)) (u:Nat) (x:Opd) (xs:List Opd) (rs:List PR):stp P np Q d g u (.callv x xs) rs is e ob (some false)=ay P np Q rs is (s8 d .undef e) ob:=by
 simp [stp,PX.wp,ay]
theorem pt:run P np Q [] s=Q .nor s:=by unfold run; rfl
theorem ku:run P np Q (.c .skip::is) s=run P np Q is s:=by rw [run]; rfl
theorem pj (a b:PC):run P np Q (.c (.seq a b)::is) s=run P np Q (.c a :: .c b::is) s:=by
 rw [run,W,run];congr 1;funext x s;cases x<;>simp only [run,unw]
theorem pq (a:List PR):run P np Q (.c (.reg a)::is) ⟨e,ob⟩=ay P np Q a is e ob:=by rw [run]; rfl
theorem lf:ay P np Q [] is e ob=run P np Q is ⟨e,ob⟩:=(rfl)
theorem ir (d:Option Nat) (g:Option (Nat×Bool)) (u:Nat) (x:PX) (rs:List PR):ay P np Q (⟨d,g,u,x⟩::rs) is e ob=stp P np Q d g u x rs is e ob (yes e g):=by
 show PR.wp P ⟨d,g,u,x⟩ ⟨e,ob⟩ (wpR P rs (run P np Q is)) (yes e g) = _;generalize yes e g=y;cases y<;>rfl
theorem pd (d:Option Nat) (g:Option (Nat×Bool)) (u:Nat) (o:PO) (rs:List PR) (b:Bool):stp P np Q d g u (.see o) rs is e ob (some b)=a13 P np Q d g b rs is e (o.see b e ob) ob:=(rfl)
theorem pi (d:Option Nat) (g:Option (Nat×Bool)) (b:Bool) (rs:List PR) (p:Prop) (v:AV) (ob':Obs) (rd a:List Nat):a13 P np Q d g b rs is e ⟨p,v,ob',rd,a⟩ ob=(p/\ay P np Q rs is (s8 d (gdv g b v) e) ob):=(rfl)
theorem pg (d:Option Nat) (g:Option (Nat×Bool)) (u:Nat) (o:PO) (rs:List PR):stp P np Q d g u (.act o) rs is e ob (some true)=aoh P np Q d rs is e (o.act (d.getD 0) e ob):=by
 simp [stp,PX.wp,aoh,ay]
theorem ez (d:Option Nat) (g:Option (Nat×Bool)) (u:Nat) (o:PO) (rs:List PR):stp P np Q d g u (.act o) rs is e ob (some false)=ay P np Q rs is (s8 d .undef e) ob:=by
 simp [stp,PX.wp,aoh,ay]
theorem dp (d:Option Nat) (g:Option (Nat×Bool)) (u:Nat) (f:FuncId) (xs:List Opd) (rs:List PR):stp P np Q d g u (.call f xs) rs is e ob (some false)=ay P np Q rs is (s8 d .undef e) ob:=by
 simp [stp,PX.wp,aoh,ay]
theorem qv (d:Option Nat) (rs:List PR) (p:Prop) (v:AV) (ob':Obs) (rd a:List Nat):aoh P np Q d rs is e ⟨p,v,ob',rd,a⟩=(p/\ay P np Q rs is (s8 d v e) ob'):=(rfl)
theorem kr (d:Option Nat) (g:Option (Nat×Bool)) (u:Nat) (f:FuncId) (xs:List Opd) (rs:List PR):stp P np Q d g u (.call f xs) rs is e ob (some true)=(bi true e xs/\vk P np Q f u d rs is e ob (n6 e xs) (q7 ob (n6 e xs))):=by
 simp [stp,PX.wp,vk,ay]
theorem ft (f:FuncId) (u:Nat) (d:Option Nat) (rs:List PR) (vs as:List AV):vk P np Q f u d rs is e ob vs (some (as,[]))=aeh P np Q f u d rs is e ob as [] true (s9 ob 64 (o4 as) []):=(rfl)
theorem bh {P:Program} {np:Nat} {Q:Ex->St->Prop} {a:List Item} {e:Env} {ob:Obs} {f:FuncId} {u:Nat} {rs:List PR} {vs as:List AV} {l:List Nat} (h:aeh P np Q f u d rs a e ob as (i::l) false (s9 ob 64 (o4 as) [])):vk P np Q f u d rs a e ob vs (some (as,i::l)):=Or.inr (Or.inl h)
theorem ar0 {P:Program} {np:Nat} {Q:Ex->St->Prop} {a:List Item} {e:Env} {ob:Obs} {f:FuncId} {u:Nat} {rs:List PR} {vs as:List AV} {l:List Nat} (h:aeh P np Q f u d rs a e (freeze ob (i::l)) as (i::l) true (s9 (freeze ob (i::l)) 64 (o4 as) [])):vk P np Q f u d rs a e ob vs (some (as,i::l)):=Or.inl h
theorem jh (f:FuncId) (u:Nat) (d:Option Nat) (rs:List PR) (vs:List AV):vk P np Q f u d rs is e ob vs none=aeh P np Q f u d rs is e ob vs [] true (s9 ob 64 (o4 vs) []):=(rfl)
theorem auy {P:Program} {np:Nat} {Q:Ex->St->Prop} {a:List Item} {e:Env} {ob:Obs} {f:FuncId} {u:Nat} {rs:List PR} {vs as:List AV} {l:List Nat} (h:aeh P np Q f u d rs a e ob vs [] true (s9 ob 64 (o4 vs) [])):vk P np Q f u d rs a e ob vs (some (as,i::l)):=Or.inr (Or.inr (Or.inl h))
theorem auz {P:Program} {np:Nat} {Q:Ex->St->Prop} {c:List Item} {e:Env} {ob:Obs} {f:FuncId} {u:Nat} {rs:List PR} {vs as:List AV} {l:List Nat} (id v:Nat) (z:RV) (xs:List Value) (b:ob id=some (v,.row 1 z true true (xs.map RV.v))) (a:xs≠[])
 (h:∀m,aeh P np Q f u d rs c e (upd id (v,.box (xs.map (λ x=>AV.r (.v x))++List.replicate m .undef)) ob) vs [] true (s9 (upd id (v,.box (xs.map (λ x=>AV.r (.v x))++List.replicate m .undef)) ob) 64 (o4 vs) [])):vk P np Q f u d rs c e ob vs (some (as,i::l)):=Or.inr (Or.inr (Or.inr (Or.inl ⟨id,v,z,xs,b,a,h⟩)))
theorem mf (f:FuncId) (u:Nat) (d:Option Nat) (rs:List PR) (as:List AV) (l:List Nat) (a:Bool) (ids:List Nat):aeh P np Q f u d rs is e ob as l a ids=arz P np Q f u d rs is e ob (imL (fwd ob ids) as) l a ids (v9 (fwd ob ids) ob ids):=(rfl)
theorem fp (f:FuncId) (u:Nat) (d:Option Nat) (rs:List PR) (as:List AV) (l:List Nat) (a:Bool) (ids:List Nat) (po:List Ob):arz P np Q f u d rs is e ob as l a ids (some po)=aj2 P np Q f u d rs is e ob as l a ids po:=(rfl)
theorem a7 {P:Program} {np:Nat} {Q:Ex->St->Prop} {a:List Item} {e:Env} {ob:Obs} {f:FuncId} {u:Nat} {rs:List PR} {as:List AV} {l:List Nat} {ids:List Nat} {po:List Ob} {res:AV} {ro:List Ob}
 (h:a9 P f as po res ro) (c:okC u ids ro.length l true=true) (g:k7 po ro) (b:aft P np Q u d rs a e ob ids res ro):aj2 P np Q f u d rs a e ob as l true ids po:=
 ⟨res,ro,h,c,g,(λ h=>by cases h),b⟩
theorem b7 {P:Program} {np:Nat} {Q:Ex->St->Prop} {a:List Item} {e:Env} {ob:Obs} {f:FuncId} {u:Nat} {rs:List PR} {as as':List AV} {l:List Nat} {b:Bool} {ids:List Nat} {po:List Ob} (has:as=as') (h:aj2 P np Q f u d rs a e ob as' l b ids po):aj2 P np Q f u d rs a e ob as l b ids po:=has▸h
theorem cp {P:Program} {np:Nat} {Q:Ex->St->Prop} {a:List Item} {e:Env} {ob:Obs} {f:FuncId} {u:Nat} {rs:List PR} {as:List AV} {l:List Nat} {ids:List Nat} {po:List Ob} {res:AV} {ro:List Ob}
 (h:a9 P f as po res ro) (c:okC u ids ro.length l false=true) (j:k7 po ro) (g:u7 res) (i:∀o∈ro,gu o) (b:aft P np Q u d rs a e ob ids res ro):aj2 P np Q f u d rs a e ob as l false ids po:=
 ⟨res,ro,h,c,j,λ _=>⟨g,i⟩,b⟩
theorem vr (u:Nat) (d:Option Nat) (rs:List PR) (ids:List Nat) (res:AV) (ro:List Ob):aft P np Q u d rs is e ob ids res ro=ay P np Q rs is (s8 d (imV (back ob u ids ro.length) res) e) (bw ob u ids (back ob u ids ro.length) 0 ro):=(rfl)
theorem lc (x:Opd) (a b:PC):run P np Q (.c (.cond x a b)::is) ⟨e,ob⟩=cnd P np Q (x.ev e) a b is ⟨e,ob⟩:=by
 rw [run,W]; unfold cnd; split
 ·simp only [*,run]; exact propext ⟨λ h=>⟨h⟩,λ h=>h.out⟩
 simp [*]
theorem mc (a b:PC):cnd P np Q (.r (.v (.bool true))) a b is s=run P np Q (.c a::is) s:=propext ⟨λ h=>h.out.1 rfl,λ h=>⟨λ _=>h,λ h=>by cases h⟩⟩
theorem jg (a b:PC):cnd P np Q (.r (.v (.bool false))) a b is s=run P np Q (.c b::is) s:=propext ⟨λ h=>h.out.2 rfl,λ h=>⟨(λ h=>by cases h),λ _=>h⟩⟩
theorem b9 {P:Program} {np:Nat} {Q:Ex->St->Prop} {d:List Item} {s:St} {c:Bool} {a b:PC} (e:c=true->run P np Q (.c a::d) s) (f:c=false->run P np Q (.c b::d) s):cnd P np Q (.r (.v (.bool c))) a b d s:=⟨⟨e,f⟩⟩
theorem iq (id:Nat) (c:PC):run P np Q (.c (.block id c)::is) s=run P np Q (.c c :: .blk id::is) s:=by
 rw [run,W,run];congr 1;funext x s;cases x with
 | nor=>simp only [run]
 | ex i=>simp only [unw]
 | rt=>simp [unw]
theorem la (i:Nat):run P np Q (.c (.exit i)::is) s=unw P np Q is (.ex i) s:=by rw [run]; rfl
theorem pp:run P np Q (.c .ret::is) s=unw P np Q is .rt s:=by rw [run]; rfl
theorem pz (i:Nat):run P np Q (.blk i::is) s=run P np Q is s:=by rw [run]
theorem uh (l:List (Nat×Bool)) (D:List AV->List Ob->List Ob->Prop):run P np Q (.lp l D::is) s=yr np l s D:=by rw [run]
theorem oz (x:Ex):unw P np Q [] x s=Q x s:=by unfold unw; rfl
theorem pb (i j:Nat):unw P np Q (.blk j::is) (.ex i) s=if i=j then run P np Q is s else unw P np Q is (.ex i) s:=by rw [unw]
theorem et (j:Nat):unw P np Q (.blk j::is) .rt s=unw P np Q is .rt s:=by simp [unw]
theorem aaa (c:PC) (x:Ex):unw P np Q (.c c::is) x s=unw P np Q is x s:=by cases x<;>simp [unw]
theorem uf (l:List (Nat×Bool)) (D:List AV->List Ob->List Ob->Prop) (x:Ex):unw P np Q (.lp l D::is) x s=unw P np Q is x s:=by cases x<;>simp [unw]
theorem pw (S:Env->Obs->Prop):run P np Q (.cut S::is) ⟨e,ob⟩=S e ob:=by rw [run]
theorem pa (S:Env->Obs->Prop) (x:Ex):unw P np Q (.cut S::is) x s=unw P np Q is x s:=by cases x<;>simp [unw]
theorem xu {P:Program} {np:Nat} {Q:Ex->St->Prop} {d:List Item} {s:St} {c:Bool} {a b:PC} (S:Env->Obs->Prop) (j:∀e ob,S e ob->run P np Q d ⟨e,ob⟩)
 (g:c=true->run P np Q (.c a :: .cut S::d) s) (k:c=false->run P np Q (.c b :: .cut S::d) s):cnd P np Q (.r (.v (.bool c))) a b d s:=by
 have f:∀a,run P np Q (.c a :: .cut S::d) s->run P np Q (.c a::d) s:=λ a h=>by
  rw [run] at h |-;refine a4h (λ x s h=>?_) h;cases x with
  | nor=>simp only [run] at h; exact j _ _ h
  | ex i=>simp only [unw] at h; exact h
  | rt=>simp only [unw] at h; exact h
 exact ⟨⟨λ h=>f a (g h),λ h=>f b (k h)⟩⟩
theorem c7 {P:Program} {np:Nat} {Q:Ex->St->Prop} {g:List Item} {s:St} {c:PC} (live:List (Nat×Bool)) (I:List AV->List Ob->List Ob->Prop) (m:List AV->List Ob->List Ob->Nat) (k:(live.all λ p=>decide (p.1<100000))=true) (j:yr np live s I)
 (h:∀vs pos a,I vs pos a->run P np Q (.c c :: .lp live (λ f d b=>I f d b/\m f d b<m vs pos a)::g) (ahx live vs pos a)):run P np Q (.c (.loop c)::g) s:=by
 rw [run,W];refine ⟨live,I,m,k,j,λ vs pos a i=>?_⟩;have:=h vs pos a i;rw [run] at this;refine cast (congrArg (λ K=>W P np c K (ahx live vs pos a)) ?_) this;funext x e;cases x<;>simp only [run,unw]
theorem aoi {P:Program} {np:Nat} {Q:Ex->St->Prop} {s:St} {c:PC} (h:run P np Q [.c c] s):W P np c Q s:=by
 rw [run] at h;refine cast (congrArg (λ K=>W P np c K s) ?_) h;funext x e;cases x<;>simp only [run,unw]
theorem qw (rs:List RSl) (D:AV->List Ob->Prop) (e:Env) (ob:Obs):ais np rs D .rt ⟨e,ob⟩=opn np (rs.map λ p=>(p.1,p.2.1)) D rs e ob:=(rfl)
theorem mj (rs:List RSl) (D:AV->List Ob->Prop) (e:Env) (ob:Obs):ais np rs D .nor ⟨e,ob⟩=opn np (rs.map λ p=>(p.1,p.2.1)) D rs e ob:=(rfl)
theorem qf (a:List (Nat×Bool)) (D:AV->List Ob->Prop) (e:Env) (ob:Obs):opn np a D [] e ob=anz np a ⟨e,ob⟩ D:=(rfl)
theorem qe (c:List (Nat×Bool)) (D:AV->List Ob->Prop) (a:Nat) (b:Bool) (r:List RSl) (e:Env) (ob:Obs):opn np c D ((a,b,none)::r) e ob=opn np c D r e ob:=(rfl)
def opf (np:Nat) (b:List (Nat×Bool)) (D:AV->List Ob->Prop) (a:Nat) (r:List RSl) (e:Env) (ob:Obs) (R:Rs):Prop:=R.ok/\opn np b D r (put a R.v e) ob
theorem li (c:List (Nat×Bool)) (D:AV->List Ob->Prop) (a:Nat) (b:Bool) (t:TypeId) (n:Option Nat) (r:List RSl) (e:Env) (ob:Obs):opn np c D ((a,b,some (t,n))::r) e ob=opf np c D a r e ob (ld1 true n (e a) ob):=(rfl)
theorem uq (b:List (Nat×Bool)) (D:AV->List Ob->Prop) (a:Nat) (r:List RSl) (e:Env) (ob:Obs) (p:Prop) (v:AV) (ob':Obs) (rd c:List Nat):opf np b D a r e ob ⟨p,v,ob',rd,c⟩=(p/\opn np b D r (put a v e) ob):=(rfl)
end
def xj (P:Program) (np:Nat) (Q:Ex->St->Prop) (b:List (List Nat)) (rs:List PR) (a:List Lg) (c:List Item) (e:Env) (ob:Obs):Prop:=wpD P rs a ⟨e,ob⟩ λ a s=>ot b a=true/\run P np Q c s
def ach (P:Program) (np:Nat) (Q:Ex->St->Prop) (b:List (List Nat)) (d:Option Nat) (g:Option (Nat×Bool)) (u:Nat) (x:PX) (rs:List PR) (a:List Lg) (f:List Item) (e:Env) (ob:Obs) (y:Option Bool):Prop:=
 ∃c:Ans,(x.out P ⟨d,g,u,x⟩ ⟨e,ob⟩ c y).ok/\wpD P rs (a++[(x.out P ⟨d,g,u,x⟩ ⟨e,ob⟩ c y).lg]) (x.out P ⟨d,g,u,x⟩ ⟨e,ob⟩ c y).st λ a s=>ot b a=true/\run P np Q f s
def a3s (P:Program) (np:Nat) (Q:Ex->St->Prop) (a:List (List Nat)) (r:PR) (b:Bool) (rs:List PR) (c:List Lg) (f:List Item) (e:Env) (ob:Obs) (R:Rs):Prop:=
 R.ok/\xj P np Q a rs (c++[r.lg R.rd []]) f (s8 r.d (gdv r.g b R.v) e) ob
def ax7 (P:Program) (np:Nat) (Q:Ex->St->Prop) (a:List (List Nat)) (r:PR) (rs:List PR) (b:List Lg) (c:List Item) (e:Env) (R:Rs):Prop:=
 R.ok/\xj P np Q a rs (b++[r.lg R.rd R.wr]) c (s8 r.d R.v e) R.ob
def dcA (P:Program) (np:Nat) (Q:Ex->St->Prop) (d:List (List Nat)) (r:PR) (f:FuncId) (p:Prop) (rs:List PR) (b:List Lg) (g:List Item) (e:Env) (ob:Obs) (a:List AV×List Nat×Bool):Prop:=
 ∃c:Ans,(ak P r ⟨e,ob⟩ f p c a).ok/\wpD P rs (b++[(ak P r ⟨e,ob⟩ f p c a).lg]) (ak P r ⟨e,ob⟩ f p c a).st λ b s=>ot d b=true/\run P np Q g s
def dcX (P:Program) (np:Nat) (Q:Ex->St->Prop) (b:List (List Nat)) (r:PR) (p:Prop) (rs:List PR) (a:List Lg) (d:List Item) (e:Env) (ob:Obs) (vs:List AV) (y:AV):Prop:=
 ∃c:Ans,(vj P r ⟨e,ob⟩ p c vs y).ok/\wpD P rs (a++[(vj P r ⟨e,ob⟩ p c vs y).lg]) (vj P r ⟨e,ob⟩ p c vs y).st λ a s=>ot b a=true/\run P np Q d s
def dcI (P:Program) (np:Nat) (Q:Ex->St->Prop) (b:List (List Nat)) (r:PR) (tbl:List (TypeId×FuncId)) (p:Prop) (rs:List PR) (a:List Lg) (d:List Item) (e:Env) (ob:Obs) (vs:List AV) (y:AV):Prop:=
 ∃c:Ans,(qt P r ⟨e,ob⟩ tbl p c vs y).ok/\wpD P rs (a++[(qt P r ⟨e,ob⟩ tbl p c vs y).lg]) (qt P r ⟨e,ob⟩ tbl p c vs y).st λ a s=>ot b a=true/\run P np Q d s
def a3z (P:Program) (np:Nat) (Q:Ex->St->Prop) (a:List (List Nat)) (r:PR) (p:Prop) (rs:List PR) (b:List Lg) (c:List Item) (e:Env) (ob:Obs) (vs:List AV) (y:AV):Option FuncId->Prop
 | some f=>dcA P np Q a r f p rs b c e ob (bj (y::vs) (q7 ob (y::vs)))
 | none=>False
def dcB (P:Program) (np:Nat) (Q:Ex->St->Prop) (b:List (List Nat)) (r:PR) (f:FuncId) (p:Prop) (rs:List PR) (a:List Lg) (g:List Item) (e:Env) (ob:Obs) (as:List AV) (l:List Nat) (d:Bool) (ids:List Nat):Prop:=
 ∃c:Ans,(ade P r ⟨e,ob⟩ f p c as l d ids (v9 (fwd ob ids) ob ids)).ok/\wpD P rs (a++[(ade P r ⟨e,ob⟩ f p c as l d ids (v9 (fwd ob ids) ob ids)).lg]) (ade P r ⟨e,ob⟩ f p c as l d ids (v9 (fwd ob ids) ob ids)).st λ a s=>ot b a=true/\run P np Q g s
def axc (P:Program) (np:Nat) (Q:Ex->St->Prop) (a:List (List Nat)) (r:PR) (rs:List PR) (b:List Lg) (c:List Item) (e:Env) (ob:Obs) (l:List Nat) (ids:List Nat) (res:AV) (ro:List Ob):Prop:=
 xj P np Q a rs (b++[r.lg (l++(ids++cz r.u ids ro.length)) (cz r.u ids ro.length)]) c (s8 r.d (imV (back ob r.u ids ro.length) res) e) (bw ob r.u ids (back ob r.u ids ro.length) 0 ro)
def dcP (P:Program) (np:Nat) (Q:Ex->St->Prop) (a:List (List Nat)) (r:PR) (f:FuncId) (rs:List PR) (b:List Lg) (d:List Item) (e:Env) (ob:Obs) (as:List AV) (l:List Nat) (c:Bool) (ids:List Nat) (po:List Ob):Prop:=
 ∃(res:AV) (ro:List Ob),a9 P f as po res ro/\okC r.u ids ro.length l c=true/\k7 po ro/\(c=false->u7 res/\∀o∈ro,gu o)/\axc P np Q a r rs b d e ob l ids res ro
def dcC (P:Program) (np:Nat) (Q:Ex->St->Prop) (a:List (List Nat)) (r:PR) (f:FuncId) (p:Prop) (rs:List PR) (b:List Lg) (c:List Item) (e:Env) (ob:Obs) (as:List AV) (l:List Nat) (d:Bool) (ids:List Nat):Option (List Ob)->Prop
 | some po=>p/\dcP P np Q a r f rs b c e ob as l d ids po
 | none=>False
section
variable (P:Program) (np:Nat) (Q:Ex->St->Prop) (pre:List (List Nat)) (log:List Lg) (is:List Item) (e:Env) (ob:Obs) (rs:List PR)
theorem pu (a:List PR):run P np Q (.c (.drw a pre)::is) ⟨e,ob⟩=xj P np Q pre a [] is e ob:=by rw [run]; rfl
theorem lh:xj P np Q pre [] log is e ob=(ot pre log=true/\run P np Q is ⟨e,ob⟩):=(rfl)
theorem iu (d:Option Nat) (g:Option (Nat×Bool)) (u:Nat) (x:PX):xj P np Q pre (⟨d,g,u,x⟩::rs) log is e ob=ach P np Q pre d g u x rs log is e ob (yes e g):=(rfl)
theorem lu (d:Option Nat) (g:Option (Nat×Bool)) (u:Nat) (o:PO) (b:Bool):ach P np Q pre d g u (.see o) rs log is e ob (some b)=a3s P np Q pre ⟨d,g,u,.see o⟩ b rs log is e ob (o.see b e ob):=propext ⟨λ ⟨_,h⟩=>h,λ h=>⟨(.undef,[]),h⟩⟩
theorem qn (r:PR) (b:Bool) (p:Prop) (v:AV) (ob':Obs) (rd a:List Nat):a3s P np Q pre r b rs log is e ob ⟨p,v,ob',rd,a⟩=(p/\xj P np Q pre rs (log++[r.lg rd []]) is (s8 r.d (gdv r.g b v) e) ob):=(rfl)
theorem lx (d:Option Nat) (g:Option (Nat×Bool)) (u:Nat) (o:PO):ach P np Q pre d g u (.act o) rs log is e ob (some true)=ax7 P np Q pre ⟨d,g,u,.act o⟩ rs log is e (o.act (d.getD 0) e ob):=propext ⟨λ ⟨_,h⟩=>h,λ h=>⟨(.undef,[]),h⟩⟩
theorem ma (r:PR) (p:Prop) (v:AV) (ob':Obs) (rd a:List Nat):ax7 P np Q pre r rs log is e ⟨p,v,ob',rd,a⟩=(p/\xj P np Q pre rs (log++[r.lg rd a]) is (s8 r.d v e) ob'):=(rfl)
theorem dv (d:Option Nat) (g:Option (Nat×Bool)) (u:Nat) (o:PO):ach P np Q pre d g u (.act o) rs log is e ob (some false)=xj P np Q pre rs (log++[PR.lg ⟨d,g,u,.act o⟩ [] []]) is (s8 d .undef e) ob:=propext ⟨λ ⟨_,_,h⟩=>h,λ h=>⟨(.undef,[]),trivial,h⟩⟩
theorem cg (d:Option Nat) (g:Option (Nat×Bool)) (u:Nat) (f:FuncId) (xs:List Opd):ach P np Q pre d g u (.call f xs) rs log is e ob (some false)=xj P np Q pre rs (log++[PR.lg ⟨d,g,u,.call f xs⟩ [] []]) is (s8 d .undef e) ob:=propext ⟨λ ⟨_,_,h⟩=>h,λ h=>⟨(.undef,[]),trivial,h⟩⟩
theorem je (d:Option Nat) (g:Option (Nat×Bool)) (u:Nat) (f:FuncId) (xs:List Opd):ach P np Q pre d g u (.call f xs) rs log is e ob (some true)=dcA P np Q pre ⟨d,g,u,.call f xs⟩ f (bi true e xs) rs log is e ob (bj (n6 e xs) (q7 ob (n6 e xs))):=(rfl)
theorem fj (d:Option Nat) (g:Option (Nat×Bool)) (u:Nat) (x:Opd) (xs:List Opd):ach P np Q pre d g u (.callv x xs) rs log is e ob (some true)=dcX P np Q pre ⟨d,g,u,.callv x xs⟩ ((x.ev e).may true/\bi true e xs) rs log is e ob (n6 e xs) (x.ev e).bare:=(rfl)
theorem lv (d:Option Nat) (g:Option (Nat×Bool)) (u:Nat) (tbl:List (TypeId×FuncId)) (x:Opd) (xs:List Opd):ach P np Q pre d g u (.inv tbl x xs) rs log is e ob (some true)=dcI P np Q pre ⟨d,g,u,.inv tbl x xs⟩ tbl ((x.ev e).may true/\bi true e xs) rs log is e ob (n6 e xs) (x.ev e).bare:=(rfl)
theorem qo (r:PR) (tbl:List (TypeId×FuncId)) (p:Prop) (vs:List AV) (t:TypeId) (y:AV):dcI P np Q pre r tbl p rs log is e ob vs (.ifc t y)=a3z P np Q pre r p rs log is e ob vs y (db t tbl):=by
 unfold dcI;simp only [qt];generalize db t tbl=q;cases q with
 | some f=>rfl
 | none=>exact propext ⟨λ ⟨_,h,_⟩=>h.elim,λ h=>h.elim⟩
theorem jf (r:PR) (p:Prop) (vs:List AV) (y:AV) (f:FuncId):a3z P np Q pre r p rs log is e ob vs y (some f)=dcA P np Q pre r f p rs log is e ob (bj (y::vs) (q7 ob (y::vs))):=(rfl)
theorem du (d:Option Nat) (g:Option (Nat×Bool)) (u:Nat) (tbl:List (TypeId×FuncId)) (x:Opd) (xs:List Opd):ach P np Q pre d g u (.inv tbl x xs) rs log is e ob (some false)=xj P np Q pre rs (log++[PR.lg ⟨d,g,u,.inv tbl x xs⟩ [] []]) is (s8 d .undef e) ob:=propext ⟨λ ⟨_,_,h⟩=>h,λ h=>⟨(.undef,[]),trivial,h⟩⟩
theorem ve (r:PR) (p:Prop) (vs:List AV) (f:FuncId) (cap:List AV) (k:Nat):dcX P np Q pre r p rs log is e ob vs (.fn (.func f) cap k)=dcA P np Q pre r f (p/\zl P f=true) rs log is e ob (bj (cap.take k++(vs++cap.drop k)) (q7 ob (cap.take k++(vs++cap.drop k)))):=(rfl)
theorem bg (d:Option Nat) (g:Option (Nat×Bool)) (u:Nat) (x:Opd) (xs:List Opd):ach P np Q pre d g u (.callv x xs) rs log is e ob (some false)=xj P np Q pre rs (log++[PR.lg ⟨d,g,u,.callv x xs⟩ [] []]) is (s8 d .undef e) ob:=propext ⟨λ ⟨_,_,h⟩=>h,λ h=>⟨(.undef,[]),trivial,h⟩⟩
theorem lz (r:PR) (f:FuncId) (p:Prop) (as:List AV) (l:List Nat) (a:Bool):dcA P np Q pre r f p rs log is e ob (as,l,a)=dcB P np Q pre r f p rs log is e ob as l a (s9 ob 64 (o4 as) []):=(rfl)
theorem vg (r:PR) (f:FuncId) (p:Prop) (as:List AV) (l:List Nat) (k:Bool) (ids:List Nat):dcB P np Q pre r f p rs log is e ob as l k ids=dcC P np Q pre r f p rs log is e ob (imL (fwd ob ids) as) l k ids (v9 (fwd ob ids) ob ids):=by
 unfold dcB;generalize v9 (fwd ob ids) ob ids=po;cases po with
 | none=>exact propext ⟨λ ⟨_,h,_⟩=>h.elim,λ h=>h.elim⟩
 | some po=>exact propext ⟨λ ⟨c,⟨i,a,j,g,b⟩,d⟩=>⟨i,c.1,c.2,a,j,g,b,d⟩,λ ⟨i,r,o,a,j,g,b,d⟩=>⟨(r,o),⟨i,a,j,g,b⟩,d⟩⟩
theorem ly (r:PR) (f:FuncId) (p:Prop) (as:List AV) (l:List Nat) (a:Bool) (ids:List Nat) (po:List Ob):dcC P np Q pre r f p rs log is e ob as l a ids (some po)=(p/\dcP P np Q pre r f rs log is e ob as l a ids po):=(rfl)
theorem qu (r:PR) (l ids:List Nat) (res:AV) (ro:List Ob):axc P np Q pre r rs log is e ob l ids res ro=xj P np Q pre rs (log++[r.lg (l++(ids++cz r.u ids ro.length)) (cz r.u ids ro.length)]) is (s8 r.d (imV (back ob r.u ids ro.length) res) e) (bw ob r.u ids (back ob r.u ids ro.length) 0 ro):=(rfl)
end
variable {l ids:List Nat} {po ro:List Ob} {res:AV} {as:List AV}
theorem g9 {P:Program} {np:Nat} {Q:Ex->St->Prop} {a:List (List Nat)} {r:PR} {f:FuncId} {rs:List PR} {b:List Lg} {c:List Item} {e:Env} {ob:Obs}
 (h:a9 P f as po res ro) (d:okC r.u ids ro.length l true=true) (i:k7 po ro) (g:axc P np Q a r rs b c e ob l ids res ro):dcP P np Q a r f rs b c e ob as l true ids po:=
 ⟨res,ro,h,d,i,(λ h=>by cases h),g⟩
theorem n9 {P:Program} {np:Nat} {Q:Ex->St->Prop} {a:List (List Nat)} {r:PR} {f:FuncId} {rs:List PR} {b:List Lg} {c:List Item} {e:Env} {ob:Obs} {as':List AV} {d:Bool} (has:as=as') (h:dcP P np Q a r f rs b c e ob as' l d ids po):dcP P np Q a r f rs b c e ob as l d ids po:=has▸h
theorem ui (d:Nat) (x:AV) (e:Env) (n:Nat):put d x e n=if n=d then x else e n:=(rfl)
theorem ue (i:Nat) (x:Nat×Ob) (ob:Obs) (n:Nat):upd i x ob n=if n=i then some x else ob n:=(rfl)
theorem iw (d:Nat) (x:AV) (e:Env):s8 (some d) x e=put d x e:=(rfl)
theorem iy (x:AV) (e:Env):s8 none x e=e:=(rfl)
theorem aaq (e:Env) (n:Nat):(Opd.t n).ev e=e n:=(rfl)
theorem aar (e:Env) (x:AV):(Opd.c x).ev e=x:=(rfl)
theorem aan (b:Bool) (x:AV):gdv none b x=x:=(rfl)
theorem aam (g:Nat×Bool) (b:Bool) (x:AV):gdv (some g) b x=.gd b x:=(rfl)
section
variable (np:Nat) (live:List (Nat×Bool)) (e:Env) (ob:Obs)
theorem jl (D:List AV->List Ob->List Ob->Prop):yr np live ⟨e,ob⟩ D=am6 D (nrm 64 np 2000000 (x8 e live ob).1 (x8 e live ob).2):=(rfl)
theorem ja (D:List AV->List Ob->List Ob->Prop) (vs:List AV) (pos a:List Ob):am6 D (some (vs,pos,a))=D vs pos a:=(rfl)
def acd (np lb:Nat) (vs:List AV) (ob:Obs) (ids:List Nat):Option (List AV×List Ob×List Ob):=match oo (sk np lb ob ids) ob (bk np np),oo (sk np lb ob ids) ob ids with
 | some pos,some los=>some (imL (sk np lb ob ids) vs,pos,los)
 | _,_=>none
theorem uu (a lb:Nat) (vs:List AV):nrm a np lb vs ob=acd np lb vs ob (kj np (s9 ob a (o4 vs++bk np np) [])):=(rfl)
theorem ph (vs:List AV) (pos a:List Ob):ahx live vs pos a=⟨keep live vs,az 1000000 pos (az 2000000 a λ _=>none)⟩:=(rfl)
theorem ql (rs:List (Nat×Bool)) (D:AV->List Ob->Prop):anz np rs ⟨e,ob⟩ D=al1 np (x8 e rs ob).2 D (rf (x8 e rs ob).2 (x8 e rs ob).1):=(rfl)
def ax5 (D:AV->List Ob->Prop):Option (List AV×List Ob×List Ob)->Prop
 | some (vs,pos,los)=>D (qc vs) (pos++los)
 | none=>False
theorem fi (D:AV->List Ob->Prop) (vs:List AV) (l:List Nat):al1 np ob D (some (vs,l))=ax5 D (nrm 64 np (1000000+np) vs (freeze ob l)):=by
 show am6 _ _ = _;generalize nrm 64 np (1000000+np) vs (freeze ob l)=y;rcases y with _ | ⟨_,_,_⟩<;>rfl
theorem fh (D:AV->List Ob->Prop) (vs:List AV) (pos a:List Ob):ax5 D (some (vs,pos,a))=D (qc vs) (pos++a):=(rfl)
end
variable {α:Type}
theorem mg (a b:α):(bif true then a else b)=a:=(rfl)
theorem ji (a b:α):(bif false then a else b)=b:=(rfl)

section
variable (P:Program)
def mU (t:TypeId):TypeDesc:=match P.underlying t with
 | some d=>d
 | none=>.invalid
def mS (t:TypeId):Nat:=match P.info? t with
 | some i=>i.size
 | none=>0
def mY (t:TypeId):Nat:=match P.info? t with
 | some i=>i.bytes
 | none=>0
def mZ (t:TypeId):Value:=match P.info? t with
 | some i=>match i.zero with
   | some v=>v
   | none=>.bool false
 | none=>.bool false
def mE (t:TypeId):TypeId:=match mU P t with
 | .slice e=>e
 | .array _ e=>e
 | .map _ e=>e
 | _=>0
def a24:Nat->List TypeId->List TypeId
 | 0,_=>[]
 | n+1,l=>l++a24 n l
def mT:Nat->TypeId->List TypeId
 | 0,t=>[t]
 | n+1,t=>match mU P t with
   | .struct fs=>fs.toList.flatMap λ f=>mT n f.type
   | .array k e=>a24 k (mT n e)
   | _=>[t]
def mV1 (t:TypeId):Value->RV
 | .slice _ _ _=>.sl (match mU P t with | .slice e=>mS P e | _=>1) []
 | v=>.v v
def mV (t:TypeId):RV:=match mZ P t with
 | .agg cs=>.agg (List.zipWith (mV1 P) (mT P 5 t) cs.toList)
 | v=>mV1 P t v
def mA1 (t:TypeId):Value->AV
 | .slice _ _ _=>match mU P t with
   | .slice e=>.nils (mS P e) (mV P e)
   | _=>.nils 1 (.v (.bool false))
 | v=>.r (.v v)
def mA (t:TypeId):List AV:=match mZ P t with
 | .agg cs=>List.zipWith (mA1 P) (mT P 5 t) cs.toList
 | v=>[mA1 P t v]
def mO (t:TypeId):Operand->Opd
 | .tmp n=>.t n
 | .const v=>.c (mA1 P t v)
 | .func f=>.c (.fn (.func f) [])
 | .global _=>.t 0
def mQ (x:Operand):Opd:=match x with
 | .tmp n=>.t n
 | .const (.slice _ _ _)=>.c (.nils 1 (.v (.bool false)))
 | .const v=>.c (.r (.v v))
 | .func f=>.c (.fn (.func f) [])
 | .global _=>.t 0
def mP (x:Option Operand):Option Opd:=match x with
 | none=>none
 | some x=>some (mQ x)
def mG (t:TypeId):Option Nat:=match mU P t with
 | .struct _=>some (mS P t)
 | .array _ _=>some (mS P t)
 | _=>none
def mK (t:TypeId):Bool:=match mU P t with
 | .map k _=>match mU P k with
   | .string=>true
   | _=>false
 | _=>false
def mKd (t:TypeId):Nat:=match mU P t with
 | .int _=>0
 | .bool=>1
 | _=>2
def mNe:BinOp->Bool
 | .neq=>true
 | _=>false
def a5y (op:BinOp) (t:TypeId) (x y:Operand):PO:=match mU P t with
 | .bool=>.beq (mNe op) (mQ x) (mQ y)
 | .pointer _=>.eqn (mNe op) (mQ x)
 | .struct _=>.eqa (mNe op) ((mT P 5 t).map (mKd P)) (mQ x) (mQ y)
 | .array _ _=>.eqa (mNe op) ((mT P 5 t).map (mKd P)) (mQ x) (mQ y)
 | _=>.bin op (mQ x) (mQ y)
def a48 (t:TypeId) (p:Nat×Operand):Nat×Nat×Opd:=match mU P t with
 | .struct fs=>match fs.toList[p.1]? with
   | some f=>(f.offset,mS P f.type,mO P f.type p.2)
   | none=>(0,0,mQ p.2)
 | _=>(p.1*mS P (mE P t),mS P (mE P t),mO P (mE P t) p.2)
def mTl (l:List TypeId) (i:Nat):TypeId:=match l[i]? with
 | some t=>t
 | none=>0
def a5x (b:Builtin) (t:TypeId) (a:List TypeId) (xs:List Operand):PX:=match b,xs with
 | .len,[x]=>match mU P (mTl a 0) with
   | .map _ _=>.see (.lenm (mQ x))
   | .string=>.see (.len true (mQ x))
   | _=>.see (.len false (mQ x))
 | .clear,[x]=>.act (.clr (mS P (mE P (mTl a 0))) (mV P (mE P (mTl a 0))) (mO P (mTl a 0) x))
 | .delete,[x,y]=>.act (.mdel (mK P (mTl a 0)) (mQ x) (mQ y))
 | .append,[x,y]=>.act (.app (mS P (mE P t)) (mV P (mE P t)) (mY P (mE P t)) (mO P t x) (mO P t y))
 | .copy,[x,y]=>match mU P (mTl a 1) with
   | .string=>.act (.cps (mO P (mTl a 0) x) (mO P (mTl a 1) y))
   | _=>.act (.cpy (mS P (mE P (mTl a 0))) (mO P (mTl a 0) x) (mO P (mTl a 1) y))
 | .min,x::ys=>.see (.mm false (mQ x) (ys.map mQ))
 | .max,x::ys=>.see (.mm true (mQ x) (ys.map mQ))
 | _,_=>.see .no
def mX (o:Oper):PX:=match o.op with
 | .move x=>.see (.mov (mO P o.type x))
 | .assign x=>.see (.mov (mO P o.type x))
 | .pick c a b=>.see (.pick (mO P o.type c) (mO P o.type a) (mO P o.type b))
 | .binOp op t x y _=>.see (a5y P op t x y)
 | .unOp op _ x=>.see (.un op (mQ x))
 | .convert a b x=>match mU P a,mU P b with
   | .int _,.int k=>.see (.conv k (mQ x))
   | .slice _,.string=>.see (.toStr (mQ x))
   | .string,.slice e=>.act (.toBytes (mV P e) (mQ x))
   | _,_=>.act (.mrk (mQ x))
 | .indexAddr t x i=>match mU P t with
   | .array n e=>.see (.iaa n (mS P e) (mQ x) (mQ i))
   | _=>.see (.ia (mS P (mE P t)) (mV P (mE P t)) (mQ x) (mQ i))
 | .index _ x i=>.see (.ixs (mQ x) (mQ i))
 | .load t x=>.see (.ld (mG P t) (mQ x))
 | .store t x y=>.act (.st (mS P t) (mQ x) (mO P t y))
 | .nilCheck x=>.see (.nck (mQ x))
 | .fieldAddr t x f=>match mU P t with
   | .struct fs=>match fs.toList[f]? with
     | some d=>.see (.fa d.offset (mQ x))
     | none=>.see .no
   | _=>.see .no
 | .field t x f=>match mU P t with
   | .struct fs=>match fs.toList[f]? with
     | some d=>.see (.fld d.offset (mG P d.type) (mQ x))
     | none=>.see .no
   | _=>.see .no
 | .slice t x lo hi mx=>match mU P t with
   | .string=>.see (.sls (mQ x) (mP lo) (mP hi))
   | .array n _=>.see (.sla n (mQ x))
   | _=>.see (.sll (mS P (mE P t)) (mO P t x) (mP lo) (mP hi) (mP mx))
 | .extract x i=>.see (.ext (mQ x) i)
 | .alloc t=>.act (.new (mA P t))
 | .box t x=>.act (.box (mO P t x))
 | .build t ps=>.see (.build (mA P t) (ps.toList.map (a48 P t)))
 | .buildSlice t _ ps=>.act (.bsl (mS P (mE P t)) (mV P (mE P t)) (ps.toList.map λ p=>mO P (mE P t) p.2))
 | .makeSlice t l c=>.act (.mks (mS P (mE P t)) (mV P (mE P t)) (mY P (mE P t)) (mQ l) (mQ c))
 | .makeFunc f xs ys=>.see (.mkf f ((xs.toList++ys.toList).map mQ) xs.size)
 | .lookup t x i c=>.see (.lkp (mK P t) (mV P (mE P t)) c (mQ x) (mQ i))
 | .makeInterface t x=>.see (.mki t (mO P t x))
 | .typeAssert x _ t c=>.see (.tas t (mV P t) c (mQ x))
 | .entry x=>.see (.ent (mQ x))
 | .makeMap _ _=>.act .mkm
 | .mapEntry t x i=>.act (.ment (mK P t) (mV P (mE P t)) (mQ x) (mQ i))
 | .entryStore t x i y=>.act (.mest (mQ x) (mQ i) (mO P (mE P t) y))
 | .mapUpdate t x i y=>.act (.mset (mK P t) (mQ x) (mQ i) (mO P (mE P t) y))
 | .range _ x=>.act (.rng (mQ x))
 | .next x _=>.nxt (mQ x)
 | .call c=>match c.callee with
   | .builtin b=>a5x P b o.type c.argTypes.toList c.args.toList
   | .value (.func f)=>.call f (c.args.toList.map mQ)
   | .value x=>.callv (mQ x) (c.args.toList.map mQ)
   | .invoke _ _=>.see .no
 | _=>.see .no
def mC1 (o:Op):Nat:=match o with
 | .call c=>match c.callee with
   | .builtin _=>0
   | _=>1
 | _=>0
def mCs:List Oper->Nat
 | []=>0
 | o::os=>mC1 o.op+mCs os
def mCc:Code->Nat
 | .region _ ops _=>mCs ops.toList
 | .seq a b=>mCc a+mCc b
 | .cond _ a b=>mCc a+mCc b
 | .block _ c=>mCc c
 | .loop c=>mCc c
 | _=>0
def mGd (a:List Oper):Option (Nat×Bool)->Option (Nat×Bool)
 | none=>none
 | some (j,b)=>match a[j]? with
   | some o=>match o.dst with
     | some d=>some (d,b)
     | none=>none
   | none=>none
def mRs (a:List Oper):Nat->List Oper->List PR
 | _,[]=>[]
 | u,o::os=>match mC1 o.op with
   | 0=>⟨o.dst,mGd a o.guard,0,mX P o⟩::mRs a u os
   | _=>⟨o.dst,mGd a o.guard,u+1,mX P o⟩::mRs a (u+1) os
def mIn (x:Nat):List Nat->List Nat
 | []=>[x]
 | y::l=>match Nat.beq x y with
   | true=>y::l
   | false=>match Nat.ble x y with
     | true=>x::y::l
     | false=>y::mIn x l
def ajj (a:List (List Nat)):List Edge->List Nat
 | []=>[]
 | e::es=>match e.ground with
   | .textOnly _=>ajj a es
   | .gcOnly _=>ajj a es
   | _=>(e.on::(match a[e.on]? with | some l=>l | none=>[])).foldr mIn (ajj a es)
def a23 (a:List (List Nat)):List Oper->List (List Nat)
 | []=>a
 | o::os=>a23 (a++[ajj a o.after.toList]) os
def mkC:Nat->Code->PC
 | u,.region _ ops d=>match d with
   | true=>.drw (mRs P ops.toList u ops.toList) (a23 [] ops.toList)
   | false=>.reg (mRs P ops.toList u ops.toList)
 | u,.seq a b=>.seq (mkC u a) (mkC (u+mCc a) b)
 | u,.cond x a b=>.cond (mQ x) (mkC u a) (mkC (u+mCc a) b)
 | u,.block i c=>.block i (mkC u c)
 | u,.loop c=>.loop (mkC u c)
 | _,.exit i=>.exit i
 | _,.ret=>.ret
 | _,_=>.skip
end
def mR (P:Program) (f:Func):List RSl:=f.results.toList.map λ r=>match r with
 | .tmp t=>(t,false,none)
 | .cell a t=>(a,false,some (t,mG P t))
structure Mk (P:Program) (f:Func) where
 x:List RSl×PC
 h:(mR P f,mkC P 0 (f.body.getD .skip))=x:=by conv=>lhs; reduce; try simp only [Int.reduceOfNat,Int.reduceNegSucc]
def Fun (P:Program) (f k:Nat) (rs:List RSl) (pc:PC):Prop:=
 ∀{args:List AV} {po ro:List Ob} {res:AV},args.length=k->po.length<=1000->run P po.length (ais po.length rs λ v os=>v=res/\os=ro) [.c pc] ⟨kp 0 args,ob0 po⟩->a9 P f args po res ro
variable {f k:Nat} {fn:Func} {pc:PC}
theorem rr {P:Program} {rs:List RSl} (j:P.funcs[f]?=some fn) (m:fn.body=some (fn.body.getD .skip)) (l:fn.ntmps<=100000) (d:km P fn.ntmps (fn.body.getD .skip) pc=true) (n:k<=fn.ntmps)
 (a:fn.results.toList=rs.map RSl.rv) (g:(rs.all λ p=>p.agg P)=true) (i:(rs.all λ p=>decide (p.1<fn.ntmps))=true) (e:(rs.map (·.1)).Nodup):Fun P f k rs pc:=
 λ c b h=>aon j m l d (by rw [c]; exact n) a g i e b (aoi h)
def eqR:ResultVar->RSl->Bool
 | .tmp t,(a,_,none)=>t == a
 | .cell a t,(b,_,some (u,_))=>a == b&&t == u
 | _,_=>false
theorem aqb:∀{l:List ResultVar} {rs:List RSl},x7 eqR l rs=true->l=rs.map RSl.rv
 | [],[],_=>rfl
 | [],_::_,h=>by cases h
 | _::_,[],h=>by cases h
 | x::l,y::rs,h=>by
   simp only [x7,zaa] at h;rw [zag,<- aqb h.2];congr 1;obtain ⟨a,b,c⟩:=y;have d:=h.1;cases x<;>rcases c with _ | ⟨u,v⟩<;>simp [eqR] at d<;>simp [RSl.rv,d]
def aw2 (P:Program) (fn:Func) (k:Nat) (rs:List RSl) (pc:PC):Bool:=
 fn.body.isSome&&decide (fn.ntmps<=100000)&&km P fn.ntmps (fn.body.getD .skip) pc&&decide (k<=fn.ntmps)&&x7 eqR fn.results.toList rs&&rs.all (λ p=>p.agg P)&&rs.all (λ p=>decide (p.1<fn.ntmps))&&decide (rs.map (·.1)).Nodup
theorem fg {P:Program} (b:P.funcs[f]?=some fn) {rs:List RSl} (h:aw2 P fn k rs pc=true:=by kernel_rfl):Fun P f k rs pc:=by
 simp only [aw2,zaa,decide_eq_true_eq] at h;obtain ⟨⟨⟨⟨⟨⟨⟨a,m⟩,j⟩,g⟩,i⟩,d⟩,l⟩,e⟩:=h;refine rr b ?_ m j g (aqb i) d l e;cases hb:fn.body with
 | none=>rw [hb] at a; cases a
 | some c=>rfl
abbrev ng {P:Program} {fn:Func} (f k:Nat) (x:Mk P fn):Prop:=Fun P f k x.1.1 x.1.2
theorem Mk.t {P:Program} (m:Mk P fn) (a:P.funcs[f]?=some fn) {args:List AV} (d:run P po.length (ais po.length m.1.1 λ v os=>v=res/\os=ro) [.c m.1.2] ⟨kp 0 args,ob0 po⟩)
 (b:po.length<=1000:=by first | decide | simp) (h:aw2 P fn args.length m.1.1 m.1.2=true:=by kernel_rfl):a9 P f args po res ro:=fg a h rfl b d

theorem aw7 (n:Nat):@Nat.cast Int _ (no_index (OfNat.ofNat n))=OfNat.ofNat n:=rfl
attribute [push_cast high] aw7
attribute [push_cast] eq_self iff_self
attribute [push_cast] pw pa pf eu fo dz pe lj iz ij me br pt ku pj pq lf ir pd pi pg ez kr dp qv ft jh mf fp vr lc mc jg iq la pp pz uh oz pb et aaa uf qw mj qf qe li uq pu lh iu lu qn lx ma dv cg je lv du qo jf fj ve bg lz vg ly qu cz List.range_zero ui ue iw iy aaq aar aan aam jl ja uu acd ph ql fi fh db t9 cb rc uy nq xd ss rj sr zp nf sf nl nn zg si xl xr toV xb xc kh de jq yes aaz bad v5 ko mmL lm zo eq2 eql AV.isA PO.see PO.act Vs.q Rs.and AV.bare AV.may xx abj abi xy qd un1 qp sq ia2 iab leb xm ldb ldr ld1 uv vd fa1 xp bnd xg rb xq src ig dt n6 bi PO.see.mayO PO.see.bareO l9 t5 go nv AV.rv rvs AV.elt frz freeze q9 z7 stb str st2 rk par td xw sh zf am gh aa9 RV.cells AV.cells AV.one RV.one AV.boxable RV.good c8 x8 mz rf zj aa5 aa4 nj na om AV.isNil qc kp bj q7 gm z6 o4 acf s9 fwd abf ug v9 m5 fu gp back bw imV imL imO idx az obs keep bk va kj sk qg oo yb Ob.own Value.oneCell' mg ji true_and and_true and_self true_implies imp_self implies_true Option.getD_some Option.getD_none zai List.length_nil List.length_map zag List.map_nil List.getD_cons_zero List.getD_cons_succ List.take_succ_cons List.take_zero List.drop_succ_cons List.drop_zero List.cons_append List.nil_append List.append_nil List.all_cons List.all_nil Bool.and_true Bool.true_and Bool.false_and Bool.and_self Bool.or_true Bool.true_or Bool.false_or Bool.or_false Bool.not_true Bool.not_false List.contains_cons List.contains_nil List.filter_cons List.filter_nil decide_true decide_false if_true if_false false_and and_false not_true not_false_eq_true Option.map_some Option.map_none List.getElem?_cons_zero List.getElem?_cons_succ List.getElem?_nil List.length_append beq_self_eq_true List.take_nil List.drop_nil false_implies zad ne_eq

end
end Go.Ev

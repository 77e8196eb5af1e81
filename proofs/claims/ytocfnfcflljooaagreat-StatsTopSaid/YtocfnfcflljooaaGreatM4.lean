import Derived.Orders
import Derived.Test.YtocfnfcflljooaaGreatM3
open Bool renaming and_eq_true → zaa, false_eq_true → zad
open Array renaming getD_eq_getD_getElem? → zab, getElem?_append → zaf, getElem?_eq_some_iff → zaj
open List renaming all_eq_true → zac, map_cons → zag, getElem?_eq_some_iff → zah, length_cons → zai
open Nat renaming le_refl → zae
open Option renaming map_eq_some_iff → zak
namespace Go.Ev
set_option maxHeartbeats 8000000
set_option maxRecDepth 100000
noncomputable section
open Go
set_option linter.unusedSectionVars false
set_option linter.unnecessarySimpa false
set_option linter.unusedSimpArgs false
set_option linter.unusedVariables false
open Classical in
def jo {L C:Type} (r:Nat->L->C) (Wt:Nat->L->Prop) (S:Nat->Prop):Nat->L->C
 | 0,l=>r 0 l
 | k+1,l=>if S k/\Wt k l then r (k+1) l else jo r Wt S k l
section
variable {L C:Type} {n:Nat} {r:Nat->L->C} {Wt Us pre:Nat->L->Prop} {S:Nat->Prop} {pr:Nat->Nat->Prop}
theorem avw (d:∀k l,k<n->¬Wt k l->r (k+1) l=r k l) (c:∀i j,i<j->j<n->¬pr j i->∀l,¬(Wt i l/\Us j l)/\¬(Wt j l/\Us i l))
 (s:∀j,S j->∀i,pr j i->S i) {j:Nat} (q:j<n) (g:¬S j) (p:∀i,pr j i->S i) {l:L} (o:Us j l):jo r Wt S n l=r j l:=by
 have u:∀k,k<=j->jo r Wt S k l=r k l:=λ k=>by
  induction k with
  | zero=>intro _; rfl
  | succ k ih=>
    intro w;simp only [jo];by_cases b:Wt k l
    ·have:S k:=p k (Classical.byContradiction λ a=>(c k j (by omega) q a l).1 ⟨b,o⟩);rw [if_pos ⟨this,b⟩]
    rw [if_neg (λ h=>b h.2),ih (by omega),d k l (by omega) b]
 have t:∀m,j+m<=n->jo r Wt S (j+m) l=r j l:=λ m=>by
  induction m with
  | zero=>intro _; exact u j (zae _)
  | succ m ih=>
    intro v;rw [show j+(m+1)=(j+m)+1 by omega];simp only [jo];rw [if_neg,ih (by omega)];rintro ⟨f,b⟩
    have e:j<j+m:=by
     rcases Nat.eq_zero_or_pos m with h | h
     ·subst h; exact (g f).elim
     omega
    exact g (s _ f j (Classical.byContradiction λ a=>(c j (j+m) e (by omega) a l).2 ⟨b,o⟩))
 have:=t (n-j) (by omega)
 rwa [show j+(n-j)=n by omega] at this
theorem aml {j:Nat} {l:L} (b:¬Wt j l):∀k,jo r Wt (λ i=>S i\/i=j) k l=jo r Wt S k l
 | 0=>rfl
 | k+1=>by
   simp only [jo]
   have:((S k\/k=j)/\Wt k l)↔(S k/\Wt k l):=by
    constructor
    ·rintro ⟨h | h,a⟩
     ·exact ⟨h,a⟩
     subst h; exact (b a).elim
    rintro ⟨h,a⟩; exact ⟨.inl h,a⟩
   by_cases h:S k/\Wt k l
   ·rw [if_pos h,if_pos (this.2 h)]
   rw [if_neg h,if_neg (λ q=>h (this.1 q)),aml b k]
theorem asi (b:∀k l,k<n->Wt k l->Us k l) (c:∀i j,i<j->j<n->¬pr j i->∀l,¬(Wt i l/\Us j l)/\¬(Wt j l/\Us i l))
 (g:∀j,S j->∀i,pr j i->S i) {j:Nat} (p:j<n) (o:¬S j) {l:L} (e:Wt j l):jo r Wt (λ i=>S i\/i=j) n l=r (j+1) l:=by
 have h:∀m,j+1+m<=n->jo r Wt (λ i=>S i\/i=j) (j+1+m) l=r (j+1) l:=λ m=>by
  induction m with
  | zero=>
    intro _;simp only [jo];rw [if_pos ⟨.inr rfl,e⟩]
  | succ m ih=>
    intro q;rw [show j+1+(m+1)=(j+1+m)+1 by omega];simp only [jo];rw [if_neg,ih (by omega)];rintro ⟨f | f,d⟩
    ·exact o (g _ f j (Classical.byContradiction λ a=>(c j (j+1+m) (by omega) (by omega) a l).2 ⟨d,b j l p e⟩))
    omega
 have:=h (n-(j+1)) (by omega)
 rwa [show j+1+(n-(j+1))=n by omega] at this
theorem afk (a:∀k l,k<n->¬Wt k l->r (k+1) l=r k l) (c:∀k,k<n->S k) {l:L}:∀k,k<=n->jo r Wt S k l=r k l
 | 0,_=>rfl
 | k+1,hk=>by
   simp only [jo];by_cases b:Wt k l
   ·rw [if_pos ⟨c k (by omega),b⟩]
   rw [if_neg (λ h=>b h.2),afk a c k (by omega),a k l (by omega) b]
theorem aim (a:∀k,¬S k) {l:L}:∀k,jo r Wt S k l=r 0 l
 | 0=>rfl
 | k+1=>by
   simp only [jo];rw [if_neg (λ h=>a k h.1),aim a k]
theorem ail {p q:Nat->Bool} {j:Nat} (b:∀x,q x=true->p x=true) (c:p j=true) (d:q j=false):∀{l:List Nat},j∈l->l.countP q<l.countP p
 | x::l,h=>by
   have e:l.countP q<=l.countP p:=List.countP_mono_left λ x _=>b x;rw [List.countP_cons,List.countP_cons];rcases List.mem_cons.1 h with h | h
   ·subst h;rw [c,d];simp;omega
   have:=ail b c d h
   have:(if q x=true then 1 else 0)<=(if p x=true then 1 else 0):=by
    by_cases a:q x=true
    ·rw [if_pos a,if_pos (b x a)]; exact zae _
    rw [if_neg a]; exact Nat.zero_le _
   omega
end
def ahx (a b:List Nat):Bool:=a.all λ x=>!b.contains x
def ath (a b:Lg):Bool:=ahx a.d b.us&&ahx b.d a.us&&(ahx a.wr b.rd||(a.st&&b.ad))&&(ahx b.wr a.rd||(b.st&&a.ad))
def mg (b:List (List Nat)) (a:List Lg):Bool:=
 (List.range a.length).all λ j=>(List.range j).all λ i=>(b.getD j []).contains i||ath (a.getD i default) (a.getD j default)
def wpD (P:Program):List PR->List Lg->St->(List Lg->St->Prop)->Prop
 | [],log,s,K=>K log s
 | r::rs,log,s,K=>∃c:Ans,(r.out P s c).ok/\wpD P rs (log++[(r.out P s c).lg]) (r.out P s c).st K
theorem alc {P:Program} {K:List Lg->St->Prop}:∀{rs:List PR} {b:List Lg} {s:St},wpD P rs b s K ->
 ∃(R:Nat->St) (C:Nat->Ans) (a:List Lg),R 0=s/\a.length=rs.length/\(∀k r,rs[k]?=some r->(r.out P (R k) (C k)).ok/\R (k+1)=(r.out P (R k) (C k)).st/\a[k]?=some (r.out P (R k) (C k)).lg)/\K (b++a) (R rs.length)
 | [],b,s,h=>⟨λ _=>s,λ _=>(.undef,[]),[],rfl,rfl,by simp,by rw [List.append_nil]; exact h⟩
 | r::rs,b,s,h=>by
   obtain ⟨c,j,i⟩:=h;obtain ⟨R,C,a,l,f,e,g⟩:=alc i;refine ⟨λ k=>match k with | 0=>s | k+1=>R k,λ k=>match k with | 0=>c | k+1=>C k,(r.out P s c).lg::a,rfl,by simp [f],λ k q d=>?_,by simpa using g⟩;cases k with
   | zero=>simp at d; subst d; exact ⟨j,l,by simp⟩
   | succ k=>simp at d; exact ⟨(e k q d).1,(e k q d).2.1,by simpa using (e k q d).2.2⟩
inductive Lc where
 | t (i:Nat)
 | o (i:Nat)
 | p (i:Nat)
inductive Ct where
 | t (x:AV)
 | o (x:Option (Nat×Ob))
 | p (x:Option (Nat×Option Nat))
def t7 (s:St):Lc->Ct
 | .t t=>.t (s.e t)
 | .o i=>.o (s.ob i)
 | .p i=>.p (pin (s.ob i))
theorem aib {s s':St} (h:∀l,t7 s l=t7 s' l):s=s':=by
 rcases s with ⟨e,ob⟩
 rcases s' with ⟨e',ob'⟩
 have a:e=e':=funext λ t=>by simpa [t7] using h (.t t)
 have b:ob=ob':=funext λ t=>by simpa [t7] using h (.o t)
 rw [a,b]
def wrt (a:List Lg) (k:Nat):Lc->Prop
 | .t t=>t∈(a.getD k default).d
 | .o i=>i∈(a.getD k default).wr
 | .p i=>i∈(a.getD k default).wr/\(a.getD k default).st=false
def usd (a:List Lg) (k:Nat):Lc->Prop
 | .t t=>t∈(a.getD k default).us
 | .o i=>i∈(a.getD k default).rd/\(a.getD k default).ad=false
 | .p i=>i∈(a.getD k default).rd
variable {i:Nat}
theorem yd {a b:List Nat} (h:ahx a b=true) (c:i∈a) (d:i∈b):False:=by
 simp only [ahx,zac] at h;have:=h i c;simp [d] at this
variable {j:Nat}
theorem aqy {f:List (List Nat)} {c:List Lg} (h:mg f c=true) (k:i<j) (q:j<c.length) (m:¬(i∈f.getD j [])) (l:Lc):¬(wrt c i l/\usd c j l)/\¬(wrt c j l/\usd c i l):=by
 simp only [mg,zac,List.mem_range,Bool.or_eq_true] at h;have g:=(h j q i k).resolve_left (by simpa using m);simp only [ath,zaa,Bool.or_eq_true] at g;obtain ⟨⟨⟨g,n⟩,e⟩,d⟩:=g;cases l with
 | t t=>exact ⟨λ ⟨a,b⟩=>yd g a b,λ ⟨a,b⟩=>yd n a b⟩
 | o t=>
   refine ⟨λ ⟨a,b⟩=>?_,λ ⟨a,b⟩=>?_⟩
   ·rcases e with e | ⟨_,e⟩
    ·exact yd e a b.1
    rw [b.2] at e; cases e
   rcases d with d | ⟨_,d⟩
   ·exact yd d a b.1
   rw [b.2] at d; cases d
 | p t=>
   refine ⟨λ ⟨a,b⟩=>?_,λ ⟨a,b⟩=>?_⟩
   ·rcases e with e | ⟨e,_⟩
    ·exact yd e a.1 b
    rw [a.2] at e; cases e
   rcases d with d | ⟨d,_⟩
   ·exact yd d a.1 b
   rw [a.2] at d; cases d
theorem afv {P:Program} {r:PR} {s:St} {c:Ans}:(r.out P s c).lg.us=gus r.g++(r.x.us++r.d.toList)/\(r.out P s c).lg.d=r.d.toList:=by
 rcases r with ⟨d,g,u,x⟩
 unfold PR.out;simp only;generalize yes s.e g=y;rcases y with _ | b
 ·cases x<;>exact ⟨rfl,rfl⟩
 cases x with
 | see o=>exact ⟨rfl,rfl⟩
 | act o=>cases b<;>exact ⟨rfl,rfl⟩
 | call f xs=>cases b with
   | false=>exact ⟨rfl,rfl⟩
   | true=>
     simp only [PX.out];generalize ai (l5 s.e xs) (m5 s.ob (l5 s.e xs))=q;simp only [y6];generalize s7 _ _ _=po;cases po<;>exact ⟨rfl,rfl⟩
 | callv x xs=>cases b with
   | false=>exact ⟨rfl,rfl⟩
   | true=>
     simp only [PX.out];generalize (x.ev s.e).bare=y;cases y with
     | fn f cap k=>cases f with
       | func f=>
         simp only [sr];generalize ai (cap.take k++(l5 s.e xs++cap.drop k)) (m5 s.ob (cap.take k++(l5 s.e xs++cap.drop k)))=q;simp only [y6];generalize s7 _ _ _=po;cases po<;>exact ⟨rfl,rfl⟩
       | _=>exact ⟨rfl,rfl⟩
     | _=>exact ⟨rfl,rfl⟩
 | inv tbl x xs=>cases b with
   | false=>exact ⟨rfl,rfl⟩
   | true=>
     simp only [PX.out];obtain ⟨rd,a,e⟩:=afn (P:=P) (r:=⟨d,g,u,.inv tbl x xs⟩) (s:=s) (c:=c) (tbl:=tbl) (p:=(x.ev s.e).may true/\ah true s.e xs) (vs:=l5 s.e xs) (y:=(x.ev s.e).bare);rw [e];exact ⟨rfl,rfl⟩
 | nxt x=>cases b<;>exact ⟨rfl,rfl⟩
theorem aaf {d:Array Oper} {a:List (List Nat)} (h:ag1 d a=true) {o:Oper} (i:d[j]?=some o) :
 (∀e∈o.after,Region.binds .any e=true->e.on<j)/\∀k,k∈a.getD j []->∃e∈o.after,Region.binds .any e=true/\(e.on=k\/k∈a.getD e.on []):=by
 simp only [ag1,zaa,zac,List.mem_range] at h;have b:=h.2 j (zaj.1 i).1;rw [i] at b;rcases hp:a[j]? with _ | p
 ·rw [hp] at b; cases b
 rw [hp] at b;simp only [zaa,zac,Array.all_eq_true_iff_forall_mem] at b;refine ⟨λ e f c=>?_,λ k l=>?_⟩
 ·have:=b.1 e f;rw [c] at this;simpa using this
 have g:a.getD j []=p:=by simp [List.getD_eq_getElem?_getD,hp]
 rw [g] at l;have:=(b.2 k l).2;rw [Array.any_eq_true'] at this;obtain ⟨e,f,c⟩:=this;simp only [zaa,Bool.or_eq_true,beq_iff_eq,List.contains_iff_mem] at c;exact ⟨e,f,c.1,c.2⟩

def kp (fl:Bool) (id:Nat) (ob:Obs):AV->AV×Obs
 | .nils sz z=>if fl then (.own id (nv ob id) 0 0,upd id (nv ob id,.row sz z true true []) ob) else (.nils sz z,ob)
 | x=>(x,ob)
def s9 (e:Env):List (Nat×Bool)->Obs->List AV×Obs
 | [],ob=>([],ob)
 | (t,fl)::r,ob=>((kp fl (900000+t) ob (e t)).1::(s9 e r (kp fl (900000+t) ob (e t)).2).1,(s9 e r (kp fl (900000+t) ob (e t)).2).2)
def ajr (D:List AV->List Ob->List Ob->Prop):Option (List AV×List Ob×List Ob)->Prop
 | some (vs,pos,los)=>D vs pos los
 | none=>False
def vk (np:Nat) (live:List (Nat×Bool)) (s:St) (D:List AV->List Ob->List Ob->Prop):Prop:=
 ajr D (nrm 64 np 2000000 (s9 s.e live s.ob).1 (s9 s.e live s.ob).2)
def keep:List (Nat×Bool)->List AV->Env
 | l::ls,x::xs=>put l.1 x (keep ls xs)
 | _,_=>λ _=>.undef
def ae2 (live:List (Nat×Bool)) (vs:List AV) (pos a:List Ob):St:=⟨keep live vs,z8 1000000 pos (z8 2000000 a λ _=>none)⟩
def W (P:Program) (np:Nat):PC->(Ex->St->Prop)->St->Prop
 | .skip,K,s=>K .nor s
 | .reg rs,K,s=>wpR P rs (K .nor) s
 | .seq a b,K,s=>W P np a (λ x s=>match x with | .nor=>W P np b K s | x=>K x s) s
 | .cond x a b,K,s=>match x.ev s.e with
   | .r (.v (.bool c))=>(c=true->W P np a K s)/\(c=false->W P np b K s)
   | _=>False
 | .block id c,K,s=>W P np c (λ x s=>match x with | .ex i=>if i=id then K .nor s else K (.ex i) s | x=>K x s) s
 | .loop c,K,s=>∃(live:List (Nat×Bool)) (I:List AV->List Ob->List Ob->Prop) (m:List AV->List Ob->List Ob->Nat),(live.all λ p=>decide (p.1<100000))=true/\vk np live s I /\
  ∀vs pos g,I vs pos g->W P np c (λ x s'=>match x with | .nor=>vk np live s' (λ h f d=>I h f d/\m h f d<m vs pos g) | x=>K x s') (ae2 live vs pos g)
 | .exit i,K,s=>K (.ex i) s
 | .ret,K,s=>K .rt s
 | .drw rs pre,K,s=>wpD P rs [] s λ j s=>mg pre j=true/\K .nor s
section
variable {P:Program} {X:Cx} [GlC P X] {w w':World} {s:St} {ρ ρ':Pl->Option Nat} {a:Act} {o:Oper} {ob ob':Obs} {R R':Nat->Prop} {ops:Array Oper} {Q:Exit->Act->World->Prop}
theorem an8 (m:Gam X s ρ a w) {g:Option (Nat×Bool)} {b:Bool} (hc:asj ops o.guard g=true) (hy:yes s.e g=some b):Region.wanted o (yielded ops a.tmps)=b:=by
 unfold asj at hc;split at hc
 ·rename_i f;simp [yes] at hy;subst hy;simp [Region.wanted,f]
 ·rename_i j d t l n;simp only [zaa,beq_iff_eq] at hc;obtain ⟨rfl,p⟩:=hc;have c:=m.env t;simp only [yes] at hy;simp only [Region.wanted,n,yielded,p,Option.bind_some];generalize s.e t=x at c hy;unfold yf at hy;split at hy
  ·rename_i q;cases hy;have f:=j8 c
   have k:a.tmps[t]?=some (.bool q):=by
    rcases hq:a.tmps[t]? with _ | u
    ·simp [zab,hq,undef] at f
    simp [zab,hq] at f;rw [f]
   rw [k];cases d<;>cases q<;>rfl
  ·rename_i h q;cases hy;cases c with
   | gd _ f h3=>
   cases h
   ·have k:=h3 rfl;rcases hq:a.tmps[t]? with _ | u
    ·simp
    simp [zab,hq] at k;subst k;simp [undef]
   have i:=j8 (f rfl)
   have k:a.tmps[t]?=some (.bool q):=by
    rcases hq:a.tmps[t]? with _ | u
    ·simp [zab,hq,undef] at i
    simp [zab,hq] at i;rw [i]
   rw [k];cases d<;>cases q<;>rfl
  cases hy
 cases hc
theorem ahq {f:FuncId} (h:yo P f=true) (args:Array Value):(callFunc f args).run P w=.ok (.enter f args) w:=by
 unfold yo at h;split at h
 ·rename_i fn b;simp at h;obtain ⟨a,c⟩:=h;have d:¬fn.body=none:=by intro e; rw [e] at a; cases a
  simp [callFunc,b,c,d]
 cases h
theorem ans {f:FuncId} {args:List Opd} (h:xp P o (.call f args)=true):∃c,o.op=.call c/\c.callee=.value (.func f)/\s8 opd c.args.toList args=true/\yo P f=true:=by
 unfold xp at h;cases ho:o.op<;>simp only [ho] at h<;>try (cases h; done)
 rename_i c;split at h
 ·rename_i d hc;simp only [zaa,beq_iff_eq] at h;obtain ⟨⟨rfl,a⟩,b⟩:=h;exact ⟨c,rfl,hc,a,b⟩
 cases h
theorem ak7 {x:Opd} {args:List Opd} (h:xp P o (.callv x args)=true):∃c x',o.op=.call c/\c.callee=.value x'/\opd x' x=true/\s8 opd c.args.toList args=true:=by
 unfold xp at h;cases ho:o.op<;>simp only [ho] at h<;>try (cases h; done)
 rename_i c;split at h
 ·rename_i x' hc;simp only [zaa] at h;exact ⟨c,x',rfl,hc,h.1,h.2⟩
 cases h
theorem aqm {tbl:List (TypeId×FuncId)} {x:Opd} {args:List Opd} (h:xp P o (.inv tbl x args)=true):∃c r m,o.op=.call c/\c.callee=.invoke r m/\opd r x=true/\s8 opd c.args.toList args=true/\tbl.all (air P m)=true:=by
 unfold xp at h;cases ho:o.op<;>simp only [ho] at h<;>try (cases h; done)
 rename_i c;split at h
 ·rename_i r m hc;simp only [zaa] at h;exact ⟨c,r,m,rfl,hc,h.1.1,h.1.2,h.2⟩
 cases h
theorem aql {x:Opd} (h:xp P o (.nxt x)=true):∃a,o.op=.next a false/\opd a x=true:=by
 unfold xp at h;cases ho:o.op<;>simp only [ho] at h<;>try (cases h; done)
 rename_i a str;simp only [zaa,Bool.not_eq_true'] at h;obtain ⟨b,rfl⟩:=h;exact ⟨a,rfl,b⟩
theorem aig {t:TypeId} {f:FuncId}:∀{tbl:List (TypeId×FuncId)},bi t tbl=some f->(t,f)∈tbl
 | [],h=>by cases h
 | (t',f')::r,h=>by
   simp only [bi] at h;split at h
   ·rename_i a; cases h; subst a; simp
   exact List.mem_cons_of_mem _ (aig h)
theorem axw {m:String} {t:TypeId} {f:FuncId} {v:Value} {as:Array Value} (h:air P m (t,f)=true):(invoke (.fn (.method m) #[]) (#[.iface t v]++as)).run P w=.ok (.enter f (#[v]++as)) w:=by
 simp only [air,zaa] at h;obtain ⟨⟨s,a⟩,u⟩:=h;split at a
 ·rename_i i r;split at a
  ·rename_i q z;simp only [zaa] at a;obtain ⟨p,a⟩:=a;split at a
   ·rename_i B b l;simp only [zaa,beq_iff_eq] at a;obtain ⟨o,rfl⟩:=a;rw [o] at l;obtain ⟨d,A,n⟩:=v3 u;cases d with
    | pointer e=>
      have c:q.path=#[]:=by simpa using p
      obtain ⟨k,y⟩:∃k,P.types.size+Made.depth=k+1:=⟨P.types.size+(Made.depth-1),by unfold Made.depth; omega⟩
      have g:(#[Value.iface t v]++as)[0]?=some (.iface t v):=by
       rw [zaf,if_pos (by simp)]
       rfl
      have j:(#[Value.iface t v]++as).extract 1 (#[Value.iface t v]++as).size=as:=by
       rw [Array.extract_append];simp
      have x:(method (P.types.size+Made.depth) t v m).run P w=.ok (f,v) w:=by
       rw [y];simp [method,typeInfo,r,z,c,follow,l,receiverAt,run_underlying A,Place.get]
      have hc:(callMethod (.iface t v) m as).run P w=.ok (.enter f (#[v]++as)) w:=by
       simp only [callMethod,Sem.run_bind,run_program,Result.andThen_ok,x];exact ahq s _
      simp only [invoke,g,j];exact hc
    | _=>cases n
   cases a
  cases a
 cases a
theorem apu {K:AV->Obs->Prop} {L:Operand} {u:AV} (D:Gam X s ρ a w) (Y:o.op=.next L false) (U:RA X s ρ w u (a.eval L)) (h:ajp s.ob K u) :
 ∃c v p k,(execOp a.eval o).run P w=.ok (.value c) k/\K v p/\Gam X ⟨s.e,p⟩ ρ a k/\RA X ⟨s.e,p⟩ ρ k v c:=by
 unfold ajp at h;split at h
 ·rename_i id ver;unfold am8 at h;split at h
  ·rename_i x l f d S G;have n:=aem G;rcases hmp:o3 s.ob x l with _ | ⟨es,c⟩
   ·rw [hmp] at h; exact h.elim
   rw [hmp] at h;obtain ⟨h1,h2,h3,h4⟩:=h;generalize C:a.eval L=v at U;cases U;rename_i h5 I;obtain ⟨b,m,rfl⟩:=I.live n;obtain ⟨b',z,Q,T,R⟩:=D.obj id ver _ n;rw [m] at Q; cases Q;obtain ⟨h0,Z,O,H⟩:=D.mapB hmp R;cases O;have W:(leftOf es.toArray d.toArray).toList=au es d:=by simp [leftOf,au]
   rcases run_next_at (P:=P) w o.type b z f S d.toArray es.toArray c T H (by simpa using h1) h2 with ⟨hz,j⟩ | ⟨e,V,k,E,j⟩
   ·refine ⟨.tuple #[.bool false],.tup [bl false],s.ob,w,by simp only [execOp,Y,C,Sem.run_bind,j,Result.andThen_ok,Sem.run_pure],h3 ?_,D,?_⟩
    ·rw [<- W];exact List.eq_nil_of_length_eq_zero (by simpa using hz)
    refine .tup _ _ rfl λ i y c g hc=>?_
    match i with
    | 0=>simp at g hc; subst g; subst hc; exact .r (.v _)
    | i+1=>simp at g
   rw [W] at V
   have F:Gam X s ρ a k:=by
    rcases E with rfl | rfl
    ·exact D
    exact D.drew _
   have M:k.heap=w.heap:=by rcases E with rfl | rfl<;>rfl
   have q:k.heap[b]?=some (.mapIter (some z) f d.toArray S):=by rw [M]; exact T
   have t:=afc (y:=.mapIter (some z) f (d++[e.born]).toArray c) q;have A:d.toArray.push e.born=(d++[e.born]).toArray:=by simp
   rw [A,show ChangeMaps.setBlock k b (Obj.mapIter (some z) f (d++[e.born]).toArray c)={ k with heap:=k.heap.setIfInBounds b (Obj.mapIter (some z) f (d++[e.born]).toArray c) } from rfl] at j
   have N:RelA k (d7 X.B s.ob ρ k) s.ob ρ (.mp x l) (.map (some z)):=by
    cases R;rename_i q1 q2;exact .mp _ _ _ q1 q2
   have J:=Stays.modifyG (x':=.iter (.mp x l) f (d++[e.born]) c) F n rfl m t (λ cs e fr h=>by rw [q] at h; cases h) ver (.inl ⟨rfl,trivial⟩)
   refine ⟨.tuple #[.bool true,e.key,e.val],.tup [bl true,.r (gp e.key),.r (gp e.val)],_,_,by simp only [execOp,Y,C,Sem.run_bind,j,Result.andThen_ok,Sem.run_pure],h4 e V,
    F.modifyG n rfl m t (λ cs e fr h=>by rw [q] at h; cases h) ver (.inl ⟨rfl,trivial⟩) (.inr ⟨rfl,trivial,λ _=>rfl⟩) ⟨b,z,m,t.new,N.stays J⟩,?_⟩
   refine .tup _ _ rfl λ i y c g hc=>?_
   match i with
   | 0=>simp at g hc; subst g; subst hc; exact .r (.v _)
   | 1=>simp at g hc; subst g; subst hc; exact .r (ue _)
   | 2=>simp at g hc; subst g; subst hc; exact .r (ue _)
   | i+3=>simp at g
  exact h.elim
 exact h.elim
theorem ajj {r:PR} {K:St->Prop} {N:Act->World->Prop} (E:Gam X s ρ a w) (hi:ops[i]?=some o) (h3:ab3 P X.n ops o r=true) (h:r.wp P s K (yes s.e r.g)) (D:∀s' ρ' a' w',K s'->Gam X s' ρ' a' w'->N a' w'):wpOp P ops Q i N a w:=by
 simp only [ab3,zaa,beq_iff_eq] at h3;obtain ⟨⟨⟨R,B⟩,hg⟩,hx⟩:=h3;rcases hy:yes s.e r.g with _ | b
 ·rw [hy] at h; exact h.elim
 rw [hy] at h;have hw:=an8 E hg hy
 have p:∀x,(∀c,c=undef->RA X s ρ w x c)->Gam X ⟨n6 r.d x s.e,s.ob⟩ ρ (a.put o.dst undef) w:=λ x hx=>by
  rw [R];rcases hrd:r.d with _ | d
  ·exact E
  rw [hrd] at B;exact E.see (by simpa using B) (hx _ rfl)
 unfold wpOp;simp only [hi,hw];simp only [PR.wp] at h;rcases r with ⟨rd,rg,ru,rx⟩
 simp only at R B hg hx h hy p;cases rx with
 | see po=>
   obtain ⟨L,u⟩:=h;cases b with
   | true=>
     simp only [if_true];refine .inl ?_;obtain ⟨c,j,J⟩:=aun (P:=P) rfl E hx L;unfold Oper.wp;rw [j,Oper.upon_value,R];rcases rd with _ | d
     ·simp [anp] at B
     refine D _ ρ _ _ u (E.see (by simpa using B) ?_);unfold gdv;split
     ·exact J
     exact .gd true (λ _=>J) (by simp)
   | false=>
     simp only [zad,if_false];refine D _ ρ _ _ u (p _ λ c hc=>?_);rcases rg with _ | g
     ·simp [yes] at hy
     simp only [gdv];exact .gd false (by simp) (λ _=>hc)
 | act po=>
   cases b with
   | false=>
     simp only [zad,if_false];exact D _ ρ _ _ (h.2 rfl) (p _ λ c _=>.undef c)
   | true=>
     simp only [if_true];refine .inl ?_;obtain ⟨L,u⟩:=h.1 rfl;rcases rd with _ | d
     ·have h4:po.nod=true:=by simpa [ap9,anp] using B
      obtain ⟨nx,w1,A,j,l,C⟩:=aa8 (P:=P) E hx h4 L;unfold Oper.wp;rw [j];rcases C with ⟨c,rfl,J⟩ | ⟨rfl,C⟩
      ·rw [Oper.upon_value,R];exact D _ A _ _ u l
      rw [Oper.upon_skip,R];exact D _ A _ _ u l
     obtain ⟨nx,w1,A,j,l,C⟩:=awm (P:=P) (d:=d) E hx (by simpa using B) L;unfold Oper.wp;rw [j];rcases C with ⟨c,rfl,J⟩ | ⟨rfl,C⟩
     ·rw [Oper.upon_value,R];exact D _ A _ _ u (l.see (s:=⟨s.e,_⟩) (by simpa using B) J)
     rw [Oper.upon_skip,R];refine D _ A _ _ u (l.see (s:=⟨s.e,_⟩) (by simpa using B) ?_);simp only [Option.getD_some];rw [C];exact .undef _
 | call f args=>
   cases b with
   | false=>
     simp only [zad,if_false];exact D _ ρ _ _ (h.2 rfl) (p _ λ c _=>.undef c)
   | true=>
     simp only [if_true];refine .inl ?_;obtain ⟨L,u⟩:=h.1 rfl;obtain ⟨c,W,F,G,O⟩:=ans hx;obtain ⟨Z,g2⟩:=yb E rfl G L
     have j:(execOp a.eval o).run P w=.ok (.enter f (c.args.map a.eval)) w:=by
      have:=ahq (w:=w) O (c.args.map a.eval);simp [execOp,W,resolve,F,Act.eval,Deferred.ofValue,invoke];exact this
     unfold Oper.wp;rw [j,Oper.upon_enter];refine (ab6 E u (by simp [Z]) λ i x cc I hc=>?_).mono ?_
     ·rw [Array.getElem?_map,zak] at hc;obtain ⟨y,hy,rfl⟩:=hc;exact g2 i x y I (by simpa using hy)
     rintro e w1 ⟨cv,v,H,A,rfl,M,l,J⟩;simp only;rw [R];rcases rd with _ | d
     ·exact D _ A _ _ M l
     exact D _ A _ _ M (l.see (s:=⟨s.e,H⟩) (by simpa using B) J)
 | callv x args=>
   cases b with
   | false=>
     simp only [zad,if_false];exact D _ ρ _ _ (h.2 rfl) (p _ λ c _=>.undef c)
   | true=>
     simp only [if_true];refine .inl ?_;obtain ⟨hm,L,u⟩:=h.1 rfl;obtain ⟨c,x',W,F,I,G⟩:=ak7 hx;obtain ⟨Z,g2⟩:=yb E rfl G L;have O:=d6 E rfl I hm;generalize (x.ev s.e).bare=xv at O u;unfold an7 at u;split at u
     ·rename_i f cap k;obtain ⟨h9,u⟩:=u;generalize U:a.eval x'=cf at O;cases O;rename_i fs cs hl h7 hk
      have j:(execOp a.eval o).run P w=.ok (.enter f (fs++(c.args.map a.eval++cs))) w:=by
       have:=ahq (w:=w) h9 (fs++(c.args.map a.eval++cs));simp [execOp,W,resolve,F,U,Deferred.ofValue,invoke];exact this
      unfold Oper.wp;rw [j,Oper.upon_enter];have hb:(l5 s.e args).length=c.args.size:=by rw [Z]; simp
      have h6:∀(i:Nat) (y:AV) (v:Value),(cap.take k)[i]?=some y->fs[i]?=some v->RA X s ρ w y v:=λ i y v hy C=>by
       rw [List.getElem?_take] at hy;split at hy
       ·rename_i S;exact h7 i y v hy (by rw [zaf,if_pos (by omega)]; exact C)
       cases hy
      have V:∀(i:Nat) (y:AV) (v:Value),(cap.drop k)[i]?=some y->cs[i]?=some v->RA X s ρ w y v:=λ i y v hy C=>by
       rw [List.getElem?_drop] at hy;exact h7 (k+i) y v hy (by rw [zaf,if_neg (by omega),show k+i-fs.size=i by omega]; exact C)
      have T:∀(xs ys:List AV) (us vs:Array Value),us.size=xs.length->(∀(i:Nat) (y:AV) (v:Value),xs[i]?=some y->us[i]?=some v->RA X s ρ w y v) ->
       (∀(i:Nat) (y:AV) (v:Value),ys[i]?=some y->vs[i]?=some v->RA X s ρ w y v)->∀(i:Nat) (y:AV) (v:Value),(xs++ys)[i]?=some y->(us++vs)[i]?=some v->RA X s ρ w y v:=
       λ xs ys us vs hs L u i y v hy C=>by
        rw [List.getElem?_append] at hy;rw [zaf,hs] at C;split at hy
        ·rename_i S;rw [if_pos S] at C;exact L i y v hy C
        rename_i S;rw [if_neg S] at C;exact u _ y v hy C
      have ha:(cap.take k).length=k:=by rw [List.length_take]; omega
      refine (ab6 E u (by simp [Z]; omega) (T _ _ _ _ (by rw [ha]; exact hk) h6 (T _ _ _ _ (by rw [hb]; simp) (λ i y v hy C=>?_) V))).mono ?_
      ·rw [Array.getElem?_map,zak] at C;obtain ⟨z,Y,rfl⟩:=C;exact g2 i y z hy (by simpa using Y)
      rintro e w1 ⟨cv,v,H,A,rfl,M,l,J⟩;simp only;rw [R];rcases rd with _ | d
      ·exact D _ A _ _ M l
      exact D _ A _ _ M (l.see (s:=⟨s.e,H⟩) (by simpa using B) J)
     cases u
 | inv tbl x args=>
   cases b with
   | false=>
     simp only [zad,if_false];exact D _ ρ _ _ (h.2 rfl) (p _ λ c _=>.undef c)
   | true=>
     simp only [if_true];refine .inl ?_;obtain ⟨hm,L,u⟩:=h.1 rfl;obtain ⟨c,rv,m,W,F,I,G,h0⟩:=aqm hx;obtain ⟨Z,g2⟩:=yb E rfl G L;have O:=d6 E rfl I hm;generalize (x.ev s.e).bare=xv at O u;unfold aed at u;split at u
     ·rename_i t y;split at u
      ·rename_i f h5;generalize U:a.eval rv=cf at O;cases O;rename_i cy hy;have h8:=zac.1 h0 _ (aig h5)
       have j:(execOp a.eval o).run P w=.ok (.enter f (#[cy]++c.args.map a.eval)) w:=by
        have:=axw (w:=w) (v:=cy) (as:=c.args.map a.eval) h8;simp only [execOp,W,resolve,F,U,Sem.run_bind,Sem.run_pure,Result.andThen_ok];exact this
       unfold Oper.wp;rw [j,Oper.upon_enter];refine (ab6 E u (by simp [Z]; omega) λ i z cc Y hc=>?_).mono ?_
       ·cases i with
        | zero=>
          simp at Y;rw [zaf,if_pos (by simp)] at hc;simp at hc;subst Y; subst hc;exact hy
        | succ i=>
          simp only [List.getElem?_cons_succ] at Y;rw [zaf,if_neg (by simp)] at hc;simp only [List.size_toArray,zai,List.length_nil,Nat.zero_add,Nat.add_sub_cancel] at hc;rw [Array.getElem?_map,zak] at hc;obtain ⟨q,hq,rfl⟩:=hc;exact g2 i z q Y (by simpa using hq)
       rintro e w1 ⟨cv,v,H,A,rfl,M,l,J⟩;simp only;rw [R];rcases rd with _ | d
       ·exact D _ A _ _ M l
       exact D _ A _ _ M (l.see (s:=⟨s.e,H⟩) (by simpa using B) J)
      cases u
     cases u
 | nxt x=>
   cases b with
   | false=>
     simp only [zad,if_false];exact D _ ρ _ _ (h.2 rfl) (p _ λ c _=>.undef c)
   | true=>
     simp only [if_true];refine .inl ?_;obtain ⟨hm,u⟩:=h.1 rfl;obtain ⟨it,W,I⟩:=aql hx;have O:=d6 E rfl I hm;obtain ⟨c,v,H,w1,j,M,l,J⟩:=apu (P:=P) E W O u;unfold Oper.wp;rw [j,Oper.upon_value,R];rcases rd with _ | d
     ·exact D _ ρ _ _ M l
     exact D _ ρ _ _ M (l.see (s:=⟨s.e,H⟩) (by simpa using B) J)
theorem aob {rs:List PR} {l:List Oper} {K:St->Prop} {k:Nat} (c:∀i,i<l.length->ops[k+i]?=l[i]?) (b:s8 (ab3 P X.n ops) l rs=true) (g:Gam X s ρ a w) (h:wpR P rs K s)
 (j:∀s' ρ' d w',K s'->Gam X s' ρ' d w'->Q .normal d w'):wpOps P ops Q (List.range' k l.length) a w:=by
 induction l generalizing rs k s ρ a w with
 | nil=>
   cases rs with
   | nil=>exact j s ρ a w h g
   | cons r rs=>cases b
 | cons o l ih=>
   cases rs with
   | nil=>cases b
   | cons r rs=>
     simp only [s8,zaa] at b;have f:ops[k]?=some o:=by have:=c 0 (by simp); simpa using this
     rw [zai,List.range'_succ,wpOps_cons];refine ajj g f b.1 h λ s' ρ' d w' m e=>?_;exact ih (λ i f=>by have:=c (i+1) (by simp; omega); rw [show k+1+i=k+(i+1) by omega,this]; simp) b.2 e m
theorem aks {α e:Type} {f:α->e->Bool}:∀{xs:List α} {ys:List e},s8 f xs ys=true->xs.length=ys.length/\∀(i:Nat) (x:α) (y:e),xs[i]?=some x->ys[i]?=some y->f x y=true
 | [],[],_=>⟨rfl,λ i x y h=>by simp at h⟩
 | [],_::_,h=>by cases h
 | _::_,[],h=>by cases h
 | x::xs,y::ys,h=>by
   simp only [s8,zaa] at h;obtain ⟨g,j⟩:=aks h.2;refine ⟨by simp [g],λ i a b c d=>?_⟩;cases i with
   | zero=>simp at c d; subst c; subst d; exact h.1
   | succ i=>simp at c d; exact j i a b c d
theorem aqe {rs:List PR} {H:List (List Nat)} {f:List Lg} {K:St->Prop} {R:Nat->St} {C:Nat->Ans} (ga:s8 (ab3 P X.n ops) ops.toList rs=true) (W:ag1 ops H=true) (g6:mg H f=true) (gl:f.length=rs.length)
 (g0:∀k r,rs[k]?=some r->(r.out P (R k) (C k)).ok/\R (k+1)=(r.out P (R k) (C k)).st/\f[k]?=some (r.out P (R k) (C k)).lg) (hK:K (R rs.length))
 (hN:∀s' ρ' a' w',K s'->Gam X s' ρ' a' w'->Q .normal a' w'):∀(F:Nat) (c:Array Bool) (s:St) (ρ:Pl->Option Nat) (a:Act) (w:World),c.size=ops.size ->
  (∀j,c.getD j false=true->∀i,i∈H.getD j []->c.getD i false=true)->(List.range ops.size).countP (λ k=>!c.getD k false)<=F ->
  (∀l,t7 s l=jo (λ k=>t7 (R k)) (wrt f) (λ k=>c.getD k false=true) ops.size l)->Gam X s ρ a w->wpAny P .any ops Q F c a w:=by
 obtain ⟨M,g7⟩:=aks ga;have M:ops.size=rs.length:=by simpa using M
 have hr:∀k,k<ops.size->∃o r,ops[k]?=some o/\rs[k]?=some r/\ab3 P X.n ops o r=true/\(r.out P (R k) (C k)).ok/\R (k+1)=(r.out P (R k) (C k)).st/\f.getD k default=(r.out P (R k) (C k)).lg:=λ k v=>by
  have A:ops[k]?=some ops[k]:=by simp [v]
  have I:rs[k]?=some (rs[k]'(by omega)):=by simp [show k<rs.length by omega]
  obtain ⟨g1,g2,g3⟩:=g0 k _ I;exact ⟨_,_,A,I,g7 k _ _ (by simpa using A) I,g1,g2,by simp [List.getD_eq_getElem?_getD,g3]⟩
 have hu:∀k r,k<ops.size->rs[k]?=some r->f.getD k default=(r.out P (R k) (C k)).lg:=λ k r v h=>by
  obtain ⟨_,r',_,I,_,_,_,h3⟩:=hr k v;rw [h] at I; cases I; exact h3
 have D:∀k r,k<ops.size->rs[k]?=some r->(f.getD k default).ad=r.x.adr/\(f.getD k default).st=r.x.sto:=λ k r v h=>by
  rw [hu k r v h];exact apr
 have hz:∀k i,k<ops.size->i∈(f.getD k default).wr->i∈(f.getD k default).rd/\(f.getD k default).ad=false:=λ k i v m=>by
  obtain ⟨o,r,A,I,h3,h4,h5,E⟩:=hr k v;refine ⟨?_,?_⟩
  ·simp only [E] at m |-;exact ((ahm (s':=R k) h4 (λ _ _=>rfl) (λ _ _ _=>rfl) (λ _ _=>rfl)).2.2.2.1 i m).1
  rw [(D k r v I).1];cases T:r.x.adr with
  | false=>rfl
  | true=>
    rw [E] at m;rcases r with ⟨d,g,u,x⟩
    cases x with
    | see o=>
      unfold PR.out at m;simp only at m;generalize yes (R k).e g=y at m;rcases y with _ | b
      ·simp [PX.out,PR.lg] at m
      simp [PX.out,PR.lg] at m
    | _=>cases T
 have gd:∀k l,k<ops.size->wrt f k l->usd f k l:=λ k l v m=>by
  cases l with
  | t t=>
    obtain ⟨o,r,A,I,h3,h4,h5,E⟩:=hr k v;simp only [wrt,usd,E] at m |-;rw [afv.2] at m;rw [afv.1];simp [m]
  | o i=>exact hz k i v m
  | p i=>exact (hz k i v m.1).1
 have U:∀k l,k<ops.size->¬wrt f k l->t7 (R (k+1)) l=t7 (R k) l:=λ k l v m=>by
  obtain ⟨o,r,A,I,h3,h4,h5,E⟩:=hr k v;have hl:=ahm (s':=R k) h4 (λ _ _=>rfl) (λ _ _ _=>rfl) (λ _ _=>rfl);rw [h5];cases l with
  | t t=>
    simp only [wrt,E,afv.2] at m;simp only [t7,hl.2.2.1 t m]
  | o i=>
    simp only [wrt,E] at m;simp only [t7,hl.2.2.2.2 i m]
  | p i=>
    simp only [wrt,(D k r v I).2] at m;simp only [t7];by_cases G:i∈(f.getD k default).wr
    ·have:r.x.sto=true:=by
      cases hsto:r.x.sto with
      | true=>rfl
      | false=>exact (m ⟨G,hsto⟩).elim
     rw [aly this]
    rw [E] at G;rw [hl.2.2.2.2 i G]
 have hh:∀i j,i<j->j<ops.size->¬(i∈H.getD j [])->∀l,¬(wrt f i l/\usd f j l)/\¬(wrt f j l/\usd f i l):=λ i j gb hj hp l=>aqy g6 gb (by omega) hp l;intro F
 induction F with
 | zero=>
   intro c s ρ a w h9 N hg V hG
   have J:∀k,k<ops.size->c.getD k false=true:=λ k v=>by
    have h0:(List.range ops.size).countP (λ k=>!c.getD k false)=0:=by omega
    rw [List.countP_eq_zero] at h0;have:=h0 k (by simp [v]);simpa using this
   have hs:s=R rs.length:=aib λ l=>by rw [V l,afk U J ops.size (zae _),M]
   refine ⟨?_,hN s ρ a w (by rw [hs]; exact hK) hG⟩;rcases hrd:Region.ready .any ops c with _ | ⟨j,js⟩
   ·rfl
   have hj:j∈Region.ready .any ops c:=by rw [hrd]; simp
   obtain ⟨A,o,ho,_⟩:=mem_ready.1 hj;have B:=(zaj.1 ho).1;have:=J j B;rw [zab] at this A;have z:c[j]?=some (c[j]'(by omega)):=by simp [show j<c.size by omega]
   rw [z] at this A;simp at this A;rw [this] at A;cases A
 | succ F ih=>
   intro c s ρ a w h9 N hg V hG;refine ⟨λ g4=>?_,λ j hj=>?_⟩
   ·have J:∀k,k<ops.size->c.getD k false=true:=λ k=>by
     induction k using Nat.strongRecOn with
     | ind k ihk=>
       intro v;apply Classical.byContradiction;intro O
       have hf:c.getD k true=false:=by
        rw [zab] at O |-;have z:c[k]?=some (c[k]'(by omega)):=by simp [show k<c.size by omega]
        rw [z] at O |-;simpa using O
       obtain ⟨o,r,A,_⟩:=hr k v;have:k∈Region.ready .any ops c:=mem_ready.2 ⟨hf,o,A,λ e he hb=>ihk e.on ((aaf W A).1 e he hb) (Nat.lt_trans ((aaf W A).1 e he hb) v)⟩;rw [g4] at this;cases this
    have hs:s=R rs.length:=aib λ l=>by rw [V l,afk U J ops.size (zae _),M]
    exact hN s ρ a w (by rw [hs]; exact hK) hG
   obtain ⟨Z,oj,h8,hn⟩:=mem_ready.1 hj;have B:=(zaj.1 h8).1
   have S:¬(c.getD j false=true):=by
    rw [zab] at Z |-;have z:c[j]?=some (c[j]'(by omega)):=by simp [show j<c.size by omega]
    rw [z] at Z |-;simpa using Z
   obtain ⟨o,r,A,I,h3,h4,h5,E⟩:=hr j B
   have hd:∀i,i∈H.getD j []->c.getD i false=true:=λ i G=>by
    obtain ⟨e,he,hb,h7⟩:=(aaf W A).2 i G;have hq:c.getD e.on false=true:=by rw [A] at h8; cases h8; exact hn e he hb
    rcases h7 with rfl | h7
    ·exact hq
    exact N _ hq i h7
   have Y:∀l,usd f j l->t7 s l=t7 (R j) l:=λ l hl=>by
    rw [V l];exact avw (pr:=λ j i=>i∈H.getD j []) U hh N B S hd hl
   have hL:=ahm (s':=s) h4 (λ t ht=>by
    have:=Y (.t t) (by simp only [usd,E]; exact ht);simpa [t7] using this) (λ T i G=>by
    have:=Y (.o i) (by
     simp only [usd];rw [(D j r B I).1,E]
     exact ⟨G,T⟩)
    simpa [t7] using this) (λ i G=>by
    have:=Y (.p i) (by simp only [usd,E]; exact G)
    simpa [t7] using this)
   have L:∀k,(c.setIfInBounds j true).getD k false=true↔(c.getD k false=true\/k=j):=λ k=>by
    by_cases ha:k=j
    ·subst ha;simp [zab,h9,B]
    have:(c.setIfInBounds j true).getD k false=c.getD k false:=getD_set_ne false (Ne.symm ha);rw [this];simp [ha]
   refine ajj hG A h3 (axo (K:=λ s'=>∀l,t7 s' l=jo (λ k=>t7 (R k)) (wrt f) (λ k=>(c.setIfInBounds j true).getD k false=true) ops.size l) hL.1 λ l=>?_) λ s' ρ' a' w' gg ge=>?_
   ·have g5:(λ k=>(c.setIfInBounds j true).getD k false=true)=λ k=>c.getD k false=true\/k=j:=funext λ k=>propext (L k);rw [g5];by_cases m:wrt f j l
    ·rw [asi (pr:=λ j i=>i∈H.getD j []) gd hh N B S m,h5];cases l with
     | t t=>
       simp only [wrt,E,afv.2] at m;simp only [t7,hL.2.1 t m]
     | o i=>
       simp only [wrt,E] at m;simp only [t7,(hL.2.2.2.1 i m).2]
     | p i=>
       have hm:=m.1;simp only [E] at hm;simp only [t7,(hL.2.2.2.1 i hm).2]
    rw [aml m,<- V l];cases l with
    | t t=>
      simp only [wrt,E,afv.2] at m;simp only [t7,hL.2.2.1 t m]
    | o i=>
      simp only [wrt,E] at m;simp only [t7,hL.2.2.2.2 i m]
    | p i=>
      simp only [t7];by_cases G:i∈(f.getD j default).wr
      ·have:r.x.sto=true:=by
        cases hsto:r.x.sto with
        | true=>rfl
        | false=>exact (m ⟨G,by rw [(D j r B I).2]; exact hsto⟩).elim
       rw [aly this]
      rw [E] at G;rw [hL.2.2.2.2 i G]
   refine ih _ s' ρ' a' w' (by simpa using h9) (λ k v i G=>?_) ?_ gg ge
   ·rw [L] at v |-;rcases v with v | rfl
    ·exact .inl (N k v i G)
    exact .inl (hd i G)
   have:=ail (p:=λ k=>!c.getD k false) (q:=λ k=>!(c.setIfInBounds j true).getD k false) (j:=j) (λ x hx=>by
    have hv:¬((c.setIfInBounds j true).getD x false=true):=by simpa using hx
    rw [L] at hv
    simpa using λ h=>hv (.inl h)) (by simpa using S) (by have:=(L j).2 (.inr rfl); simp only [this,Bool.not_true]) (l:=List.range ops.size) (by simp [B])
   omega
def aha (X:Cx) (K:Ex->St->Prop):Exit->Act->World->Prop
 | .normal,a,w=>∃s ρ,K .nor s/\Gam X s ρ a w
 | .exit i,a,w=>∃s ρ,K (.ex i) s/\Gam X s ρ a w
 | .ret,a,w=>∃s ρ,K .rt s/\Gam X s ρ a w
 | _,_,_=>False
theorem aro {fl:Bool} {id:Nat} (d:id<1000000) {x:AV} (b:Gam X s ρ a w):∃ρ',Gam X ⟨s.e,(kp fl id s.ob x).2⟩ ρ' a w/\(∀(y:AV) (c:Value),RA X s ρ w y c->RA X ⟨s.e,(kp fl id s.ob x).2⟩ ρ' w y c) /\
 ∀(c:Value),RA X s ρ w x c->RA X ⟨s.e,(kp fl id s.ob x).2⟩ ρ' w (kp fl id s.ob x).1 c:=by
 unfold kp;split
 ·rename_i sz z;split
  ·refine ⟨m9 ρ id none,b.nil id _ (b.pnn id (af7 d)) (λ v o h=>rz h) sz z true,λ y c h=>h.stays (Stays.nil id _ (λ v o h=>rz h) _),λ c h=>?_⟩;cases h;exact .own _ _ _ _ _ rfl (gi ⟨none,0,rfl,zae _,by simp,by simp,by simp⟩)
  exact ⟨ρ,b,λ _ _ h=>h,λ _ h=>h⟩
 exact ⟨ρ,b,λ _ _ h=>h,λ _ h=>h⟩
theorem ae6:∀{live:List (Nat×Bool)} {s:St} {ρ:Pl->Option Nat},(∀p∈live,p.1<100000)->Gam X s ρ a w->∃ρ',Gam X ⟨s.e,(s9 s.e live s.ob).2⟩ ρ' a w/\(∀(y:AV) (c:Value),RA X s ρ w y c->RA X ⟨s.e,(s9 s.e live s.ob).2⟩ ρ' w y c) /\
 (s9 s.e live s.ob).1.length=live.length/\∀(i t:Nat) (fl:Bool) (x:AV) (c:Value),live[i]?=some (t,fl)->(s9 s.e live s.ob).1[i]?=some x->RA X s ρ w (s.e t) c->RA X ⟨s.e,(s9 s.e live s.ob).2⟩ ρ' w x c
 | [],s,ρ,_,hG=>⟨ρ,hG,λ _ _ h=>h,rfl,λ i t fl x c h=>by simp at h⟩
 | (t,fl)::r,s,ρ,hl,hG=>by
   have A:t<100000:=hl (t,fl) (by simp);obtain ⟨z,l,k,m⟩:=aro (fl:=fl) (id:=900000+t) (by omega) (x:=s.e t) hG;obtain ⟨d,u,j,n,v⟩:=ae6 (live:=r) (s:=⟨s.e,(kp fl (900000+t) s.ob (s.e t)).2⟩) (λ p o=>hl p (by simp [o])) l;refine ⟨d,u,λ y c h=>j y c (k y c h),by simp [s9,n],λ i q f x c b hx g=>?_⟩;cases i with
   | zero=>
     simp [s9] at b hx;obtain ⟨rfl,rfl⟩:=b;subst hx;exact j _ c (m c g)
   | succ i=>
     simp [s9] at b hx;exact v i q f x c b hx (k _ c g)
theorem ama:∀{live:List (Nat×Bool)} {vs:List AV} (t:Nat),(∃(i:Nat) (fl:Bool) (x:AV),live[i]?=some (t,fl)/\vs[i]?=some x/\keep live vs t=x)\/keep live vs t=.undef
 | [],vs,t=>.inr (by simp [keep])
 | _::_,[],t=>.inr (by simp [keep])
 | (l,fl)::ls,v::vs,t=>by
   by_cases h:t=l
   ·subst h;exact .inl ⟨0,fl,v,rfl,rfl,by simp [keep,put]⟩
   have e:keep ((l,fl)::ls) (v::vs) t=keep ls vs t:=by simp [keep,put,h]
   rw [e];rcases ama (live:=ls) (vs:=vs) t with ⟨i,a,x,c,d,f⟩ | b
   ·exact .inl ⟨i+1,a,x,by simpa using c,by simpa using d,f⟩
   exact .inr b
theorem adv {np:Nat} {live:List (Nat×Bool)} {D:List AV->List Ob->List Ob->Prop} (v:∀p∈live,p.1<100000) (y:np<=1000000) (f:∀id b,X.pn id=some b->1000000<=id/\id<1000000+np) (d:Gam X s ρ a w) (h:vk np live s D) :
 ∃vs pos c ρ',D vs pos c/\Gam X (ae2 live vs pos c) ρ' a w:=by
 obtain ⟨A,l,E,B,u⟩:=ae6 v d;unfold vk at h;rcases hn:nrm 64 np 2000000 (s9 s.e live s.ob).1 (s9 s.e live s.ob).2 with _ | ⟨vs,pos,c⟩
 ·rw [hn] at h; exact h.elim
 rw [hn] at h;obtain ⟨g,o,C,F,q⟩:=l.toMem.nrm hn (by omega) f;refine ⟨vs,pos,c,g,h,o,d.sz,d.df,λ t=>?_,d.pnn,d.small,d.base⟩;simp only [ae2];rcases ama (live:=live) (vs:=vs) t with ⟨i,fl,x,z,k,r⟩ | m
 ·rw [r];have n:=(zah.1 k).1;have j:(s9 s.e live s.ob).1[i]?=some ((s9 s.e live s.ob).1[i]'(by omega)):=by simp [show i<(s9 s.e live s.ob).1.length by omega]
  exact q i _ x _ j k (u i t fl _ _ z j (d.env t))
 rw [m];exact .undef _
theorem aha.mono {K c:Ex->St->Prop} (h:∀x s,K x s->c x s) {e:Exit} {a:Act} {w:World} (b:aha X K e a w):aha X c e a w:=by
 cases e<;>first
  | (obtain ⟨s,ρ,d,f⟩:=b; exact ⟨s,ρ,h _ _ d,f⟩)
  | exact b.elim
theorem least {S:Nat->Prop} (h:∃k,S k):∃k,S k/\∀j,S j->k<=j:=by
 obtain ⟨k,d⟩:=h
 induction k using Nat.strongRecOn with
 | _ k ih=>
   by_cases hx:∃j,j<k/\S j
   ·obtain ⟨j,a,b⟩:=hx;exact ih j a b
   refine ⟨k,d,λ j c=>?_⟩;rcases Nat.lt_or_ge j k with h | h
   ·exact absurd ⟨j,h,c⟩ hx
   exact h
theorem awn {np:Nat} (H:np<=1000000) (G:∀id b,X.pn id=some b->1000000<=id/\id<1000000+np):∀(pc:PC) (c:Code) (K:Ex->St->Prop) (s:St) (ρ:Pl->Option Nat) (a:Act) (w:World),il P X.n c pc=true->W P np pc K s->Gam X s ρ a w->c.wp P (aha X K) a w:=by
 intro pc
 induction pc with
 | skip=>
   intro c K s ρ a w hc h g;cases c<;>simp only [il] at hc<;>try (cases hc; done)
   exact wp_skip ⟨s,ρ,h,g⟩
 | reg rs=>
   intro c K s ρ a w hc h g;cases c<;>simp only [il] at hc<;>try (cases hc; done)
   rename_i id u d;simp only [zaa,Bool.not_eq_true'] at hc;obtain ⟨rfl,hc⟩:=hc;refine wp_region ?_;rw [List.range_eq_range',<- Array.length_toList];exact aob (k:=0) (l:=u.toList) (λ i O=>by simp) hc g h λ s' ρ' E w' U B=>⟨s',ρ',U,B⟩
 | seq p q ihp ihq=>
   intro c K s ρ a w hc h g;cases c<;>simp only [il] at hc<;>try (cases hc; done)
   rename_i x y;simp only [zaa] at hc;refine wp_seq (wp_mono (ihp x _ s ρ a w hc.1 h g) λ e E w' f=>?_);cases e with
   | normal=>
     obtain ⟨s',ρ',r,t⟩:=f;exact ihq y K s' ρ' E w' hc.2 r t
   | exit i=>exact f
   | ret=>exact f
   | goto l=>exact f
   | panic ch=>exact f
   | outgrown=>exact f
 | cond x p q ihp ihq=>
   intro c K s ρ a w hc h g;cases c<;>simp only [il] at hc<;>try (cases hc; done)
   rename_i y c1 c2;simp only [zaa] at hc;obtain ⟨⟨r,t⟩,h3⟩:=hc;have hx:=ad2 g.env r;simp only [W] at h;generalize x.ev s.e=xv at hx h;split at h
   ·rename_i b;exact wp_cond_split (j8 hx) (λ hb=>ihp c1 K s ρ a w t (h.1 hb) g) (λ hb=>ihq c2 K s ρ a w h3 (h.2 hb) g)
   exact h.elim
 | block id p ih=>
   intro c K s ρ a w hc h g;cases c<;>simp only [il] at hc<;>try (cases hc; done)
   rename_i h7 c';simp only [zaa,beq_iff_eq] at hc;obtain ⟨rfl,hc⟩:=hc;refine wp_block (wp_mono (ih c' _ s ρ a w hc h g) λ e E w' f=>?_);cases e with
   | normal=>exact f
   | exit i=>
     obtain ⟨s',ρ',r,t⟩:=f;simp only [Exit.inBlock];simp only at r;split
     ·rename_i O;rw [if_pos O] at r;exact ⟨s',ρ',r,t⟩
     rename_i O;rw [if_neg O] at r;exact ⟨s',ρ',r,t⟩
   | ret=>exact f
   | goto l=>exact f
   | panic ch=>exact f
   | outgrown=>exact f
 | loop p ih=>
   intro c K s ρ a w hc h g;cases c<;>simp only [il] at hc<;>try (cases hc; done)
   rename_i c';obtain ⟨live,I,m,hl,Q,hr⟩:=h;have F:∀p∈live,p.1<100000:=λ p f=>by simpa using zac.1 hl p f
   let S:Nat->Act->World->Prop:=λ k a w=>∃vs pos o ρ,I vs pos o/\Gam X (ae2 live vs pos o) ρ a w/\m vs pos o=k
   refine wp_loop (λ a w=>∃k,S k a w) (λ a w=>open Classical in if hx:∃k,S k a w then (least hx).choose else 0) ?_ ?_
   ·obtain ⟨vs,pos,o,ρ',r,t⟩:=adv F H G g Q;exact ⟨_,vs,pos,o,ρ',r,t,rfl⟩
   intro a w hx;simp only [dif_pos hx];obtain ⟨vs,pos,o,ρ',r,t,h3⟩:=(least hx).choose_spec.1;refine wp_mono (ih c' _ _ ρ' a w hc (hr vs pos o r) t) λ e E w' f=>?_;cases e with
   | normal=>
     obtain ⟨s',h5,g1,g2⟩:=f;obtain ⟨J,A,v,L,Y,k2⟩:=adv F H G g2 g1;have D:∃k,S k E w':=⟨_,J,A,v,L,Y.1,k2,rfl⟩
     refine ⟨D,?_⟩;rw [dif_pos D,<- h3];exact Nat.lt_of_le_of_lt ((least D).choose_spec.2 _ ⟨J,A,v,L,Y.1,k2,rfl⟩) Y.2
   | exit i=>exact f
   | ret=>exact f
   | goto l=>exact f
   | panic ch=>exact f
   | outgrown=>exact f
 | exit i=>
   intro c K s ρ a w hc h g;cases c<;>simp only [il] at hc<;>try (cases hc; done)
   rename_i j;have:j=i:=by simpa using hc
   subst this;exact wp_exit ⟨s,ρ,h,g⟩
 | ret=>
   intro c K s ρ a w hc h g;cases c<;>simp only [il] at hc<;>try (cases hc; done)
   exact wp_ret ⟨s,ρ,h,g⟩
 | drw rs pre=>
   intro c K s ρ a w hc h g;cases c<;>simp only [il] at hc<;>try (cases hc; done)
   rename_i id u d;simp only [zaa] at hc;obtain ⟨⟨⟨rfl,hm⟩,h4⟩,M⟩:=hc;obtain ⟨R,C,h6,Q,Z,N,V,U⟩:=alc h;refine wp_region_any hm ?_
   have z:∀k,¬((Array.replicate u.size false).getD k false=true):=λ k=>by
    rw [zab,Array.getElem?_replicate];split<;>simp
   refine aqe h4 M (by simpa using V) Z N U (λ s' ρ' E w' T B=>⟨s',ρ',T,B⟩) u.size _ s ρ a _ (by simp) (λ j hj=>?_) ?_ (λ l=>?_) (g.drew _)
   ·exact (z j hj).elim
   ·exact Nat.le_trans List.countP_le_length (by simp)
   rw [aim z,Q]
end

def AV.isNil:AV->Bool
 | .nils _ _=>true
 | _=>false
def mc:List AV->Bool
 | []=>false
 | x::xs=>x.isNil||mc xs
def yj (ob:Obs):AV->Option (AV×List Nat)
 | .nils sz z=>some (.nils sz z,[])
 | x=>match x.rv ob with
   | some (y,l)=>some (.r y,l)
   | none=>none
def lc (ob:Obs):List AV->Option (List AV×List Nat)
 | []=>some ([],[])
 | x::xs=>match yj ob x,lc ob xs with
   | some (y,i),some (ys,j)=>some (y::ys,i++j)
   | _,_=>none
def yk (ob:Obs) (xs:List AV):Bool->Option (AV×List Nat)
 | true=>match lc ob xs with
   | some (ys,l)=>some (.agg ys,l)
   | none=>none
 | false=>match rvs ob xs with
   | some (ys,l)=>some (.r (.agg ys),l)
   | none=>none
def wa (ob:Obs):AV->Option (AV×List Nat)
 | .own id ver lo len=>match i8 ob id ver with
   | some (sz,_,_,wr,xs)=>if wr then some (.own id ver lo len,[]) else some (.r (.sl sz ((xs.drop lo).take len)),[])
   | none=>match n7 ob id ver with
     | some _=>some (.own id ver lo len,[])
     | none=>none
 | .agg xs=>yk ob xs (kq&&mc xs)
 | x=>some (x,[])
def pa (ob:Obs):List AV->Option (List AV×List Nat)
 | []=>some ([],[])
 | x::xs=>match wa ob x,pa ob xs with
   | some (y,i),some (ys,j)=>some (y::ys,i++j)
   | _,_=>none
def nn:List AV->AV
 | [x]=>x
 | xs=>.tup xs
def ait (np:Nat) (ob:Obs) (D:AV->List Ob->Prop):Option (List AV×List Nat)->Prop
 | some (vs,l)=>ajr (λ vs pos a=>D (nn vs) (pos++a)) (nrm 64 np (1000000+np) vs (freeze ob l))
 | none=>False
def akd (np:Nat) (rs:List (Nat×Bool)) (s:St) (D:AV->List Ob->Prop):Prop:=
 ait np (s9 s.e rs s.ob).2 D (pa (s9 s.e rs s.ob).2 (s9 s.e rs s.ob).1)
abbrev RSl:=Nat×Bool×Option (TypeId×Option Nat)
def opn (np:Nat) (b:List (Nat×Bool)) (D:AV->List Ob->Prop):List RSl->Env->Obs->Prop
 | [],e,ob=>akd np b ⟨e,ob⟩ D
 | (_,_,none)::r,e,ob=>opn np b D r e ob
 | (a,_,some (_,n))::r,e,ob=>(ld1 true n (e a) ob).ok/\opn np b D r (put a (ld1 true n (e a) ob).v e) ob
def afq (np:Nat) (rs:List RSl) (D:AV->List Ob->Prop):Ex->St->Prop
 | .nor,s=>opn np (rs.map λ p=>(p.1,p.2.1)) D rs s.e s.ob
 | .rt,s=>opn np (rs.map λ p=>(p.1,p.2.1)) D rs s.e s.ob
 | .ex _,_=>False
def RSl.rv:RSl->ResultVar
 | (t,_,none)=>.tmp t
 | (a,_,some (ty,_))=>.cell a ty
def RSl.agg (P:Program):RSl->Bool
 | (_,_,none)=>true
 | (_,_,some (ty,n))=>aag P ty n
def ip:Nat->List AV->Env
 | _,[]=>λ _=>.undef
 | k,x::xs=>put k x (ip (k+1) xs)
theorem amr:∀{xs:List AV} {k t:Nat},k<=t->ip k xs t=(xs[t-k]?).getD .undef
 | [],k,t,h=>by simp [ip]
 | x::xs,k,t,h=>by
   simp only [ip,put];by_cases a:t=k
   ·subst a; simp
   rw [if_neg a,amr (by omega),show t-k=(t-(k+1))+1 by omega];simp
theorem afa:∀(xs ys:List Ob) (k:Nat),z8 k xs (z8 (k+xs.length) ys λ _=>none)=obs k (xs++ys)
 | [],[],k=>rfl
 | [],y::ys,k=>by
   have:=afa [] ys (k+1);simp only [z8,List.length_nil,Nat.add_zero,List.nil_append,obs] at this |-;rw [this]
 | x::xs,ys,k=>by
   have:=afa xs ys (k+1);simp only [z8,zai,List.cons_append,obs] at this |-;rw [show k+(xs.length+1)=k+1+xs.length by omega,this]
section
variable {P:Program} {X:Cx} {w w':World} {s:St} {ρ ρ':Pl->Option Nat} {a:Act} {o:Oper} {ob ob':Obs} {R R':Nat->Prop}
theorem aid {b:List Nat} (n:Gam X s ρ a w) {ob:Obs} (e:s.ob=Ev.freeze ob b):∀{xs ys:List AV} {l:List Nat},lc ob xs=some (ys,l)->(∀i,i∈l->i∈b) ->
 ys.length=xs.length/\∀(i:Nat) (x y:AV) (c:Value),xs[i]?=some x->ys[i]?=some y->RA X s ρ w x c->RA X s ρ w y c
 | [],ys,l,h,hs=>by simp [lc] at h; obtain ⟨rfl,rfl⟩:=h; simp
 | z::xs,ys,l,h,hs=>by
   simp only [lc] at h;split at h
   ·rename_i u k v j d t;cases h;obtain ⟨o,q⟩:=aid n e t (λ p g=>hs p (by simp [g]));refine ⟨by simp [o],λ i x y c hx hy f=>?_⟩;cases i with
    | zero=>
      simp at hx hy;subst hx; subst hy;unfold yj at d;split at d
      ·cases d; exact f
      split at d
      ·rename_i m;cases d;exact .r (afz n m (λ p g=>hs p (by simp [g])) e f)
      cases d
    | succ i=>
      simp at hx hy;exact q i x y c hx hy f
   cases h
theorem arv {d:List Nat} (m:Gam X s ρ a w) {ob:Obs} (k:s.ob=Ev.freeze ob d) {x y:AV} {l:List Nat} {c:Value} (h:wa ob x=some (y,l)) (g:∀i,i∈l->i∈d) (hx:RA X s ρ w x c):RA X s ρ w y c:=by
 unfold wa at h;split at h
 ·split at h
  ·rename_i sz z B D xs q;split at h
   ·cases h; exact hx
   rename_i o;cases h;obtain ⟨t,p,v⟩:=aby d ob _ (o4 q);rw [<- k,v (.inl (by simpa using o))] at p;exact .r (apn m p hx)
  split at h
  ·cases h; exact hx
  cases h
 ·rename_i xs;unfold yk at h;split at h
  ·split at h
   ·rename_i ys C e;cases h;cases hx;rename_i cs n b;obtain ⟨A,u⟩:=aid m k e g;refine .agg _ _ (by rw [A]; exact n) λ i y c hy hc=>?_;have j:i<xs.length:=by have:=(zah.1 hy).1; omega
    have f:xs[i]?=some xs[i]:=by simp [j]
    exact u i _ y c f hy (b i _ c f hc)
   cases h
  split at h
  ·rename_i ys C e;cases h;cases hx;rename_i cs n b;refine .r (.agg _ _ (by rw [kh e]; exact n) λ i y c hy hc=>?_);have j:i<xs.length:=by have:=(zah.1 hy).1; have:=kh e; omega
   have f:xs[i]?=some xs[i]:=by simp [j]
   exact aam m k e g i _ y c f hy (b i _ c f hc)
  cases h
 cases h; exact hx
theorem ajm {b:List Nat} (f:Gam X s ρ a w) {ob:Obs} (d:s.ob=Ev.freeze ob b):∀{xs ys:List AV} {l:List Nat},pa ob xs=some (ys,l)->(∀i,i∈l->i∈b) ->
 ys.length=xs.length/\∀(i:Nat) (x y:AV) (c:Value),xs[i]?=some x->ys[i]?=some y->RA X s ρ w x c->RA X s ρ w y c
 | [],ys,l,h,hs=>by simp [pa] at h; obtain ⟨rfl,rfl⟩:=h; simp
 | z::xs,ys,l,h,hs=>by
   simp only [pa] at h;split at h
   ·rename_i r k t j q o;cases h;obtain ⟨m,n⟩:=ajm f d o (λ p e=>hs p (by simp [e]));refine ⟨by simp [m],λ i x y c hx hy g=>?_⟩;cases i with
    | zero=>
      simp at hx hy;subst hx; subst hy;exact arv f d q (λ p e=>hs p (by simp [e])) g
    | succ i=>
      simp at hx hy;exact n i x y c hx hy g
   cases h
def azf:List Value->Value
 | [v]=>v
 | vs=>.tuple vs.toArray
def ajf (tmps:Array Value):ResultVar->Sem Value
 | .tmp t=>pure (tmps.getD t undef)
 | .cell a t=>do loadVar t (<- asAddr (tmps.getD a undef))
theorem ak0 (fn:Func) (rs:List ResultVar) (h:fn.results.toList=rs) (tmps:Array Value) {cs:List Value} (e:(rs.mapM (ajf tmps)).run P w=.ok cs w):(results fn tmps).run P w=.ok (azf cs) w:=by
 have d:fn.results=rs.toArray:=by rw [<- h]
 have c:(fn.results.mapM (m:=Sem) (ajf tmps)).run P w=.ok cs.toArray w:=by
  rw [d];simp only [List.mapM_toArray];simp only [map_eq_pure_bind,Sem.run_bind,e,Result.andThen_ok,Sem.run_pure]
 have b:(fn.results.mapM (m:=Sem) fun | .tmp t=>pure (tmps.getD t undef) | .cell a t=>do loadVar t (<- asAddr (tmps.getD a undef))).run P w=.ok cs.toArray w:=by
  rw [<- c];congr 2
 unfold results;rw [Sem.run_bind];refine (congrArg (λ r=>Result.andThen r _) b).trans ?_;clear c b d h e
 match cs with
 | []=>rfl
 | [t]=>rfl
 | t::t'::rs=>rfl
theorem ax8 {g:Bool} (e:g=true) {n:Option Nat} {u:AV} {v:Value} (j:Gam X s ρ a w) (d:(ld1 g n u s.ob).ok) (f:RA X s ρ w u v):∃b o,v=.pointer (some ⟨b,o,none⟩):=by
 cases u with
 | ptr id ver off=>
   simp only [ld1] at d;rcases hr:n7 s.ob id ver with _ | c
   ·rw [hr] at d; exact (d e).elim
   cases f;rename_i h;obtain ⟨b,_,hc⟩:=h.live (dn hr);exact ⟨b,off,hc⟩
 | oel id ver i off=>
   simp only [ld1] at d;rcases hr:i8 s.ob id ver with _ | c
   ·rw [hr] at d; exact (d e).elim
   cases f;rename_i h;obtain ⟨_,_,b,_,hc⟩:=h.live (o4 hr);exact ⟨b,_,hc⟩
 | rp ys=>cases f; exact ⟨_,_,rfl⟩
 | _=>exact (d.2 e).elim
theorem ahn {np:Nat} {l:List (Nat×Bool)} {D:AV->List Ob->Prop} {tmps:Array Value} {ob:Obs}:∀{rs:List RSl} {e:Env} {a:Act},opn np l D rs e ob->Gam X ⟨e,ob⟩ ρ a w->(rs.all λ p=>p.agg P)=true->(∀p∈rs,p.1<X.n)->(rs.map (·.1)).Nodup ->
 (∀p∈rs,tmps.getD p.1 undef=a.tmps.getD p.1 undef)->∃e' m cs,Gam X ⟨e',ob⟩ ρ m w/\akd np l ⟨e',ob⟩ D/\((rs.map RSl.rv).mapM (ajf tmps)).run P w=.ok cs w/\cs.length=rs.length /\
  (∀(i:Nat) (p:RSl) (c:Value),rs[i]?=some p->cs[i]?=some c->RelA w (d7 X.B ob ρ w) ob ρ (e' p.1) c)/\∀t,t∉rs.map (·.1)->e' t=e t
 | [],e,a,h,hG,_,_,_,_=>⟨e,a,[],hG,h,by simp,rfl,by simp,λ _ _=>rfl⟩
 | (t,fl,none)::rs,e,a,h,hG,hag,hlt,hnd,htm=>by
   simp only [List.all_cons,zaa] at hag;simp only [zag,List.nodup_cons] at hnd;obtain ⟨e',m,cs,z,E,A,I,C,u⟩:=ahn (rs:=rs) h hG hag.2 (λ p f=>hlt p (by simp [f])) hnd.2 (λ p f=>htm p (by simp [f]));refine ⟨e',m,tmps.getD t undef::cs,z,E,?_,by simp [I],λ i p c f hc=>?_,λ F g=>?_⟩
   ·simp only [zag,List.mapM_cons,Sem.run_bind,RSl.rv,ajf,Sem.run_pure,Result.andThen_ok];rw [A];simp only [Result.andThen_ok]
   ·cases i with
    | zero=>
      simp at f hc;subst f; subst hc;rw [u t hnd.1];have:=hG.env t;rw [<- htm (t,fl,none) (by simp)] at this;rw [zab] at this;exact this
    | succ i=>exact C i p c (by simpa using f) (by simpa using hc)
   simp at g;exact u F (by simpa using g.2)
 | (t,fl,some (ty,n))::rs,e,a,h,hG,hag,hlt,hnd,htm=>by
   simp only [List.all_cons,zaa] at hag;simp only [zag,List.nodup_cons] at hnd;obtain ⟨q,h⟩:=h;have M:a.eval (.tmp t)=a.tmps.getD t undef:=rfl;have y := aos (P := P) (s := ⟨e, ob⟩) (o := { dst := none, op := .load ty (.tmp t), type := 0, pos := "", after := #[], guard := none }) rfl hG rfl hag.1 (hG.env t) q
   obtain ⟨c,d,L⟩:=y;obtain ⟨b,o,K⟩:=ax8 rfl hG q (hG.env t)
   have k:(loadVar ty ⟨b,o,none⟩).run P w=.ok c w:=by
    simp only [execOp,M,K,Instr.loadAt,Instr.sureAddr,Sem.run_bind,Sem.run_pure,Result.andThen_ok] at d;generalize (loadVar ty ⟨b,o,none⟩).run P w=r at d |-;cases r with
    | ok v w1=>simp only [Result.andThen_ok] at d; cases d; rfl
    | halt x w1=>cases d
   have H:=hG.see (hlt (t,fl,some (ty,n)) (by simp)) L
   obtain ⟨e',m,cs,z,E,A,I,C,u⟩:=ahn (rs:=rs) (tmps:=tmps) h H hag.2 (λ p f=>hlt p (by simp [f])) hnd.2 (λ p f=>by
    rw [htm p (by simp [f])];have G:t≠p.1:=λ J=>hnd.1 (by rw [J]; exact List.mem_map_of_mem f)
    simp [Act.put,zab,Array.getElem?_setIfInBounds_ne G])
   refine ⟨e',m,c::cs,z,E,?_,by simp [I],λ i p c' f hc=>?_,λ F g=>?_⟩
   ·have j:=htm (t,fl,some (ty,n)) (by simp);simp only [zag,List.mapM_cons,Sem.run_bind,RSl.rv,ajf];simp only at j;rw [j,K];simp only [asAddr,Sem.run_pure,Result.andThen_ok];rw [k];simp only [Result.andThen_ok];rw [A];simp only [Result.andThen_ok]
   ·cases i with
    | zero=>
      simp at f hc;subst f; subst hc;rw [u t hnd.1];simp only [put,if_true];exact L
    | succ i=>exact C i p c' (by simpa using f) (by simpa using hc)
   simp at g;rw [u F (by simpa using g.2)];simp [put,g.1]
def aec (P:Program) (f:FuncId) (args:List AV) (po:List Ob) (D:AV->List Ob->Prop):Prop:=
 ∀(w:World) (a:Array Value) (ρ:Pl->Option Nat) (B:Nat->Prop),Gl P w (el (ob0 po) ρ)->(∀b,el (ob0 po) ρ b\/w.heap.size<=b->B b) ->
  Mem ⟨0,el (ob0 po) ρ,λ _=>none,B,w⟩ (ob0 po) ρ w->a.size=args.length ->
  (∀(i:Nat) (x:AV) (c:Value),args[i]?=some x->a[i]?=some c->RelA w (d7 B (ob0 po) ρ w) (ob0 po) ρ x c) ->
  Calls P f a w λ e w'=>∃c ρ' res ro,e=.returned c/\D res ro/\Mem ⟨0,el (ob0 po) ρ,gx po ρ,B,w⟩ (ob0 ro) ρ' w'/\RelA w' (d7 B (ob0 ro) ρ' w') (ob0 ro) ρ' res c
theorem acq {f:FuncId} {fn:Func} {c:Code} {pc:PC} {args:List AV} {po:List Ob} {D:AV->List Ob->Prop} {rs:List RSl} (hf:P.funcs[f]?=some fn) (hb:fn.body=some c) (hn:fn.ntmps<=100000) (h5:il P fn.ntmps c pc=true)
 (hg:args.length<=fn.ntmps) (Q:fn.results.toList=rs.map RSl.rv) (V:(rs.all λ p=>p.agg P)=true) (M:(rs.all λ p=>decide (p.1<fn.ntmps))=true) (h3:(rs.map (·.1)).Nodup) (hd:po.length<=1000)
 (h:W P po.length pc (afq po.length rs D) ⟨ip 0 args,ob0 po⟩):aec P f args po D:=by
 intro w d ρ B h0 hB U hh F
 let X:Cx:=⟨fn.ntmps,el (ob0 po) ρ,gx po ρ,B,w⟩
 haveI:GlC P X:=⟨h0⟩
 have C:∀id b,X.pn id=some b->ρ id=some b/\∃o,ob0 po id=some (0,o)/\o.pinned=true/\(o.isRow=true->pw X.w0 w b):=λ id b a=>by
  simp only [X,gx] at a;split at a
  ·rename_i v o hx;split at a
   ·rename_i T;have:=(qe hx).2.2;simp only at this;subst this;exact ⟨a,o,hx,T,λ _=>pw.refl _ _⟩
   cases a
  cases a
 have hX:Mem X (ob0 po) ρ w:=⟨U.obj,U.inj,U.keeps,U.own,C⟩
 have m:∀id b,X.pn id=some b->1000000<=id/\id<1000000+po.length:=λ id b a=>by
  obtain ⟨_,h6,hx,_⟩:=C id b a;obtain ⟨h1,h2,_⟩:=qe hx;have:=(zah.1 h2).1;exact ⟨h1,by omega⟩
 have hG:Gam X ⟨ip 0 args,ob0 po⟩ ρ { tmps:=d++Array.replicate (fn.ntmps-d.size) undef,defers:=[] } w:=by
  refine ⟨hX,by simp [X]; omega,rfl,λ t=>?_,λ id G=>?_,hn,hB⟩
  ·show RelA w (d7 X.B (ob0 po) ρ w) (ob0 po) ρ (ip 0 args t) _;rw [amr (Nat.zero_le _),Nat.sub_zero];by_cases ht:t<args.length
   ·have hx:args[t]?=some args[t]:=by simp [ht]
    have hc:d[t]?=some (d[t]'(by omega)):=by simp [show t<d.size by omega]
    have:=F t _ _ hx hc;rw [hx];simp only [Option.getD_some];rw [zab,Array.getElem?_append_left (by omega),hc];exact this
   rw [List.getElem?_eq_none (by omega)];exact .undef _
  rcases a:X.pn id with _ | b
  ·rfl
  have h1:=(m id b a).1;have h2:=(m id b a).2
  rcases (show id<1000000\/2000000<=id by
   unfold par at G;by_cases q:1000000<=id
   ·rw [decide_eq_true q] at G;exact .inr (by have:=of_decide_eq_false G; omega)
   exact .inl (by omega)) with q | q<;>omega
 refine calls_of_wp hf hb (wp_mono (awn (by omega) m pc c _ _ ρ _ w h5 h hG) λ e O w' a=>?_)
 have R:(∃s ρ,opn po.length (rs.map λ p=>(p.1,p.2.1)) D rs s.e s.ob/\Gam X s ρ O w')->O.defers=[]/\∃v,(results fn O.tmps).run P w'=.ok v w'/\∃c ρ' res ro,Ending.returned v=.returned c/\D res ro/\Mem ⟨0,el (ob0 po) ρ,gx po ρ,B,w⟩ (ob0 ro) ρ' w'/\RelA w' (d7 B (ob0 ro) ρ' w') (ob0 ro) ρ' res c:=by
  rintro ⟨A,h8,Y,S⟩;obtain ⟨k,a1,cs,h4,hx,z,Z,u,_⟩:=ahn (P:=P) (tmps:=O.tmps) Y S V (λ p a=>by simpa using zac.1 M p a) h3 (λ _ _=>rfl);refine ⟨S.df,_,ak0 fn _ Q O.tmps z,?_⟩;generalize j:(rs.map λ p=>(p.1,p.2.1))=g at hx;have h7:g.length=rs.length:=by rw [<- j]; simp
  obtain ⟨h9,g1,g2,g3,g4⟩:=ae6 (live:=g) (λ p a=>by
   rw [<- j] at a;obtain ⟨q,hq,rfl⟩:=List.mem_map.1 a;have:q.1<fn.ntmps:=by simpa using zac.1 M q hq
   simp only
   omega) h4
  unfold akd at hx;simp only at g1 g2 g3 g4 hx;rcases T:pa (s9 k g A.ob).2 (s9 k g A.ob).1 with _ | ⟨vs,l⟩
  ·rw [T] at hx; exact hx.elim
  rw [T] at hx;simp only [ait] at hx;have K:=Gam.freeze (s:=⟨k,(s9 k g A.ob).2⟩) l g1;obtain ⟨k1,k2⟩:=ajm (s:=⟨k,Ev.freeze (s9 k g A.ob).2 l⟩) K rfl T (λ _ h=>h);rcases hn2:nrm 64 po.length (1000000+po.length) vs (freeze (s9 k g A.ob).2 l) with _ | ⟨n,pos,r⟩
  ·rw [hn2] at hx; exact hx.elim
  rw [hn2] at hx;have hx:D (nn n) (pos++r):=hx;obtain ⟨E,I,m2,m3,m4⟩:=K.toMem.nrm hn2 (zae _) m;rw [<- m3,afa pos r 1000000] at I m4;refine ⟨_,E,_,_,rfl,hx,⟨I.obj,I.inj,I.keeps,I.own,I.pin⟩,?_⟩
  have L:∀(i:Nat) (y:AV) (v:Value),n[i]?=some y->cs[i]?=some v->RelA w' (d7 B (ob0 (pos++r)) E w') (ob0 (pos++r)) E y v:=λ i y v hy H=>by
   have he:=(zah.1 H).1;obtain ⟨q,hr⟩:∃q,rs[i]?=some q:=⟨rs[i]'(by omega),by simp [show i<rs.length by omega]⟩
   have ha:g[i]?=some (q.1,q.2.1):=by rw [<- j,List.getElem?_map,hr]; rfl
   have a:(s9 k g A.ob).1[i]?=some ((s9 k g A.ob).1[i]'(by omega)):=by simp [show i<(s9 k g A.ob).1.length by omega]
   have J:vs[i]?=some (vs[i]'(by omega)):=by simp [show i<vs.length by omega]
   exact m4 i _ y _ J hy (k2 i _ _ _ a J (abz l (g4 i _ _ _ _ ha a (u i _ v hr H))))
  have N:n.length=cs.length:=by omega
  clear hx;clear z u Z g4
  match n,cs,N,L with
  | [],[],_,H=>exact .tup _ _ (by simp) λ i x c hx=>by simp at hx
  | [x],[c],_,H=>exact H 0 x c rfl rfl
  | x::x'::xs,c::c'::cs,hl,H=>exact .tup _ _ (by simp at hl |-; omega) λ i y v hy hc=>H i y v hy (by simpa using hc)
  | [],_::_,hl,_=>simp at hl
  | _::_,[],hl,_=>simp at hl
  | [_],_::_::_,hl,_=>simp at hl
  | _::_::_,[_],hl,_=>simp at hl
 cases e with
 | normal=>exact R a
 | ret=>exact R a
 | exit i=>obtain ⟨_,_,h,_⟩:=a; exact h.elim
 | goto l=>exact a.elim
 | panic ch=>exact a.elim
 | outgrown=>exact a.elim
theorem aky {f:FuncId} {fn:Func} {c:Code} {pc:PC} {args:List AV} {po ro:List Ob} {res:AV} {rs:List RSl} (s:P.funcs[f]?=some fn) (y:fn.body=some c) (t:fn.ntmps<=100000) (n:il P fn.ntmps c pc=true)
 (o:args.length<=fn.ntmps) (d:fn.results.toList=rs.map RSl.rv) (j:(rs.all λ p=>p.agg P)=true) (l:(rs.all λ p=>decide (p.1<fn.ntmps))=true) (i:(rs.map (·.1)).Nodup) (g:po.length<=1000)
 (h:W P po.length pc (afq po.length rs λ v os=>v=res/\os=ro) ⟨ip 0 args,ob0 po⟩):b5 P f args po res ro:=by
 intro w a ρ B k x u q b;refine (acq s y t n o d j l i g h w a ρ B k x u q b).mono ?_;rintro e w' ⟨c,ρ',_,_,rfl,⟨rfl,rfl⟩,m,r⟩;exact ⟨c,ρ',rfl,m,r⟩
end

structure Shut (p:Prop):Prop where
 out:p
inductive Item where
 | c (c:PC)
 | blk (id:Nat)
 | lp (live:List (Nat×Bool)) (D:List AV->List Ob->List Ob->Prop)
 | cut (S:Env->Obs->Prop)
section
variable {P:Program}
theorem ab8 {f:FuncId} {u:Nat} {ob:Obs} {K g:AV->Obs->Prop} (k:∀v o,K v o->g v o) {vs:List AV} {a:Option (List AV×List Nat)} (h:zt P f u ob K vs a):zt P f u ob g vs a:=by
 have b:∀{ob:Obs} {ids:List Nat} {as:List AV} {l:List Nat} {j:Bool} {o:Option (List Ob)},xy P f u ob ids as l j K o->xy P f u ob ids as l j g o:=λ {ob ids as l j o} h=>by
  cases o with
  | none=>exact h
  | some po=>obtain ⟨r,o,e,c,d,m,n⟩:=h; exact ⟨r,o,e,c,d,m,k _ _ n⟩
 rcases a with _ | ⟨as,_ | ⟨i,l⟩⟩
 ·exact b h
 ·exact b h
 exact h.imp b (Or.imp b (Or.imp b (Or.imp (λ ⟨id,v,z,xs,e,c,d⟩=>⟨id,v,z,xs,e,c,λ ex=>b (d ex)⟩) λ ⟨id,v,sz,z,xs,e,c,d⟩=>⟨id,v,sz,z,xs,e,c,b d⟩)))
theorem aiz:∀{rs:List PR} {K j:St->Prop} {s:St},(∀s,K s->j s)->wpR P rs K s->wpR P rs j s
 | [],K,j,s,hK,h=>hK s h
 | r::rs,K,j,s,hK,h=>by
   have i:∀s,wpR P rs K s->wpR P rs j s:=λ s=>aiz hK;simp only [wpR] at h |-;generalize yes s.e r.g=y at h |-;cases y with
   | none=>exact h
   | some b=>
     simp only [PR.wp] at h |-;rcases r with ⟨d,g,u,x⟩
     cases x with
     | see o=>exact ⟨h.1,i _ h.2⟩
     | act o=>exact ⟨λ c=>⟨(h.1 c).1,i _ (h.1 c).2⟩,λ c=>i _ (h.2 c)⟩
     | call f xs=>exact ⟨λ c=>⟨(h.1 c).1,ab8 (λ v o=>i _) (h.1 c).2⟩,λ c=>i _ (h.2 c)⟩
     | callv x xs=>
       refine ⟨λ c=>⟨(h.1 c).1,(h.1 c).2.1,?_⟩,λ c=>i _ (h.2 c)⟩;have a:=(h.1 c).2.2;simp only at a |-;generalize (x.ev s.e).bare=y at a |-;cases y with
       | fn f cap=>cases f with
         | func f=>exact ⟨a.1,ab8 (λ v o=>i _) a.2⟩
         | _=>exact a
       | _=>exact a
     | inv tbl x xs=>
       refine ⟨λ c=>⟨(h.1 c).1,(h.1 c).2.1,?_⟩,λ c=>i _ (h.2 c)⟩;have a:=(h.1 c).2.2;simp only at a |-;generalize (x.ev s.e).bare=y at a |-;cases y with
       | ifc t y=>
         simp only [aed] at a |-;generalize bi t tbl=q at a |-;cases q with
         | some f=>exact ab8 (λ v o=>i _) a
         | none=>exact a
       | _=>exact a
     | nxt x=>
       refine ⟨λ c=>⟨(h.1 c).1,?_⟩,λ c=>i _ (h.2 c)⟩;have a:=(h.1 c).2;simp only at a |-;unfold ajp at a |-;split at a
       ·unfold am8 at a |-;split at a
        ·unfold arx at a |-;split at a
         ·exact ⟨a.1,a.2.1,λ q=>i _ (a.2.2.1 q),λ q k=>i _ (a.2.2.2 q k)⟩
         exact a
        exact a
       exact a
theorem ai0:∀{rs:List PR} {a:List Lg} {K b:List Lg->St->Prop} {s:St},(∀l s,K l s->b l s)->wpD P rs a s K->wpD P rs a s b
 | [],a,K,b,s,hK,h=>hK a s h
 | r::rs,a,K,b,s,hK,h=>by
   obtain ⟨c,d,e⟩:=h;exact ⟨c,d,ai0 hK e⟩
theorem ay6 {np:Nat}:∀{pc:PC} {K e:Ex->St->Prop} {s:St},(∀x s,K x s->e x s)->W P np pc K s->W P np pc e s:=by
 intro pc
 induction pc with
 | skip=>intro K e s d h; exact d _ _ h
 | reg rs=>intro K e s d h; exact aiz (d .nor) h
 | seq a b iha ihb=>
   intro K e s d h;refine iha (λ x s h=>?_) h;cases x with
   | nor=>exact ihb d h
   | _=>exact d _ _ h
 | cond x a b iha ihb=>
   intro K e s d h;unfold W at h |-;split at h
   ·exact ⟨λ q=>iha d (h.1 q),λ q=>ihb d (h.2 q)⟩
   exact h.elim
 | block id c ih=>
   intro K e s d h;refine ih (λ x s h=>?_) h;cases x with
   | ex i=>
     simp only at h |-;split
     ·rename_i f; rw [if_pos f] at h; exact d _ _ h
     rename_i f; rw [if_neg f] at h; exact d _ _ h
   | _=>exact d _ _ h
 | loop c ih=>
   intro K e s d h;obtain ⟨live,I,m,o,k,n⟩:=h;refine ⟨live,I,m,o,k,λ vs pos g j=>ih (λ x s h=>?_) (n vs pos g j)⟩;cases x with
   | nor=>exact h
   | _=>exact d _ _ h
 | exit i=>intro K e s d h; exact d _ _ h
 | ret=>intro K e s d h; exact d _ _ h
 | drw rs pre=>intro K e s d h; exact ai0 (λ l s h=>⟨h.1,d _ _ h.2⟩) h
end
mutual
def run (P:Program) (np:Nat) (Q:Ex->St->Prop):List Item->St->Prop
 | [],s=>Q .nor s
 | .c c::is,s=>W P np c (λ x s=>match x with | .nor=>run P np Q is s | x=>unw P np Q is x s) s
 | .blk _::is,s=>run P np Q is s
 | .lp live D::_,s=>vk np live s D
 | .cut S::_,s=>S s.e s.ob
def unw (P:Program) (np:Nat) (Q:Ex->St->Prop):List Item->Ex->St->Prop
 | [],x,s=>Q x s
 | .blk id::is,.ex i,s=>if i=id then run P np Q is s else unw P np Q is (.ex i) s
 | _::is,x,s=>unw P np Q is x s
end
def z7 (P:Program) (np:Nat) (Q:Ex->St->Prop) (rs:List PR) (a:List Item) (e:Env) (ob:Obs):Prop:=wpR P rs (run P np Q a) ⟨e,ob⟩
def stp (P:Program) (np:Nat) (Q:Ex->St->Prop) (d:Option Nat) (g:Option (Nat×Bool)) (u:Nat) (x:PX) (rs:List PR) (a:List Item) (e:Env) (ob:Obs):Option Bool->Prop
 | some b=>x.wp P ⟨d,g,u,x⟩ ⟨e,ob⟩ (wpR P rs (run P np Q a)) b
 | none=>False
def awz (P:Program) (np:Nat) (Q:Ex->St->Prop) (d:Option Nat) (g:Option (Nat×Bool)) (b:Bool) (rs:List PR) (a:List Item) (e:Env) (R:Rs) (ob:Obs):Prop:=
 R.ok/\z7 P np Q rs a (n6 d (gdv g b R.v) e) ob
def akt (P:Program) (np:Nat) (Q:Ex->St->Prop) (d:Option Nat) (rs:List PR) (a:List Item) (e:Env) (R:Rs):Prop:=
 R.ok/\z7 P np Q rs a (n6 d R.v e) R.ob
def cnd (P:Program) (np:Nat) (Q:Ex->St->Prop) (x:AV) (a b:PC) (d:List Item) (s:St):Prop:=match x with
 | .r (.v (.bool c))=>Shut ((c=true->run P np Q (.c a::d) s)/\(c=false->run P np Q (.c b::d) s))
 | _=>False
def xr (P:Program) (np:Nat) (Q:Ex->St->Prop) (f:FuncId) (u:Nat) (d:Option Nat) (rs:List PR) (a:List Item) (e:Env) (ob:Obs) (vs:List AV):Option (List AV×List Nat)->Prop:=
 zt P f u ob (λ v ob=>z7 P np Q rs a (n6 d v e) ob) vs
def ag6 (P:Program) (np:Nat) (Q:Ex->St->Prop) (f:FuncId) (u:Nat) (d:Option Nat) (rs:List PR) (a:List Item) (e:Env) (ob:Obs) (as:List AV) (l:List Nat) (b:Bool) (ids:List Nat):Prop:=
 xy P f u ob ids (imL (fwd ob ids) as) l b (λ v ob=>z7 P np Q rs a (n6 d v e) ob) (s7 (fwd ob ids) ob ids)
def anz (P:Program) (np:Nat) (Q:Ex->St->Prop) (f:FuncId) (u:Nat) (d:Option Nat) (rs:List PR) (a:List Item) (e:Env) (ob:Obs) (as:List AV) (l:List Nat) (b:Bool) (ids:List Nat):Option (List Ob)->Prop:=
 xy P f u ob ids as l b (λ v ob=>z7 P np Q rs a (n6 d v e) ob)
def ag4 (P:Program) (np:Nat) (Q:Ex->St->Prop) (f:FuncId) (u:Nat) (d:Option Nat) (rs:List PR) (a:List Item) (e:Env) (ob:Obs) (as:List AV) (l:List Nat) (b:Bool) (ids:List Nat) (po:List Ob):Prop:=
 anz P np Q f u d rs a e ob as l b ids (some po)
def aft (P:Program) (np:Nat) (Q:Ex->St->Prop) (u:Nat) (d:Option Nat) (rs:List PR) (a:List Item) (e:Env) (ob:Obs) (ids:List Nat) (res:AV) (ro:List Ob):Prop:=
 z7 P np Q rs a (n6 d (imV (back ob u ids ro.length) res) e) (aq ob u ids (back ob u ids ro.length) 0 ro)
def anx (P:Program) (np:Nat) (Q:Ex->St->Prop) (u:Nat) (d:Option Nat) (rs:List PR) (a:List Item) (e:Env) (ob:Obs) (vs:List AV) (x:AV):Prop:=
 an7 P u ob vs (λ v ob=>z7 P np Q rs a (n6 d v e) ob) x
def ag5 (P:Program) (np:Nat) (Q:Ex->St->Prop) (tbl:List (TypeId×FuncId)) (u:Nat) (d:Option Nat) (rs:List PR) (a:List Item) (e:Env) (ob:Obs) (vs:List AV) (x:AV):Prop:=
 aed P tbl u ob vs (λ v ob=>z7 P np Q rs a (n6 d v e) ob) x
def aqs (P:Program) (np:Nat) (Q:Ex->St->Prop) (u:Nat) (d:Option Nat) (rs:List PR) (a:List Item) (e:Env) (ob:Obs) (vs:List AV) (x:AV):Option FuncId->Prop
 | some f=>xr P np Q f u d rs a e ob (x::vs) (m5 ob (x::vs))
 | none=>False
def arw (P:Program) (np:Nat) (Q:Ex->St->Prop) (d:Option Nat) (rs:List PR) (a:List Item) (e:Env) (ob:Obs) (x:AV):Prop:=ajp ob (λ v ob=>z7 P np Q rs a (n6 d v e) ob) x
def axq (P:Program) (np:Nat) (Q:Ex->St->Prop) (d:Option Nat) (rs:List PR) (a:List Item) (e:Env) (ob:Obs) (id ver:Nat) (x:Option (AV×Nat×List Nat×Nat)):Prop:=am8 id ver ob (λ v ob=>z7 P np Q rs a (n6 d v e) ob) x
def axp (P:Program) (np:Nat) (Q:Ex->St->Prop) (d:Option Nat) (rs:List PR) (c:List Item) (e:Env) (ob:Obs) (id ver:Nat) (m:AV) (a:Nat) (b:List Nat) (f:Nat) (x:Option (List MapEntry×Nat)):Prop:=
 arx id ver ob m a b f (λ v ob=>z7 P np Q rs c (n6 d v e) ob) x
variable {d:Option Nat}
theorem ajo {P:Program} {np:Nat} {Q:Ex->St->Prop} {rs:List PR} {g:List Item} {e:Env} {ob:Obs} {id ver:Nat} {m:AV} {a h c:Nat} {b:List Nat} {es:List MapEntry} (k:∀e,e∈es->e.born<a) (i:a<=h)
 (j:au es b=[]->z7 P np Q rs g (n6 d (.tup [bl false]) e) ob)
 (l:∀f,f∈au es b->z7 P np Q rs g (n6 d (.tup [bl true,.r (gp f.key),.r (gp f.val)]) e) (upd id (ver,.iter m a (b++[f.born]) c) ob)):axp P np Q d rs g e ob id ver m a b h (some (es,c)):=
 ⟨k,i,j,l⟩
section
variable (P:Program) (np:Nat) (Q:Ex->St->Prop) (is:List Item) (s:St) (e:Env) (ob:Obs)
theorem mw (d:Option Nat) (g:Option (Nat×Bool)) (u:Nat) (tbl:List (TypeId×FuncId)) (x:Opd) (xs:List Opd) (rs:List PR):stp P np Q d g u (.inv tbl x xs) rs is e ob (some true)=((x.ev e).may true/\ah true e xs/\ag5 P np Q tbl u d rs is e ob (l5 e xs) (x.ev e).bare):=by
 simp [stp,PX.wp,ag5,z7]
theorem cr (d:Option Nat) (g:Option (Nat×Bool)) (u:Nat) (tbl:List (TypeId×FuncId)) (x:Opd) (xs:List Opd) (rs:List PR):stp P np Q d g u (.inv tbl x xs) rs is e ob (some false)=z7 P np Q rs is (n6 d .undef e) ob:=by
 simp [stp,PX.wp,z7]
theorem di (u:Nat) (d:Option Nat) (rs:List PR) (tbl:List (TypeId×FuncId)) (vs:List AV) (t:TypeId) (x:AV):ag5 P np Q tbl u d rs is e ob vs (.ifc t x)=aqs P np Q u d rs is e ob vs x (bi t tbl):=by
 simp only [ag5,aed];generalize bi t tbl=q;cases q<;>rfl
theorem bw (u:Nat) (d:Option Nat) (rs:List PR) (vs:List AV) (x:AV) (f:FuncId):aqs P np Q u d rs is e ob vs x (some f)=xr P np Q f u d rs is e ob (x::vs) (m5 ob (x::vs)):=(rfl)
theorem mv (d:Option Nat) (g:Option (Nat×Bool)) (u:Nat) (x:Opd) (rs:List PR):stp P np Q d g u (.nxt x) rs is e ob (some true)=((x.ev e).may true/\arw P np Q d rs is e ob (x.ev e).bare):=by
 simp [stp,PX.wp,arw,z7]
theorem jb (d:Option Nat) (rs:List PR) (id ver:Nat):arw P np Q d rs is e ob (.ptr id ver 0)=axq P np Q d rs is e ob id ver (aw ob id ver):=(rfl)
theorem fk (d:Option Nat) (rs:List PR) (id ver f a b g:Nat) (c:List Nat):axq P np Q d rs is e ob id ver (some (.mp f a,b,c,g))=axp P np Q d rs is e ob id ver (.mp f a) b c g (o3 ob f a):=(rfl)
theorem ep (d:Option Nat) (g:Option (Nat×Bool)) (u:Nat) (x:Opd) (xs:List Opd) (rs:List PR):stp P np Q d g u (.callv x xs) rs is e ob (some true)=((x.ev e).may true/\ah true e xs/\anx P np Q u d rs is e ob (l5 e xs) (x.ev e).bare):=by
 simp [stp,PX.wp,anx,z7]
theorem jq (u:Nat) (d:Option Nat) (rs:List PR) (vs:List AV) (f:FuncId) (cap:List AV) (k:Nat):anx P np Q u d rs is e ob vs (.fn (.func f) cap k)=(yo P f=true/\xr P np Q f u d rs is e ob (cap.take k++(vs++cap.drop k)) (m5 ob (cap.take k++(vs++cap.drop k)))):=(rfl)
theorem an (d:Option Nat) (g:Option (Nat×Bool)) (u:Nat) (x:Opd) (xs:List Opd) (rs:List PR):stp P np Q d g u (.callv x xs) rs is e ob (some false)=z7 P np Q rs is (n6 d .undef e) ob:=by
 simp [stp,PX.wp,z7]
theorem nh:run P np Q [] s=Q .nor s:=by unfold run; rfl
theorem iu:run P np Q (.c .skip::is) s=run P np Q is s:=by rw [run]; rfl
theorem nc (a b:PC):run P np Q (.c (.seq a b)::is) s=run P np Q (.c a :: .c b::is) s:=by
 rw [run,W,run];congr 1;funext x s;cases x<;>simp only [run,unw]
theorem ng (a:List PR):run P np Q (.c (.reg a)::is) ⟨e,ob⟩=z7 P np Q a is e ob:=by rw [run]; rfl
theorem iy:z7 P np Q [] is e ob=run P np Q is ⟨e,ob⟩:=(rfl)
theorem fb (d:Option Nat) (g:Option (Nat×Bool)) (u:Nat) (x:PX) (rs:List PR):z7 P np Q (⟨d,g,u,x⟩::rs) is e ob=stp P np Q d g u x rs is e ob (yes e g):=by
 show PR.wp P ⟨d,g,u,x⟩ ⟨e,ob⟩ (wpR P rs (run P np Q is)) (yes e g) = _;generalize yes e g=y;cases y<;>rfl
theorem mu (d:Option Nat) (g:Option (Nat×Bool)) (u:Nat) (o:PO) (rs:List PR) (b:Bool):stp P np Q d g u (.see o) rs is e ob (some b)=awz P np Q d g b rs is e (o.see b e ob) ob:=(rfl)
theorem na (d:Option Nat) (g:Option (Nat×Bool)) (b:Bool) (rs:List PR) (p:Prop) (v:AV) (ob':Obs) (rd a:List Nat):awz P np Q d g b rs is e ⟨p,v,ob',rd,a⟩ ob=(p/\z7 P np Q rs is (n6 d (gdv g b v) e) ob):=(rfl)
theorem my (d:Option Nat) (g:Option (Nat×Bool)) (u:Nat) (o:PO) (rs:List PR):stp P np Q d g u (.act o) rs is e ob (some true)=akt P np Q d rs is e (o.act (d.getD 0) e ob):=by
 simp [stp,PX.wp,akt,z7]
theorem ct (d:Option Nat) (g:Option (Nat×Bool)) (u:Nat) (o:PO) (rs:List PR):stp P np Q d g u (.act o) rs is e ob (some false)=z7 P np Q rs is (n6 d .undef e) ob:=by
 simp [stp,PX.wp,akt,z7]
theorem bq (d:Option Nat) (g:Option (Nat×Bool)) (u:Nat) (f:FuncId) (xs:List Opd) (rs:List PR):stp P np Q d g u (.call f xs) rs is e ob (some false)=z7 P np Q rs is (n6 d .undef e) ob:=by
 simp [stp,PX.wp,akt,z7]
theorem om (d:Option Nat) (rs:List PR) (p:Prop) (v:AV) (ob':Obs) (rd a:List Nat):akt P np Q d rs is e ⟨p,v,ob',rd,a⟩=(p/\z7 P np Q rs is (n6 d v e) ob'):=(rfl)
theorem ir (d:Option Nat) (g:Option (Nat×Bool)) (u:Nat) (f:FuncId) (xs:List Opd) (rs:List PR):stp P np Q d g u (.call f xs) rs is e ob (some true)=(ah true e xs/\xr P np Q f u d rs is e ob (l5 e xs) (m5 ob (l5 e xs))):=by
 simp [stp,PX.wp,xr,z7]
theorem dk (f:FuncId) (u:Nat) (d:Option Nat) (rs:List PR) (vs as:List AV):xr P np Q f u d rs is e ob vs (some (as,[]))=ag6 P np Q f u d rs is e ob as [] true (o5 ob 64 (l8 as) []):=(rfl)
theorem an0 {P:Program} {np:Nat} {Q:Ex->St->Prop} {a:List Item} {e:Env} {ob:Obs} {f:FuncId} {u:Nat} {rs:List PR} {vs as:List AV} {l:List Nat} (h:ag6 P np Q f u d rs a e ob as (i::l) false (o5 ob 64 (l8 as) [])):xr P np Q f u d rs a e ob vs (some (as,i::l)):=Or.inr (Or.inl h)
theorem gf (f:FuncId) (u:Nat) (d:Option Nat) (rs:List PR) (vs:List AV):xr P np Q f u d rs is e ob vs none=ag6 P np Q f u d rs is e ob vs [] true (o5 ob 64 (l8 vs) []):=(rfl)
theorem aqt {P:Program} {np:Nat} {Q:Ex->St->Prop} {c:List Item} {e:Env} {ob:Obs} {f:FuncId} {u:Nat} {rs:List PR} {vs as:List AV} {l:List Nat} (id v:Nat) (z:RV) (xs:List Value) (b:ob id=some (v,.row 1 z true true (xs.map RV.v))) (a:xs≠[])
 (h:∀m,ag6 P np Q f u d rs c e (upd id (v,.box (xs.map (λ x=>AV.r (.v x))++List.replicate m .undef)) ob) vs [] true (o5 (upd id (v,.box (xs.map (λ x=>AV.r (.v x))++List.replicate m .undef)) ob) 64 (l8 vs) [])):xr P np Q f u d rs c e ob vs (some (as,i::l)):=Or.inr (Or.inr (Or.inr (Or.inl ⟨id,v,z,xs,b,a,h⟩)))
theorem jr (f:FuncId) (u:Nat) (d:Option Nat) (rs:List PR) (as:List AV) (l:List Nat) (a:Bool) (ids:List Nat):ag6 P np Q f u d rs is e ob as l a ids=anz P np Q f u d rs is e ob (imL (fwd ob ids) as) l a ids (s7 (fwd ob ids) ob ids):=(rfl)
theorem dj (f:FuncId) (u:Nat) (d:Option Nat) (rs:List PR) (as:List AV) (l:List Nat) (a:Bool) (ids:List Nat) (po:List Ob):anz P np Q f u d rs is e ob as l a ids (some po)=ag4 P np Q f u d rs is e ob as l a ids po:=(rfl)
theorem a7 {P:Program} {np:Nat} {Q:Ex->St->Prop} {a:List Item} {e:Env} {ob:Obs} {f:FuncId} {u:Nat} {rs:List PR} {as:List AV} {l:List Nat} {ids:List Nat} {po:List Ob} {res:AV} {ro:List Ob}
 (h:b5 P f as po res ro) (g:okC u ids ro.length l true=true) (b:d8 po ro) (c:aft P np Q u d rs a e ob ids res ro):ag4 P np Q f u d rs a e ob as l true ids po:=
 ⟨res,ro,h,g,b,(λ h=>by cases h),c⟩
theorem b9 {P:Program} {np:Nat} {Q:Ex->St->Prop} {a:List Item} {e:Env} {ob:Obs} {f:FuncId} {u:Nat} {rs:List PR} {as as':List AV} {l:List Nat} {b:Bool} {ids:List Nat} {po:List Ob} (has:as=as') (h:ag4 P np Q f u d rs a e ob as' l b ids po):ag4 P np Q f u d rs a e ob as l b ids po:=has▸h
theorem aqp {P:Program} {np:Nat} {Q:Ex->St->Prop} {a:List Item} {e:Env} {ob:Obs} {f:FuncId} {u:Nat} {rs:List PR} {as:List AV} {l:List Nat} {ids:List Nat} {po:List Ob} {res:AV} {ro:List Ob}
 (h:b5 P f as po res ro) (g:okC u ids ro.length l false=true) (b:d8 po ro) (i:y7 res) (j:∀o∈ro,ll o) (c:aft P np Q u d rs a e ob ids res ro):ag4 P np Q f u d rs a e ob as l false ids po:=
 ⟨res,ro,h,g,b,λ _=>⟨i,j⟩,c⟩
theorem td (u:Nat) (d:Option Nat) (rs:List PR) (ids:List Nat) (res:AV) (ro:List Ob):aft P np Q u d rs is e ob ids res ro=z7 P np Q rs is (n6 d (imV (back ob u ids ro.length) res) e) (aq ob u ids (back ob u ids ro.length) 0 ro):=(rfl)
theorem ix (x:Opd) (a b:PC):run P np Q (.c (.cond x a b)::is) ⟨e,ob⟩=cnd P np Q (x.ev e) a b is ⟨e,ob⟩:=by
 rw [run,W]; unfold cnd; split
 ·simp only [*,run]; exact propext ⟨λ h=>⟨h⟩,λ h=>h.out⟩
 simp [*]
theorem jp (a b:PC):cnd P np Q (.r (.v (.bool true))) a b is s=run P np Q (.c a::is) s:=propext ⟨λ h=>h.out.1 rfl,λ h=>⟨λ _=>h,λ h=>by cases h⟩⟩
theorem gc (a b:PC):cnd P np Q (.r (.v (.bool false))) a b is s=run P np Q (.c b::is) s:=propext ⟨λ h=>h.out.2 rfl,λ h=>⟨(λ h=>by cases h),λ _=>h⟩⟩
theorem c7 {P:Program} {np:Nat} {Q:Ex->St->Prop} {d:List Item} {s:St} {c:Bool} {a b:PC} (e:c=true->run P np Q (.c a::d) s) (f:c=false->run P np Q (.c b::d) s):cnd P np Q (.r (.v (.bool c))) a b d s:=⟨⟨e,f⟩⟩
theorem ez (id:Nat) (c:PC):run P np Q (.c (.block id c)::is) s=run P np Q (.c c :: .blk id::is) s:=by
 rw [run,W,run];congr 1;funext x s;cases x with
 | nor=>simp only [run]
 | ex i=>simp only [unw]
 | rt=>simp [unw]
theorem iw (i:Nat):run P np Q (.c (.exit i)::is) s=unw P np Q is (.ex i) s:=by rw [run]; rfl
theorem nf:run P np Q (.c .ret::is) s=unw P np Q is .rt s:=by rw [run]; rfl
theorem nl (i:Nat):run P np Q (.blk i::is) s=run P np Q is s:=by rw [run]
theorem ri (l:List (Nat×Bool)) (D:List AV->List Ob->List Ob->Prop):run P np Q (.lp l D::is) s=vk np l s D:=by rw [run]
theorem mq (x:Ex):unw P np Q [] x s=Q x s:=by unfold unw; rfl
theorem mt (i j:Nat):unw P np Q (.blk j::is) (.ex i) s=if i=j then run P np Q is s else unw P np Q is (.ex i) s:=by rw [unw]
theorem cp (j:Nat):unw P np Q (.blk j::is) .rt s=unw P np Q is .rt s:=by simp [unw]
theorem xe (c:PC) (x:Ex):unw P np Q (.c c::is) x s=unw P np Q is x s:=by cases x<;>simp [unw]
theorem re (l:List (Nat×Bool)) (D:List AV->List Ob->List Ob->Prop) (x:Ex):unw P np Q (.lp l D::is) x s=unw P np Q is x s:=by cases x<;>simp [unw]
theorem nj (S:Env->Obs->Prop):run P np Q (.cut S::is) ⟨e,ob⟩=S e ob:=by rw [run]
theorem mr (S:Env->Obs->Prop) (x:Ex):unw P np Q (.cut S::is) x s=unw P np Q is x s:=by cases x<;>simp [unw]
theorem up {P:Program} {np:Nat} {Q:Ex->St->Prop} {d:List Item} {s:St} {c:Bool} {a b:PC} (S:Env->Obs->Prop) (g:∀e ob,S e ob->run P np Q d ⟨e,ob⟩)
 (j:c=true->run P np Q (.c a :: .cut S::d) s) (k:c=false->run P np Q (.c b :: .cut S::d) s):cnd P np Q (.r (.v (.bool c))) a b d s:=by
 have f:∀a,run P np Q (.c a :: .cut S::d) s->run P np Q (.c a::d) s:=λ a h=>by
  rw [run] at h |-;refine ay6 (λ x s h=>?_) h;cases x with
  | nor=>simp only [run] at h; exact g _ _ h
  | ex i=>simp only [unw] at h; exact h
  | rt=>simp only [unw] at h; exact h
 exact ⟨⟨λ h=>f a (j h),λ h=>f b (k h)⟩⟩
theorem c9 {P:Program} {np:Nat} {Q:Ex->St->Prop} {g:List Item} {s:St} {c:PC} (live:List (Nat×Bool)) (I:List AV->List Ob->List Ob->Prop) (m:List AV->List Ob->List Ob->Nat) (k:(live.all λ p=>decide (p.1<100000))=true) (j:vk np live s I)
 (h:∀vs pos a,I vs pos a->run P np Q (.c c :: .lp live (λ f d b=>I f d b/\m f d b<m vs pos a)::g) (ae2 live vs pos a)):run P np Q (.c (.loop c)::g) s:=by
 rw [run,W];refine ⟨live,I,m,k,j,λ vs pos a i=>?_⟩;have:=h vs pos a i;rw [run] at this;refine cast (congrArg (λ K=>W P np c K (ae2 live vs pos a)) ?_) this;funext x e;cases x<;>simp only [run,unw]
theorem aku {P:Program} {np:Nat} {Q:Ex->St->Prop} {s:St} {c:PC} (h:run P np Q [.c c] s):W P np c Q s:=by
 rw [run] at h;refine cast (congrArg (λ K=>W P np c K s) ?_) h;funext x e;cases x<;>simp only [run,unw]
theorem oo (rs:List RSl) (D:AV->List Ob->Prop) (e:Env) (ob:Obs):afq np rs D .rt ⟨e,ob⟩=opn np (rs.map λ p=>(p.1,p.2.1)) D rs e ob:=(rfl)
theorem jv (rs:List RSl) (D:AV->List Ob->Prop) (e:Env) (ob:Obs):afq np rs D .nor ⟨e,ob⟩=opn np (rs.map λ p=>(p.1,p.2.1)) D rs e ob:=(rfl)
theorem nt (a:List (Nat×Bool)) (D:AV->List Ob->Prop) (e:Env) (ob:Obs):opn np a D [] e ob=akd np a ⟨e,ob⟩ D:=(rfl)
theorem nr (c:List (Nat×Bool)) (D:AV->List Ob->Prop) (a:Nat) (b:Bool) (r:List RSl) (e:Env) (ob:Obs):opn np c D ((a,b,none)::r) e ob=opn np c D r e ob:=(rfl)
def opf (np:Nat) (b:List (Nat×Bool)) (D:AV->List Ob->Prop) (a:Nat) (r:List RSl) (e:Env) (ob:Obs) (R:Rs):Prop:=R.ok/\opn np b D r (put a R.v e) ob
theorem ja (c:List (Nat×Bool)) (D:AV->List Ob->Prop) (a:Nat) (b:Bool) (t:TypeId) (n:Option Nat) (r:List RSl) (e:Env) (ob:Obs):opn np c D ((a,b,some (t,n))::r) e ob=opf np c D a r e ob (ld1 true n (e a) ob):=(rfl)
theorem rr (b:List (Nat×Bool)) (D:AV->List Ob->Prop) (a:Nat) (r:List RSl) (e:Env) (ob:Obs) (p:Prop) (v:AV) (ob':Obs) (rd c:List Nat):opf np b D a r e ob ⟨p,v,ob',rd,c⟩=(p/\opn np b D r (put a v e) ob):=(rfl)
end
def ug (P:Program) (np:Nat) (Q:Ex->St->Prop) (b:List (List Nat)) (rs:List PR) (a:List Lg) (c:List Item) (e:Env) (ob:Obs):Prop:=wpD P rs a ⟨e,ob⟩ λ a s=>mg b a=true/\run P np Q c s
def aae (P:Program) (np:Nat) (Q:Ex->St->Prop) (b:List (List Nat)) (d:Option Nat) (g:Option (Nat×Bool)) (u:Nat) (x:PX) (rs:List PR) (a:List Lg) (f:List Item) (e:Env) (ob:Obs) (y:Option Bool):Prop:=
 ∃c:Ans,(x.out P ⟨d,g,u,x⟩ ⟨e,ob⟩ c y).ok/\wpD P rs (a++[(x.out P ⟨d,g,u,x⟩ ⟨e,ob⟩ c y).lg]) (x.out P ⟨d,g,u,x⟩ ⟨e,ob⟩ c y).st λ a s=>mg b a=true/\run P np Q f s
def ayj (P:Program) (np:Nat) (Q:Ex->St->Prop) (c:List (List Nat)) (r:PR) (b:Bool) (rs:List PR) (a:List Lg) (f:List Item) (e:Env) (ob:Obs) (R:Rs):Prop:=
 R.ok/\ug P np Q c rs (a++[r.lg R.rd []]) f (n6 r.d (gdv r.g b R.v) e) ob
def atk (P:Program) (np:Nat) (Q:Ex->St->Prop) (b:List (List Nat)) (r:PR) (rs:List PR) (a:List Lg) (c:List Item) (e:Env) (R:Rs):Prop:=
 R.ok/\ug P np Q b rs (a++[r.lg R.rd R.wr]) c (n6 r.d R.v e) R.ob
def dcA (P:Program) (np:Nat) (Q:Ex->St->Prop) (d:List (List Nat)) (r:PR) (f:FuncId) (p:Prop) (rs:List PR) (b:List Lg) (g:List Item) (e:Env) (ob:Obs) (a:List AV×List Nat×Bool):Prop:=
 ∃c:Ans,(y6 P r ⟨e,ob⟩ f p c a).ok/\wpD P rs (b++[(y6 P r ⟨e,ob⟩ f p c a).lg]) (y6 P r ⟨e,ob⟩ f p c a).st λ b s=>mg d b=true/\run P np Q g s
def dcX (P:Program) (np:Nat) (Q:Ex->St->Prop) (b:List (List Nat)) (r:PR) (p:Prop) (rs:List PR) (a:List Lg) (d:List Item) (e:Env) (ob:Obs) (vs:List AV) (y:AV):Prop:=
 ∃c:Ans,(sr P r ⟨e,ob⟩ p c vs y).ok/\wpD P rs (a++[(sr P r ⟨e,ob⟩ p c vs y).lg]) (sr P r ⟨e,ob⟩ p c vs y).st λ a s=>mg b a=true/\run P np Q d s
def dcI (P:Program) (np:Nat) (Q:Ex->St->Prop) (b:List (List Nat)) (r:PR) (tbl:List (TypeId×FuncId)) (p:Prop) (rs:List PR) (a:List Lg) (d:List Item) (e:Env) (ob:Obs) (vs:List AV) (y:AV):Prop:=
 ∃c:Ans,(oi P r ⟨e,ob⟩ tbl p c vs y).ok/\wpD P rs (a++[(oi P r ⟨e,ob⟩ tbl p c vs y).lg]) (oi P r ⟨e,ob⟩ tbl p c vs y).st λ a s=>mg b a=true/\run P np Q d s
def ayo (P:Program) (np:Nat) (Q:Ex->St->Prop) (b:List (List Nat)) (r:PR) (p:Prop) (rs:List PR) (a:List Lg) (c:List Item) (e:Env) (ob:Obs) (vs:List AV) (y:AV):Option FuncId->Prop
 | some f=>dcA P np Q b r f p rs a c e ob (ai (y::vs) (m5 ob (y::vs)))
 | none=>False
def dcB (P:Program) (np:Nat) (Q:Ex->St->Prop) (d:List (List Nat)) (r:PR) (f:FuncId) (p:Prop) (rs:List PR) (a:List Lg) (g:List Item) (e:Env) (ob:Obs) (as:List AV) (l:List Nat) (b:Bool) (ids:List Nat):Prop:=
 ∃c:Ans,(aa7 P r ⟨e,ob⟩ f p c as l b ids (s7 (fwd ob ids) ob ids)).ok/\wpD P rs (a++[(aa7 P r ⟨e,ob⟩ f p c as l b ids (s7 (fwd ob ids) ob ids)).lg]) (aa7 P r ⟨e,ob⟩ f p c as l b ids (s7 (fwd ob ids) ob ids)).st λ a s=>mg d a=true/\run P np Q g s
def ast (P:Program) (np:Nat) (Q:Ex->St->Prop) (b:List (List Nat)) (r:PR) (rs:List PR) (a:List Lg) (c:List Item) (e:Env) (ob:Obs) (l:List Nat) (ids:List Nat) (res:AV) (ro:List Ob):Prop:=
 ug P np Q b rs (a++[r.lg (l++(ids++bh r.u ids ro.length)) (bh r.u ids ro.length)]) c (n6 r.d (imV (back ob r.u ids ro.length) res) e) (aq ob r.u ids (back ob r.u ids ro.length) 0 ro)
def dcP (P:Program) (np:Nat) (Q:Ex->St->Prop) (b:List (List Nat)) (r:PR) (f:FuncId) (rs:List PR) (a:List Lg) (d:List Item) (e:Env) (ob:Obs) (as:List AV) (l:List Nat) (c:Bool) (ids:List Nat) (po:List Ob):Prop:=
 ∃(res:AV) (ro:List Ob),b5 P f as po res ro/\okC r.u ids ro.length l c=true/\d8 po ro/\(c=false->y7 res/\∀o∈ro,ll o)/\ast P np Q b r rs a d e ob l ids res ro
def dcC (P:Program) (np:Nat) (Q:Ex->St->Prop) (b:List (List Nat)) (r:PR) (f:FuncId) (p:Prop) (rs:List PR) (a:List Lg) (c:List Item) (e:Env) (ob:Obs) (as:List AV) (l:List Nat) (d:Bool) (ids:List Nat):Option (List Ob)->Prop
 | some po=>p/\dcP P np Q b r f rs a c e ob as l d ids po
 | none=>False
section
variable (P:Program) (np:Nat) (Q:Ex->St->Prop) (pre:List (List Nat)) (log:List Lg) (is:List Item) (e:Env) (ob:Obs) (rs:List PR)
theorem ni (a:List PR):run P np Q (.c (.drw a pre)::is) ⟨e,ob⟩=ug P np Q pre a [] is e ob:=by rw [run]; rfl
theorem iz:ug P np Q pre [] log is e ob=(mg pre log=true/\run P np Q is ⟨e,ob⟩):=(rfl)
theorem ff (d:Option Nat) (g:Option (Nat×Bool)) (u:Nat) (x:PX):ug P np Q pre (⟨d,g,u,x⟩::rs) log is e ob=aae P np Q pre d g u x rs log is e ob (yes e g):=(rfl)
theorem jg (d:Option Nat) (g:Option (Nat×Bool)) (u:Nat) (o:PO) (b:Bool):aae P np Q pre d g u (.see o) rs log is e ob (some b)=ayj P np Q pre ⟨d,g,u,.see o⟩ b rs log is e ob (o.see b e ob):=propext ⟨λ ⟨_,h⟩=>h,λ h=>⟨(.undef,[]),h⟩⟩
theorem oc (r:PR) (b:Bool) (p:Prop) (v:AV) (ob':Obs) (rd a:List Nat):ayj P np Q pre r b rs log is e ob ⟨p,v,ob',rd,a⟩=(p/\ug P np Q pre rs (log++[r.lg rd []]) is (n6 r.d (gdv r.g b v) e) ob):=(rfl)
theorem ji (d:Option Nat) (g:Option (Nat×Bool)) (u:Nat) (o:PO):aae P np Q pre d g u (.act o) rs log is e ob (some true)=atk P np Q pre ⟨d,g,u,.act o⟩ rs log is e (o.act (d.getD 0) e ob):=propext ⟨λ ⟨_,h⟩=>h,λ h=>⟨(.undef,[]),h⟩⟩
theorem jm (r:PR) (p:Prop) (v:AV) (ob':Obs) (rd a:List Nat):atk P np Q pre r rs log is e ⟨p,v,ob',rd,a⟩=(p/\ug P np Q pre rs (log++[r.lg rd a]) is (n6 r.d v e) ob'):=(rfl)
theorem bv (d:Option Nat) (g:Option (Nat×Bool)) (u:Nat) (o:PO):aae P np Q pre d g u (.act o) rs log is e ob (some false)=ug P np Q pre rs (log++[PR.lg ⟨d,g,u,.act o⟩ [] []]) is (n6 d .undef e) ob:=propext ⟨λ ⟨_,_,h⟩=>h,λ h=>⟨(.undef,[]),trivial,h⟩⟩
theorem az (d:Option Nat) (g:Option (Nat×Bool)) (u:Nat) (f:FuncId) (xs:List Opd):aae P np Q pre d g u (.call f xs) rs log is e ob (some false)=ug P np Q pre rs (log++[PR.lg ⟨d,g,u,.call f xs⟩ [] []]) is (n6 d .undef e) ob:=propext ⟨λ ⟨_,_,h⟩=>h,λ h=>⟨(.undef,[]),trivial,h⟩⟩
theorem fv (d:Option Nat) (g:Option (Nat×Bool)) (u:Nat) (f:FuncId) (xs:List Opd):aae P np Q pre d g u (.call f xs) rs log is e ob (some true)=dcA P np Q pre ⟨d,g,u,.call f xs⟩ f (ah true e xs) rs log is e ob (ai (l5 e xs) (m5 ob (l5 e xs))):=(rfl)
theorem dh (d:Option Nat) (g:Option (Nat×Bool)) (u:Nat) (x:Opd) (xs:List Opd):aae P np Q pre d g u (.callv x xs) rs log is e ob (some true)=dcX P np Q pre ⟨d,g,u,.callv x xs⟩ ((x.ev e).may true/\ah true e xs) rs log is e ob (l5 e xs) (x.ev e).bare:=(rfl)
theorem jh (d:Option Nat) (g:Option (Nat×Bool)) (u:Nat) (tbl:List (TypeId×FuncId)) (x:Opd) (xs:List Opd):aae P np Q pre d g u (.inv tbl x xs) rs log is e ob (some true)=dcI P np Q pre ⟨d,g,u,.inv tbl x xs⟩ tbl ((x.ev e).may true/\ah true e xs) rs log is e ob (l5 e xs) (x.ev e).bare:=(rfl)
theorem od (r:PR) (tbl:List (TypeId×FuncId)) (p:Prop) (vs:List AV) (t:TypeId) (y:AV):dcI P np Q pre r tbl p rs log is e ob vs (.ifc t y)=ayo P np Q pre r p rs log is e ob vs y (bi t tbl):=by
 unfold dcI;simp only [oi];generalize bi t tbl=q;cases q with
 | some f=>rfl
 | none=>exact propext ⟨λ ⟨_,h,_⟩=>h.elim,λ h=>h.elim⟩
theorem fw (r:PR) (p:Prop) (vs:List AV) (y:AV) (f:FuncId):ayo P np Q pre r p rs log is e ob vs y (some f)=dcA P np Q pre r f p rs log is e ob (ai (y::vs) (m5 ob (y::vs))):=(rfl)
theorem bt (d:Option Nat) (g:Option (Nat×Bool)) (u:Nat) (tbl:List (TypeId×FuncId)) (x:Opd) (xs:List Opd):aae P np Q pre d g u (.inv tbl x xs) rs log is e ob (some false)=ug P np Q pre rs (log++[PR.lg ⟨d,g,u,.inv tbl x xs⟩ [] []]) is (n6 d .undef e) ob:=propext ⟨λ ⟨_,_,h⟩=>h,λ h=>⟨(.undef,[]),trivial,h⟩⟩
theorem sk (r:PR) (p:Prop) (vs:List AV) (f:FuncId) (cap:List AV) (k:Nat):dcX P np Q pre r p rs log is e ob vs (.fn (.func f) cap k)=dcA P np Q pre r f (p/\yo P f=true) rs log is e ob (ai (cap.take k++(vs++cap.drop k)) (m5 ob (cap.take k++(vs++cap.drop k)))):=(rfl)
theorem af (d:Option Nat) (g:Option (Nat×Bool)) (u:Nat) (x:Opd) (xs:List Opd):aae P np Q pre d g u (.callv x xs) rs log is e ob (some false)=ug P np Q pre rs (log++[PR.lg ⟨d,g,u,.callv x xs⟩ [] []]) is (n6 d .undef e) ob:=propext ⟨λ ⟨_,_,h⟩=>h,λ h=>⟨(.undef,[]),trivial,h⟩⟩
theorem jl (r:PR) (f:FuncId) (p:Prop) (as:List AV) (l:List Nat) (a:Bool):dcA P np Q pre r f p rs log is e ob (as,l,a)=dcB P np Q pre r f p rs log is e ob as l a (o5 ob 64 (l8 as) []):=(rfl)
theorem sn (r:PR) (f:FuncId) (p:Prop) (as:List AV) (l:List Nat) (k:Bool) (ids:List Nat):dcB P np Q pre r f p rs log is e ob as l k ids=dcC P np Q pre r f p rs log is e ob (imL (fwd ob ids) as) l k ids (s7 (fwd ob ids) ob ids):=by
 unfold dcB;generalize s7 (fwd ob ids) ob ids=po;cases po with
 | none=>exact propext ⟨λ ⟨_,h,_⟩=>h.elim,λ h=>h.elim⟩
 | some po=>exact propext ⟨λ ⟨c,⟨i,b,j,a,d⟩,g⟩=>⟨i,c.1,c.2,b,j,a,d,g⟩,λ ⟨i,r,o,b,j,a,d,g⟩=>⟨(r,o),⟨i,b,j,a,d⟩,g⟩⟩
theorem jk (r:PR) (f:FuncId) (p:Prop) (as:List AV) (l:List Nat) (a:Bool) (ids:List Nat) (po:List Ob):dcC P np Q pre r f p rs log is e ob as l a ids (some po)=(p/\dcP P np Q pre r f rs log is e ob as l a ids po):=(rfl)
theorem ol (r:PR) (l ids:List Nat) (res:AV) (ro:List Ob):ast P np Q pre r rs log is e ob l ids res ro=ug P np Q pre rs (log++[r.lg (l++(ids++bh r.u ids ro.length)) (bh r.u ids ro.length)]) is (n6 r.d (imV (back ob r.u ids ro.length) res) e) (aq ob r.u ids (back ob r.u ids ro.length) 0 ro):=(rfl)
end
variable {l ids:List Nat} {po ro:List Ob} {res:AV} {as:List AV}
theorem d9 {P:Program} {np:Nat} {Q:Ex->St->Prop} {b:List (List Nat)} {r:PR} {f:FuncId} {rs:List PR} {a:List Lg} {c:List Item} {e:Env} {ob:Obs}
 (h:b5 P f as po res ro) (d:okC r.u ids ro.length l true=true) (g:d8 po ro) (i:ast P np Q b r rs a c e ob l ids res ro):dcP P np Q b r f rs a c e ob as l true ids po:=
 ⟨res,ro,h,d,g,(λ h=>by cases h),i⟩
theorem x8 {P:Program} {np:Nat} {Q:Ex->St->Prop} {b:List (List Nat)} {r:PR} {f:FuncId} {rs:List PR} {a:List Lg} {c:List Item} {e:Env} {ob:Obs} {as':List AV} {d:Bool} (has:as=as') (h:dcP P np Q b r f rs a c e ob as' l d ids po):dcP P np Q b r f rs a c e ob as l d ids po:=has▸h
theorem rj (d:Nat) (x:AV) (e:Env) (n:Nat):put d x e n=if n=d then x else e n:=(rfl)
theorem rc (i:Nat) (x:Nat×Ob) (ob:Obs) (n:Nat):upd i x ob n=if n=i then some x else ob n:=(rfl)
theorem fh (d:Nat) (x:AV) (e:Env):n6 (some d) x e=put d x e:=(rfl)
theorem fj (x:AV) (e:Env):n6 none x e=e:=(rfl)
theorem xu (e:Env) (n:Nat):(Opd.t n).ev e=e n:=(rfl)
theorem xw (e:Env) (x:AV):(Opd.c x).ev e=x:=(rfl)
theorem xo (b:Bool) (x:AV):gdv none b x=x:=(rfl)
theorem xn (g:Nat×Bool) (b:Bool) (x:AV):gdv (some g) b x=.gd b x:=(rfl)
section
variable (np:Nat) (live:List (Nat×Bool)) (e:Env) (ob:Obs)
theorem gj (D:List AV->List Ob->List Ob->Prop):vk np live ⟨e,ob⟩ D=ajr D (nrm 64 np 2000000 (s9 e live ob).1 (s9 e live ob).2):=(rfl)
theorem fm (D:List AV->List Ob->List Ob->Prop) (vs:List AV) (pos a:List Ob):ajr D (some (vs,pos,a))=D vs pos a:=(rfl)
def aaa (np lb:Nat) (vs:List AV) (ob:Obs) (ids:List Nat):Option (List AV×List Ob×List Ob):=match me (qf np lb ob ids) ob (aj np np),me (qf np lb ob ids) ob ids with
 | some pos,some los=>some (imL (qf np lb ob ids) vs,pos,los)
 | _,_=>none
theorem sa (a lb:Nat) (vs:List AV):nrm a np lb vs ob=aaa np lb vs ob (ij np (o5 ob a (l8 vs++aj np np) [])):=(rfl)
theorem mz (vs:List AV) (pos a:List Ob):ae2 live vs pos a=⟨keep live vs,z8 1000000 pos (z8 2000000 a λ _=>none)⟩:=(rfl)
theorem oa (rs:List (Nat×Bool)) (D:AV->List Ob->Prop):akd np rs ⟨e,ob⟩ D=ait np (s9 e rs ob).2 D (pa (s9 e rs ob).2 (s9 e rs ob).1):=(rfl)
def atj (D:AV->List Ob->Prop):Option (List AV×List Ob×List Ob)->Prop
 | some (vs,pos,los)=>D (nn vs) (pos++los)
 | none=>False
theorem de (D:AV->List Ob->Prop) (vs:List AV) (l:List Nat):ait np ob D (some (vs,l))=atj D (nrm 64 np (1000000+np) vs (freeze ob l)):=by
 show ajr _ _ = _;generalize nrm 64 np (1000000+np) vs (freeze ob l)=y;rcases y with _ | ⟨_,_,_⟩<;>rfl
theorem db (D:AV->List Ob->Prop) (vs:List AV) (pos a:List Ob):atj D (some (vs,pos,a))=D (nn vs) (pos++a):=(rfl)
end
variable {α:Type}
theorem jt (a b:α):(bif true then a else b)=a:=(rfl)
theorem gh (a b:α):(bif false then a else b)=b:=(rfl)

section
variable (P:Program)
def mU (t:TypeId):TypeDesc:=match P.underlying t with
 | some d=>d
 | none=>.invalid
def mS (t:TypeId):Nat:=match P.info? t with
 | some i=>i.size
 | none=>0
def mY (t:TypeId):Nat:=match P.info? t with
 | some i=>i.bytes
 | none=>0
def mZ (t:TypeId):Value:=match P.info? t with
 | some i=>match i.zero with
   | some v=>v
   | none=>.bool false
 | none=>.bool false
def mE (t:TypeId):TypeId:=match mU P t with
 | .slice e=>e
 | .array _ e=>e
 | .map _ e=>e
 | _=>0
def axz:Nat->List TypeId->List TypeId
 | 0,_=>[]
 | n+1,l=>l++axz n l
def mT:Nat->TypeId->List TypeId
 | 0,t=>[t]
 | n+1,t=>match mU P t with
   | .struct fs=>fs.toList.flatMap λ f=>mT n f.type
   | .array k e=>axz k (mT n e)
   | _=>[t]
def mV1 (t:TypeId):Value->RV
 | .slice _ _ _=>.sl (match mU P t with | .slice e=>mS P e | _=>1) []
 | v=>.v v
def mV (t:TypeId):RV:=match mZ P t with
 | .agg cs=>.agg (List.zipWith (mV1 P) (mT P 5 t) cs.toList)
 | v=>mV1 P t v
def mA1 (t:TypeId):Value->AV
 | .slice _ _ _=>match mU P t with
   | .slice e=>.nils (mS P e) (mV P e)
   | _=>.nils 1 (.v (.bool false))
 | v=>.r (.v v)
def mA (t:TypeId):List AV:=match mZ P t with
 | .agg cs=>List.zipWith (mA1 P) (mT P 5 t) cs.toList
 | v=>[mA1 P t v]
def mO (t:TypeId):Operand->Opd
 | .tmp n=>.t n
 | .const v=>.c (mA1 P t v)
 | .func f=>.c (.fn (.func f) [])
 | .global _=>.t 0
def mQ (x:Operand):Opd:=match x with
 | .tmp n=>.t n
 | .const (.slice _ _ _)=>.c (.nils 1 (.v (.bool false)))
 | .const v=>.c (.r (.v v))
 | .func f=>.c (.fn (.func f) [])
 | .global _=>.t 0
def mP (x:Option Operand):Option Opd:=match x with
 | none=>none
 | some x=>some (mQ x)
def mG (t:TypeId):Option Nat:=match mU P t with
 | .struct _=>some (mS P t)
 | .array _ _=>some (mS P t)
 | _=>none
def mK (t:TypeId):Bool:=match mU P t with
 | .map k _=>match mU P k with
   | .string=>true
   | _=>false
 | _=>false
def mKd (t:TypeId):Nat:=match mU P t with
 | .int _=>0
 | .bool=>1
 | _=>2
def mNe:BinOp->Bool
 | .neq=>true
 | _=>false
def a0r (op:BinOp) (t:TypeId) (x y:Operand):PO:=match mU P t with
 | .bool=>.beq (mNe op) (mQ x) (mQ y)
 | .pointer _=>.eqn (mNe op) (mQ x)
 | .struct _=>.eqa (mNe op) ((mT P 5 t).map (mKd P)) (mQ x) (mQ y)
 | .array _ _=>.eqa (mNe op) ((mT P 5 t).map (mKd P)) (mQ x) (mQ y)
 | _=>.bin op (mQ x) (mQ y)
def azz (t:TypeId) (p:Nat×Operand):Nat×Nat×Opd:=match mU P t with
 | .struct fs=>match fs.toList[p.1]? with
   | some f=>(f.offset,mS P f.type,mO P f.type p.2)
   | none=>(0,0,mQ p.2)
 | _=>(p.1*mS P (mE P t),mS P (mE P t),mO P (mE P t) p.2)
def mTl (l:List TypeId) (i:Nat):TypeId:=match l[i]? with
 | some t=>t
 | none=>0
def a0q (b:Builtin) (t:TypeId) (a:List TypeId) (xs:List Operand):PX:=match b,xs with
 | .len,[x]=>match mU P (mTl a 0) with
   | .map _ _=>.see (.lenm (mQ x))
   | .string=>.see (.len true (mQ x))
   | _=>.see (.len false (mQ x))
 | .clear,[x]=>.act (.clr (mS P (mE P (mTl a 0))) (mV P (mE P (mTl a 0))) (mO P (mTl a 0) x))
 | .delete,[x,y]=>.act (.mdel (mK P (mTl a 0)) (mQ x) (mQ y))
 | .append,[x,y]=>.act (.app (mS P (mE P t)) (mV P (mE P t)) (mY P (mE P t)) (mO P t x) (mO P t y))
 | .copy,[x,y]=>match mU P (mTl a 1) with
   | .string=>.act (.cps (mO P (mTl a 0) x) (mO P (mTl a 1) y))
   | _=>.act (.cpy (mS P (mE P (mTl a 0))) (mO P (mTl a 0) x) (mO P (mTl a 1) y))
 | .min,x::ys=>.see (.mm false (mQ x) (ys.map mQ))
 | .max,x::ys=>.see (.mm true (mQ x) (ys.map mQ))
 | _,_=>.see .no
def mX (o:Oper):PX:=match o.op with
 | .move x=>.see (.mov (mO P o.type x))
 | .assign x=>.see (.mov (mO P o.type x))
 | .pick c a b=>.see (.pick (mO P o.type c) (mO P o.type a) (mO P o.type b))
 | .binOp op t x y _=>.see (a0r P op t x y)
 | .unOp op _ x=>.see (.un op (mQ x))
 | .convert a b x=>match mU P a,mU P b with
   | .int _,.int k=>.see (.conv k (mQ x))
   | .slice _,.string=>.see (.toStr (mQ x))
   | .string,.slice e=>.act (.toBytes (mV P e) (mQ x))
   | _,_=>.act (.mrk (mQ x))
 | .indexAddr t x i=>match mU P t with
   | .array n e=>.see (.iaa n (mS P e) (mQ x) (mQ i))
   | _=>.see (.ia (mS P (mE P t)) (mV P (mE P t)) (mQ x) (mQ i))
 | .index _ x i=>.see (.ixs (mQ x) (mQ i))
 | .load t x=>.see (.ld (mG P t) (mQ x))
 | .store t x y=>.act (.st (mS P t) (mQ x) (mO P t y))
 | .nilCheck x=>.see (.nck (mQ x))
 | .fieldAddr t x f=>match mU P t with
   | .struct fs=>match fs.toList[f]? with
     | some d=>.see (.fa d.offset (mQ x))
     | none=>.see .no
   | _=>.see .no
 | .field t x f=>match mU P t with
   | .struct fs=>match fs.toList[f]? with
     | some d=>.see (.fld d.offset (mG P d.type) (mQ x))
     | none=>.see .no
   | _=>.see .no
 | .slice t x lo hi mx=>match mU P t with
   | .string=>.see (.sls (mQ x) (mP lo) (mP hi))
   | .array n _=>.see (.sla n (mQ x))
   | _=>.see (.sll (mS P (mE P t)) (mO P t x) (mP lo) (mP hi) (mP mx))
 | .extract x i=>.see (.ext (mQ x) i)
 | .alloc t=>.act (.new (mA P t))
 | .box t x=>.act (.box (mO P t x))
 | .build t ps=>.see (.build (mA P t) (ps.toList.map (azz P t)))
 | .buildSlice t _ ps=>.act (.bsl (mS P (mE P t)) (mV P (mE P t)) (ps.toList.map λ p=>mO P (mE P t) p.2))
 | .makeSlice t l c=>.act (.mks (mS P (mE P t)) (mV P (mE P t)) (mY P (mE P t)) (mQ l) (mQ c))
 | .makeFunc f xs ys=>.see (.mkf f ((xs.toList++ys.toList).map mQ) xs.size)
 | .lookup t x i c=>.see (.lkp (mK P t) (mV P (mE P t)) c (mQ x) (mQ i))
 | .makeInterface t x=>.see (.mki t (mO P t x))
 | .typeAssert x _ t c=>.see (.tas t (mV P t) c (mQ x))
 | .entry x=>.see (.ent (mQ x))
 | .makeMap _ _=>.act .mkm
 | .mapEntry t x i=>.act (.ment (mK P t) (mV P (mE P t)) (mQ x) (mQ i))
 | .entryStore t x i y=>.act (.mest (mQ x) (mQ i) (mO P (mE P t) y))
 | .mapUpdate t x i y=>.act (.mset (mK P t) (mQ x) (mQ i) (mO P (mE P t) y))
 | .range _ x=>.act (.rng (mQ x))
 | .next x _=>.nxt (mQ x)
 | .call c=>match c.callee with
   | .builtin b=>a0q P b o.type c.argTypes.toList c.args.toList
   | .value (.func f)=>.call f (c.args.toList.map mQ)
   | .value x=>.callv (mQ x) (c.args.toList.map mQ)
   | .invoke _ _=>.see .no
 | _=>.see .no
def mC1 (o:Op):Nat:=match o with
 | .call c=>match c.callee with
   | .builtin _=>0
   | _=>1
 | _=>0
def mCs:List Oper->Nat
 | []=>0
 | o::os=>mC1 o.op+mCs os
def mCc:Code->Nat
 | .region _ ops _=>mCs ops.toList
 | .seq a b=>mCc a+mCc b
 | .cond _ a b=>mCc a+mCc b
 | .block _ c=>mCc c
 | .loop c=>mCc c
 | _=>0
def mGd (a:List Oper):Option (Nat×Bool)->Option (Nat×Bool)
 | none=>none
 | some (j,b)=>match a[j]? with
   | some o=>match o.dst with
     | some d=>some (d,b)
     | none=>none
   | none=>none
def mRs (a:List Oper):Nat->List Oper->List PR
 | _,[]=>[]
 | u,o::os=>match mC1 o.op with
   | 0=>⟨o.dst,mGd a o.guard,0,mX P o⟩::mRs a u os
   | _=>⟨o.dst,mGd a o.guard,u+1,mX P o⟩::mRs a (u+1) os
def mIn (x:Nat):List Nat->List Nat
 | []=>[x]
 | y::l=>match Nat.beq x y with
   | true=>y::l
   | false=>match Nat.ble x y with
     | true=>x::y::l
     | false=>y::mIn x l
def agj (a:List (List Nat)):List Edge->List Nat
 | []=>[]
 | e::es=>match e.ground with
   | .textOnly _=>agj a es
   | .gcOnly _=>agj a es
   | _=>(e.on::(match a[e.on]? with | some l=>l | none=>[])).foldr mIn (agj a es)
def axy (a:List (List Nat)):List Oper->List (List Nat)
 | []=>a
 | o::os=>axy (a++[agj a o.after.toList]) os
def mkC:Nat->Code->PC
 | u,.region _ ops d=>match d with
   | true=>.drw (mRs P ops.toList u ops.toList) (axy [] ops.toList)
   | false=>.reg (mRs P ops.toList u ops.toList)
 | u,.seq a b=>.seq (mkC u a) (mkC (u+mCc a) b)
 | u,.cond x a b=>.cond (mQ x) (mkC u a) (mkC (u+mCc a) b)
 | u,.block i c=>.block i (mkC u c)
 | u,.loop c=>.loop (mkC u c)
 | _,.exit i=>.exit i
 | _,.ret=>.ret
 | _,_=>.skip
end
def mR (P:Program) (f:Func):List RSl:=f.results.toList.map λ r=>match r with
 | .tmp t=>(t,false,none)
 | .cell a t=>(a,false,some (t,mG P t))
structure Mk (P:Program) (f:Func) where
 x:List RSl×PC
 h:(mR P f,mkC P 0 (f.body.getD .skip))=x:=by conv=>lhs; reduce; try simp only [Int.reduceOfNat,Int.reduceNegSucc]
def Fun (P:Program) (f k:Nat) (rs:List RSl) (pc:PC):Prop:=
 ∀{args:List AV} {po ro:List Ob} {res:AV},args.length=k->po.length<=1000->run P po.length (afq po.length rs λ v os=>v=res/\os=ro) [.c pc] ⟨ip 0 args,ob0 po⟩->b5 P f args po res ro
variable {f k:Nat} {fn:Func} {pc:PC}
theorem sh {P:Program} {rs:List RSl} (m:P.funcs[f]?=some fn) (l:fn.body=some (fn.body.getD .skip)) (j:fn.ntmps<=100000) (e:il P fn.ntmps (fn.body.getD .skip) pc=true) (n:k<=fn.ntmps)
 (a:fn.results.toList=rs.map RSl.rv) (c:(rs.all λ p=>p.agg P)=true) (i:(rs.all λ p=>decide (p.1<fn.ntmps))=true) (d:(rs.map (·.1)).Nodup):Fun P f k rs pc:=
 λ g b h=>aky m l j e (by rw [g]; exact n) a c i d b (aku h)
def eqR:ResultVar->RSl->Bool
 | .tmp t,(a,_,none)=>t == a
 | .cell a t,(b,_,some (u,_))=>a == b&&t == u
 | _,_=>false
theorem amh:∀{l:List ResultVar} {rs:List RSl},s8 eqR l rs=true->l=rs.map RSl.rv
 | [],[],_=>rfl
 | [],_::_,h=>by cases h
 | _::_,[],h=>by cases h
 | x::l,y::rs,h=>by
   simp only [s8,zaa] at h;rw [zag,<- amh h.2];congr 1;obtain ⟨a,b,c⟩:=y;have d:=h.1;cases x<;>rcases c with _ | ⟨u,v⟩<;>simp [eqR] at d<;>simp [RSl.rv,d]
def ask (P:Program) (fn:Func) (k:Nat) (rs:List RSl) (pc:PC):Bool:=
 fn.body.isSome&&decide (fn.ntmps<=100000)&&il P fn.ntmps (fn.body.getD .skip) pc&&decide (k<=fn.ntmps)&&s8 eqR fn.results.toList rs&&rs.all (λ p=>p.agg P)&&rs.all (λ p=>decide (p.1<fn.ntmps))&&decide (rs.map (·.1)).Nodup
theorem ft {P:Program} (d:P.funcs[f]?=some fn) {rs:List RSl} (h:ask P fn k rs pc=true:=by kernel_rfl):Fun P f k rs pc:=by
 simp only [ask,zaa,decide_eq_true_eq] at h;obtain ⟨⟨⟨⟨⟨⟨⟨a,g⟩,l⟩,e⟩,i⟩,m⟩,b⟩,j⟩:=h;refine sh d ?_ g l e (amh i) m b j;cases hb:fn.body with
 | none=>rw [hb] at a; cases a
 | some c=>rfl
abbrev pg {P:Program} {fn:Func} (f k:Nat) (x:Mk P fn):Prop:=Fun P f k x.1.1 x.1.2
theorem Mk.t {P:Program} (m:Mk P fn) (a:P.funcs[f]?=some fn) {args:List AV} (b:run P po.length (afq po.length m.1.1 λ v os=>v=res/\os=ro) [.c m.1.2] ⟨ip 0 args,ob0 po⟩)
 (d:po.length<=1000:=by first | decide | simp) (h:ask P fn args.length m.1.1 m.1.2=true:=by kernel_rfl):b5 P f args po res ro:=ft a h rfl d b

theorem aso (n:Nat):@Nat.cast Int _ (no_index (OfNat.ofNat n))=OfNat.ofNat n:=rfl
attribute [push_cast high] aso
attribute [push_cast] eq_self iff_self
attribute [push_cast] nj mr mw cr di bw mv jb fk ep jq an nh iu nc ng iy fb mu na my ct ir bq om dk gf jr dj td ix jp gc ez iw nf nl ri mq mt cp xe re oo jv nt nr ja rr ni iz ff jg oc ji jm bv az fv jh bt od fw dh sk af jl sn jk ol bh List.range_zero rj rc fh fj xu xw xo xn gj fm sa aaa mz oa de db bi o3 aw oy se li tz qk pe qj wh ku pz lf lh vx qd ui uo toV tw tx ic bj gp yes yf bad p9 io mmL jd wg eq2 eql AV.isA PO.see PO.act Vs.q Rs.and AV.bare AV.may ur yy yx ut nq un1 oe qi ia2 iab leb uj ldb ldr ld1 sb sj fa1 ul bnd uc ox um src em br l5 ah PO.see.mayO PO.see.bareO i8 n7 ea nv AV.rv rvs AV.elt frz freeze m7 u4 stb str st2 pf par qm uq qc vw y8 dt yn RV.cells AV.cells AV.one RV.one AV.boxable RV.good b7 s9 kp pa wa yk yj lc kq mc AV.isNil nn ip ai m5 dw t9 l8 aac o5 fwd yt rf s7 j7 dm ef back aq imV imL imO idx z8 obs keep aj sg ij qf nu me ux Ob.own Value.oneCell' jt gh true_and and_true and_self true_implies imp_self implies_true Option.getD_some Option.getD_none zai List.length_nil List.length_map zag List.map_nil List.getD_cons_zero List.getD_cons_succ List.take_succ_cons List.take_zero List.drop_succ_cons List.drop_zero List.cons_append List.nil_append List.append_nil List.all_cons List.all_nil Bool.and_true Bool.true_and Bool.false_and Bool.and_self Bool.or_true Bool.true_or Bool.false_or Bool.or_false Bool.not_true Bool.not_false List.contains_cons List.contains_nil List.filter_cons List.filter_nil decide_true decide_false if_true if_false false_and and_false not_true not_false_eq_true Option.map_some Option.map_none List.getElem?_cons_zero List.getElem?_cons_succ List.getElem?_nil List.length_append beq_self_eq_true List.take_nil List.drop_nil false_implies zad ne_eq

end
end Go.Ev

import Derived.Orders
import Derived.Test.YtpibfnekkfhkmaaGreatM3
open Bool renaming and_eq_true → zaa, false_eq_true → zad
open Array renaming getD_eq_getD_getElem? → zab, getElem?_append → zaf, getElem?_eq_some_iff → zak
open List renaming all_eq_true → zac, map_cons → zah, getElem?_eq_some_iff → zai, length_cons → zaj
open Nat renaming le_refl → zae
open Option renaming map_eq_some_iff → zal
namespace Go.Ev
set_option maxRecDepth 100000
noncomputable section
open Go
set_option linter.unusedSectionVars false
set_option linter.unnecessarySimpa false
set_option linter.unusedSimpArgs false
set_option linter.unusedVariables false
open Classical in
def ow {L C:Type} (r:Nat→L→C) (Wt:Nat→L→Prop) (S:Nat→Prop):Nat→L→C
 | 0,l=>r 0 l
 | k+1,l=>if S k∧Wt k l then r (k+1) l else ow r Wt S k l
section
variable {L C:Type} {n:Nat} {r:Nat→L→C} {Wt Us pre:Nat→L→Prop} {S:Nat→Prop} {pr:Nat→Nat→Prop}
theorem bdq (hoff:∀k l,k<n→¬Wt k l→r (k+1) l=r k l) (hap:∀i j,i<j→j<n→¬pr j i→∀l,¬(Wt i l∧Us j l)∧¬(Wt j l∧Us i l))
  (hS:∀j,S j→∀i,pr j i→S i) {j:Nat} (hj:j<n) (hn:¬S j) (hp:∀i,pr j i→S i) {l:L} (hl:Us j l):ow r Wt S n l=r j l:=by
 have h1:∀k,k≤j→ow r Wt S k l=r k l:=fun k=>by
  induction k with
  | zero=>intro _; rfl
  | succ k ih=>
   intro hk;simp only [ow];by_cases hw:Wt k l
   ·have:S k:=hp k (Classical.byContradiction fun hnp=>(hap k j (by omega) hj hnp l).1 ⟨hw,hl⟩);rw [if_pos ⟨this,hw⟩]
   ·rw [if_neg (fun h=>hw h.2),ih (by omega),hoff k l (by omega) hw]
 have h2:∀m,j+m≤n→ow r Wt S (j+m) l=r j l:=fun m=>by
  induction m with
  | zero=>intro _; exact h1 j (zae _)
  | succ m ih=>
   intro hm;rw [show j+(m+1)=(j+m)+1 by omega];simp only [ow];rw [if_neg,ih (by omega)];rintro ⟨hs,hw⟩
   have hjm:j<j+m:=by
    rcases Nat.eq_zero_or_pos m with h | h
    ·subst h; exact (hn hs).elim
    ·omega
   exact hn (hS _ hs j (Classical.byContradiction fun hnp=>(hap j (j+m) hjm (by omega) hnp l).2 ⟨hw,hl⟩))
 have:=h2 (n-j) (by omega)
 rwa [show j+(n-j)=n by omega] at this
theorem a0f {j:Nat} {l:L} (hw:¬Wt j l):∀k,ow r Wt (fun i=>S i∨i=j) k l=ow r Wt S k l
 | 0=>rfl
 | k+1=>by
  simp only [ow]
  have:((S k∨k=j)∧Wt k l)↔(S k∧Wt k l):=by
   constructor
   ·rintro ⟨h | h,h2⟩
    ·exact ⟨h,h2⟩
    ·subst h; exact (hw h2).elim
   ·rintro ⟨h,h2⟩; exact ⟨.inl h,h2⟩
  by_cases h:S k∧Wt k l
  ·rw [if_pos h,if_pos (this.2 h)]
  ·rw [if_neg h,if_neg (fun q=>h (this.1 q)),a0f hw k]
theorem a9l (hWU:∀k l,k<n→Wt k l→Us k l) (hap:∀i j,i<j→j<n→¬pr j i→∀l,¬(Wt i l∧Us j l)∧¬(Wt j l∧Us i l))
  (hS:∀j,S j→∀i,pr j i→S i) {j:Nat} (hj:j<n) (hn:¬S j) {l:L} (hw:Wt j l):ow r Wt (fun i=>S i∨i=j) n l=r (j+1) l:=by
 have h2:∀m,j+1+m≤n→ow r Wt (fun i=>S i∨i=j) (j+1+m) l=r (j+1) l:=fun m=>by
  induction m with
  | zero=>
   intro _;simp only [ow];rw [if_pos ⟨.inr rfl,hw⟩]
  | succ m ih=>
   intro hm;rw [show j+1+(m+1)=(j+1+m)+1 by omega];simp only [ow];rw [if_neg,ih (by omega)];rintro ⟨hs | hs,hw'⟩
   ·exact hn (hS _ hs j (Classical.byContradiction fun hnp=>(hap j (j+1+m) (by omega) (by omega) hnp l).2 ⟨hw',hWU j l hj hw⟩))
   ·omega
 have:=h2 (n-(j+1)) (by omega)
 rwa [show j+1+(n-(j+1))=n by omega] at this
theorem apl (hoff:∀k l,k<n→¬Wt k l→r (k+1) l=r k l) (hS:∀k,k<n→S k) {l:L}:∀k,k≤n→ow r Wt S k l=r k l
 | 0,_=>rfl
 | k+1,hk=>by
  simp only [ow];by_cases hw:Wt k l
  ·rw [if_pos ⟨hS k (by omega),hw⟩]
  ·rw [if_neg (fun h=>hw h.2),apl hoff hS k (by omega),hoff k l (by omega) hw]
theorem aur (hS:∀k,¬S k) {l:L}:∀k,ow r Wt S k l=r 0 l
 | 0=>rfl
 | k+1=>by
  simp only [ow];rw [if_neg (fun h=>hS k h.1),aur hS k]
theorem auq {p q:Nat→Bool} {j:Nat} (hp:∀x,q x=true→p x=true) (h1:p j=true) (h2:q j=false):∀{l:List Nat},j∈l→l.countP q<l.countP p
 | x::l,h=>by
  have hle:l.countP q≤l.countP p:=List.countP_mono_left fun x _=>hp x;rw [List.countP_cons,List.countP_cons];rcases List.mem_cons.1 h with h | h
  ·subst h;rw [h1,h2];simp;omega
  ·have:=auq hp h1 h2 h
   have:(if q x=true then 1 else 0)≤(if p x=true then 1 else 0):=by
    by_cases hq:q x=true
    ·rw [if_pos hq,if_pos (hp x hq)]; exact zae _
    ·rw [if_neg hq]; exact Nat.zero_le _
   omega
end
def atf (a b:List Nat):Bool:=a.all fun x=>!b.contains x
def bar (a b:Lg):Bool:=atf a.d b.us&&atf b.d a.us&&(atf a.wr b.rd||(a.st&&b.ad))&&(atf b.wr a.rd||(b.st&&a.ad))
def si (pre:List (List Nat)) (log:List Lg):Bool:=
 (List.range log.length).all fun j=>(List.range j).all fun i=>(pre.getD j []).contains i||bar (log.getD i default) (log.getD j default)
def wpD (P:Program):List PR→List Lg→St→(List Lg→St→Prop)→Prop
 | [],log,s,K=>K log s
 | r::rs,log,s,K=>∃c:Ans,(r.out P s c).ok∧wpD P rs (log++[(r.out P s c).lg]) (r.out P s c).st K
theorem ays {P:Program} {K:List Lg→St→Prop}:∀{rs:List PR} {log:List Lg} {s:St},wpD P rs log s K →
  ∃(R:Nat→St) (C:Nat→Ans) (log':List Lg),R 0=s∧log'.length=rs.length∧(∀k r,rs[k]?=some r→(r.out P (R k) (C k)).ok∧R (k+1)=(r.out P (R k) (C k)).st∧log'[k]?=some (r.out P (R k) (C k)).lg)∧K (log++log') (R rs.length)
 | [],log,s,h=>⟨fun _=>s,fun _=>(.undef,[]),[],rfl,rfl,by simp,by rw [List.append_nil]; exact h⟩
 | r::rs,log,s,h=>by
  obtain ⟨c,h1,h2⟩:=h;obtain ⟨R,C,log',g0,g1,g2,g3⟩:=ays h2;refine ⟨fun k=>match k with | 0=>s | k+1=>R k,fun k=>match k with | 0=>c | k+1=>C k,(r.out P s c).lg::log',rfl,by simp [g1],fun k q hk=>?_,by simpa using g3⟩;cases k with
  | zero=>simp at hk; subst hk; exact ⟨h1,g0,by simp⟩
  | succ k=>simp at hk; exact ⟨(g2 k q hk).1,(g2 k q hk).2.1,by simpa using (g2 k q hk).2.2⟩
inductive Lc where
 | t (i:Nat)
 | o (i:Nat)
 | p (i:Nat)
inductive Ct where
 | t (x:AV)
 | o (x:Option (Nat×Ob))
 | p (x:Option (Nat×Option Nat))
def x8 (s:St):Lc→Ct
 | .t t=>.t (s.e t)
 | .o i=>.o (s.ob i)
 | .p i=>.p (pin (s.ob i))
theorem at7 {s s':St} (h:∀l,x8 s l=x8 s' l):s=s':=by
 rcases s with ⟨e,ob⟩
 rcases s' with ⟨e',ob'⟩
 have h1:e=e':=funext fun t=>by simpa [x8] using h (.t t)
 have h2:ob=ob':=funext fun t=>by simpa [x8] using h (.o t)
 rw [h1,h2]
def wrt (log:List Lg) (k:Nat):Lc→Prop
 | .t t=>t∈(log.getD k default).d
 | .o i=>i∈(log.getD k default).wr
 | .p i=>i∈(log.getD k default).wr∧(log.getD k default).st=false
def usd (log:List Lg) (k:Nat):Lc→Prop
 | .t t=>t∈(log.getD k default).us
 | .o i=>i∈(log.getD k default).rd∧(log.getD k default).ad=false
 | .p i=>i∈(log.getD k default).rd
theorem aen {a b:List Nat} (h:atf a b=true) {i:Nat} (h1:i∈a) (h2:i∈b):False:=by
 simp only [atf,zac] at h;have:=h i h1;simp [h2] at this
theorem a6t {pre:List (List Nat)} {log:List Lg} (h:si pre log=true) {i j:Nat} (hij:i<j) (hj:j<log.length) (hp:¬(i∈pre.getD j [])) (l:Lc):¬(wrt log i l∧usd log j l)∧¬(wrt log j l∧usd log i l):=by
 simp only [si,zac,List.mem_range,Bool.or_eq_true] at h;have h1:=(h j hj i hij).resolve_left (by simpa using hp);simp only [bar,zaa,Bool.or_eq_true] at h1;obtain ⟨⟨⟨h1,h2⟩,h3⟩,h4⟩:=h1;cases l with
 | t t=>exact ⟨fun ⟨a,b⟩=>aen h1 a b,fun ⟨a,b⟩=>aen h2 a b⟩
 | o t=>
  refine ⟨fun ⟨a,b⟩=>?_,fun ⟨a,b⟩=>?_⟩
  ·rcases h3 with h3 | ⟨_,h3⟩
   ·exact aen h3 a b.1
   ·rw [b.2] at h3; cases h3
  ·rcases h4 with h4 | ⟨_,h4⟩
   ·exact aen h4 a b.1
   ·rw [b.2] at h4; cases h4
 | p t=>
  refine ⟨fun ⟨a,b⟩=>?_,fun ⟨a,b⟩=>?_⟩
  ·rcases h3 with h3 | ⟨h3,_⟩
   ·exact aen h3 a.1 b
   ·rw [a.2] at h3; cases h3
  ·rcases h4 with h4 | ⟨h4,_⟩
   ·exact aen h4 a.1 b
   ·rw [a.2] at h4; cases h4
theorem ap4 {P:Program} {r:PR} {s:St} {c:Ans}:(r.out P s c).lg.us=gus r.g++(r.x.us++r.d.toList)∧(r.out P s c).lg.d=r.d.toList:=by
 rcases r with ⟨d,g,u,x⟩
 unfold PR.out;simp only;generalize yes s.e g=y;rcases y with _ | b
 ·cases x<;>exact ⟨rfl,rfl⟩
 ·cases x with
  | see o=>exact ⟨rfl,rfl⟩
  | act o=>cases b<;>exact ⟨rfl,rfl⟩
  | call f xs=>cases b with
   | false=>exact ⟨rfl,rfl⟩
   | true=>
    simp only [PX.out];generalize bz (l8 s.e xs) (n6 s.ob (l8 s.e xs))=q;simp only [az];generalize u3 _ _ _=po;cases po<;>exact ⟨rfl,rfl⟩
  | callv x xs=>cases b with
   | false=>exact ⟨rfl,rfl⟩
   | true=>
    simp only [PX.out];generalize (x.ev s.e).bare=y;cases y with
    | fn f cap k=>cases f with
     | func f=>
      simp only [aap];generalize bz (cap.take k++(l8 s.e xs++cap.drop k)) (n6 s.ob (cap.take k++(l8 s.e xs++cap.drop k)))=q;simp only [az];generalize u3 _ _ _=po;cases po<;>exact ⟨rfl,rfl⟩
     | _=>exact ⟨rfl,rfl⟩
    | _=>exact ⟨rfl,rfl⟩
  | inv tbl x xs=>cases b with
   | false=>exact ⟨rfl,rfl⟩
   | true=>
    simp only [PX.out];obtain ⟨rd,wr,e⟩:=apt (P:=P) (r:=⟨d,g,u,.inv tbl x xs⟩) (s:=s) (c:=c) (tbl:=tbl) (p:=(x.ev s.e).may true∧bw true s.e xs) (vs:=l8 s.e xs) (y:=(x.ev s.e).bare);rw [e];exact ⟨rfl,rfl⟩
  | nxt x=>cases b<;>exact ⟨rfl,rfl⟩
theorem ag2 {ops:Array Oper} {pre:List (List Nat)} (h:ar0 ops pre=true) {j:Nat} {o:Oper} (ho:ops[j]?=some o) :
  (∀e∈o.after,Region.binds .any e=true→e.on<j)∧∀k,k∈pre.getD j []→∃e∈o.after,Region.binds .any e=true∧(e.on=k∨k∈pre.getD e.on []):=by
 simp only [ar0,zaa,zac,List.mem_range] at h;have h1:=h.2 j (zak.1 ho).1;rw [ho] at h1;rcases hp:pre[j]? with _ | p
 ·rw [hp] at h1; cases h1
 ·rw [hp] at h1;simp only [zaa,zac,Array.all_eq_true_iff_forall_mem] at h1;refine ⟨fun e he hb=>?_,fun k hk=>?_⟩
  ·have:=h1.1 e he;rw [hb] at this;simpa using this
  ·have hpk:pre.getD j []=p:=by simp [List.getD_eq_getElem?_getD,hp]
   rw [hpk] at hk;have:=(h1.2 k hk).2;rw [Array.any_eq_true'] at this;obtain ⟨e,he,hb⟩:=this;simp only [zaa,Bool.or_eq_true,beq_iff_eq,List.contains_iff_mem] at hb;exact ⟨e,he,hb.1,hb.2⟩

def qh (fl:Bool) (id:Nat) (ob:Obs):AV→AV×Obs
 | .nils sz z=>if fl then (.own id (nv ob id) 0 0,upd id (nv ob id,.row sz z true true []) ob) else (.nils sz z,ob)
 | x=>(x,ob)
def u9 (e:Env):List (Nat×Bool)→Obs→List AV×Obs
 | [],ob=>([],ob)
 | (t,fl)::r,ob=>((qh fl (900000+t) ob (e t)).1::(u9 e r (qh fl (900000+t) ob (e t)).2).1,(u9 e r (qh fl (900000+t) ob (e t)).2).2)
def awi (D:List AV→List Ob→List Ob→Prop):Option (List AV×List Ob×List Ob)→Prop
 | some (vs,pos,los)=>D vs pos los
 | none=>False
def acu (np:Nat) (live:List (Nat×Bool)) (s:St) (D:List AV→List Ob→List Ob→Prop):Prop:=
 awi D (nrm 64 np 2000000 (u9 s.e live s.ob).1 (u9 s.e live s.ob).2)
def keep:List (Nat×Bool)→List AV→Env
 | l::ls,x::xs=>put l.1 x (keep ls xs)
 | _,_=>fun _=>.undef
def aon (live:List (Nat×Bool)) (vs:List AV) (pos los:List Ob):St:=⟨keep live vs,bk 1000000 pos (bk 2000000 los fun _=>none)⟩
def W (P:Program) (np:Nat):PC→(Ex→St→Prop)→St→Prop
 | .skip,K,s=>K .nor s
 | .reg rs,K,s=>wpR P rs (K .nor) s
 | .seq a b,K,s=>W P np a (fun x s=>match x with | .nor=>W P np b K s | x=>K x s) s
 | .cond x a b,K,s=>match x.ev s.e with
  | .r (.v (.bool c))=>(c=true→W P np a K s)∧(c=false→W P np b K s)
  | _=>False
 | .block id c,K,s=>W P np c (fun x s=>match x with | .ex i=>if i=id then K .nor s else K (.ex i) s | x=>K x s) s
 | .loop c,K,s=>∃(live:List (Nat×Bool)) (I:List AV→List Ob→List Ob→Prop) (m:List AV→List Ob→List Ob→Nat),(live.all fun p=>decide (p.1<100000))=true∧acu np live s I ∧
   ∀vs pos los,I vs pos los→W P np c (fun x s'=>match x with | .nor=>acu np live s' (fun vs' pos' los'=>I vs' pos' los'∧m vs' pos' los'<m vs pos los) | x=>K x s') (aon live vs pos los)
 | .exit i,K,s=>K (.ex i) s
 | .ret,K,s=>K .rt s
 | .drw rs pre,K,s=>wpD P rs [] s fun log s=>si pre log=true∧K .nor s
section
variable {P:Program} {X:Cx} [GlC P X] {w w':World} {s:St} {ρ ρ':Pl→Option Nat} {a:Act} {o:Oper} {ob ob':Obs} {R R':Nat→Prop} {ops:Array Oper} {Q:Exit→Act→World→Prop}
theorem a25 (hG:Gam X s ρ a w) {g:Option (Nat×Bool)} {b:Bool} (hc:a9m ops o.guard g=true) (hy:yes s.e g=some b):Region.wanted o (yielded ops a.tmps)=b:=by
 unfold a9m at hc;split at hc
 ·rename_i h1;simp [yes] at hy;subst hy;simp [Region.wanted,h1]
 ·rename_i j want t want' hg;simp only [zaa,beq_iff_eq] at hc;obtain ⟨rfl,ht⟩:=hc;have henv:=hG.env t;simp only [yes] at hy;simp only [Region.wanted,hg,yielded,ht,Option.bind_some];generalize s.e t=x at henv hy;unfold aep at hy;split at hy
  ·rename_i q;cases hy;have h1:=k9 henv
   have h2:a.tmps[t]?=some (.bool q):=by
    rcases hq:a.tmps[t]? with _ | u
    ·simp [zab,hq,undef] at h1
    ·simp [zab,hq] at h1;rw [h1]
   rw [h2];cases want<;>cases q<;>rfl
  ·rename_i h q;cases hy;cases henv with
   | gd _ h1 h3=>
   cases h
   ·have h2:=h3 rfl;rcases hq:a.tmps[t]? with _ | u
    ·simp
    ·simp [zab,hq] at h2;subst h2;simp [undef]
   ·have h1':=k9 (h1 rfl)
    have h2:a.tmps[t]?=some (.bool q):=by
     rcases hq:a.tmps[t]? with _ | u
     ·simp [zab,hq,undef] at h1'
     ·simp [zab,hq] at h1';rw [h1']
    rw [h2];cases want<;>cases q<;>rfl
  ·cases hy
 ·cases hc
theorem as6 {f:FuncId} (h:xm P f=true) (args:Array Value):(callFunc f args).run P w=.ok (.enter f args) w:=by
 unfold xm at h;split at h
 ·rename_i fn hf;simp at h;obtain ⟨h1,h2⟩:=h;have h3:¬fn.body=none:=by intro e; rw [e] at h1; cases h1
  simp [callFunc,hf,h2,h3]
 ·cases h
theorem a2i {f:FuncId} {args:List Opd} (h:ad7 P o (.call f args)=true):∃c,o.op=.call c∧c.callee=.value (.func f)∧u7 opd c.args.toList args=true∧xm P f=true:=by
 unfold ad7 at h;cases ho:o.op<;>simp only [ho] at h<;>try (cases h; done)
 rename_i c;split at h
 ·rename_i f' hc;simp only [zaa,beq_iff_eq] at h;obtain ⟨⟨rfl,h2⟩,h3⟩:=h;exact ⟨c,rfl,hc,h2,h3⟩
 ·cases h
theorem aym {x:Opd} {args:List Opd} (h:ad7 P o (.callv x args)=true):∃c x',o.op=.call c∧c.callee=.value x'∧opd x' x=true∧u7 opd c.args.toList args=true:=by
 unfold ad7 at h;cases ho:o.op<;>simp only [ho] at h<;>try (cases h; done)
 rename_i c;split at h
 ·rename_i x' hc;simp only [zaa] at h;exact ⟨c,x',rfl,hc,h.1,h.2⟩
 ·cases h
theorem a6f {tbl:List (TypeId×FuncId)} {x:Opd} {args:List Opd} (h:ad7 P o (.inv tbl x args)=true):∃c r m,o.op=.call c∧c.callee=.invoke r m∧opd r x=true∧u7 opd c.args.toList args=true∧tbl.all (au5 P m)=true:=by
 unfold ad7 at h;cases ho:o.op<;>simp only [ho] at h<;>try (cases h; done)
 rename_i c;split at h
 ·rename_i r m hc;simp only [zaa] at h;exact ⟨c,r,m,rfl,hc,h.1.1,h.1.2,h.2⟩
 ·cases h
theorem a6e {x:Opd} (h:ad7 P o (.nxt x)=true):∃it,o.op=.next it false∧opd it x=true:=by
 unfold ad7 at h;cases ho:o.op<;>simp only [ho] at h<;>try (cases h; done)
 rename_i it str;simp only [zaa,Bool.not_eq_true'] at h;obtain ⟨h1,rfl⟩:=h;exact ⟨it,rfl,h1⟩
theorem auf {t:TypeId} {f:FuncId}:∀{tbl:List (TypeId×FuncId)},dz t tbl=some f→(t,f)∈tbl
 | [],h=>by cases h
 | (t',f')::r,h=>by
  simp only [dz] at h;split at h
  ·rename_i ht; cases h; subst ht; simp
  ·exact List.mem_cons_of_mem _ (auf h)
theorem bf6 {m:String} {t:TypeId} {f:FuncId} {v:Value} {as:Array Value} (h:au5 P m (t,f)=true):(invoke (.fn (.method m) #[]) (#[.iface t v]++as)).run P w=.ok (.enter f (#[v]++as)) w:=by
 simp only [au5,zaa] at h;obtain ⟨⟨hf,h1⟩,h2⟩:=h;split at h1
 ·rename_i i hi;split at h1
  ·rename_i q hq;simp only [zaa] at h1;obtain ⟨hp,h1⟩:=h1;split at h1
   ·rename_i f' b hfb;simp only [zaa,beq_iff_eq] at h1;obtain ⟨hff,rfl⟩:=h1;rw [hff] at hfb;obtain ⟨d,hd,hdd⟩:=z6 h2;cases d with
    | pointer e=>
     have hpath:q.path=#[]:=by simpa using hp
     obtain ⟨k,hk⟩:∃k,P.types.size+Made.depth=k+1:=⟨P.types.size+(Made.depth-1),by unfold Made.depth; omega⟩
     have hargs:(#[Value.iface t v]++as)[0]?=some (.iface t v):=by
      rw [zaf,if_pos (by simp)]
      rfl
     have hext:(#[Value.iface t v]++as).extract 1 (#[Value.iface t v]++as).size=as:=by
      rw [Array.extract_append];simp
     have hm:(method (P.types.size+Made.depth) t v m).run P w=.ok (f,v) w:=by
      rw [hk];simp [method,typeInfo,hi,hq,hpath,follow,hfb,receiverAt,run_underlying hd,Place.get]
     have hc:(callMethod (.iface t v) m as).run P w=.ok (.enter f (#[v]++as)) w:=by
      simp only [callMethod,Sem.run_bind,run_program,Result.andThen_ok,hm];exact as6 hf _
     simp only [invoke,hargs,hext];exact hc
    | _=>cases hdd
   ·cases h1
  ·cases h1
 ·cases h1
theorem a45 {K:AV→Obs→Prop} {it:Operand} {u:AV} (hG:Gam X s ρ a w) (ho:o.op=.next it false) (hu:RA X s ρ w u (a.eval it)) (h:awh s.ob K u) :
  ∃c v ob1 w1,(execOp a.eval o).run P w=.ok (.value c) w1∧K v ob1∧Gam X ⟨s.e,ob1⟩ ρ a w1∧RA X ⟨s.e,ob1⟩ ρ w1 v c:=by
 unfold awh at h;split at h
 ·rename_i id ver;unfold a1n at h;split at h
  ·rename_i mid mver since seen st hit;have hid:=anx hit;rcases hmp:t7 s.ob mid mver with _ | ⟨es,c⟩
   ·rw [hmp] at h; exact h.elim
   ·rw [hmp] at h;obtain ⟨h1,h2,h3,h4⟩:=h;generalize hev:a.eval it=v at hu;cases hu;rename_i hc0 hat;obtain ⟨b,hρ,rfl⟩:=hat.live hid;obtain ⟨b',bm,g1,g2,g3⟩:=hG.obj id ver _ hid;rw [hρ] at g1; cases g1;obtain ⟨bm',hρm,hvm,hbm⟩:=hG.mapB hmp g3;cases hvm;have hl:(leftOf es.toArray seen.toArray).toList=db es seen:=by simp [leftOf,db]
    rcases run_next_at (P:=P) w o.type b bm since st seen.toArray es.toArray c g2 hbm (by simpa using h1) h2 with ⟨hz,hrun⟩ | ⟨e,he,w1,hw1,hrun⟩
    ·refine ⟨.tuple #[.bool false],.tup [bl false],s.ob,w,by simp only [execOp,ho,hev,Sem.run_bind,hrun,Result.andThen_ok,Sem.run_pure],h3 ?_,hG,?_⟩
     ·rw [← hl];exact List.eq_nil_of_length_eq_zero (by simpa using hz)
     ·refine .tup _ _ rfl fun i y c hy' hc=>?_
      match i with
      | 0=>simp at hy' hc; subst hy'; subst hc; exact .r (.v _)
      | i+1=>simp at hy'
    ·rw [hl] at he
     have hG1:Gam X s ρ a w1:=by
      rcases hw1 with rfl | rfl
      ·exact hG
      ·exact hG.drew _
     have hh1:w1.heap=w.heap:=by rcases hw1 with rfl | rfl<;>rfl
     have hb1:w1.heap[b]?=some (.mapIter (some bm) since seen.toArray st):=by rw [hh1]; exact g2
     have hmo:=awq (y:=.mapIter (some bm) since (seen++[e.born]).toArray c) hb1;have hseen:seen.toArray.push e.born=(seen++[e.born]).toArray:=by simp
     rw [hseen,show ChangeMaps.setBlock w1 b (Obj.mapIter (some bm) since (seen++[e.born]).toArray c)={ w1 with heap:=w1.heap.setIfInBounds b (Obj.mapIter (some bm) since (seen++[e.born]).toArray c) } from rfl] at hrun
     have g3':RelA w1 (g8 X.B s.ob ρ w1) s.ob ρ (.mp mid mver) (.map (some bm)):=by
      cases g3;rename_i q1 q2;exact .mp _ _ _ q1 q2
     have hst:=Stays.modifyG (x':=.iter (.mp mid mver) since (seen++[e.born]) c) hG1 hid rfl hρ hmo (fun cs e fr h=>by rw [hb1] at h; cases h) ver (.inl ⟨rfl,trivial⟩)
     refine ⟨.tuple #[.bool true,e.key,e.val],.tup [bl true,.r (ll e.key),.r (ll e.val)],_,_,by simp only [execOp,ho,hev,Sem.run_bind,hrun,Result.andThen_ok,Sem.run_pure],h4 e he,
      hG1.modifyG hid rfl hρ hmo (fun cs e fr h=>by rw [hb1] at h; cases h) ver (.inl ⟨rfl,trivial⟩) (.inr ⟨rfl,trivial,fun _=>rfl⟩) ⟨b,bm,hρ,hmo.new,g3'.stays hst⟩,?_⟩
     refine .tup _ _ rfl fun i y c hy' hc=>?_
     match i with
     | 0=>simp at hy' hc; subst hy'; subst hc; exact .r (.v _)
     | 1=>simp at hy' hc; subst hy'; subst hc; exact .r (aeu _)
     | 2=>simp at hy' hc; subst hy'; subst hc; exact .r (aeu _)
     | i+3=>simp at hy'
  ·exact h.elim
 ·exact h.elim
theorem av7 {r:PR} {K:St→Prop} {i:Nat} {N:Act→World→Prop} (hG:Gam X s ρ a w) (hi:ops[i]?=some o) (hck:ajb P X.n ops o r=true) (h:r.wp P s K (yes s.e r.g)) (hN:∀s' ρ' a' w',K s'→Gam X s' ρ' a' w'→N a' w'):wpOp P ops Q i N a w:=by
 simp only [ajb,zaa,beq_iff_eq] at hck;obtain ⟨⟨⟨hd,hdn⟩,hg⟩,hx⟩:=hck;rcases hy:yes s.e r.g with _ | b
 ·rw [hy] at h; exact h.elim
 rw [hy] at h;have hw:=a25 hG hg hy
 have hskip:∀x,(∀c,c=undef→RA X s ρ w x c)→Gam X ⟨o5 r.d x s.e,s.ob⟩ ρ (a.put o.dst undef) w:=fun x hx=>by
  rw [hd];rcases hrd:r.d with _ | d
  ·exact hG
  ·rw [hrd] at hdn;exact hG.see (by simpa using hdn) (hx _ rfl)
 unfold wpOp;simp only [hi,hw];simp only [PR.wp] at h;rcases r with ⟨rd,rg,ru,rx⟩
 simp only at hd hdn hg hx h hy hskip;cases rx with
 | see po=>
  obtain ⟨h1,h2⟩:=h;cases b with
  | true=>
   simp only [if_true];refine .inl ?_;obtain ⟨c,hrun,hr⟩:=bca (P:=P) rfl hG hx h1;unfold Oper.wp;rw [hrun,Oper.upon_value,hd];rcases rd with _ | d
   ·simp [a15] at hdn
   ·refine hN _ ρ _ _ h2 (hG.see (by simpa using hdn) ?_);unfold gdv;split
    ·exact hr
    ·exact .gd true (fun _=>hr) (by simp)
  | false=>
   simp only [zad,if_false];refine hN _ ρ _ _ h2 (hskip _ fun c hc=>?_);rcases rg with _ | g
   ·simp [yes] at hy
   ·simp only [gdv];exact .gd false (by simp) (fun _=>hc)
 | act po=>
  cases b with
  | false=>
   simp only [zad,if_false];exact hN _ ρ _ _ (h.2 rfl) (hskip _ fun c _=>.undef c)
  | true=>
   simp only [if_true];refine .inl ?_;obtain ⟨h1,h2⟩:=h.1 rfl;rcases rd with _ | d
   ·have hnod:po.nod=true:=by simpa [a5j,a15] using hdn
    obtain ⟨nx,w1,ρ1,hrun,hG1,hv⟩:=amu (P:=P) hG hx hnod h1;unfold Oper.wp;rw [hrun];rcases hv with ⟨c,rfl,hr⟩ | ⟨rfl,hv⟩
    ·rw [Oper.upon_value,hd];exact hN _ ρ1 _ _ h2 hG1
    ·rw [Oper.upon_skip,hd];exact hN _ ρ1 _ _ h2 hG1
   ·obtain ⟨nx,w1,ρ1,hrun,hG1,hv⟩:=bej (P:=P) (d:=d) hG hx (by simpa using hdn) h1;unfold Oper.wp;rw [hrun];rcases hv with ⟨c,rfl,hr⟩ | ⟨rfl,hv⟩
    ·rw [Oper.upon_value,hd];exact hN _ ρ1 _ _ h2 (hG1.see (s:=⟨s.e,_⟩) (by simpa using hdn) hr)
    ·rw [Oper.upon_skip,hd];refine hN _ ρ1 _ _ h2 (hG1.see (s:=⟨s.e,_⟩) (by simpa using hdn) ?_);simp only [Option.getD_some];rw [hv];exact .undef _
 | call f args=>
  cases b with
  | false=>
   simp only [zad,if_false];exact hN _ ρ _ _ (h.2 rfl) (hskip _ fun c _=>.undef c)
  | true=>
   simp only [if_true];refine .inl ?_;obtain ⟨h1,h2⟩:=h.1 rfl;obtain ⟨c,ho,hcal,hall,hf⟩:=a2i hx;obtain ⟨g1,g2⟩:=ael hG rfl hall h1
   have hrun:(execOp a.eval o).run P w=.ok (.enter f (c.args.map a.eval)) w:=by
    have:=as6 (w:=w) hf (c.args.map a.eval);simp [execOp,ho,resolve,hcal,Act.eval,Deferred.ofValue,invoke];exact this
   unfold Oper.wp;rw [hrun,Oper.upon_enter];refine (ajd hG h2 (by simp [g1]) fun i x cc hxx hc=>?_).mono ?_
   ·rw [Array.getElem?_map,zal] at hc;obtain ⟨y,hy,rfl⟩:=hc;exact g2 i x y hxx (by simpa using hy)
   ·rintro e w1 ⟨cv,v,ob1,ρ1,rfl,hK,hG1,hr⟩;simp only;rw [hd];rcases rd with _ | d
    ·exact hN _ ρ1 _ _ hK hG1
    ·exact hN _ ρ1 _ _ hK (hG1.see (s:=⟨s.e,ob1⟩) (by simpa using hdn) hr)
 | callv x args=>
  cases b with
  | false=>
   simp only [zad,if_false];exact hN _ ρ _ _ (h.2 rfl) (hskip _ fun c _=>.undef c)
  | true=>
   simp only [if_true];refine .inl ?_;obtain ⟨hm,h1,h2⟩:=h.1 rfl;obtain ⟨c,x',ho,hcal,hxx,hall⟩:=aym hx;obtain ⟨g1,g2⟩:=ael hG rfl hall h1;have hf:=g9 hG rfl hxx hm;generalize (x.ev s.e).bare=xv at hf h2;unfold a24 at h2;split at h2
   ·rename_i f cap k;obtain ⟨hfn,h2⟩:=h2;generalize hev:a.eval x'=cf at hf;cases hf;rename_i fs cs hl hcs hk
    have hrun:(execOp a.eval o).run P w=.ok (.enter f (fs++(c.args.map a.eval++cs))) w:=by
     have:=as6 (w:=w) hfn (fs++(c.args.map a.eval++cs));simp [execOp,ho,resolve,hcal,hev,Deferred.ofValue,invoke];exact this
    unfold Oper.wp;rw [hrun,Oper.upon_enter];have hg1:(l8 s.e args).length=c.args.size:=by rw [g1]; simp
    have hpre:∀(i:Nat) (y:AV) (v:Value),(cap.take k)[i]?=some y→fs[i]?=some v→RA X s ρ w y v:=fun i y v hy hv=>by
     rw [List.getElem?_take] at hy;split at hy
     ·rename_i hlt;exact hcs i y v hy (by rw [zaf,if_pos (by omega)]; exact hv)
     ·cases hy
    have hpost:∀(i:Nat) (y:AV) (v:Value),(cap.drop k)[i]?=some y→cs[i]?=some v→RA X s ρ w y v:=fun i y v hy hv=>by
     rw [List.getElem?_drop] at hy;exact hcs (k+i) y v hy (by rw [zaf,if_neg (by omega),show k+i-fs.size=i by omega]; exact hv)
    have happ:∀(xs ys:List AV) (us vs:Array Value),us.size=xs.length→(∀(i:Nat) (y:AV) (v:Value),xs[i]?=some y→us[i]?=some v→RA X s ρ w y v) →
      (∀(i:Nat) (y:AV) (v:Value),ys[i]?=some y→vs[i]?=some v→RA X s ρ w y v)→∀(i:Nat) (y:AV) (v:Value),(xs++ys)[i]?=some y→(us++vs)[i]?=some v→RA X s ρ w y v:=
     fun xs ys us vs hs h1 h2 i y v hy hv=>by
      rw [List.getElem?_append] at hy;rw [zaf,hs] at hv;split at hy
      ·rename_i hlt;rw [if_pos hlt] at hv;exact h1 i y v hy hv
      ·rename_i hlt;rw [if_neg hlt] at hv;exact h2 _ y v hy hv
    have hkl:(cap.take k).length=k:=by rw [List.length_take]; omega
    refine (ajd hG h2 (by simp [g1]; omega) (happ _ _ _ _ (by rw [hkl]; exact hk) hpre (happ _ _ _ _ (by rw [hg1]; simp) (fun i y v hy hv=>?_) hpost))).mono ?_
    ·rw [Array.getElem?_map,zal] at hv;obtain ⟨z,hz,rfl⟩:=hv;exact g2 i y z hy (by simpa using hz)
    ·rintro e w1 ⟨cv,v,ob1,ρ1,rfl,hK,hG1,hr⟩;simp only;rw [hd];rcases rd with _ | d
     ·exact hN _ ρ1 _ _ hK hG1
     ·exact hN _ ρ1 _ _ hK (hG1.see (s:=⟨s.e,ob1⟩) (by simpa using hdn) hr)
   ·cases h2
 | inv tbl x args=>
  cases b with
  | false=>
   simp only [zad,if_false];exact hN _ ρ _ _ (h.2 rfl) (hskip _ fun c _=>.undef c)
  | true=>
   simp only [if_true];refine .inl ?_;obtain ⟨hm,h1,h2⟩:=h.1 rfl;obtain ⟨c,rv,m,ho,hcal,hxx,hall,htbl⟩:=a6f hx;obtain ⟨g1,g2⟩:=ael hG rfl hall h1;have hf:=g9 hG rfl hxx hm;generalize (x.ev s.e).bare=xv at hf h2;unfold amw at h2;split at h2
   ·rename_i t y;split at h2
    ·rename_i f hmet;generalize hev:a.eval rv=cf at hf;cases hf;rename_i cy hy;have hmo:=zac.1 htbl _ (auf hmet)
     have hrun:(execOp a.eval o).run P w=.ok (.enter f (#[cy]++c.args.map a.eval)) w:=by
      have:=bf6 (w:=w) (v:=cy) (as:=c.args.map a.eval) hmo;simp only [execOp,ho,resolve,hcal,hev,Sem.run_bind,Sem.run_pure,Result.andThen_ok];exact this
     unfold Oper.wp;rw [hrun,Oper.upon_enter];refine (ajd hG h2 (by simp [g1]; omega) fun i z cc hz hc=>?_).mono ?_
     ·cases i with
      | zero=>
       simp at hz;rw [zaf,if_pos (by simp)] at hc;simp at hc;subst hz; subst hc;exact hy
      | succ i=>
       simp only [List.getElem?_cons_succ] at hz;rw [zaf,if_neg (by simp)] at hc;simp only [List.size_toArray,zaj,List.length_nil,Nat.zero_add,Nat.add_sub_cancel] at hc;rw [Array.getElem?_map,zal] at hc;obtain ⟨q,hq,rfl⟩:=hc;exact g2 i z q hz (by simpa using hq)
     ·rintro e w1 ⟨cv,v,ob1,ρ1,rfl,hK,hG1,hr⟩;simp only;rw [hd];rcases rd with _ | d
      ·exact hN _ ρ1 _ _ hK hG1
      ·exact hN _ ρ1 _ _ hK (hG1.see (s:=⟨s.e,ob1⟩) (by simpa using hdn) hr)
    ·cases h2
   ·cases h2
 | nxt x=>
  cases b with
  | false=>
   simp only [zad,if_false];exact hN _ ρ _ _ (h.2 rfl) (hskip _ fun c _=>.undef c)
  | true=>
   simp only [if_true];refine .inl ?_;obtain ⟨hm,h2⟩:=h.1 rfl;obtain ⟨it,ho,hxx⟩:=a6e hx;have hf:=g9 hG rfl hxx hm;obtain ⟨c,v,ob1,w1,hrun,hK,hG1,hr⟩:=a45 (P:=P) hG ho hf h2;unfold Oper.wp;rw [hrun,Oper.upon_value,hd];rcases rd with _ | d
   ·exact hN _ ρ _ _ hK hG1
   ·exact hN _ ρ _ _ hK (hG1.see (s:=⟨s.e,ob1⟩) (by simpa using hdn) hr)
theorem a27 {rs:List PR} {l:List Oper} {K:St→Prop} {k:Nat} (hops:∀i,i<l.length→ops[k+i]?=l[i]?) (hck:u7 (ajb P X.n ops) l rs=true) (hG:Gam X s ρ a w) (h:wpR P rs K s)
  (hN:∀s' ρ' a' w',K s'→Gam X s' ρ' a' w'→Q .normal a' w'):wpOps P ops Q (List.range' k l.length) a w:=by
 induction l generalizing rs k s ρ a w with
 | nil=>
  cases rs with
  | nil=>exact hN s ρ a w h hG
  | cons r rs=>cases hck
 | cons o l ih=>
  cases rs with
  | nil=>cases hck
  | cons r rs=>
   simp only [u7,zaa] at hck;have hi:ops[k]?=some o:=by have:=hops 0 (by simp); simpa using this
   rw [zaj,List.range'_succ,wpOps_cons];refine av7 hG hi hck.1 h fun s' ρ' a' w' hK hG'=>?_;exact ih (fun i hi=>by have:=hops (i+1) (by simp; omega); rw [show k+1+i=k+(i+1) by omega,this]; simp) hck.2 hG' hK
theorem axz {α β:Type} {f:α→β→Bool}:∀{xs:List α} {ys:List β},u7 f xs ys=true→xs.length=ys.length∧∀(i:Nat) (x:α) (y:β),xs[i]?=some x→ys[i]?=some y→f x y=true
 | [],[],_=>⟨rfl,fun i x y h=>by simp at h⟩
 | [],_::_,h=>by cases h
 | _::_,[],h=>by cases h
 | x::xs,y::ys,h=>by
  simp only [u7,zaa] at h;obtain ⟨g1,g2⟩:=axz h.2;refine ⟨by simp [g1],fun i a b ha hb=>?_⟩;cases i with
  | zero=>simp at ha hb; subst ha; subst hb; exact h.1
  | succ i=>simp at ha hb; exact g2 i a b ha hb
theorem a51 {rs:List PR} {pre:List (List Nat)} {log:List Lg} {K:St→Prop} {R:Nat→St} {C:Nat→Ans} (hck:u7 (ajb P X.n ops) ops.toList rs=true) (hpre:ar0 ops pre=true) (hap:si pre log=true) (hll:log.length=rs.length)
  (href:∀k r,rs[k]?=some r→(r.out P (R k) (C k)).ok∧R (k+1)=(r.out P (R k) (C k)).st∧log[k]?=some (r.out P (R k) (C k)).lg) (hK:K (R rs.length))
  (hN:∀s' ρ' a' w',K s'→Gam X s' ρ' a' w'→Q .normal a' w'):∀(fuel:Nat) (listed:Array Bool) (s:St) (ρ:Pl→Option Nat) (a:Act) (w:World),listed.size=ops.size →
   (∀j,listed.getD j false=true→∀i,i∈pre.getD j []→listed.getD i false=true)→(List.range ops.size).countP (fun k=>!listed.getD k false)≤fuel →
   (∀l,x8 s l=ow (fun k=>x8 (R k)) (wrt log) (fun k=>listed.getD k false=true) ops.size l)→Gam X s ρ a w→wpAny P .any ops Q fuel listed a w:=by
 obtain ⟨hlen,hat⟩:=axz hck;have hlen:ops.size=rs.length:=by simpa using hlen
 have hr:∀k,k<ops.size→∃o r,ops[k]?=some o∧rs[k]?=some r∧ajb P X.n ops o r=true∧(r.out P (R k) (C k)).ok∧R (k+1)=(r.out P (R k) (C k)).st∧log.getD k default=(r.out P (R k) (C k)).lg:=fun k hk=>by
  have h1:ops[k]?=some ops[k]:=by simp [hk]
  have h2:rs[k]?=some (rs[k]'(by omega)):=by simp [show k<rs.length by omega]
  obtain ⟨g1,g2,g3⟩:=href k _ h2;exact ⟨_,_,h1,h2,hat k _ _ (by simpa using h1) h2,g1,g2,by simp [List.getD_eq_getElem?_getD,g3]⟩
 have hloc:∀k r,k<ops.size→rs[k]?=some r→log.getD k default=(r.out P (R k) (C k)).lg:=fun k r hk h=>by
  obtain ⟨_,r',_,h2,_,_,_,h3⟩:=hr k hk;rw [h] at h2; cases h2; exact h3
 have hflag:∀k r,k<ops.size→rs[k]?=some r→(log.getD k default).ad=r.x.adr∧(log.getD k default).st=r.x.sto:=fun k r hk h=>by
  rw [hloc k r hk h];exact a40
 have hWR:∀k i,k<ops.size→i∈(log.getD k default).wr→i∈(log.getD k default).rd∧(log.getD k default).ad=false:=fun k i hk hw=>by
  obtain ⟨o,r,h1,h2,h3,h4,h5,h6⟩:=hr k hk;refine ⟨?_,?_⟩
  ·simp only [h6] at hw ⊢;exact ((asr (s':=R k) h4 (fun _ _=>rfl) (fun _ _ _=>rfl) (fun _ _=>rfl)).2.2.2.1 i hw).1
  ·rw [(hflag k r hk h2).1];cases hadr:r.x.adr with
   | false=>rfl
   | true=>
    rw [h6] at hw;rcases r with ⟨d,g,u,x⟩
    cases x with
    | see o=>
     unfold PR.out at hw;simp only at hw;generalize yes (R k).e g=y at hw;rcases y with _ | b
     ·simp [PX.out,PR.lg] at hw
     ·simp [PX.out,PR.lg] at hw
    | _=>cases hadr
 have hWU:∀k l,k<ops.size→wrt log k l→usd log k l:=fun k l hk hw=>by
  cases l with
  | t t=>
   obtain ⟨o,r,h1,h2,h3,h4,h5,h6⟩:=hr k hk;simp only [wrt,usd,h6] at hw ⊢;rw [ap4.2] at hw;rw [ap4.1];simp [hw]
  | o i=>exact hWR k i hk hw
  | p i=>exact (hWR k i hk hw.1).1
 have hoff:∀k l,k<ops.size→¬wrt log k l→x8 (R (k+1)) l=x8 (R k) l:=fun k l hk hw=>by
  obtain ⟨o,r,h1,h2,h3,h4,h5,h6⟩:=hr k hk;have hl:=asr (s':=R k) h4 (fun _ _=>rfl) (fun _ _ _=>rfl) (fun _ _=>rfl);rw [h5];cases l with
  | t t=>
   simp only [wrt,h6,ap4.2] at hw;simp only [x8,hl.2.2.1 t hw]
  | o i=>
   simp only [wrt,h6] at hw;simp only [x8,hl.2.2.2.2 i hw]
  | p i=>
   simp only [wrt,(hflag k r hk h2).2] at hw;simp only [x8];by_cases hi:i∈(log.getD k default).wr
   ·have:r.x.sto=true:=by
     cases hsto:r.x.sto with
     | true=>rfl
     | false=>exact (hw ⟨hi,hsto⟩).elim
    rw [azi this]
   ·rw [h6] at hi;rw [hl.2.2.2.2 i hi]
 have hpp:∀i j,i<j→j<ops.size→¬(i∈pre.getD j [])→∀l,¬(wrt log i l∧usd log j l)∧¬(wrt log j l∧usd log i l):=fun i j hij hj hp l=>a6t hap hij (by omega) hp l;intro fuel
 induction fuel with
 | zero=>
  intro listed s ρ a w hsz hcl hcnt hpl hG
  have hall:∀k,k<ops.size→listed.getD k false=true:=fun k hk=>by
   have h0:(List.range ops.size).countP (fun k=>!listed.getD k false)=0:=by omega
   rw [List.countP_eq_zero] at h0;have:=h0 k (by simp [hk]);simpa using this
  have hs:s=R rs.length:=at7 fun l=>by rw [hpl l,apl hoff hall ops.size (zae _),hlen]
  refine ⟨?_,hN s ρ a w (by rw [hs]; exact hK) hG⟩;rcases hrd:Region.ready .any ops listed with _ | ⟨j,js⟩
  ·rfl
  ·have hj:j∈Region.ready .any ops listed:=by rw [hrd]; simp
   obtain ⟨h1,o,ho,_⟩:=mem_ready.1 hj;have hlt:=(zak.1 ho).1;have:=hall j hlt;rw [zab] at this h1;have hsome:listed[j]?=some (listed[j]'(by omega)):=by simp [show j<listed.size by omega]
   rw [hsome] at this h1;simp at this h1;rw [this] at h1;cases h1
 | succ fuel ih=>
  intro listed s ρ a w hsz hcl hcnt hpl hG;refine ⟨fun hnil=>?_,fun j hj=>?_⟩
  ·have hall:∀k,k<ops.size→listed.getD k false=true:=fun k=>by
    induction k using Nat.strongRecOn with
    | ind k ihk=>
     intro hk;apply Classical.byContradiction;intro hnot
     have hf:listed.getD k true=false:=by
      rw [zab] at hnot ⊢;have hsome:listed[k]?=some (listed[k]'(by omega)):=by simp [show k<listed.size by omega]
      rw [hsome] at hnot ⊢;simpa using hnot
     obtain ⟨o,r,h1,_⟩:=hr k hk;have:k∈Region.ready .any ops listed:=mem_ready.2 ⟨hf,o,h1,fun e he hb=>ihk e.on ((ag2 hpre h1).1 e he hb) (Nat.lt_trans ((ag2 hpre h1).1 e he hb) hk)⟩;rw [hnil] at this;cases this
   have hs:s=R rs.length:=at7 fun l=>by rw [hpl l,apl hoff hall ops.size (zae _),hlen]
   exact hN s ρ a w (by rw [hs]; exact hK) hG
  ·obtain ⟨hun,oj,hoj,haft⟩:=mem_ready.1 hj;have hlt:=(zak.1 hoj).1
   have hunf:¬(listed.getD j false=true):=by
    rw [zab] at hun ⊢;have hsome:listed[j]?=some (listed[j]'(by omega)):=by simp [show j<listed.size by omega]
    rw [hsome] at hun ⊢;simpa using hun
   obtain ⟨o,r,h1,h2,h3,h4,h5,h6⟩:=hr j hlt
   have hpj:∀i,i∈pre.getD j []→listed.getD i false=true:=fun i hi=>by
    obtain ⟨e,he,hb,hor⟩:=(ag2 hpre h1).2 i hi;have he':listed.getD e.on false=true:=by rw [h1] at hoj; cases hoj; exact haft e he hb
    rcases hor with rfl | hor
    ·exact he'
    ·exact hcl _ he' i hor
   have hsee:∀l,usd log j l→x8 s l=x8 (R j) l:=fun l hl=>by
    rw [hpl l];exact bdq (pr:=fun j i=>i∈pre.getD j []) hoff hpp hcl hlt hunf hpj hl
   have hL:=asr (s':=s) h4 (fun t ht=>by
    have:=hsee (.t t) (by simp only [usd,h6]; exact ht);simpa [x8] using this) (fun hadr i hi=>by
    have:=hsee (.o i) (by
     simp only [usd];rw [(hflag j r hlt h2).1,h6]
     exact ⟨hi,hadr⟩)
    simpa [x8] using this) (fun i hi=>by
    have:=hsee (.p i) (by simp only [usd,h6]; exact hi)
    simpa [x8] using this)
   have hset:∀k,(listed.setIfInBounds j true).getD k false=true↔(listed.getD k false=true∨k=j):=fun k=>by
    by_cases hkj:k=j
    ·subst hkj;simp [zab,hsz,hlt]
    ·have:(listed.setIfInBounds j true).getD k false=listed.getD k false:=getD_set_ne false (Ne.symm hkj);rw [this];simp [hkj]
   refine av7 hG h1 h3 (bft (K:=fun s'=>∀l,x8 s' l=ow (fun k=>x8 (R k)) (wrt log) (fun k=>(listed.setIfInBounds j true).getD k false=true) ops.size l) hL.1 fun l=>?_) fun s' ρ' a' w' hs' hG'=>?_
   ·have hfun:(fun k=>(listed.setIfInBounds j true).getD k false=true)=fun k=>listed.getD k false=true∨k=j:=funext fun k=>propext (hset k);rw [hfun];by_cases hw:wrt log j l
    ·rw [a9l (pr:=fun j i=>i∈pre.getD j []) hWU hpp hcl hlt hunf hw,h5];cases l with
     | t t=>
      simp only [wrt,h6,ap4.2] at hw;simp only [x8,hL.2.1 t hw]
     | o i=>
      simp only [wrt,h6] at hw;simp only [x8,(hL.2.2.2.1 i hw).2]
     | p i=>
      have hw1:=hw.1;simp only [h6] at hw1;simp only [x8,(hL.2.2.2.1 i hw1).2]
    ·rw [a0f hw,← hpl l];cases l with
     | t t=>
      simp only [wrt,h6,ap4.2] at hw;simp only [x8,hL.2.2.1 t hw]
     | o i=>
      simp only [wrt,h6] at hw;simp only [x8,hL.2.2.2.2 i hw]
     | p i=>
      simp only [x8];by_cases hi:i∈(log.getD j default).wr
      ·have:r.x.sto=true:=by
        cases hsto:r.x.sto with
        | true=>rfl
        | false=>exact (hw ⟨hi,by rw [(hflag j r hlt h2).2]; exact hsto⟩).elim
       rw [azi this]
      ·rw [h6] at hi;rw [hL.2.2.2.2 i hi]
   ·refine ih _ s' ρ' a' w' (by simpa using hsz) (fun k hk i hi=>?_) ?_ hs' hG'
    ·rw [hset] at hk ⊢;rcases hk with hk | rfl
     ·exact .inl (hcl k hk i hi)
     ·exact .inl (hpj i hi)
    ·have:=auq (p:=fun k=>!listed.getD k false) (q:=fun k=>!(listed.setIfInBounds j true).getD k false) (j:=j) (fun x hx=>by
      have hx':¬((listed.setIfInBounds j true).getD x false=true):=by simpa using hx
      rw [hset] at hx'
      simpa using fun h=>hx' (.inl h)) (by simpa using hunf) (by have:=(hset j).2 (.inr rfl); simp only [this,Bool.not_true]) (l:=List.range ops.size) (by simp [hlt])
     omega
def bhw (X:Cx) (K:Ex→St→Prop):Exit→Act→World→Prop
 | .normal,a,w=>∃s ρ,K .nor s∧Gam X s ρ a w
 | .exit i,a,w=>∃s ρ,K (.ex i) s∧Gam X s ρ a w
 | .ret,a,w=>∃s ρ,K .rt s∧Gam X s ρ a w
 | _,_,_=>False
theorem a75 {fl:Bool} {id:Nat} (hid:id<1000000) {x:AV} (hG:Gam X s ρ a w):∃ρ',Gam X ⟨s.e,(qh fl id s.ob x).2⟩ ρ' a w∧(∀(y:AV) (c:Value),RA X s ρ w y c→RA X ⟨s.e,(qh fl id s.ob x).2⟩ ρ' w y c) ∧
  ∀(c:Value),RA X s ρ w x c→RA X ⟨s.e,(qh fl id s.ob x).2⟩ ρ' w (qh fl id s.ob x).1 c:=by
 unfold qh;split
 ·rename_i sz z;split
  ·refine ⟨o4 ρ id none,hG.nil id _ (hG.pnn id (aqy hid)) (fun v o h=>zp h) sz z true,fun y c h=>h.stays (Stays.nil id _ (fun v o h=>zp h) _),fun c h=>?_⟩;cases h;exact .own _ _ _ _ _ rfl (lf ⟨none,0,rfl,zae _,by simp,by simp,by simp⟩)
  ·exact ⟨ρ,hG,fun _ _ h=>h,fun _ h=>h⟩
 ·exact ⟨ρ,hG,fun _ _ h=>h,fun _ h=>h⟩
theorem aov:∀{live:List (Nat×Bool)} {s:St} {ρ:Pl→Option Nat},(∀p∈live,p.1<100000)→Gam X s ρ a w→∃ρ',Gam X ⟨s.e,(u9 s.e live s.ob).2⟩ ρ' a w∧(∀(y:AV) (c:Value),RA X s ρ w y c→RA X ⟨s.e,(u9 s.e live s.ob).2⟩ ρ' w y c) ∧
  (u9 s.e live s.ob).1.length=live.length∧∀(i t:Nat) (fl:Bool) (x:AV) (c:Value),live[i]?=some (t,fl)→(u9 s.e live s.ob).1[i]?=some x→RA X s ρ w (s.e t) c→RA X ⟨s.e,(u9 s.e live s.ob).2⟩ ρ' w x c
 | [],s,ρ,_,hG=>⟨ρ,hG,fun _ _ h=>h,rfl,fun i t fl x c h=>by simp at h⟩
 | (t,fl)::r,s,ρ,hl,hG=>by
  have ht:t<100000:=hl (t,fl) (by simp);obtain ⟨ρ1,g1,g2,g3⟩:=a75 (fl:=fl) (id:=900000+t) (by omega) (x:=s.e t) hG;obtain ⟨ρ2,k1,k2,k3,k4⟩:=aov (live:=r) (s:=⟨s.e,(qh fl (900000+t) s.ob (s.e t)).2⟩) (fun p hp=>hl p (by simp [hp])) g1;refine ⟨ρ2,k1,fun y c h=>k2 y c (g2 y c h),by simp [u9,k3],fun i t' fl' x c hi hx hr=>?_⟩;cases i with
  | zero=>
   simp [u9] at hi hx;obtain ⟨rfl,rfl⟩:=hi;subst hx;exact k2 _ c (g3 c hr)
  | succ i=>
   simp [u9] at hi hx;exact k4 i t' fl' x c hi hx (g2 _ c hr)
theorem azy:∀{live:List (Nat×Bool)} {vs:List AV} (t:Nat),(∃(i:Nat) (fl:Bool) (x:AV),live[i]?=some (t,fl)∧vs[i]?=some x∧keep live vs t=x)∨keep live vs t=.undef
 | [],vs,t=>.inr (by simp [keep])
 | _::_,[],t=>.inr (by simp [keep])
 | (l,fl)::ls,v::vs,t=>by
  by_cases h:t=l
  ·subst h;exact .inl ⟨0,fl,v,rfl,rfl,by simp [keep,put]⟩
  ·have hk:keep ((l,fl)::ls) (v::vs) t=keep ls vs t:=by simp [keep,put,h]
   rw [hk];rcases azy (live:=ls) (vs:=vs) t with ⟨i,fl',x,h1,h2,h3⟩ | h0
   ·exact .inl ⟨i+1,fl',x,by simpa using h1,by simpa using h2,h3⟩
   ·exact .inr h0
theorem al8 {np:Nat} {live:List (Nat×Bool)} {D:List AV→List Ob→List Ob→Prop} (hl:∀p∈live,p.1<100000) (hnp:np≤1000000) (hpn:∀id b,X.pn id=some b→1000000≤id∧id<1000000+np) (hG:Gam X s ρ a w) (h:acu np live s D) :
  ∃vs pos los ρ',D vs pos los∧Gam X (aon live vs pos los) ρ' a w:=by
 obtain ⟨ρ1,g1,g2,g3,g4⟩:=aov hl hG;unfold acu at h;rcases hn:nrm 64 np 2000000 (u9 s.e live s.ob).1 (u9 s.e live s.ob).2 with _ | ⟨vs,pos,los⟩
 ·rw [hn] at h; exact h.elim
 rw [hn] at h;obtain ⟨ρ2,k1,k2,k3,k4⟩:=g1.toMem.nrm hn (by omega) hpn;refine ⟨vs,pos,los,ρ2,h,k1,hG.sz,hG.df,fun t=>?_,hG.pnn,hG.small,hG.base⟩;simp only [aon];rcases azy (live:=live) (vs:=vs) t with ⟨i,fl,x,h1,h2,h3⟩ | h0
 ·rw [h3];have hlt:=(zai.1 h2).1;have hp:(u9 s.e live s.ob).1[i]?=some ((u9 s.e live s.ob).1[i]'(by omega)):=by simp [show i<(u9 s.e live s.ob).1.length by omega]
  exact k4 i _ x _ hp h2 (g4 i t fl _ _ h1 hp (hG.env t))
 ·rw [h0];exact .undef _
theorem a13 {S:Nat→Prop} (h:∃k,S k):∃k,S k∧∀j,S j→k≤j:=by
 obtain ⟨k,hk⟩:=h
 induction k using Nat.strongRecOn with
 | _ k ih=>
  by_cases hx:∃j,j<k∧S j
  ·obtain ⟨j,h1,h2⟩:=hx;exact ih j h1 h2
  ·refine ⟨k,hk,fun j hj=>?_⟩;rcases Nat.lt_or_ge j k with h | h
   ·exact absurd ⟨j,h,hj⟩ hx
   ·exact h
theorem bek {np:Nat} (hnp:np≤1000000) (hpn:∀id b,X.pn id=some b→1000000≤id∧id<1000000+np):∀(pc:PC) (c:Code) (K:Ex→St→Prop) (s:St) (ρ:Pl→Option Nat) (a:Act) (w:World),mz P X.n c pc=true→W P np pc K s→Gam X s ρ a w→c.wp P (bhw X K) a w:=by
 intro pc
 induction pc with
 | skip=>
  intro c K s ρ a w hc h hG;cases c<;>simp only [mz] at hc<;>try (cases hc; done)
  exact wp_skip ⟨s,ρ,h,hG⟩
 | reg rs=>
  intro c K s ρ a w hc h hG;cases c<;>simp only [mz] at hc<;>try (cases hc; done)
  rename_i id ops d;simp only [zaa,Bool.not_eq_true'] at hc;obtain ⟨rfl,hc⟩:=hc;refine wp_region ?_;rw [List.range_eq_range',← Array.length_toList];exact a27 (k:=0) (l:=ops.toList) (fun i hi=>by simp) hc hG h fun s' ρ' a' w' hK hG'=>⟨s',ρ',hK,hG'⟩
 | seq p q ihp ihq=>
  intro c K s ρ a w hc h hG;cases c<;>simp only [mz] at hc<;>try (cases hc; done)
  rename_i x y;simp only [zaa] at hc;refine wp_seq (wp_mono (ihp x _ s ρ a w hc.1 h hG) fun e a' w' hp=>?_);cases e with
  | normal=>
   obtain ⟨s',ρ',h1,h2⟩:=hp;exact ihq y K s' ρ' a' w' hc.2 h1 h2
  | exit i=>exact hp
  | ret=>exact hp
  | goto l=>exact hp
  | panic ch=>exact hp
  | outgrown=>exact hp
 | cond x p q ihp ihq=>
  intro c K s ρ a w hc h hG;cases c<;>simp only [mz] at hc<;>try (cases hc; done)
  rename_i y c1 c2;simp only [zaa] at hc;obtain ⟨⟨h1,h2⟩,h3⟩:=hc;have hx:=ami hG.env h1;simp only [W] at h;generalize x.ev s.e=xv at hx h;split at h
  ·rename_i b;exact wp_cond_split (k9 hx) (fun hb=>ihp c1 K s ρ a w h2 (h.1 hb) hG) (fun hb=>ihq c2 K s ρ a w h3 (h.2 hb) hG)
  ·exact h.elim
 | block id p ih=>
  intro c K s ρ a w hc h hG;cases c<;>simp only [mz] at hc<;>try (cases hc; done)
  rename_i id' c';simp only [zaa,beq_iff_eq] at hc;obtain ⟨rfl,hc⟩:=hc;refine wp_block (wp_mono (ih c' _ s ρ a w hc h hG) fun e a' w' hp=>?_);cases e with
  | normal=>exact hp
  | exit i=>
   obtain ⟨s',ρ',h1,h2⟩:=hp;simp only [Exit.inBlock];simp only at h1;split
   ·rename_i hi;rw [if_pos hi] at h1;exact ⟨s',ρ',h1,h2⟩
   ·rename_i hi;rw [if_neg hi] at h1;exact ⟨s',ρ',h1,h2⟩
  | ret=>exact hp
  | goto l=>exact hp
  | panic ch=>exact hp
  | outgrown=>exact hp
 | loop p ih=>
  intro c K s ρ a w hc h hG;cases c<;>simp only [mz] at hc<;>try (cases hc; done)
  rename_i c';obtain ⟨live,I,m,hl,h0,hr⟩:=h;have hl':∀p∈live,p.1<100000:=fun p hp=>by simpa using zac.1 hl p hp
  let S:Nat→Act→World→Prop:=fun k a w=>∃vs pos los ρ,I vs pos los∧Gam X (aon live vs pos los) ρ a w∧m vs pos los=k
  refine wp_loop (fun a w=>∃k,S k a w) (fun a w=>open Classical in if hx:∃k,S k a w then (a13 hx).choose else 0) ?_ ?_
  ·obtain ⟨vs,pos,los,ρ',h1,h2⟩:=al8 hl' hnp hpn hG h0;exact ⟨_,vs,pos,los,ρ',h1,h2,rfl⟩
  ·intro a w hx;simp only [dif_pos hx];obtain ⟨vs,pos,los,ρ',h1,h2,h3⟩:=(a13 hx).choose_spec.1;refine wp_mono (ih c' _ _ ρ' a w hc (hr vs pos los h1) h2) fun e a' w' hp=>?_;cases e with
   | normal=>
    obtain ⟨s',ρ'',g1,g2⟩:=hp;obtain ⟨vs',pos',los',ρ3,k1,k2⟩:=al8 hl' hnp hpn g2 g1;have hex:∃k,S k a' w':=⟨_,vs',pos',los',ρ3,k1.1,k2,rfl⟩
    refine ⟨hex,?_⟩;rw [dif_pos hex,← h3];exact Nat.lt_of_le_of_lt ((a13 hex).choose_spec.2 _ ⟨vs',pos',los',ρ3,k1.1,k2,rfl⟩) k1.2
   | exit i=>exact hp
   | ret=>exact hp
   | goto l=>exact hp
   | panic ch=>exact hp
   | outgrown=>exact hp
 | exit i=>
  intro c K s ρ a w hc h hG;cases c<;>simp only [mz] at hc<;>try (cases hc; done)
  rename_i j;have:j=i:=by simpa using hc
  subst this;exact wp_exit ⟨s,ρ,h,hG⟩
 | ret=>
  intro c K s ρ a w hc h hG;cases c<;>simp only [mz] at hc<;>try (cases hc; done)
  exact wp_ret ⟨s,ρ,h,hG⟩
 | drw rs pre=>
  intro c K s ρ a w hc h hG;cases c<;>simp only [mz] at hc<;>try (cases hc; done)
  rename_i id ops d;simp only [zaa] at hc;obtain ⟨⟨⟨rfl,hm⟩,hck⟩,hpre⟩:=hc;obtain ⟨R,C,log,h0,hll,href,hap,hK⟩:=ays h;refine wp_region_any hm ?_
  have hrep:∀k,¬((Array.replicate ops.size false).getD k false=true):=fun k=>by
   rw [zab,Array.getElem?_replicate];split<;>simp
  refine a51 hck hpre (by simpa using hap) hll href hK (fun s' ρ' a' w' hK' hG'=>⟨s',ρ',hK',hG'⟩) ops.size _ s ρ a _ (by simp) (fun j hj=>?_) ?_ (fun l=>?_) (hG.drew _)
  ·exact (hrep j hj).elim
  ·exact Nat.le_trans List.countP_le_length (by simp)
  ·rw [aur hrep,h0]
end

def AV.isNil:AV→Bool
 | .nils _ _=>true
 | _=>false
def rr:List AV→Bool
 | []=>false
 | x::xs=>x.isNil||rr xs
def aev (ob:Obs):AV→Option (AV×List Nat)
 | .nils sz z=>some (.nils sz z,[])
 | x=>match x.rv ob with
  | some (y,l)=>some (.r y,l)
  | none=>none
def qm (ob:Obs):List AV→Option (List AV×List Nat)
 | []=>some ([],[])
 | x::xs=>match aev ob x,qm ob xs with
  | some (y,i),some (ys,j)=>some (y::ys,i++j)
  | _,_=>none
def aew (ob:Obs) (xs:List AV):Bool→Option (AV×List Nat)
 | true=>match qm ob xs with
  | some (ys,l)=>some (.agg ys,l)
  | none=>none
 | false=>match rvs ob xs with
  | some (ys,l)=>some (.r (.agg ys),l)
  | none=>none
def ac4 (ob:Obs):AV→Option (AV×List Nat)
 | .own id ver lo len=>match i9 ob id ver with
  | some (sz,_,_,wr,xs)=>if wr then some (.own id ver lo len,[]) else some (.r (.sl sz ((xs.drop lo).take len)),[])
  | none=>match o7 ob id ver with
   | some _=>some (.own id ver lo len,[])
   | none=>none
 | .agg xs=>aew ob xs (qk&&rr xs)
 | x=>some (x,[])
def vl (ob:Obs):List AV→Option (List AV×List Nat)
 | []=>some ([],[])
 | x::xs=>match ac4 ob x,vl ob xs with
  | some (y,i),some (ys,j)=>some (y::ys,i++j)
  | _,_=>none
def uc:List AV→AV
 | [x]=>x
 | xs=>.tup xs
def au8 (np:Nat) (ob:Obs) (D:AV→List Ob→Prop):Option (List AV×List Nat)→Prop
 | some (vs,l)=>awi (fun vs pos los=>D (uc vs) (pos++los)) (nrm 64 np (1000000+np) vs (freeze ob l))
 | none=>False
def axi (np:Nat) (rs:List (Nat×Bool)) (s:St) (D:AV→List Ob→Prop):Prop:=
 au8 np (u9 s.e rs s.ob).2 D (vl (u9 s.e rs s.ob).2 (u9 s.e rs s.ob).1)
abbrev RSl:=Nat×Bool×Option (TypeId×Option Nat)
def opn (np:Nat) (all:List (Nat×Bool)) (D:AV→List Ob→Prop):List RSl→Env→Obs→Prop
 | [],e,ob=>axi np all ⟨e,ob⟩ D
 | (_,_,none)::r,e,ob=>opn np all D r e ob
 | (a,_,some (_,n))::r,e,ob=>(ld1 true n (e a) ob).ok∧opn np all D r (put a (ld1 true n (e a) ob).v e) ob
def atn (np:Nat) (rs:List RSl) (D:AV→List Ob→Prop):Ex→St→Prop
 | .nor,s=>opn np (rs.map fun p=>(p.1,p.2.1)) D rs s.e s.ob
 | .rt,s=>opn np (rs.map fun p=>(p.1,p.2.1)) D rs s.e s.ob
 | .ex _,_=>False
def RSl.rv:RSl→ResultVar
 | (t,_,none)=>.tmp t
 | (a,_,some (ty,_))=>.cell a ty
def RSl.agg (P:Program):RSl→Bool
 | (_,_,none)=>true
 | (_,_,some (ty,n))=>ag6 P ty n
def pb:Nat→List AV→Env
 | _,[]=>fun _=>.undef
 | k,x::xs=>put k x (pb (k+1) xs)
theorem a0k:∀{xs:List AV} {k t:Nat},k≤t→pb k xs t=(xs[t-k]?).getD .undef
 | [],k,t,h=>by simp [pb]
 | x::xs,k,t,h=>by
  simp only [pb,put];by_cases hk:t=k
  ·subst hk; simp
  ·rw [if_neg hk,a0k (by omega),show t-k=(t-(k+1))+1 by omega];simp
theorem ao1:∀(xs ys:List Ob) (k:Nat),bk k xs (bk (k+xs.length) ys fun _=>none)=obs k (xs++ys)
 | [],[],k=>rfl
 | [],y::ys,k=>by
  have:=ao1 [] ys (k+1);simp only [bk,List.length_nil,Nat.add_zero,List.nil_append,obs] at this ⊢;rw [this]
 | x::xs,ys,k=>by
  have:=ao1 xs ys (k+1);simp only [bk,zaj,List.cons_append,obs] at this ⊢;rw [show k+(xs.length+1)=k+1+xs.length by omega,this]
section
variable {P:Program} {X:Cx} {w w':World} {s:St} {ρ ρ':Pl→Option Nat} {a:Act} {o:Oper} {ob ob':Obs} {R R':Nat→Prop}
theorem aub {lall:List Nat} (hG:Gam X s ρ a w) {ob:Obs} (hob:s.ob=Ev.freeze ob lall):∀{xs ys:List AV} {l:List Nat},qm ob xs=some (ys,l)→(∀i,i∈l→i∈lall) →
  ys.length=xs.length∧∀(i:Nat) (x y:AV) (c:Value),xs[i]?=some x→ys[i]?=some y→RA X s ρ w x c→RA X s ρ w y c
 | [],ys,l,h,hs=>by simp [qm] at h; obtain ⟨rfl,rfl⟩:=h; simp
 | z::xs,ys,l,h,hs=>by
  simp only [qm] at h;split at h
  ·rename_i y' k zs j h1 h2;cases h;obtain ⟨g1,g2⟩:=aub hG hob h2 (fun p hp=>hs p (by simp [hp]));refine ⟨by simp [g1],fun i x y c hx hy hr=>?_⟩;cases i with
   | zero=>
    simp at hx hy;subst hx; subst hy;unfold aev at h1;split at h1
    ·cases h1; exact hr
    ·split at h1
     ·rename_i hrv;cases h1;exact .r (aqf hG hrv (fun p hp=>hs p (by simp [hp])) hob hr)
     ·cases h1
   | succ i=>
    simp at hx hy;exact g2 i x y c hx hy hr
  ·cases h
theorem a8f {lall:List Nat} (hG:Gam X s ρ a w) {ob:Obs} (hob:s.ob=Ev.freeze ob lall) {x y:AV} {l:List Nat} {c:Value} (h:ac4 ob x=some (y,l)) (hsub:∀i,i∈l→i∈lall) (hx:RA X s ρ w x c):RA X s ρ w y c:=by
 unfold ac4 at h;split at h
 ·split at h
  ·rename_i sz z app wr xs hr;split at h
   ·cases h; exact hx
   ·rename_i hwr;cases h;obtain ⟨wr',h1,h2⟩:=ai4 lall ob _ (p6 hr);rw [← hob,h2 (.inl (by simpa using hwr))] at h1;exact .r (a4w hG h1 hx)
  ·split at h
   ·cases h; exact hx
   ·cases h
 ·rename_i xs;unfold aew at h;split at h
  ·split at h
   ·rename_i ys l' hrv;cases h;cases hx;rename_i cs hl hrel;obtain ⟨k1,k2⟩:=aub hG hob hrv hsub;refine .agg _ _ (by rw [k1]; exact hl) fun i y c hy hc=>?_;have hlt:i<xs.length:=by have:=(zai.1 hy).1; omega
    have hxi:xs[i]?=some xs[i]:=by simp [hlt]
    exact k2 i _ y c hxi hy (hrel i _ c hxi hc)
   ·cases h
  split at h
  ·rename_i ys l' hrv;cases h;cases hx;rename_i cs hl hrel;refine .r (.agg _ _ (by rw [pu hrv]; exact hl) fun i y c hy hc=>?_);have hlt:i<xs.length:=by have:=(zai.1 hy).1; have:=pu hrv; omega
   have hxi:xs[i]?=some xs[i]:=by simp [hlt]
   exact ahj hG hob hrv hsub i _ y c hxi hy (hrel i _ c hxi hc)
  ·cases h
 ·cases h; exact hx
theorem awb {lall:List Nat} (hG:Gam X s ρ a w) {ob:Obs} (hob:s.ob=Ev.freeze ob lall):∀{xs ys:List AV} {l:List Nat},vl ob xs=some (ys,l)→(∀i,i∈l→i∈lall) →
  ys.length=xs.length∧∀(i:Nat) (x y:AV) (c:Value),xs[i]?=some x→ys[i]?=some y→RA X s ρ w x c→RA X s ρ w y c
 | [],ys,l,h,hs=>by simp [vl] at h; obtain ⟨rfl,rfl⟩:=h; simp
 | z::xs,ys,l,h,hs=>by
  simp only [vl] at h;split at h
  ·rename_i y' k zs j h1 h2;cases h;obtain ⟨g1,g2⟩:=awb hG hob h2 (fun p hp=>hs p (by simp [hp]));refine ⟨by simp [g1],fun i x y c hx hy hr=>?_⟩;cases i with
   | zero=>
    simp at hx hy;subst hx; subst hy;exact a8f hG hob h1 (fun p hp=>hs p (by simp [hp])) hr
   | succ i=>
    simp at hx hy;exact g2 i x y c hx hy hr
  ·cases h
def bh9:List Value→Value
 | [v]=>v
 | vs=>.tuple vs.toArray
def av1 (tmps:Array Value):ResultVar→Sem Value
 | .tmp t=>pure (tmps.getD t undef)
 | .cell a t=>do loadVar t (← asAddr (tmps.getD a undef))
theorem ayb (fn:Func) (rs:List ResultVar) (h:fn.results.toList=rs) (tmps:Array Value) {cs:List Value} (hm:(rs.mapM (av1 tmps)).run P w=.ok cs w):(results fn tmps).run P w=.ok (bh9 cs) w:=by
 have hfn:fn.results=rs.toArray:=by rw [← h]
 have key:(fn.results.mapM (m:=Sem) (av1 tmps)).run P w=.ok cs.toArray w:=by
  rw [hfn];simp only [List.mapM_toArray];simp only [map_eq_pure_bind,Sem.run_bind,hm,Result.andThen_ok,Sem.run_pure]
 have key2:(fn.results.mapM (m:=Sem) fun | .tmp t=>pure (tmps.getD t undef) | .cell a t=>do loadVar t (← asAddr (tmps.getD a undef))).run P w=.ok cs.toArray w:=by
  rw [← key];congr 2
 unfold results;rw [Sem.run_bind];refine (congrArg (fun r=>Result.andThen r _) key2).trans ?_;clear key key2 hfn h hm
 match cs with
 | []=>rfl
 | [t]=>rfl
 | t::t'::rs=>rfl
theorem bgf {g:Bool} (hg:g=true) {n:Option Nat} {u:AV} {v:Value} (hG:Gam X s ρ a w) (hok:(ld1 g n u s.ob).ok) (hu:RA X s ρ w u v):∃b o,v=.pointer (some ⟨b,o,none⟩):=by
 cases u with
 | ptr id ver off=>
  simp only [ld1] at hok;rcases hr:o7 s.ob id ver with _ | c
  ·rw [hr] at hok; exact (hok hg).elim
  ·cases hu;rename_i h;obtain ⟨b,_,hc⟩:=h.live (il hr);exact ⟨b,off,hc⟩
 | oel id ver i off=>
  simp only [ld1] at hok;rcases hr:i9 s.ob id ver with _ | c
  ·rw [hr] at hok; exact (hok hg).elim
  ·cases hu;rename_i h;obtain ⟨_,_,b,_,hc⟩:=h.live (p6 hr);exact ⟨b,_,hc⟩
 | rp ys=>cases hu; exact ⟨_,_,rfl⟩
 | _=>exact (hok.2 hg).elim
theorem ast {np:Nat} {all:List (Nat×Bool)} {D:AV→List Ob→Prop} {tmps:Array Value} {ob:Obs}:∀{rs:List RSl} {e:Env} {a:Act},opn np all D rs e ob→Gam X ⟨e,ob⟩ ρ a w→(rs.all fun p=>p.agg P)=true→(∀p∈rs,p.1<X.n)→(rs.map (·.1)).Nodup →
  (∀p∈rs,tmps.getD p.1 undef=a.tmps.getD p.1 undef)→∃e' a' cs,Gam X ⟨e',ob⟩ ρ a' w∧axi np all ⟨e',ob⟩ D∧((rs.map RSl.rv).mapM (av1 tmps)).run P w=.ok cs w∧cs.length=rs.length ∧
   (∀(i:Nat) (p:RSl) (c:Value),rs[i]?=some p→cs[i]?=some c→RelA w (g8 X.B ob ρ w) ob ρ (e' p.1) c)∧∀t,t∉rs.map (·.1)→e' t=e t
 | [],e,a,h,hG,_,_,_,_=>⟨e,a,[],hG,h,by simp,rfl,by simp,fun _ _=>rfl⟩
 | (t,fl,none)::rs,e,a,h,hG,hag,hlt,hnd,htm=>by
  simp only [List.all_cons,zaa] at hag;simp only [zah,List.nodup_cons] at hnd;obtain ⟨e',a',cs,g1,g2,g3,g4,g5,g6⟩:=ast (rs:=rs) h hG hag.2 (fun p hp=>hlt p (by simp [hp])) hnd.2 (fun p hp=>htm p (by simp [hp]));refine ⟨e',a',tmps.getD t undef::cs,g1,g2,?_,by simp [g4],fun i p c hp hc=>?_,fun t' ht'=>?_⟩
  ·simp only [zah,List.mapM_cons,Sem.run_bind,RSl.rv,av1,Sem.run_pure,Result.andThen_ok];rw [g3];simp only [Result.andThen_ok]
  ·cases i with
   | zero=>
    simp at hp hc;subst hp; subst hc;rw [g6 t hnd.1];have:=hG.env t;rw [← htm (t,fl,none) (by simp)] at this;rw [zab] at this;exact this
   | succ i=>exact g5 i p c (by simpa using hp) (by simpa using hc)
  ·simp at ht';exact g6 t' (by simpa using ht'.2)
 | (t,fl,some (ty,n))::rs,e,a,h,hG,hag,hlt,hnd,htm=>by
  simp only [List.all_cons,zaa] at hag;simp only [zah,List.nodup_cons] at hnd;obtain ⟨hok,h⟩:=h;have ht:a.eval (.tmp t)=a.tmps.getD t undef:=rfl;have hsee := a3x (P := P) (s := ⟨e, ob⟩) (o := { dst := none, op := .load ty (.tmp t), type := 0, pos := "", after := #[], guard := none }) rfl hG rfl hag.1 (hG.env t) hok
  obtain ⟨c,hrun,hr⟩:=hsee;obtain ⟨b,o,hv⟩:=bgf rfl hG hok (hG.env t)
  have hload:(loadVar ty ⟨b,o,none⟩).run P w=.ok c w:=by
   simp only [execOp,ht,hv,Instr.loadAt,Instr.sureAddr,Sem.run_bind,Sem.run_pure,Result.andThen_ok] at hrun;generalize (loadVar ty ⟨b,o,none⟩).run P w=r at hrun ⊢;cases r with
   | ok v w1=>simp only [Result.andThen_ok] at hrun; cases hrun; rfl
   | halt x w1=>cases hrun
  have hG2:=hG.see (hlt (t,fl,some (ty,n)) (by simp)) hr
  obtain ⟨e',a',cs,g1,g2,g3,g4,g5,g6⟩:=ast (rs:=rs) (tmps:=tmps) h hG2 hag.2 (fun p hp=>hlt p (by simp [hp])) hnd.2 (fun p hp=>by
   rw [htm p (by simp [hp])];have hne:t≠p.1:=fun heq=>hnd.1 (by rw [heq]; exact List.mem_map_of_mem hp)
   simp [Act.put,zab,Array.getElem?_setIfInBounds_ne hne])
  refine ⟨e',a',c::cs,g1,g2,?_,by simp [g4],fun i p c' hp hc=>?_,fun t' ht'=>?_⟩
  ·have htm0:=htm (t,fl,some (ty,n)) (by simp);simp only [zah,List.mapM_cons,Sem.run_bind,RSl.rv,av1];simp only at htm0;rw [htm0,hv];simp only [asAddr,Sem.run_pure,Result.andThen_ok];rw [hload];simp only [Result.andThen_ok];rw [g3];simp only [Result.andThen_ok]
  ·cases i with
   | zero=>
    simp at hp hc;subst hp; subst hc;rw [g6 t hnd.1];simp only [put,if_true];exact hr
   | succ i=>exact g5 i p c' (by simpa using hp) (by simpa using hc)
  ·simp at ht';rw [g6 t' (by simpa using ht'.2)];simp [put,ht'.1]
def amv (P:Program) (f:FuncId) (args:List AV) (po:List Ob) (D:AV→List Ob→Prop):Prop:=
 ∀(w:World) (cargs:Array Value) (ρ:Pl→Option Nat) (B:Nat→Prop),Gl P w (jn (ob0 po) ρ)→(∀b,jn (ob0 po) ρ b∨w.heap.size≤b→B b) →
  Mem ⟨0,jn (ob0 po) ρ,fun _=>none,B,w⟩ (ob0 po) ρ w→cargs.size=args.length →
  (∀(i:Nat) (x:AV) (c:Value),args[i]?=some x→cargs[i]?=some c→RelA w (g8 B (ob0 po) ρ w) (ob0 po) ρ x c) →
  Calls P f cargs w fun e w'=>∃c ρ' res ro,e=.returned c∧D res ro∧Mem ⟨0,jn (ob0 po) ρ,me po ρ,B,w⟩ (ob0 ro) ρ' w'∧RelA w' (g8 B (ob0 ro) ρ' w') (ob0 ro) ρ' res c
set_option maxHeartbeats 1000000 in
theorem aka {f:FuncId} {fn:Func} {c:Code} {pc:PC} {args:List AV} {po:List Ob} {D:AV→List Ob→Prop} {rs:List RSl} (hf:P.funcs[f]?=some fn) (hb:fn.body=some c) (hn:fn.ntmps≤100000) (hck:mz P fn.ntmps c pc=true)
  (hal:args.length≤fn.ntmps) (hres:fn.results.toList=rs.map RSl.rv) (hag:(rs.all fun p=>p.agg P)=true) (hrs:(rs.all fun p=>decide (p.1<fn.ntmps))=true) (hnd:(rs.map (·.1)).Nodup) (hpo:po.length≤1000)
  (h:W P po.length pc (atn po.length rs D) ⟨pb 0 args,ob0 po⟩):amv P f args po D:=by
 intro w cargs ρ B hgl hB hM hcs hargs
 let X:Cx:=⟨fn.ntmps,jn (ob0 po) ρ,me po ρ,B,w⟩
 haveI:GlC P X:=⟨hgl⟩
 have hpin:∀id b,X.pn id=some b→ρ id=some b∧∃o,ob0 po id=some (0,o)∧o.pinned=true∧(o.isRow=true→wv X.w0 w b):=fun id b hp=>by
  simp only [X,me] at hp;split at hp
  ·rename_i v o hx;split at hp
   ·rename_i ho;have:=(xg hx).2.2;simp only at this;subst this;exact ⟨hp,o,hx,ho,fun _=>wv.refl _ _⟩
   ·cases hp
  ·cases hp
 have hX:Mem X (ob0 po) ρ w:=⟨hM.obj,hM.inj,hM.keeps,hM.own,hpin⟩
 have hpr:∀id b,X.pn id=some b→1000000≤id∧id<1000000+po.length:=fun id b hp=>by
  obtain ⟨_,cells,hx,_⟩:=hpin id b hp;obtain ⟨h1,h2,_⟩:=xg hx;have:=(zai.1 h2).1;exact ⟨h1,by omega⟩
 have hG:Gam X ⟨pb 0 args,ob0 po⟩ ρ { tmps:=cargs++Array.replicate (fn.ntmps-cargs.size) undef,defers:=[] } w:=by
  refine ⟨hX,by simp [X]; omega,rfl,fun t=>?_,fun id hid=>?_,hn,hB⟩
  ·show RelA w (g8 X.B (ob0 po) ρ w) (ob0 po) ρ (pb 0 args t) _;rw [a0k (Nat.zero_le _),Nat.sub_zero];by_cases ht:t<args.length
   ·have hx:args[t]?=some args[t]:=by simp [ht]
    have hc:cargs[t]?=some (cargs[t]'(by omega)):=by simp [show t<cargs.size by omega]
    have:=hargs t _ _ hx hc;rw [hx];simp only [Option.getD_some];rw [zab,Array.getElem?_append_left (by omega),hc];exact this
   ·rw [List.getElem?_eq_none (by omega)];exact .undef _
  ·rcases hp:X.pn id with _ | b
   ·rfl
   ·have h1:=(hpr id b hp).1;have h2:=(hpr id b hp).2
    rcases (show id<1000000∨2000000≤id by
     unfold par at hid;by_cases q:1000000≤id
     ·rw [decide_eq_true q] at hid;exact .inr (by have:=of_decide_eq_false hid; omega)
     ·exact .inl (by omega)) with q | q<;>omega
 refine calls_of_wp hf hb (wp_mono (bek (by omega) hpr pc c _ _ ρ _ w hck h hG) fun e a' w' hp=>?_)
 have key:(∃s ρ,opn po.length (rs.map fun p=>(p.1,p.2.1)) D rs s.e s.ob∧Gam X s ρ a' w')→a'.defers=[]∧∃v,(results fn a'.tmps).run P w'=.ok v w'∧∃c ρ' res ro,Ending.returned v=.returned c∧D res ro∧Mem ⟨0,jn (ob0 po) ρ,me po ρ,B,w⟩ (ob0 ro) ρ' w'∧RelA w' (g8 B (ob0 ro) ρ' w') (ob0 ro) ρ' res c:=by
  rintro ⟨s0,ρ1,hx0,hG0⟩;obtain ⟨e1,a1,cs,hG1,hx,hrun,hcl,hrel,_⟩:=ast (P:=P) (tmps:=a'.tmps) hx0 hG0 hag (fun p hp=>by simpa using zac.1 hrs p hp) hnd (fun _ _=>rfl);refine ⟨hG0.df,_,ayb fn _ hres a'.tmps hrun,?_⟩;generalize hall:(rs.map fun p=>(p.1,p.2.1))=all at hx;have hal1:all.length=rs.length:=by rw [← hall]; simp
  obtain ⟨ρ2,g1,g2,g3,g4⟩:=aov (live:=all) (fun p hp=>by
   rw [← hall] at hp;obtain ⟨q,hq,rfl⟩:=List.mem_map.1 hp;have:q.1<fn.ntmps:=by simpa using zac.1 hrs q hq
   simp only
   omega) hG1
  unfold axi at hx;simp only at g1 g2 g3 g4 hx;rcases ho:vl (u9 e1 all s0.ob).2 (u9 e1 all s0.ob).1 with _ | ⟨vs,l⟩
  ·rw [ho] at hx; exact hx.elim
  rw [ho] at hx;simp only [au8] at hx;have hG3:=Gam.freeze (s:=⟨e1,(u9 e1 all s0.ob).2⟩) l g1;obtain ⟨k1,k2⟩:=awb (s:=⟨e1,Ev.freeze (u9 e1 all s0.ob).2 l⟩) hG3 rfl ho (fun _ h=>h);rcases hn2:nrm 64 po.length (1000000+po.length) vs (freeze (u9 e1 all s0.ob).2 l) with _ | ⟨vs',pos,los⟩
  ·rw [hn2] at hx; exact hx.elim
  rw [hn2] at hx;have hx:D (uc vs') (pos++los):=hx;obtain ⟨ρ4,m1,m2,m3,m4⟩:=hG3.toMem.nrm hn2 (zae _) hpr;rw [← m3,ao1 pos los 1000000] at m1 m4;refine ⟨_,ρ4,_,_,rfl,hx,⟨m1.obj,m1.inj,m1.keeps,m1.own,m1.pin⟩,?_⟩
  have hval:∀(i:Nat) (y:AV) (v:Value),vs'[i]?=some y→cs[i]?=some v→RelA w' (g8 B (ob0 (pos++los)) ρ4 w') (ob0 (pos++los)) ρ4 y v:=fun i y v hy hv=>by
   have hlt:=(zai.1 hv).1;obtain ⟨q,hr⟩:∃q,rs[i]?=some q:=⟨rs[i]'(by omega),by simp [show i<rs.length by omega]⟩
   have ha:all[i]?=some (q.1,q.2.1):=by rw [← hall,List.getElem?_map,hr]; rfl
   have hp:(u9 e1 all s0.ob).1[i]?=some ((u9 e1 all s0.ob).1[i]'(by omega)):=by simp [show i<(u9 e1 all s0.ob).1.length by omega]
   have hv':vs[i]?=some (vs[i]'(by omega)):=by simp [show i<vs.length by omega]
   exact m4 i _ y _ hv' hy (k2 i _ _ _ hp hv' (ai5 l (g4 i _ _ _ _ ha hp (hrel i _ v hr hv))))
  have hlen:vs'.length=cs.length:=by omega
  clear hx;clear hrun hrel hcl g4
  match vs',cs,hlen,hval with
  | [],[],_,hv=>exact .tup _ _ (by simp) fun i x c hx=>by simp at hx
  | [x],[c],_,hv=>exact hv 0 x c rfl rfl
  | x::x'::xs,c::c'::cs,hl,hv=>exact .tup _ _ (by simp at hl ⊢; omega) fun i y v hy hc=>hv i y v hy (by simpa using hc)
  | [],_::_,hl,_=>simp at hl
  | _::_,[],hl,_=>simp at hl
  | [_],_::_::_,hl,_=>simp at hl
  | _::_::_,[_],hl,_=>simp at hl
 cases e with
 | normal=>exact key hp
 | ret=>exact key hp
 | exit i=>obtain ⟨_,_,h,_⟩:=hp; exact h.elim
 | goto l=>exact hp.elim
 | panic ch=>exact hp.elim
 | outgrown=>exact hp.elim
theorem ax7 {f:FuncId} {fn:Func} {c:Code} {pc:PC} {args:List AV} {po ro:List Ob} {res:AV} {rs:List RSl} (hf:P.funcs[f]?=some fn) (hb:fn.body=some c) (hn:fn.ntmps≤100000) (hck:mz P fn.ntmps c pc=true)
  (hal:args.length≤fn.ntmps) (hres:fn.results.toList=rs.map RSl.rv) (hag:(rs.all fun p=>p.agg P)=true) (hrs:(rs.all fun p=>decide (p.1<fn.ntmps))=true) (hnd:(rs.map (·.1)).Nodup) (hpo:po.length≤1000)
  (h:W P po.length pc (atn po.length rs fun v os=>v=res∧os=ro) ⟨pb 0 args,ob0 po⟩):a8 P f args po res ro:=by
 intro w cargs ρ B hgl hB hM hcs hargs;refine (aka hf hb hn hck hal hres hag hrs hnd hpo h w cargs ρ B hgl hB hM hcs hargs).mono ?_;rintro e w' ⟨c,ρ',_,_,rfl,⟨rfl,rfl⟩,hM',hr⟩;exact ⟨c,ρ',rfl,hM',hr⟩
end

structure Shut (p:Prop):Prop where
 out:p
inductive Item where
 | c (c:PC)
 | blk (id:Nat)
 | lp (live:List (Nat×Bool)) (D:List AV→List Ob→List Ob→Prop)
 | cut (S:Env→Obs→Prop)
section
variable {P:Program}
theorem ajh {f:FuncId} {u:Nat} {ob:Obs} {K K':AV→Obs→Prop} (hK:∀v o,K v o→K' v o) {vs:List AV} {a:Option (List AV×List Nat)} (h:agk P f u ob K vs a):agk P f u ob K' vs a:=by
 have hR:∀{ob:Obs} {ids:List Nat} {as:List AV} {l:List Nat} {fz:Bool} {o:Option (List Ob)},aeg P f u ob ids as l fz K o→aeg P f u ob ids as l fz K' o:=fun {ob ids as l fz o} h=>by
  cases o with
  | none=>exact h
  | some po=>obtain ⟨r,o,h1,h2,h3,h4,h5⟩:=h; exact ⟨r,o,h1,h2,h3,h4,hK _ _ h5⟩
 rcases a with _ | ⟨as,_ | ⟨i,l⟩⟩
 ·exact hR h
 ·exact hR h
 ·exact h.imp hR (Or.imp hR (Or.imp hR (Or.imp (fun ⟨id,v,z,xs,h1,h2,h3⟩=>⟨id,v,z,xs,h1,h2,fun ex=>hR (h3 ex)⟩) fun ⟨id,v,sz,z,xs,h1,h2,h3⟩=>⟨id,v,sz,z,xs,h1,h2,hR h3⟩)))
theorem avf:∀{rs:List PR} {K K':St→Prop} {s:St},(∀s,K s→K' s)→wpR P rs K s→wpR P rs K' s
 | [],K,K',s,hK,h=>hK s h
 | r::rs,K,K',s,hK,h=>by
  have ih:∀s,wpR P rs K s→wpR P rs K' s:=fun s=>avf hK;simp only [wpR] at h ⊢;generalize yes s.e r.g=y at h ⊢;cases y with
  | none=>exact h
  | some b=>
   simp only [PR.wp] at h ⊢;rcases r with ⟨d,g,u,x⟩
   cases x with
   | see o=>exact ⟨h.1,ih _ h.2⟩
   | act o=>exact ⟨fun hb=>⟨(h.1 hb).1,ih _ (h.1 hb).2⟩,fun hb=>ih _ (h.2 hb)⟩
   | call f xs=>exact ⟨fun hb=>⟨(h.1 hb).1,ajh (fun v o=>ih _) (h.1 hb).2⟩,fun hb=>ih _ (h.2 hb)⟩
   | callv x xs=>
    refine ⟨fun hb=>⟨(h.1 hb).1,(h.1 hb).2.1,?_⟩,fun hb=>ih _ (h.2 hb)⟩;have h3:=(h.1 hb).2.2;simp only at h3 ⊢;generalize (x.ev s.e).bare=y at h3 ⊢;cases y with
    | fn f cap=>cases f with
     | func f=>exact ⟨h3.1,ajh (fun v o=>ih _) h3.2⟩
     | _=>exact h3
    | _=>exact h3
   | inv tbl x xs=>
    refine ⟨fun hb=>⟨(h.1 hb).1,(h.1 hb).2.1,?_⟩,fun hb=>ih _ (h.2 hb)⟩;have h3:=(h.1 hb).2.2;simp only at h3 ⊢;generalize (x.ev s.e).bare=y at h3 ⊢;cases y with
    | ifc t y=>
     simp only [amw] at h3 ⊢;generalize dz t tbl=q at h3 ⊢;cases q with
     | some f=>exact ajh (fun v o=>ih _) h3
     | none=>exact h3
    | _=>exact h3
   | nxt x=>
    refine ⟨fun hb=>⟨(h.1 hb).1,?_⟩,fun hb=>ih _ (h.2 hb)⟩;have h3:=(h.1 hb).2;simp only at h3 ⊢;unfold awh at h3 ⊢;split at h3
    ·unfold a1n at h3 ⊢;split at h3
     ·unfold a8j at h3 ⊢;split at h3
      ·exact ⟨h3.1,h3.2.1,fun q=>ih _ (h3.2.2.1 q),fun q hq=>ih _ (h3.2.2.2 q hq)⟩
      ·exact h3
     ·exact h3
    ·exact h3
theorem avg:∀{rs:List PR} {log:List Lg} {K K':List Lg→St→Prop} {s:St},(∀l s,K l s→K' l s)→wpD P rs log s K→wpD P rs log s K'
 | [],log,K,K',s,hK,h=>hK log s h
 | r::rs,log,K,K',s,hK,h=>by
  obtain ⟨c,h1,h2⟩:=h;exact ⟨c,h1,avg hK h2⟩
theorem bhv {np:Nat}:∀{pc:PC} {K K':Ex→St→Prop} {s:St},(∀x s,K x s→K' x s)→W P np pc K s→W P np pc K' s:=by
 intro pc
 induction pc with
 | skip=>intro K K' s hK h; exact hK _ _ h
 | reg rs=>intro K K' s hK h; exact avf (hK .nor) h
 | seq a b iha ihb=>
  intro K K' s hK h;refine iha (fun x s h=>?_) h;cases x with
  | nor=>exact ihb hK h
  | _=>exact hK _ _ h
 | cond x a b iha ihb=>
  intro K K' s hK h;unfold W at h ⊢;split at h
  ·exact ⟨fun q=>iha hK (h.1 q),fun q=>ihb hK (h.2 q)⟩
  ·exact h.elim
 | block id c ih=>
  intro K K' s hK h;refine ih (fun x s h=>?_) h;cases x with
  | ex i=>
   simp only at h ⊢;split
   ·rename_i hi; rw [if_pos hi] at h; exact hK _ _ h
   ·rename_i hi; rw [if_neg hi] at h; exact hK _ _ h
  | _=>exact hK _ _ h
 | loop c ih=>
  intro K K' s hK h;obtain ⟨live,I,m,h1,h2,h3⟩:=h;refine ⟨live,I,m,h1,h2,fun vs pos los hv=>ih (fun x s h=>?_) (h3 vs pos los hv)⟩;cases x with
  | nor=>exact h
  | _=>exact hK _ _ h
 | exit i=>intro K K' s hK h; exact hK _ _ h
 | ret=>intro K K' s hK h; exact hK _ _ h
 | drw rs pre=>intro K K' s hK h; exact avg (fun l s h=>⟨h.1,hK _ _ h.2⟩) h
end
mutual
def run (P:Program) (np:Nat) (Q:Ex→St→Prop):List Item→St→Prop
 | [],s=>Q .nor s
 | .c c::is,s=>W P np c (fun x s=>match x with | .nor=>run P np Q is s | x=>unw P np Q is x s) s
 | .blk _::is,s=>run P np Q is s
 | .lp live D::_,s=>acu np live s D
 | .cut S::_,s=>S s.e s.ob
def unw (P:Program) (np:Nat) (Q:Ex→St→Prop):List Item→Ex→St→Prop
 | [],x,s=>Q x s
 | .blk id::is,.ex i,s=>if i=id then run P np Q is s else unw P np Q is (.ex i) s
 | _::is,x,s=>unw P np Q is x s
end
def bj (P:Program) (np:Nat) (Q:Ex→St→Prop) (rs:List PR) (is:List Item) (e:Env) (ob:Obs):Prop:=wpR P rs (run P np Q is) ⟨e,ob⟩
def stp (P:Program) (np:Nat) (Q:Ex→St→Prop) (d:Option Nat) (g:Option (Nat×Bool)) (u:Nat) (x:PX) (rs:List PR) (is:List Item) (e:Env) (ob:Obs):Option Bool→Prop
 | some b=>x.wp P ⟨d,g,u,x⟩ ⟨e,ob⟩ (wpR P rs (run P np Q is)) b
 | none=>False
def be6 (P:Program) (np:Nat) (Q:Ex→St→Prop) (d:Option Nat) (g:Option (Nat×Bool)) (b:Bool) (rs:List PR) (is:List Item) (e:Env) (R:Rs) (ob:Obs):Prop:=
 R.ok∧bj P np Q rs is (o5 d (gdv g b R.v) e) ob
def ax0 (P:Program) (np:Nat) (Q:Ex→St→Prop) (d:Option Nat) (rs:List PR) (is:List Item) (e:Env) (R:Rs):Prop:=
 R.ok∧bj P np Q rs is (o5 d R.v e) R.ob
def cnd (P:Program) (np:Nat) (Q:Ex→St→Prop) (x:AV) (a b:PC) (is:List Item) (s:St):Prop:=match x with
  | .r (.v (.bool c))=>Shut ((c=true→run P np Q (.c a::is) s)∧(c=false→run P np Q (.c b::is) s))
  | _=>False
def xb (P:Program) (np:Nat) (Q:Ex→St→Prop) (f:FuncId) (u:Nat) (d:Option Nat) (rs:List PR) (is:List Item) (e:Env) (ob:Obs) (vs:List AV):Option (List AV×List Nat)→Prop:=
 agk P f u ob (fun v ob=>bj P np Q rs is (o5 d v e) ob) vs
def agf (P:Program) (np:Nat) (Q:Ex→St→Prop) (f:FuncId) (u:Nat) (d:Option Nat) (rs:List PR) (is:List Item) (e:Env) (ob:Obs) (as:List AV) (l:List Nat) (fz:Bool) (ids:List Nat):Prop:=
 aeg P f u ob ids (imL (fwd ob ids) as) l fz (fun v ob=>bj P np Q rs is (o5 d v e) ob) (u3 (fwd ob ids) ob ids)
def a2p (P:Program) (np:Nat) (Q:Ex→St→Prop) (f:FuncId) (u:Nat) (d:Option Nat) (rs:List PR) (is:List Item) (e:Env) (ob:Obs) (as:List AV) (l:List Nat) (fz:Bool) (ids:List Nat):Option (List Ob)→Prop:=
 aeg P f u ob ids as l fz (fun v ob=>bj P np Q rs is (o5 d v e) ob)
def ar6 (P:Program) (np:Nat) (Q:Ex→St→Prop) (f:FuncId) (u:Nat) (d:Option Nat) (rs:List PR) (is:List Item) (e:Env) (ob:Obs) (as:List AV) (l:List Nat) (fz:Bool) (ids:List Nat) (po:List Ob):Prop:=
 a2p P np Q f u d rs is e ob as l fz ids (some po)
def aft (P:Program) (np:Nat) (Q:Ex→St→Prop) (u:Nat) (d:Option Nat) (rs:List PR) (is:List Item) (e:Env) (ob:Obs) (ids:List Nat) (res:AV) (ro:List Ob):Prop:=
 bj P np Q rs is (o5 d (imV (back ob u ids ro.length) res) e) (cw ob u ids (back ob u ids ro.length) 0 ro)
def a2o (P:Program) (np:Nat) (Q:Ex→St→Prop) (u:Nat) (d:Option Nat) (rs:List PR) (is:List Item) (e:Env) (ob:Obs) (vs:List AV) (x:AV):Prop:=
 a24 P u ob vs (fun v ob=>bj P np Q rs is (o5 d v e) ob) x
def ar7 (P:Program) (np:Nat) (Q:Ex→St→Prop) (tbl:List (TypeId×FuncId)) (u:Nat) (d:Option Nat) (rs:List PR) (is:List Item) (e:Env) (ob:Obs) (vs:List AV) (x:AV):Prop:=
 amw P tbl u ob vs (fun v ob=>bj P np Q rs is (o5 d v e) ob) x
def a6j (P:Program) (np:Nat) (Q:Ex→St→Prop) (u:Nat) (d:Option Nat) (rs:List PR) (is:List Item) (e:Env) (ob:Obs) (vs:List AV) (x:AV):Option FuncId→Prop
 | some f=>xb P np Q f u d rs is e ob (x::vs) (n6 ob (x::vs))
 | none=>False
def a8i (P:Program) (np:Nat) (Q:Ex→St→Prop) (d:Option Nat) (rs:List PR) (is:List Item) (e:Env) (ob:Obs) (x:AV):Prop:=awh ob (fun v ob=>bj P np Q rs is (o5 d v e) ob) x
def bfx (P:Program) (np:Nat) (Q:Ex→St→Prop) (d:Option Nat) (rs:List PR) (is:List Item) (e:Env) (ob:Obs) (id ver:Nat) (x:Option (AV×Nat×List Nat×Nat)):Prop:=a1n id ver ob (fun v ob=>bj P np Q rs is (o5 d v e) ob) x
def bfw (P:Program) (np:Nat) (Q:Ex→St→Prop) (d:Option Nat) (rs:List PR) (is:List Item) (e:Env) (ob:Obs) (id ver:Nat) (m:AV) (since:Nat) (seen:List Nat) (st:Nat) (x:Option (List MapEntry×Nat)):Prop:=
 a8j id ver ob m since seen st (fun v ob=>bj P np Q rs is (o5 d v e) ob) x
theorem awg {P:Program} {np:Nat} {Q:Ex→St→Prop} {d:Option Nat} {rs:List PR} {is:List Item} {e:Env} {ob:Obs} {id ver:Nat} {m:AV} {since st c:Nat} {seen:List Nat} {es:List MapEntry} (h1:∀e,e∈es→e.born<since) (h2:since≤st)
  (h3:db es seen=[]→bj P np Q rs is (o5 d (.tup [bl false]) e) ob)
  (h4:∀en,en∈db es seen→bj P np Q rs is (o5 d (.tup [bl true,.r (ll en.key),.r (ll en.val)]) e) (upd id (ver,.iter m since (seen++[en.born]) c) ob)):bfw P np Q d rs is e ob id ver m since seen st (some (es,c)):=
 ⟨h1,h2,h3,h4⟩
section
variable (P:Program) (np:Nat) (Q:Ex→St→Prop) (is:List Item) (s:St) (e:Env) (ob:Obs)
theorem tj (d:Option Nat) (g:Option (Nat×Bool)) (u:Nat) (tbl:List (TypeId×FuncId)) (x:Opd) (xs:List Opd) (rs:List PR):stp P np Q d g u (.inv tbl x xs) rs is e ob (some true)=((x.ev e).may true∧bw true e xs∧ar7 P np Q tbl u d rs is e ob (l8 e xs) (x.ev e).bare):=by
 simp [stp,PX.wp,ar7,bj]
theorem gh (d:Option Nat) (g:Option (Nat×Bool)) (u:Nat) (tbl:List (TypeId×FuncId)) (x:Opd) (xs:List Opd) (rs:List PR):stp P np Q d g u (.inv tbl x xs) rs is e ob (some false)=bj P np Q rs is (o5 d .undef e) ob:=by
 simp [stp,PX.wp,bj]
theorem gz (u:Nat) (d:Option Nat) (rs:List PR) (tbl:List (TypeId×FuncId)) (vs:List AV) (t:TypeId) (x:AV):ar7 P np Q tbl u d rs is e ob vs (.ifc t x)=a6j P np Q u d rs is e ob vs x (dz t tbl):=by
 simp only [ar7,amw];generalize dz t tbl=q;cases q<;>rfl
theorem eu (u:Nat) (d:Option Nat) (rs:List PR) (vs:List AV) (x:AV) (f:FuncId):a6j P np Q u d rs is e ob vs x (some f)=xb P np Q f u d rs is e ob (x::vs) (n6 ob (x::vs)):=(rfl)
theorem ti (d:Option Nat) (g:Option (Nat×Bool)) (u:Nat) (x:Opd) (rs:List PR):stp P np Q d g u (.nxt x) rs is e ob (some true)=((x.ev e).may true∧a8i P np Q d rs is e ob (x.ev e).bare):=by
 simp [stp,PX.wp,a8i,bj]
theorem oe (d:Option Nat) (rs:List PR) (id ver:Nat):a8i P np Q d rs is e ob (.ptr id ver 0)=bfx P np Q d rs is e ob id ver (de ob id ver):=(rfl)
theorem kh (d:Option Nat) (rs:List PR) (id ver mid mver since st:Nat) (seen:List Nat):bfx P np Q d rs is e ob id ver (some (.mp mid mver,since,seen,st))=bfw P np Q d rs is e ob id ver (.mp mid mver) since seen st (t7 ob mid mver):=(rfl)
theorem jt (d:Option Nat) (g:Option (Nat×Bool)) (u:Nat) (x:Opd) (xs:List Opd) (rs:List PR):stp P np Q d g u (.callv x xs) rs is e ob (some true)=((x.ev e).may true∧bw true e xs∧a2o P np Q u d rs is e ob (l8 e xs) (x.ev e).bare):=by
 simp [stp,PX.wp,a2o,bj]
theorem oy (u:Nat) (d:Option Nat) (rs:List PR) (vs:List AV) (f:FuncId) (cap:List AV) (k:Nat):a2o P np Q u d rs is e ob vs (.fn (.func f) cap k)=(xm P f=true∧xb P np Q f u d rs is e ob (cap.take k++(vs++cap.drop k)) (n6 ob (cap.take k++(vs++cap.drop k)))):=(rfl)
theorem cq (d:Option Nat) (g:Option (Nat×Bool)) (u:Nat) (x:Opd) (xs:List Opd) (rs:List PR):stp P np Q d g u (.callv x xs) rs is e ob (some false)=bj P np Q rs is (o5 d .undef e) ob:=by
 simp [stp,PX.wp,bj]
theorem tu:run P np Q [] s=Q .nor s:=by unfold run; rfl
theorem nu:run P np Q (.c .skip::is) s=run P np Q is s:=by rw [run]; rfl
theorem tp (a b:PC):run P np Q (.c (.seq a b)::is) s=run P np Q (.c a :: .c b::is) s:=by
 rw [run,W,run];congr 1;funext x s;cases x<;>simp only [run,unw]
theorem tt (ops:List PR):run P np Q (.c (.reg ops)::is) ⟨e,ob⟩=bj P np Q ops is e ob:=by rw [run]; rfl
theorem nz:bj P np Q [] is e ob=run P np Q is ⟨e,ob⟩:=(rfl)
theorem jy (d:Option Nat) (g:Option (Nat×Bool)) (u:Nat) (x:PX) (rs:List PR):bj P np Q (⟨d,g,u,x⟩::rs) is e ob=stp P np Q d g u x rs is e ob (yes e g):=by
 show PR.wp P ⟨d,g,u,x⟩ ⟨e,ob⟩ (wpR P rs (run P np Q is)) (yes e g) = _;generalize yes e g=y;cases y<;>rfl
theorem th (d:Option Nat) (g:Option (Nat×Bool)) (u:Nat) (o:PO) (rs:List PR) (b:Bool):stp P np Q d g u (.see o) rs is e ob (some b)=be6 P np Q d g b rs is e (o.see b e ob) ob:=(rfl)
theorem to (d:Option Nat) (g:Option (Nat×Bool)) (b:Bool) (rs:List PR) (p:Prop) (v:AV) (ob':Obs) (rd wr:List Nat):be6 P np Q d g b rs is e ⟨p,v,ob',rd,wr⟩ ob=(p∧bj P np Q rs is (o5 d (gdv g b v) e) ob):=(rfl)
theorem tl (d:Option Nat) (g:Option (Nat×Bool)) (u:Nat) (o:PO) (rs:List PR):stp P np Q d g u (.act o) rs is e ob (some true)=ax0 P np Q d rs is e (o.act (d.getD 0) e ob):=by
 simp [stp,PX.wp,ax0,bj]
theorem gi (d:Option Nat) (g:Option (Nat×Bool)) (u:Nat) (o:PO) (rs:List PR):stp P np Q d g u (.act o) rs is e ob (some false)=bj P np Q rs is (o5 d .undef e) ob:=by
 simp [stp,PX.wp,ax0,bj]
theorem el (d:Option Nat) (g:Option (Nat×Bool)) (u:Nat) (f:FuncId) (xs:List Opd) (rs:List PR):stp P np Q d g u (.call f xs) rs is e ob (some false)=bj P np Q rs is (o5 d .undef e) ob:=by
 simp [stp,PX.wp,ax0,bj]
theorem uu (d:Option Nat) (rs:List PR) (p:Prop) (v:AV) (ob':Obs) (rd wr:List Nat):ax0 P np Q d rs is e ⟨p,v,ob',rd,wr⟩=(p∧bj P np Q rs is (o5 d v e) ob'):=(rfl)
theorem nn (d:Option Nat) (g:Option (Nat×Bool)) (u:Nat) (f:FuncId) (xs:List Opd) (rs:List PR):stp P np Q d g u (.call f xs) rs is e ob (some true)=(bw true e xs∧xb P np Q f u d rs is e ob (l8 e xs) (n6 ob (l8 e xs))):=by
 simp [stp,PX.wp,xb,bj]
theorem ig (f:FuncId) (u:Nat) (d:Option Nat) (rs:List PR) (vs as:List AV):xb P np Q f u d rs is e ob vs (some (as,[]))=agf P np Q f u d rs is e ob as [] true (n9 ob 64 (m5 as) []):=(rfl)
theorem ku {P:Program} {np:Nat} {Q:Ex→St→Prop} {is:List Item} {e:Env} {ob:Obs} {f:FuncId} {u:Nat} {d:Option Nat} {rs:List PR} {vs as:List AV} {i:Nat} {l:List Nat} (h:agf P np Q f u d rs is e ob as (i::l) false (n9 ob 64 (m5 as) [])):xb P np Q f u d rs is e ob vs (some (as,i::l)):=Or.inr (Or.inl h)
theorem m0 {P:Program} {np:Nat} {Q:Ex→St→Prop} {is:List Item} {e:Env} {ob:Obs} {f:FuncId} {u:Nat} {d:Option Nat} {rs:List PR} {vs as:List AV} {i:Nat} {l:List Nat} (h:agf P np Q f u d rs is e (freeze ob (i::l)) as (i::l) true (n9 (freeze ob (i::l)) 64 (m5 as) [])):xb P np Q f u d rs is e ob vs (some (as,i::l)):=Or.inl h
theorem kr (f:FuncId) (u:Nat) (d:Option Nat) (rs:List PR) (vs:List AV):xb P np Q f u d rs is e ob vs none=agf P np Q f u d rs is e ob vs [] true (n9 ob 64 (m5 vs) []):=(rfl)
theorem agh {P:Program} {np:Nat} {Q:Ex→St→Prop} {is:List Item} {e:Env} {ob:Obs} {f:FuncId} {u:Nat} {d:Option Nat} {rs:List PR} {vs as:List AV} {i:Nat} {l:List Nat} (h:agf P np Q f u d rs is e ob vs [] true (n9 ob 64 (m5 vs) [])):xb P np Q f u d rs is e ob vs (some (as,i::l)):=Or.inr (Or.inr (Or.inl h))
theorem a2q {P:Program} {np:Nat} {Q:Ex→St→Prop} {is:List Item} {e:Env} {ob:Obs} {f:FuncId} {u:Nat} {d:Option Nat} {rs:List PR} {vs as:List AV} {i:Nat} {l:List Nat} (id v sz:Nat) (z:RV) (xs:List RV) (hid:ob id=some (v,.row sz z true true xs)) (hne:xs≠[])
  (h:agf P np Q f u d rs is e (upd id (v,.row sz z false true xs) ob) vs [] true (n9 (upd id (v,.row sz z false true xs) ob) 64 (m5 vs) [])):xb P np Q f u d rs is e ob vs (some (as,i::l)):=Or.inr (Or.inr (Or.inr (Or.inr ⟨id,v,sz,z,xs,hid,hne,h⟩)))
theorem a6k {P:Program} {np:Nat} {Q:Ex→St→Prop} {is:List Item} {e:Env} {ob:Obs} {f:FuncId} {u:Nat} {d:Option Nat} {rs:List PR} {vs as:List AV} {i:Nat} {l:List Nat} (id v:Nat) (z:RV) (xs:List Value) (hid:ob id=some (v,.row 1 z true true (xs.map RV.v))) (hne:xs≠[])
  (h:∀m,agf P np Q f u d rs is e (upd id (v,.box (xs.map (fun x=>AV.r (.v x))++List.replicate m .undef)) ob) vs [] true (n9 (upd id (v,.box (xs.map (fun x=>AV.r (.v x))++List.replicate m .undef)) ob) 64 (m5 vs) [])):xb P np Q f u d rs is e ob vs (some (as,i::l)):=Or.inr (Or.inr (Or.inr (Or.inl ⟨id,v,z,xs,hid,hne,h⟩)))
theorem oz (f:FuncId) (u:Nat) (d:Option Nat) (rs:List PR) (as:List AV) (l:List Nat) (fz:Bool) (ids:List Nat):agf P np Q f u d rs is e ob as l fz ids=a2p P np Q f u d rs is e ob (imL (fwd ob ids) as) l fz ids (u3 (fwd ob ids) ob ids):=(rfl)
theorem ic (f:FuncId) (u:Nat) (d:Option Nat) (rs:List PR) (as:List AV) (l:List Nat) (fz:Bool) (ids:List Nat) (po:List Ob):a2p P np Q f u d rs is e ob as l fz ids (some po)=ar6 P np Q f u d rs is e ob as l fz ids po:=(rfl)
theorem a5 {P:Program} {np:Nat} {Q:Ex→St→Prop} {is:List Item} {e:Env} {ob:Obs} {f:FuncId} {u:Nat} {d:Option Nat} {rs:List PR} {as:List AV} {l:List Nat} {ids:List Nat} {po:List Ob} {res:AV} {ro:List Ob}
  (h:a8 P f as po res ro) (h1:okC u ids ro.length l true=true) (h2:y9 po ro) (h3:aft P np Q u d rs is e ob ids res ro):ar6 P np Q f u d rs is e ob as l true ids po:=
 ⟨res,ro,h,h1,h2,(fun h=>by cases h),h3⟩
theorem b9 {P:Program} {np:Nat} {Q:Ex→St→Prop} {is:List Item} {e:Env} {ob:Obs} {f:FuncId} {u:Nat} {d:Option Nat} {rs:List PR} {as as':List AV} {l:List Nat} {fz:Bool} {ids:List Nat} {po:List Ob} (has:as=as') (h:ar6 P np Q f u d rs is e ob as' l fz ids po):ar6 P np Q f u d rs is e ob as l fz ids po:=has▸h
theorem nj {P:Program} {np:Nat} {Q:Ex→St→Prop} {is:List Item} {e:Env} {ob:Obs} {f:FuncId} {u:Nat} {d:Option Nat} {rs:List PR} {as:List AV} {l:List Nat} {ids:List Nat} {po:List Ob} {res:AV} {ro:List Ob}
  (h:a8 P f as po res ro) (h1:okC u ids ro.length l false=true) (h2:y9 po ro) (h4:v9 res) (h5:∀o∈ro,ea o) (h3:aft P np Q u d rs is e ob ids res ro):ar6 P np Q f u d rs is e ob as l false ids po:=
 ⟨res,ro,h,h1,h2,fun _=>⟨h4,h5⟩,h3⟩
theorem aas (u:Nat) (d:Option Nat) (rs:List PR) (ids:List Nat) (res:AV) (ro:List Ob):aft P np Q u d rs is e ob ids res ro=bj P np Q rs is (o5 d (imV (back ob u ids ro.length) res) e) (cw ob u ids (back ob u ids ro.length) 0 ro):=(rfl)
theorem ny (x:Opd) (a b:PC):run P np Q (.c (.cond x a b)::is) ⟨e,ob⟩=cnd P np Q (x.ev e) a b is ⟨e,ob⟩:=by
 rw [run,W]; unfold cnd; split
 ·simp only [*,run]; exact propext ⟨fun h=>⟨h⟩,fun h=>h.out⟩
 ·simp [*]
theorem ox (a b:PC):cnd P np Q (.r (.v (.bool true))) a b is s=run P np Q (.c a::is) s:=propext ⟨fun h=>h.out.1 rfl,fun h=>⟨fun _=>h,fun h=>by cases h⟩⟩
theorem kq (a b:PC):cnd P np Q (.r (.v (.bool false))) a b is s=run P np Q (.c b::is) s:=propext ⟨fun h=>h.out.2 rfl,fun h=>⟨(fun h=>by cases h),fun _=>h⟩⟩
theorem c7 {P:Program} {np:Nat} {Q:Ex→St→Prop} {is:List Item} {s:St} {c:Bool} {a b:PC} (h1:c=true→run P np Q (.c a::is) s) (h2:c=false→run P np Q (.c b::is) s):cnd P np Q (.r (.v (.bool c))) a b is s:=⟨⟨h1,h2⟩⟩
theorem jx (id:Nat) (c:PC):run P np Q (.c (.block id c)::is) s=run P np Q (.c c :: .blk id::is) s:=by
 rw [run,W,run];congr 1;funext x s;cases x with
 | nor=>simp only [run]
 | ex i=>simp only [unw]
 | rt=>simp [unw]
theorem nw (i:Nat):run P np Q (.c (.exit i)::is) s=unw P np Q is (.ex i) s:=by rw [run]; rfl
theorem tq:run P np Q (.c .ret::is) s=unw P np Q is .rt s:=by rw [run]; rfl
theorem ub (i:Nat):run P np Q (.blk i::is) s=run P np Q is s:=by rw [run]
theorem zb (l:List (Nat×Bool)) (D:List AV→List Ob→List Ob→Prop):run P np Q (.lp l D::is) s=acu np l s D:=by rw [run]
theorem ss (x:Ex):unw P np Q [] x s=Q x s:=by unfold unw; rfl
theorem sx (i j:Nat):unw P np Q (.blk j::is) (.ex i) s=if i=j then run P np Q is s else unw P np Q is (.ex i) s:=by rw [unw]
theorem gf (j:Nat):unw P np Q (.blk j::is) .rt s=unw P np Q is .rt s:=by simp [unw]
theorem adp (c:PC) (x:Ex):unw P np Q (.c c::is) x s=unw P np Q is x s:=by cases x<;>simp [unw]
theorem yx (l:List (Nat×Bool)) (D:List AV→List Ob→List Ob→Prop) (x:Ex):unw P np Q (.lp l D::is) x s=unw P np Q is x s:=by cases x<;>simp [unw]
theorem ua (S:Env→Obs→Prop):run P np Q (.cut S::is) ⟨e,ob⟩=S e ob:=by rw [run]
theorem su (S:Env→Obs→Prop) (x:Ex):unw P np Q (.cut S::is) x s=unw P np Q is x s:=by cases x<;>simp [unw]
theorem ai9 {P:Program} {np:Nat} {Q:Ex→St→Prop} {is:List Item} {s:St} {c:Bool} {a b:PC} (S:Env→Obs→Prop) (hS:∀e ob,S e ob→run P np Q is ⟨e,ob⟩)
  (h1:c=true→run P np Q (.c a :: .cut S::is) s) (h2:c=false→run P np Q (.c b :: .cut S::is) s):cnd P np Q (.r (.v (.bool c))) a b is s:=by
 have key:∀a,run P np Q (.c a :: .cut S::is) s→run P np Q (.c a::is) s:=fun a h=>by
  rw [run] at h ⊢;refine bhv (fun x s h=>?_) h;cases x with
  | nor=>simp only [run] at h; exact hS _ _ h
  | ex i=>simp only [unw] at h; exact h
  | rt=>simp only [unw] at h; exact h
 exact ⟨⟨fun h=>key a (h1 h),fun h=>key b (h2 h)⟩⟩
theorem run_loop {P:Program} {np:Nat} {Q:Ex→St→Prop} {is:List Item} {s:St} {c:PC} (live:List (Nat×Bool)) (I:List AV→List Ob→List Ob→Prop) (m:List AV→List Ob→List Ob→Nat) (hl:(live.all fun p=>decide (p.1<100000))=true) (h0:acu np live s I)
  (h:∀vs pos los,I vs pos los→run P np Q (.c c :: .lp live (fun vs' pos' los'=>I vs' pos' los'∧m vs' pos' los'<m vs pos los)::is) (aon live vs pos los)):run P np Q (.c (.loop c)::is) s:=by
 rw [run,W];refine ⟨live,I,m,hl,h0,fun vs pos los hv=>?_⟩;have:=h vs pos los hv;rw [run] at this;refine cast (congrArg (fun K=>W P np c K (aon live vs pos los)) ?_) this;funext x e;cases x<;>simp only [run,unw]
theorem ax2 {P:Program} {np:Nat} {Q:Ex→St→Prop} {s:St} {c:PC} (h:run P np Q [.c c] s):W P np c Q s:=by
 rw [run] at h;refine cast (congrArg (fun K=>W P np c K s) ?_) h;funext x e;cases x<;>simp only [run,unw]
theorem uv (rs:List RSl) (D:AV→List Ob→Prop) (e:Env) (ob:Obs):atn np rs D .rt ⟨e,ob⟩=opn np (rs.map fun p=>(p.1,p.2.1)) D rs e ob:=(rfl)
theorem pd (rs:List RSl) (D:AV→List Ob→Prop) (e:Env) (ob:Obs):atn np rs D .nor ⟨e,ob⟩=opn np (rs.map fun p=>(p.1,p.2.1)) D rs e ob:=(rfl)
theorem uf (all:List (Nat×Bool)) (D:AV→List Ob→Prop) (e:Env) (ob:Obs):opn np all D [] e ob=axi np all ⟨e,ob⟩ D:=(rfl)
theorem ue (all:List (Nat×Bool)) (D:AV→List Ob→Prop) (a:Nat) (b:Bool) (r:List RSl) (e:Env) (ob:Obs):opn np all D ((a,b,none)::r) e ob=opn np all D r e ob:=(rfl)
def opf (np:Nat) (all:List (Nat×Bool)) (D:AV→List Ob→Prop) (a:Nat) (r:List RSl) (e:Env) (ob:Obs) (R:Rs):Prop:=R.ok∧opn np all D r (put a R.v e) ob
theorem od (all:List (Nat×Bool)) (D:AV→List Ob→Prop) (a:Nat) (b:Bool) (t:TypeId) (n:Option Nat) (r:List RSl) (e:Env) (ob:Obs):opn np all D ((a,b,some (t,n))::r) e ob=opf np all D a r e ob (ld1 true n (e a) ob):=(rfl)
theorem zm (all:List (Nat×Bool)) (D:AV→List Ob→Prop) (a:Nat) (r:List RSl) (e:Env) (ob:Obs) (p:Prop) (v:AV) (ob':Obs) (rd wr:List Nat):opf np all D a r e ob ⟨p,v,ob',rd,wr⟩=(p∧opn np all D r (put a v e) ob):=(rfl)
end
def abf (P:Program) (np:Nat) (Q:Ex→St→Prop) (pre:List (List Nat)) (rs:List PR) (log:List Lg) (is:List Item) (e:Env) (ob:Obs):Prop:=wpD P rs log ⟨e,ob⟩ fun log s=>si pre log=true∧run P np Q is s
def agv (P:Program) (np:Nat) (Q:Ex→St→Prop) (pre:List (List Nat)) (d:Option Nat) (g:Option (Nat×Bool)) (u:Nat) (x:PX) (rs:List PR) (log:List Lg) (is:List Item) (e:Env) (ob:Obs) (y:Option Bool):Prop:=
 ∃c:Ans,(x.out P ⟨d,g,u,x⟩ ⟨e,ob⟩ c y).ok∧wpD P rs (log++[(x.out P ⟨d,g,u,x⟩ ⟨e,ob⟩ c y).lg]) (x.out P ⟨d,g,u,x⟩ ⟨e,ob⟩ c y).st fun log s=>si pre log=true∧run P np Q is s
def bg2 (P:Program) (np:Nat) (Q:Ex→St→Prop) (pre:List (List Nat)) (r:PR) (b:Bool) (rs:List PR) (log:List Lg) (is:List Item) (e:Env) (ob:Obs) (R:Rs):Prop:=
 R.ok∧abf P np Q pre rs (log++[r.lg R.rd []]) is (o5 r.d (gdv r.g b R.v) e) ob
def baw (P:Program) (np:Nat) (Q:Ex→St→Prop) (pre:List (List Nat)) (r:PR) (rs:List PR) (log:List Lg) (is:List Item) (e:Env) (R:Rs):Prop:=
 R.ok∧abf P np Q pre rs (log++[r.lg R.rd R.wr]) is (o5 r.d R.v e) R.ob
def dcA (P:Program) (np:Nat) (Q:Ex→St→Prop) (pre:List (List Nat)) (r:PR) (f:FuncId) (p:Prop) (rs:List PR) (log:List Lg) (is:List Item) (e:Env) (ob:Obs) (a:List AV×List Nat×Bool):Prop:=
 ∃c:Ans,(az P r ⟨e,ob⟩ f p c a).ok∧wpD P rs (log++[(az P r ⟨e,ob⟩ f p c a).lg]) (az P r ⟨e,ob⟩ f p c a).st fun log s=>si pre log=true∧run P np Q is s
def dcX (P:Program) (np:Nat) (Q:Ex→St→Prop) (pre:List (List Nat)) (r:PR) (p:Prop) (rs:List PR) (log:List Lg) (is:List Item) (e:Env) (ob:Obs) (vs:List AV) (y:AV):Prop:=
 ∃c:Ans,(aap P r ⟨e,ob⟩ p c vs y).ok∧wpD P rs (log++[(aap P r ⟨e,ob⟩ p c vs y).lg]) (aap P r ⟨e,ob⟩ p c vs y).st fun log s=>si pre log=true∧run P np Q is s
def dcI (P:Program) (np:Nat) (Q:Ex→St→Prop) (pre:List (List Nat)) (r:PR) (tbl:List (TypeId×FuncId)) (p:Prop) (rs:List PR) (log:List Lg) (is:List Item) (e:Env) (ob:Obs) (vs:List AV) (y:AV):Prop:=
 ∃c:Ans,(ur P r ⟨e,ob⟩ tbl p c vs y).ok∧wpD P rs (log++[(ur P r ⟨e,ob⟩ tbl p c vs y).lg]) (ur P r ⟨e,ob⟩ tbl p c vs y).st fun log s=>si pre log=true∧run P np Q is s
def bg4 (P:Program) (np:Nat) (Q:Ex→St→Prop) (pre:List (List Nat)) (r:PR) (p:Prop) (rs:List PR) (log:List Lg) (is:List Item) (e:Env) (ob:Obs) (vs:List AV) (y:AV):Option FuncId→Prop
 | some f=>dcA P np Q pre r f p rs log is e ob (bz (y::vs) (n6 ob (y::vs)))
 | none=>False
def dcB (P:Program) (np:Nat) (Q:Ex→St→Prop) (pre:List (List Nat)) (r:PR) (f:FuncId) (p:Prop) (rs:List PR) (log:List Lg) (is:List Item) (e:Env) (ob:Obs) (as:List AV) (l:List Nat) (fz:Bool) (ids:List Nat):Prop:=
 ∃c:Ans,(ah4 P r ⟨e,ob⟩ f p c as l fz ids (u3 (fwd ob ids) ob ids)).ok∧wpD P rs (log++[(ah4 P r ⟨e,ob⟩ f p c as l fz ids (u3 (fwd ob ids) ob ids)).lg]) (ah4 P r ⟨e,ob⟩ f p c as l fz ids (u3 (fwd ob ids) ob ids)).st fun log s=>si pre log=true∧run P np Q is s
def a21 (P:Program) (np:Nat) (Q:Ex→St→Prop) (pre:List (List Nat)) (r:PR) (rs:List PR) (log:List Lg) (is:List Item) (e:Env) (ob:Obs) (l:List Nat) (ids:List Nat) (res:AV) (ro:List Ob):Prop:=
 abf P np Q pre rs (log++[r.lg (l++(ids++dw r.u ids ro.length)) (dw r.u ids ro.length)]) is (o5 r.d (imV (back ob r.u ids ro.length) res) e) (cw ob r.u ids (back ob r.u ids ro.length) 0 ro)
def dcP (P:Program) (np:Nat) (Q:Ex→St→Prop) (pre:List (List Nat)) (r:PR) (f:FuncId) (rs:List PR) (log:List Lg) (is:List Item) (e:Env) (ob:Obs) (as:List AV) (l:List Nat) (fz:Bool) (ids:List Nat) (po:List Ob):Prop:=
 ∃(res:AV) (ro:List Ob),a8 P f as po res ro∧okC r.u ids ro.length l fz=true∧y9 po ro∧(fz=false→v9 res∧∀o∈ro,ea o)∧a21 P np Q pre r rs log is e ob l ids res ro
def dcC (P:Program) (np:Nat) (Q:Ex→St→Prop) (pre:List (List Nat)) (r:PR) (f:FuncId) (p:Prop) (rs:List PR) (log:List Lg) (is:List Item) (e:Env) (ob:Obs) (as:List AV) (l:List Nat) (fz:Bool) (ids:List Nat):Option (List Ob)→Prop
 | some po=>p∧dcP P np Q pre r f rs log is e ob as l fz ids po
 | none=>False
section
variable (P:Program) (np:Nat) (Q:Ex→St→Prop) (pre:List (List Nat)) (log:List Lg) (is:List Item) (e:Env) (ob:Obs) (rs:List PR)
theorem tx (ops:List PR):run P np Q (.c (.drw ops pre)::is) ⟨e,ob⟩=abf P np Q pre ops [] is e ob:=by rw [run]; rfl
theorem oa:abf P np Q pre [] log is e ob=(si pre log=true∧run P np Q is ⟨e,ob⟩):=(rfl)
theorem jz (d:Option Nat) (g:Option (Nat×Bool)) (u:Nat) (x:PX):abf P np Q pre (⟨d,g,u,x⟩::rs) log is e ob=agv P np Q pre d g u x rs log is e ob (yes e g):=(rfl)
theorem om (d:Option Nat) (g:Option (Nat×Bool)) (u:Nat) (o:PO) (b:Bool):agv P np Q pre d g u (.see o) rs log is e ob (some b)=bg2 P np Q pre ⟨d,g,u,.see o⟩ b rs log is e ob (o.see b e ob):=propext ⟨fun ⟨_,h⟩=>h,fun h=>⟨(.undef,[]),h⟩⟩
theorem ul (r:PR) (b:Bool) (p:Prop) (v:AV) (ob':Obs) (rd wr:List Nat):bg2 P np Q pre r b rs log is e ob ⟨p,v,ob',rd,wr⟩=(p∧abf P np Q pre rs (log++[r.lg rd []]) is (o5 r.d (gdv r.g b v) e) ob):=(rfl)
theorem oq (d:Option Nat) (g:Option (Nat×Bool)) (u:Nat) (o:PO):agv P np Q pre d g u (.act o) rs log is e ob (some true)=baw P np Q pre ⟨d,g,u,.act o⟩ rs log is e (o.act (d.getD 0) e ob):=propext ⟨fun ⟨_,h⟩=>h,fun h=>⟨(.undef,[]),h⟩⟩
theorem ov (r:PR) (p:Prop) (v:AV) (ob':Obs) (rd wr:List Nat):baw P np Q pre r rs log is e ⟨p,v,ob',rd,wr⟩=(p∧abf P np Q pre rs (log++[r.lg rd wr]) is (o5 r.d v e) ob'):=(rfl)
theorem et (d:Option Nat) (g:Option (Nat×Bool)) (u:Nat) (o:PO):agv P np Q pre d g u (.act o) rs log is e ob (some false)=abf P np Q pre rs (log++[PR.lg ⟨d,g,u,.act o⟩ [] []]) is (o5 d .undef e) ob:=propext ⟨fun ⟨_,_,h⟩=>h,fun h=>⟨(.undef,[]),trivial,h⟩⟩
theorem di (d:Option Nat) (g:Option (Nat×Bool)) (u:Nat) (f:FuncId) (xs:List Opd):agv P np Q pre d g u (.call f xs) rs log is e ob (some false)=abf P np Q pre rs (log++[PR.lg ⟨d,g,u,.call f xs⟩ [] []]) is (o5 d .undef e) ob:=propext ⟨fun ⟨_,_,h⟩=>h,fun h=>⟨(.undef,[]),trivial,h⟩⟩
theorem ko (d:Option Nat) (g:Option (Nat×Bool)) (u:Nat) (f:FuncId) (xs:List Opd):agv P np Q pre d g u (.call f xs) rs log is e ob (some true)=dcA P np Q pre ⟨d,g,u,.call f xs⟩ f (bw true e xs) rs log is e ob (bz (l8 e xs) (n6 ob (l8 e xs))):=(rfl)
theorem gw (d:Option Nat) (g:Option (Nat×Bool)) (u:Nat) (x:Opd) (xs:List Opd):agv P np Q pre d g u (.callv x xs) rs log is e ob (some true)=dcX P np Q pre ⟨d,g,u,.callv x xs⟩ ((x.ev e).may true∧bw true e xs) rs log is e ob (l8 e xs) (x.ev e).bare:=(rfl)
theorem oo (d:Option Nat) (g:Option (Nat×Bool)) (u:Nat) (tbl:List (TypeId×FuncId)) (x:Opd) (xs:List Opd):agv P np Q pre d g u (.inv tbl x xs) rs log is e ob (some true)=dcI P np Q pre ⟨d,g,u,.inv tbl x xs⟩ tbl ((x.ev e).may true∧bw true e xs) rs log is e ob (l8 e xs) (x.ev e).bare:=(rfl)
theorem um (r:PR) (tbl:List (TypeId×FuncId)) (p:Prop) (vs:List AV) (t:TypeId) (y:AV):dcI P np Q pre r tbl p rs log is e ob vs (.ifc t y)=bg4 P np Q pre r p rs log is e ob vs y (dz t tbl):=by
 unfold dcI;simp only [ur];generalize dz t tbl=q;cases q with
 | some f=>rfl
 | none=>exact propext ⟨fun ⟨_,h,_⟩=>h.elim,fun h=>h.elim⟩
theorem kp (r:PR) (p:Prop) (vs:List AV) (y:AV) (f:FuncId):bg4 P np Q pre r p rs log is e ob vs y (some f)=dcA P np Q pre r f p rs log is e ob (bz (y::vs) (n6 ob (y::vs))):=(rfl)
theorem er (d:Option Nat) (g:Option (Nat×Bool)) (u:Nat) (tbl:List (TypeId×FuncId)) (x:Opd) (xs:List Opd):agv P np Q pre d g u (.inv tbl x xs) rs log is e ob (some false)=abf P np Q pre rs (log++[PR.lg ⟨d,g,u,.inv tbl x xs⟩ [] []]) is (o5 d .undef e) ob:=propext ⟨fun ⟨_,_,h⟩=>h,fun h=>⟨(.undef,[]),trivial,h⟩⟩
theorem aag (r:PR) (p:Prop) (vs:List AV) (f:FuncId) (cap:List AV) (k:Nat):dcX P np Q pre r p rs log is e ob vs (.fn (.func f) cap k)=dcA P np Q pre r f (p∧xm P f=true) rs log is e ob (bz (cap.take k++(vs++cap.drop k)) (n6 ob (cap.take k++(vs++cap.drop k)))):=(rfl)
theorem bv (d:Option Nat) (g:Option (Nat×Bool)) (u:Nat) (x:Opd) (xs:List Opd):agv P np Q pre d g u (.callv x xs) rs log is e ob (some false)=abf P np Q pre rs (log++[PR.lg ⟨d,g,u,.callv x xs⟩ [] []]) is (o5 d .undef e) ob:=propext ⟨fun ⟨_,_,h⟩=>h,fun h=>⟨(.undef,[]),trivial,h⟩⟩
theorem ou (r:PR) (f:FuncId) (p:Prop) (as:List AV) (l:List Nat) (fz:Bool):dcA P np Q pre r f p rs log is e ob (as,l,fz)=dcB P np Q pre r f p rs log is e ob as l fz (n9 ob 64 (m5 as) []):=(rfl)
theorem aah (r:PR) (f:FuncId) (p:Prop) (as:List AV) (l:List Nat) (fz:Bool) (ids:List Nat):dcB P np Q pre r f p rs log is e ob as l fz ids=dcC P np Q pre r f p rs log is e ob (imL (fwd ob ids) as) l fz ids (u3 (fwd ob ids) ob ids):=by
 unfold dcB;generalize u3 (fwd ob ids) ob ids=po;cases po with
 | none=>exact propext ⟨fun ⟨_,h,_⟩=>h.elim,fun h=>h.elim⟩
 | some po=>exact propext ⟨fun ⟨c,⟨h0,h1,h2,h3,h4⟩,h5⟩=>⟨h0,c.1,c.2,h1,h2,h3,h4,h5⟩,fun ⟨h0,r,o,h1,h2,h3,h4,h5⟩=>⟨(r,o),⟨h0,h1,h2,h3,h4⟩,h5⟩⟩
theorem ot (r:PR) (f:FuncId) (p:Prop) (as:List AV) (l:List Nat) (fz:Bool) (ids:List Nat) (po:List Ob):dcC P np Q pre r f p rs log is e ob as l fz ids (some po)=(p∧dcP P np Q pre r f rs log is e ob as l fz ids po):=(rfl)
theorem ut (r:PR) (l ids:List Nat) (res:AV) (ro:List Ob):a21 P np Q pre r rs log is e ob l ids res ro=abf P np Q pre rs (log++[r.lg (l++(ids++dw r.u ids ro.length)) (dw r.u ids ro.length)]) is (o5 r.d (imV (back ob r.u ids ro.length) res) e) (cw ob r.u ids (back ob r.u ids ro.length) 0 ro):=(rfl)
end
theorem d9 {P:Program} {np:Nat} {Q:Ex→St→Prop} {pre:List (List Nat)} {r:PR} {f:FuncId} {rs:List PR} {log:List Lg} {is:List Item} {e:Env} {ob:Obs} {as:List AV} {l ids:List Nat} {po:List Ob} {res:AV} {ro:List Ob}
  (h:a8 P f as po res ro) (h1:okC r.u ids ro.length l true=true) (h2:y9 po ro) (h3:a21 P np Q pre r rs log is e ob l ids res ro):dcP P np Q pre r f rs log is e ob as l true ids po:=
 ⟨res,ro,h,h1,h2,(fun h=>by cases h),h3⟩
theorem u6 {P:Program} {np:Nat} {Q:Ex→St→Prop} {pre:List (List Nat)} {r:PR} {f:FuncId} {rs:List PR} {log:List Lg} {is:List Item} {e:Env} {ob:Obs} {as as':List AV} {l ids:List Nat} {po:List Ob} {fz:Bool} (has:as=as') (h:dcP P np Q pre r f rs log is e ob as' l fz ids po):dcP P np Q pre r f rs log is e ob as l fz ids po:=has▸h
theorem art {P:Program} {np:Nat} {Q:Ex→St→Prop} {pre:List (List Nat)} {r:PR} {f:FuncId} {rs:List PR} {log:List Lg} {is:List Item} {e:Env} {ob:Obs} {as:List AV} {i:Nat} {l ids:List Nat} {po:List Ob} {res:AV} {ro:List Ob}
  (h:a8 P f as po res ro) (h1:okC r.u ids ro.length (i::l) false=true) (h2:y9 po ro) (h4:v9 res) (h5:∀o∈ro,ea o) (h3:a21 P np Q pre r rs log is e ob (i::l) ids res ro):dcP P np Q pre r f rs log is e ob as (i::l) false ids po:=
 ⟨res,ro,h,h1,h2,fun _=>⟨h4,h5⟩,h3⟩
theorem zd (d:Nat) (x:AV) (e:Env) (n:Nat):put d x e n=if n=d then x else e n:=(rfl)
theorem yw (i:Nat) (x:Nat×Ob) (ob:Obs) (n:Nat):upd i x ob n=if n=i then some x else ob n:=(rfl)
theorem kb (d:Nat) (x:AV) (e:Env):o5 (some d) x e=put d x e:=(rfl)
theorem kg (x:AV) (e:Env):o5 none x e=e:=(rfl)
theorem aed (e:Env) (n:Nat):(Opd.t n).ev e=e n:=(rfl)
theorem aee (e:Env) (x:AV):(Opd.c x).ev e=x:=(rfl)
theorem ad4 (b:Bool) (x:AV):gdv none b x=x:=(rfl)
theorem ad3 (g:Nat×Bool) (b:Bool) (x:AV):gdv (some g) b x=.gd b x:=(rfl)
section
variable (np:Nat) (live:List (Nat×Bool)) (e:Env) (ob:Obs)
theorem lh (D:List AV→List Ob→List Ob→Prop):acu np live ⟨e,ob⟩ D=awi D (nrm 64 np 2000000 (u9 e live ob).1 (u9 e live ob).2):=(rfl)
theorem kj (D:List AV→List Ob→List Ob→Prop) (vs:List AV) (pos los:List Ob):awi D (some (vs,pos,los))=D vs pos los:=(rfl)
def agr (np lb:Nat) (vs:List AV) (ob:Obs) (ids:List Nat):Option (List AV×List Ob×List Ob):=match ry (xh np lb ob ids) ob (cb np np),ry (xh np lb ob ids) ob ids with
 | some pos,some los=>some (imL (xh np lb ob ids) vs,pos,los)
 | _,_=>none
theorem zq (fuel lb:Nat) (vs:List AV):nrm fuel np lb vs ob=agr np lb vs ob (mu np (n9 ob fuel (m5 vs++cb np np) [])):=(rfl)
theorem tm (vs:List AV) (pos los:List Ob):aon live vs pos los=⟨keep live vs,bk 1000000 pos (bk 2000000 los fun _=>none)⟩:=(rfl)
theorem uj (rs:List (Nat×Bool)) (D:AV→List Ob→Prop):axi np rs ⟨e,ob⟩ D=au8 np (u9 e rs ob).2 D (vl (u9 e rs ob).2 (u9 e rs ob).1):=(rfl)
def bav (D:AV→List Ob→Prop):Option (List AV×List Ob×List Ob)→Prop
 | some (vs,pos,los)=>D (uc vs) (pos++los)
 | none=>False
theorem gt (D:AV→List Ob→Prop) (vs:List AV) (l:List Nat):au8 np ob D (some (vs,l))=bav D (nrm 64 np (1000000+np) vs (freeze ob l)):=by
 show awi _ _ = _;generalize nrm 64 np (1000000+np) vs (freeze ob l)=y;rcases y with _ | ⟨_,_,_⟩<;>rfl
theorem gr (D:AV→List Ob→Prop) (vs:List AV) (pos los:List Ob):bav D (some (vs,pos,los))=D (uc vs) (pos++los):=(rfl)
end
theorem pa {α:Type} (a b:α):(bif true then a else b)=a:=(rfl)
theorem lc {α:Type} (a b:α):(bif false then a else b)=b:=(rfl)

section
variable (P:Program)
def mU (t:TypeId):TypeDesc:=match P.underlying t with
 | some d=>d
 | none=>.invalid
def mS (t:TypeId):Nat:=match P.info? t with
 | some i=>i.size
 | none=>0
def mY (t:TypeId):Nat:=match P.info? t with
 | some i=>i.bytes
 | none=>0
def mZ (t:TypeId):Value:=match P.info? t with
 | some i=>match i.zero with
  | some v=>v
  | none=>.bool false
 | none=>.bool false
def mE (t:TypeId):TypeId:=match mU P t with
 | .slice e=>e
 | .array _ e=>e
 | .map _ e=>e
 | _=>0
def bf8:Nat→List TypeId→List TypeId
 | 0,_=>[]
 | n+1,l=>l++bf8 n l
def mT:Nat→TypeId→List TypeId
 | 0,t=>[t]
 | n+1,t=>match mU P t with
  | .struct fs=>fs.toList.flatMap fun f=>mT n f.type
  | .array k e=>bf8 k (mT n e)
  | _=>[t]
def mV1 (t:TypeId):Value→RV
 | .slice _ _ _=>.sl (match mU P t with | .slice e=>mS P e | _=>1) []
 | v=>.v v
def mV (t:TypeId):RV:=match mZ P t with
 | .agg cs=>.agg (List.zipWith (mV1 P) (mT P 5 t) cs.toList)
 | v=>mV1 P t v
def mA1 (t:TypeId):Value→AV
 | .slice _ _ _=>match mU P t with
  | .slice e=>.nils (mS P e) (mV P e)
  | _=>.nils 1 (.v (.bool false))
 | v=>.r (.v v)
def mA (t:TypeId):List AV:=match mZ P t with
 | .agg cs=>List.zipWith (mA1 P) (mT P 5 t) cs.toList
 | v=>[mA1 P t v]
def mO (t:TypeId):Operand→Opd
 | .tmp n=>.t n
 | .const v=>.c (mA1 P t v)
 | .func f=>.c (.fn (.func f) [])
 | .global _=>.t 0
def mQ (x:Operand):Opd:=match x with
 | .tmp n=>.t n
 | .const (.slice _ _ _)=>.c (.nils 1 (.v (.bool false)))
 | .const v=>.c (.r (.v v))
 | .func f=>.c (.fn (.func f) [])
 | .global _=>.t 0
def mP (x:Option Operand):Option Opd:=match x with
 | none=>none
 | some x=>some (mQ x)
def mG (t:TypeId):Option Nat:=match mU P t with
 | .struct _=>some (mS P t)
 | .array _ _=>some (mS P t)
 | _=>none
def mK (t:TypeId):Bool:=match mU P t with
 | .map k _=>match mU P k with
  | .string=>true
  | _=>false
 | _=>false
def mKd (t:TypeId):Nat:=match mU P t with
 | .int _=>0
 | .bool=>1
 | _=>2
def mNe:BinOp→Bool
 | .neq=>true
 | _=>false
def bjq (op:BinOp) (t:TypeId) (x y:Operand):PO:=match mU P t with
 | .bool=>.beq (mNe op) (mQ x) (mQ y)
 | .pointer _=>.eqn (mNe op) (mQ x)
 | .struct _=>.eqa (mNe op) ((mT P 5 t).map (mKd P)) (mQ x) (mQ y)
 | .array _ _=>.eqa (mNe op) ((mT P 5 t).map (mKd P)) (mQ x) (mQ y)
 | _=>.bin op (mQ x) (mQ y)
def biu (t:TypeId) (p:Nat×Operand):Nat×Nat×Opd:=match mU P t with
 | .struct fs=>match fs.toList[p.1]? with
  | some f=>(f.offset,mS P f.type,mO P f.type p.2)
  | none=>(0,0,mQ p.2)
 | _=>(p.1*mS P (mE P t),mS P (mE P t),mO P (mE P t) p.2)
def mTl (l:List TypeId) (i:Nat):TypeId:=match l[i]? with
 | some t=>t
 | none=>0
def bjp (b:Builtin) (t:TypeId) (ts:List TypeId) (xs:List Operand):PX:=match b,xs with
 | .len,[x]=>match mU P (mTl ts 0) with
  | .map _ _=>.see (.lenm (mQ x))
  | .string=>.see (.len true (mQ x))
  | _=>.see (.len false (mQ x))
 | .clear,[x]=>.act (.clr (mS P (mE P (mTl ts 0))) (mV P (mE P (mTl ts 0))) (mO P (mTl ts 0) x))
 | .delete,[x,y]=>.act (.mdel (mK P (mTl ts 0)) (mQ x) (mQ y))
 | .append,[x,y]=>.act (.app (mS P (mE P t)) (mV P (mE P t)) (mY P (mE P t)) (mO P t x) (mO P t y))
 | .copy,[x,y]=>match mU P (mTl ts 1) with
  | .string=>.act (.cps (mO P (mTl ts 0) x) (mO P (mTl ts 1) y))
  | _=>.act (.cpy (mS P (mE P (mTl ts 0))) (mO P (mTl ts 0) x) (mO P (mTl ts 1) y))
 | .min,x::ys=>.see (.mm false (mQ x) (ys.map mQ))
 | .max,x::ys=>.see (.mm true (mQ x) (ys.map mQ))
 | _,_=>.see (.nck (.t 0))
def mX (o:Oper):PX:=match o.op with
 | .move x=>.see (.mov (mO P o.type x))
 | .assign x=>.see (.mov (mO P o.type x))
 | .pick c a b=>.see (.pick (mO P o.type c) (mO P o.type a) (mO P o.type b))
 | .binOp op t x y _=>.see (bjq P op t x y)
 | .unOp op _ x=>.see (.un op (mQ x))
 | .convert a b x=>match mU P a,mU P b with
  | .int _,.int k=>.see (.conv k (mQ x))
  | .slice _,.string=>.see (.toStr (mQ x))
  | .string,.slice e=>.act (.toBytes (mV P e) (mQ x))
  | _,_=>.act (.mrk (mQ x))
 | .indexAddr t x i=>match mU P t with
  | .array n e=>.see (.iaa n (mS P e) (mQ x) (mQ i))
  | _=>.see (.ia (mS P (mE P t)) (mV P (mE P t)) (mQ x) (mQ i))
 | .index _ x i=>.see (.ixs (mQ x) (mQ i))
 | .load t x=>.see (.ld (mG P t) (mQ x))
 | .store t x y=>.act (.st (mS P t) (mQ x) (mO P t y))
 | .nilCheck x=>.see (.nck (mQ x))
 | .fieldAddr t x f=>match mU P t with
  | .struct fs=>match fs.toList[f]? with
   | some d=>.see (.fa d.offset (mQ x))
   | none=>.see (.nck (.t 0))
  | _=>.see (.nck (.t 0))
 | .field t x f=>match mU P t with
  | .struct fs=>match fs.toList[f]? with
   | some d=>.see (.fld d.offset (mG P d.type) (mQ x))
   | none=>.see (.nck (.t 0))
  | _=>.see (.nck (.t 0))
 | .slice t x lo hi mx=>match mU P t with
  | .string=>.see (.sls (mQ x) (mP lo) (mP hi))
  | .array n _=>.see (.sla n (mQ x))
  | _=>.see (.sll (mS P (mE P t)) (mO P t x) (mP lo) (mP hi) (mP mx))
 | .extract x i=>.see (.ext (mQ x) i)
 | .alloc t=>.act (.new (mA P t))
 | .box t x=>.act (.box (mO P t x))
 | .build t ps=>.see (.build (mA P t) (ps.toList.map (biu P t)))
 | .buildSlice t _ ps=>.act (.bsl (mS P (mE P t)) (mV P (mE P t)) (ps.toList.map fun p=>mO P (mE P t) p.2))
 | .makeSlice t l c=>.act (.mks (mS P (mE P t)) (mV P (mE P t)) (mY P (mE P t)) (mQ l) (mQ c))
 | .makeFunc f xs ys=>.see (.mkf f ((xs.toList++ys.toList).map mQ) xs.size)
 | .lookup t x i c=>.see (.lkp (mK P t) (mV P (mE P t)) c (mQ x) (mQ i))
 | .makeInterface t x=>.see (.mki t (mO P t x))
 | .typeAssert x _ t c=>.see (.tas t (mV P t) c (mQ x))
 | .entry x=>.see (.ent (mQ x))
 | .makeMap _ _=>.act .mkm
 | .mapUpdate t x i y=>.act (.mset (mK P t) (mQ x) (mQ i) (mO P (mE P t) y))
 | .range _ x=>.act (.rng (mQ x))
 | .next x _=>.nxt (mQ x)
 | .call c=>match c.callee with
  | .builtin b=>bjp P b o.type c.argTypes.toList c.args.toList
  | .value (.func f)=>.call f (c.args.toList.map mQ)
  | .value x=>.callv (mQ x) (c.args.toList.map mQ)
  | .invoke _ _=>.see (.nck (.t 0))
 | _=>.see (.nck (.t 0))
def mC1 (o:Op):Nat:=match o with
 | .call c=>match c.callee with
  | .builtin _=>0
  | _=>1
 | _=>0
def mCs:List Oper→Nat
 | []=>0
 | o::os=>mC1 o.op+mCs os
def mCc:Code→Nat
 | .region _ ops _=>mCs ops.toList
 | .seq a b=>mCc a+mCc b
 | .cond _ a b=>mCc a+mCc b
 | .block _ c=>mCc c
 | .loop c=>mCc c
 | _=>0
def mGd (ops:List Oper):Option (Nat×Bool)→Option (Nat×Bool)
 | none=>none
 | some (j,b)=>match ops[j]? with
  | some o=>match o.dst with
   | some d=>some (d,b)
   | none=>none
  | none=>none
def mRs (ops:List Oper):Nat→List Oper→List PR
 | _,[]=>[]
 | u,o::os=>match mC1 o.op with
  | 0=>⟨o.dst,mGd ops o.guard,0,mX P o⟩::mRs ops u os
  | _=>⟨o.dst,mGd ops o.guard,u+1,mX P o⟩::mRs ops (u+1) os
def mIn (x:Nat):List Nat→List Nat
 | []=>[x]
 | y::l=>match Nat.beq x y with
  | true=>y::l
  | false=>match Nat.ble x y with
   | true=>x::y::l
   | false=>y::mIn x l
def are (acc:List (List Nat)):List Edge→List Nat
 | []=>[]
 | e::es=>match e.ground with
  | .textOnly _=>are acc es
  | .gcOnly _=>are acc es
  | _=>(e.on::(match acc[e.on]? with | some l=>l | none=>[])).foldr mIn (are acc es)
def bf7 (acc:List (List Nat)):List Oper→List (List Nat)
 | []=>acc
 | o::os=>bf7 (acc++[are acc o.after.toList]) os
def mkC:Nat→Code→PC
 | u,.region _ ops d=>match d with
  | true=>.drw (mRs P ops.toList u ops.toList) (bf7 [] ops.toList)
  | false=>.reg (mRs P ops.toList u ops.toList)
 | u,.seq a b=>.seq (mkC u a) (mkC (u+mCc a) b)
 | u,.cond x a b=>.cond (mQ x) (mkC u a) (mkC (u+mCc a) b)
 | u,.block i c=>.block i (mkC u c)
 | u,.loop c=>.loop (mkC u c)
 | _,.exit i=>.exit i
 | _,.ret=>.ret
 | _,_=>.skip
end
def mR (P:Program) (f:Func):List RSl:=f.results.toList.map fun r=>match r with
 | .tmp t=>(t,false,none)
 | .cell a t=>(a,false,some (t,mG P t))
structure Mk (P:Program) (f:Func) where
 x:List RSl×PC
 h:(mR P f,mkC P 0 (f.body.getD .skip))=x:=by conv=>lhs; reduce; try simp only [Int.reduceOfNat,Int.reduceNegSucc]
def Fun (P:Program) (f k:Nat) (rs:List RSl) (pc:PC):Prop:=
 ∀{args:List AV} {po ro:List Ob} {res:AV},args.length=k→po.length≤1000→run P po.length (atn po.length rs fun v os=>v=res∧os=ro) [.c pc] ⟨pb 0 args,ob0 po⟩→a8 P f args po res ro
theorem ae3 {P:Program} {f k:Nat} {rs:List RSl} {pc:PC} {fn:Func} (hf:P.funcs[f]?=some fn) (hb:fn.body=some (fn.body.getD .skip)) (hn:fn.ntmps≤100000) (hck:mz P fn.ntmps (fn.body.getD .skip) pc=true) (hk:k≤fn.ntmps)
  (hres:fn.results.toList=rs.map RSl.rv) (hag:(rs.all fun p=>p.agg P)=true) (hrs:(rs.all fun p=>decide (p.1<fn.ntmps))=true) (hnd:(rs.map (·.1)).Nodup):Fun P f k rs pc:=
 fun hal hpo h=>ax7 hf hb hn hck (by rw [hal]; exact hk) hres hag hrs hnd hpo (ax2 h)
def eqR:ResultVar→RSl→Bool
 | .tmp t,(a,_,none)=>t == a
 | .cell a t,(b,_,some (u,_))=>a == b&&t == u
 | _,_=>false
theorem a0a:∀{l:List ResultVar} {rs:List RSl},u7 eqR l rs=true→l=rs.map RSl.rv
 | [],[],_=>rfl
 | [],_::_,h=>by cases h
 | _::_,[],h=>by cases h
 | x::l,y::rs,h=>by
  simp only [u7,zaa] at h;rw [zah,← a0a h.2];congr 1;obtain ⟨a,b,c⟩:=y;have h1:=h.1;cases x<;>rcases c with _ | ⟨u,v⟩<;>simp [eqR] at h1<;>simp [RSl.rv,h1]
def bhd (P:Program) (fn:Func) (k:Nat) (rs:List RSl) (pc:PC):Bool:=
 fn.body.isSome&&decide (fn.ntmps≤100000)&&mz P fn.ntmps (fn.body.getD .skip) pc&&decide (k≤fn.ntmps)&&u7 eqR fn.results.toList rs&&rs.all (fun p=>p.agg P)&&rs.all (fun p=>decide (p.1<fn.ntmps))&&decide (rs.map (·.1)).Nodup
theorem c8 {P:Program} {f k:Nat} {fn:Func} (hf:P.funcs[f]?=some fn) {rs:List RSl} {pc:PC} (h:bhd P fn k rs pc=true:=by kernel_rfl):Fun P f k rs pc:=by
 simp only [bhd,zaa,decide_eq_true_eq] at h;obtain ⟨⟨⟨⟨⟨⟨⟨h1,h2⟩,h3⟩,h4⟩,h5⟩,h6⟩,h7⟩,h8⟩:=h;refine ae3 hf ?_ h2 h3 h4 (a0a h5) h6 h7 h8;cases hb:fn.body with
 | none=>rw [hb] at h1; cases h1
 | some c=>rfl
abbrev d5 {P:Program} {fn:Func} (f k:Nat) (x:Mk P fn):Prop:=Fun P f k x.1.1 x.1.2

theorem a9q (n:Nat):@Nat.cast Int _ (no_index (OfNat.ofNat n))=OfNat.ofNat n:=rfl
attribute [push_cast high] a9q
attribute [push_cast] eq_self iff_self
attribute [push_cast] ua su tj gh gz eu ti oe kh jt oy cq tu nu tp tt nz jy th to tl gi nn el uu ig kr oz ic aas ny ox kq jx nw tq ub zb ss sx gf adp yx uv pd uf ue od zm tx oa jz om ul oq ov et di ko oo er um kp gw aag bv ou aah ot ut dw List.range_zero zd yw kb kg aed aee ad4 ad3 lh kj zq agr tm uj gt gr dz t7 de vj zx qr aa8 xq vo xp ac9 vq xa qo qp ac1 xe abj abr toV aa6 aa7 ml oh ll yes aep bad t6 na mmL oi ac8 eq2 eql AV.isA PO.see PO.act Vs.q Rs.and AV.bare AV.may abv afe afd abx ud un1 up xl ia2 iab leb abk ldb ldr ld1 zr aae fa1 abn bnd aba vg abp src jq ep l8 bw PO.see.mayO PO.see.bareO i9 o7 jc nv AV.rv rvs AV.elt frz freeze o3 ba stb str st2 vp par xu abt xd ac0 be ir aey RV.cells AV.cells AV.one RV.one AV.boxable RV.good d7 u9 qh vl ac4 aew aev qm qk rr AV.isNil uc pb bz n6 jb x9 m5 ags n9 fwd ae2 za u3 j8 ij jf back cw imV imL imO idx bk obs keep cb aaa mu xh ug ry ab3 Ob.own Value.oneCell' pa lc true_and and_true and_self true_implies imp_self implies_true Option.getD_some Option.getD_none zaj List.length_nil List.length_map zah List.map_nil List.getD_cons_zero List.getD_cons_succ List.take_succ_cons List.take_zero List.drop_succ_cons List.drop_zero List.cons_append List.nil_append List.append_nil List.all_cons List.all_nil Bool.and_true Bool.true_and Bool.false_and Bool.and_self Bool.or_true Bool.true_or Bool.false_or Bool.or_false Bool.not_true Bool.not_false List.contains_cons List.contains_nil List.filter_cons List.filter_nil decide_true decide_false if_true if_false false_and and_false not_true not_false_eq_true Option.map_some Option.map_none List.getElem?_cons_zero List.getElem?_cons_succ List.getElem?_nil List.length_append beq_self_eq_true List.take_nil List.drop_nil false_implies zad ne_eq

end
end Go.Ev

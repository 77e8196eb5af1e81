import Derived.Orders
import Derived.Test.YtpibfnekkfhkmaaGreatM3
open Bool renaming and_eq_true → zaa, false_eq_true → zad
open Array renaming getD_eq_getD_getElem? → zab, getElem?_append → zaf, getElem?_eq_some_iff → zaj
open List renaming all_eq_true → zac, getElem?_eq_some_iff → zag, map_cons → zah, length_cons → zai
open Nat renaming le_refl → zae
open Option renaming map_eq_some_iff → zak
namespace Go.Ev
set_option maxRecDepth 100000
open Go
set_option linter.unusedSectionVars false
set_option linter.unnecessarySimpa false
set_option linter.unusedSimpArgs false
set_option linter.unusedVariables false
open Classical in
noncomputable def ke {L C:Type} (r:Nat→L→C) (Wt:Nat→L→Prop) (S:Nat→Prop):Nat→L→C
 | 0,l=>r 0 l
 | k+1,l=>if S k∧Wt k l then r (k+1) l else ke r Wt S k l
section
variable {L C:Type} {n:Nat} {r:Nat→L→C} {Wt Us pre:Nat→L→Prop} {S:Nat→Prop} {pr:Nat→Nat→Prop}
theorem a5q (hoff:∀k l,k<n→¬Wt k l→r (k+1) l=r k l) (hap:∀i j,i<j→j<n→¬pr j i→∀l,¬(Wt i l∧Us j l)∧¬(Wt j l∧Us i l))
  (hS:∀j,S j→∀i,pr j i→S i) {j:Nat} (hj:j<n) (hn:¬S j) (hp:∀i,pr j i→S i) {l:L} (hl:Us j l):ke r Wt S n l=r j l:=by
 have h1:∀k,k≤j→ke r Wt S k l=r k l:=fun k=>by
  induction k with
  | zero=>intro _; rfl
  | succ k ih=>
   intro hk;simp only [ke];by_cases hw:Wt k l
   ·have:S k:=hp k (Classical.byContradiction fun hnp=>(hap k j (by omega) hj hnp l).1 ⟨hw,hl⟩);rw [if_pos ⟨this,hw⟩]
   ·rw [if_neg (fun h=>hw h.2),ih (by omega),hoff k l (by omega) hw]
 have h2:∀m,j+m≤n→ke r Wt S (j+m) l=r j l:=fun m=>by
  induction m with
  | zero=>intro _; exact h1 j (zae _)
  | succ m ih=>
   intro hm;rw [show j+(m+1)=(j+m)+1 by omega];simp only [ke];rw [if_neg,ih (by omega)];rintro ⟨hs,hw⟩
   have hjm:j<j+m:=by
    rcases Nat.eq_zero_or_pos m with h | h
    ·subst h; exact (hn hs).elim
    ·omega
   exact hn (hS _ hs j (Classical.byContradiction fun hnp=>(hap j (j+m) hjm (by omega) hnp l).2 ⟨hw,hl⟩))
 have:=h2 (n-j) (by omega)
 rwa [show j+(n-j)=n by omega] at this
theorem aut {j:Nat} {l:L} (hw:¬Wt j l):∀k,ke r Wt (fun i=>S i∨i=j) k l=ke r Wt S k l
 | 0=>rfl
 | k+1=>by
  simp only [ke]
  have:((S k∨k=j)∧Wt k l)↔(S k∧Wt k l):=by
   constructor
   ·rintro ⟨h | h,h2⟩
    ·exact ⟨h,h2⟩
    ·subst h; exact (hw h2).elim
   ·rintro ⟨h,h2⟩; exact ⟨.inl h,h2⟩
  by_cases h:S k∧Wt k l
  ·rw [if_pos h,if_pos (this.2 h)]
  ·rw [if_neg h,if_neg (fun q=>h (this.1 q)),aut hw k]
theorem a13 (hWU:∀k l,k<n→Wt k l→Us k l) (hap:∀i j,i<j→j<n→¬pr j i→∀l,¬(Wt i l∧Us j l)∧¬(Wt j l∧Us i l))
  (hS:∀j,S j→∀i,pr j i→S i) {j:Nat} (hj:j<n) (hn:¬S j) {l:L} (hw:Wt j l):ke r Wt (fun i=>S i∨i=j) n l=r (j+1) l:=by
 have h2:∀m,j+1+m≤n→ke r Wt (fun i=>S i∨i=j) (j+1+m) l=r (j+1) l:=fun m=>by
  induction m with
  | zero=>
   intro _;simp only [ke];rw [if_pos ⟨.inr rfl,hw⟩]
  | succ m ih=>
   intro hm;rw [show j+1+(m+1)=(j+1+m)+1 by omega];simp only [ke];rw [if_neg,ih (by omega)];rintro ⟨hs | hs,hw'⟩
   ·exact hn (hS _ hs j (Classical.byContradiction fun hnp=>(hap j (j+1+m) (by omega) (by omega) hnp l).2 ⟨hw',hWU j l hj hw⟩))
   ·omega
 have:=h2 (n-(j+1)) (by omega)
 rwa [show j+1+(n-(j+1))=n by omega] at this
theorem alq (hoff:∀k l,k<n→¬Wt k l→r (k+1) l=r k l) (hS:∀k,k<n→S k) {l:L}:∀k,k≤n→ke r Wt S k l=r k l
 | 0,_=>rfl
 | k+1,hk=>by
  simp only [ke];by_cases hw:Wt k l
  ·rw [if_pos ⟨hS k (by omega),hw⟩]
  ·rw [if_neg (fun h=>hw h.2),alq hoff hS k (by omega),hoff k l (by omega) hw]
theorem aqj (hS:∀k,¬S k) {l:L}:∀k,ke r Wt S k l=r 0 l
 | 0=>rfl
 | k+1=>by
  simp only [ke];rw [if_neg (fun h=>hS k h.1),aqj hS k]
theorem aqi {p q:Nat→Bool} {j:Nat} (hp:∀x,q x=true→p x=true) (h1:p j=true) (h2:q j=false):∀{l:List Nat},j∈l→l.countP q<l.countP p
 | x::l,h=>by
  have hle:l.countP q≤l.countP p:=List.countP_mono_left fun x _=>hp x;rw [List.countP_cons,List.countP_cons];rcases List.mem_cons.1 h with h | h
  ·subst h;rw [h1,h2];simp;omega
  ·have:=aqi hp h1 h2 h
   have:(if q x=true then 1 else 0)≤(if p x=true then 1 else 0):=by
    by_cases hq:q x=true
    ·rw [if_pos hq,if_pos (hp x hq)]; exact zae _
    ·rw [if_neg hq]; exact Nat.zero_le _
   omega
end
def ao5 (a b:List Nat):Bool:=a.all fun x=>!b.contains x
def a25 (a b:Lg):Bool:=ao5 a.d b.us&&ao5 b.d a.us&&(ao5 a.wr b.rd||(a.st&&b.ad))&&(ao5 b.wr a.rd||(b.st&&a.ad))
def mz (pre:List (List Nat)) (log:List Lg):Bool:=
 (List.range log.length).all fun j=>(List.range j).all fun i=>(pre.getD j []).contains i||a25 (log.getD i default) (log.getD j default)
def wpD (P:Program):List PR→List Lg→St→(List Lg→St→Prop)→Prop
 | [],log,s,K=>K log s
 | r::rs,log,s,K=>∃c:Ans,(r.out P s c).ok∧wpD P rs (log++[(r.out P s c).lg]) (r.out P s c).st K
theorem atp {P:Program} {K:List Lg→St→Prop}:∀{rs:List PR} {log:List Lg} {s:St},wpD P rs log s K →
  ∃(R:Nat→St) (C:Nat→Ans) (log':List Lg),R 0=s∧log'.length=rs.length∧(∀k r,rs[k]?=some r→(r.out P (R k) (C k)).ok∧R (k+1)=(r.out P (R k) (C k)).st∧log'[k]?=some (r.out P (R k) (C k)).lg)∧K (log++log') (R rs.length)
 | [],log,s,h=>⟨fun _=>s,fun _=>(.undef,[]),[],rfl,rfl,by simp,by rw [List.append_nil]; exact h⟩
 | r::rs,log,s,h=>by
  obtain ⟨c,h1,h2⟩:=h;obtain ⟨R,C,log',g0,g1,g2,g3⟩:=atp h2;refine ⟨fun k=>match k with | 0=>s | k+1=>R k,fun k=>match k with | 0=>c | k+1=>C k,(r.out P s c).lg::log',rfl,by simp [g1],fun k q hk=>?_,by simpa using g3⟩;cases k with
  | zero=>simp at hk; subst hk; exact ⟨h1,g0,by simp⟩
  | succ k=>simp at hk; exact ⟨(g2 k q hk).1,(g2 k q hk).2.1,by simpa using (g2 k q hk).2.2⟩
inductive Lc where
 | t (i:Nat)
 | o (i:Nat)
 | p (i:Nat)
inductive Ct where
 | t (x:AV)
 | o (x:Option (Nat×Ob))
 | p (x:Option (Nat×Option Nat))
def o8 (s:St):Lc→Ct
 | .t t=>.t (s.e t)
 | .o i=>.o (s.ob i)
 | .p i=>.p (pin (s.ob i))
theorem apw {s s':St} (h:∀l,o8 s l=o8 s' l):s=s':=by
 rcases s with ⟨e,ob⟩
 rcases s' with ⟨e',ob'⟩
 have h1:e=e':=funext fun t=>by simpa [o8] using h (.t t)
 have h2:ob=ob':=funext fun t=>by simpa [o8] using h (.o t)
 rw [h1,h2]
def wrt (log:List Lg) (k:Nat):Lc→Prop
 | .t t=>t∈(log.getD k default).d
 | .o i=>i∈(log.getD k default).wr
 | .p i=>i∈(log.getD k default).wr∧(log.getD k default).st=false
def usd (log:List Lg) (k:Nat):Lc→Prop
 | .t t=>t∈(log.getD k default).us
 | .o i=>i∈(log.getD k default).rd∧(log.getD k default).ad=false
 | .p i=>i∈(log.getD k default).rd
theorem abe {a b:List Nat} (h:ao5 a b=true) {i:Nat} (h1:i∈a) (h2:i∈b):False:=by
 simp only [ao5,zac] at h;have:=h i h1;simp [h2] at this
theorem azy {pre:List (List Nat)} {log:List Lg} (h:mz pre log=true) {i j:Nat} (hij:i<j) (hj:j<log.length) (hp:¬(i∈pre.getD j [])) (l:Lc):¬(wrt log i l∧usd log j l)∧¬(wrt log j l∧usd log i l):=by
 simp only [mz,zac,List.mem_range,Bool.or_eq_true] at h;have h1:=(h j hj i hij).resolve_left (by simpa using hp);simp only [a25,zaa,Bool.or_eq_true] at h1;obtain ⟨⟨⟨h1,h2⟩,h3⟩,h4⟩:=h1;cases l with
 | t t=>exact ⟨fun ⟨a,b⟩=>abe h1 a b,fun ⟨a,b⟩=>abe h2 a b⟩
 | o t=>
  refine ⟨fun ⟨a,b⟩=>?_,fun ⟨a,b⟩=>?_⟩
  ·rcases h3 with h3 | ⟨_,h3⟩
   ·exact abe h3 a b.1
   ·rw [b.2] at h3; cases h3
  ·rcases h4 with h4 | ⟨_,h4⟩
   ·exact abe h4 a b.1
   ·rw [b.2] at h4; cases h4
 | p t=>
  refine ⟨fun ⟨a,b⟩=>?_,fun ⟨a,b⟩=>?_⟩
  ·rcases h3 with h3 | ⟨h3,_⟩
   ·exact abe h3 a.1 b
   ·rw [a.2] at h3; cases h3
  ·rcases h4 with h4 | ⟨h4,_⟩
   ·exact abe h4 a.1 b
   ·rw [a.2] at h4; cases h4
theorem al7 {P:Program} {r:PR} {s:St} {c:Ans}:(r.out P s c).lg.us=gus r.g++(r.x.us++r.d.toList)∧(r.out P s c).lg.d=r.d.toList:=by
 rcases r with ⟨d,g,u,x⟩
 unfold PR.out;simp only;generalize yes s.e g=y;rcases y with _ | b
 ·cases x<;>exact ⟨rfl,rfl⟩
 ·cases x with
  | see o=>exact ⟨rfl,rfl⟩
  | act o=>cases b<;>exact ⟨rfl,rfl⟩
  | call f xs=>cases b with
   | false=>exact ⟨rfl,rfl⟩
   | true=>
    simp only [PX.out];generalize v7 (g9 s.e xs) (j8 s.ob (g9 s.e xs))=q;simp only [s4];generalize o3 _ _ _=po;cases po<;>exact ⟨rfl,rfl⟩
  | callv x xs=>cases b with
   | false=>exact ⟨rfl,rfl⟩
   | true=>
    simp only [PX.out];generalize (x.ev s.e).bare=y;cases y with
    | fn f cap k=>cases f with
     | func f=>
      simp only [vl];generalize v7 (cap.take k++(g9 s.e xs++cap.drop k)) (j8 s.ob (cap.take k++(g9 s.e xs++cap.drop k)))=q;simp only [s4];generalize o3 _ _ _=po;cases po<;>exact ⟨rfl,rfl⟩
     | _=>exact ⟨rfl,rfl⟩
    | _=>exact ⟨rfl,rfl⟩
  | inv tbl x xs=>cases b with
   | false=>exact ⟨rfl,rfl⟩
   | true=>
    simp only [PX.out];obtain ⟨rd,wr,e⟩:=alv (P:=P) (r:=⟨d,g,u,.inv tbl x xs⟩) (s:=s) (c:=c) (tbl:=tbl) (p:=(x.ev s.e).may true∧v6 true s.e xs) (vs:=g9 s.e xs) (y:=(x.ev s.e).bare);rw [e];exact ⟨rfl,rfl⟩
  | nxt x=>cases b<;>exact ⟨rfl,rfl⟩
theorem adt {ops:Array Oper} {pre:List (List Nat)} (h:anx ops pre=true) {j:Nat} {o:Oper} (ho:ops[j]?=some o) :
  (∀e∈o.after,Region.binds .any e=true→e.on<j)∧∀k,k∈pre.getD j []→∃e∈o.after,Region.binds .any e=true∧(e.on=k∨k∈pre.getD e.on []):=by
 simp only [anx,zaa,zac,List.mem_range] at h;have h1:=h.2 j (zaj.1 ho).1;rw [ho] at h1;rcases hp:pre[j]? with _ | p
 ·rw [hp] at h1; cases h1
 ·rw [hp] at h1;simp only [zaa,zac,Array.all_eq_true_iff_forall_mem] at h1;refine ⟨fun e he hb=>?_,fun k hk=>?_⟩
  ·have:=h1.1 e he;rw [hb] at this;simpa using this
  ·have hpk:pre.getD j []=p:=by simp [List.getD_eq_getElem?_getD,hp]
   rw [hpk] at hk;have:=(h1.2 k hk).2;rw [Array.any_eq_true'] at this;obtain ⟨e,he,hb⟩:=this;simp only [zaa,Bool.or_eq_true,beq_iff_eq,List.contains_iff_mem] at hb;exact ⟨e,he,hb.1,hb.2⟩

def lm (fl:Bool) (id:Nat) (ob:Obs):AV→AV×Obs
 | .nils sz z=>if fl then (.own id (nv ob id) 0 0,upd id (nv ob id,.row sz z true true []) ob) else (.nils sz z,ob)
 | x=>(x,ob)
def o5 (e:Env):List (Nat×Bool)→Obs→List AV×Obs
 | [],ob=>([],ob)
 | (t,fl)::r,ob=>((lm fl (900000+t) ob (e t)).1::(o5 e r (lm fl (900000+t) ob (e t)).2).1,(o5 e r (lm fl (900000+t) ob (e t)).2).2)
def art (D:List AV→List Ob→List Ob→Prop):Option (List AV×List Ob×List Ob)→Prop
 | some (vs,pos,los)=>D vs pos los
 | none=>False
def yz (np:Nat) (live:List (Nat×Bool)) (s:St) (D:List AV→List Ob→List Ob→Prop):Prop:=
 art D (nrm 64 np 2000000 (o5 s.e live s.ob).1 (o5 s.e live s.ob).2)
def keep:List (Nat×Bool)→List AV→Env
 | l::ls,x::xs=>put l.1 x (keep ls xs)
 | _,_=>fun _=>.undef
def akv (live:List (Nat×Bool)) (vs:List AV) (pos los:List Ob):St:=⟨keep live vs,u0 1000000 pos (u0 2000000 los fun _=>none)⟩
def W (P:Program) (np:Nat):PC→(Ex→St→Prop)→St→Prop
 | .skip,K,s=>K .nor s
 | .reg rs,K,s=>wpR P rs (K .nor) s
 | .seq a b,K,s=>W P np a (fun x s=>match x with | .nor=>W P np b K s | x=>K x s) s
 | .cond x a b,K,s=>match x.ev s.e with
  | .r (.v (.bool c))=>(c=true→W P np a K s)∧(c=false→W P np b K s)
  | _=>False
 | .block id c,K,s=>W P np c (fun x s=>match x with | .ex i=>if i=id then K .nor s else K (.ex i) s | x=>K x s) s
 | .loop c,K,s=>∃(live:List (Nat×Bool)) (I:List AV→List Ob→List Ob→Prop) (m:List AV→List Ob→List Ob→Nat),(live.all fun p=>decide (p.1<100000))=true∧yz np live s I ∧
   ∀vs pos los,I vs pos los→W P np c (fun x s'=>match x with | .nor=>yz np live s' (fun vs' pos' los'=>I vs' pos' los'∧m vs' pos' los'<m vs pos los) | x=>K x s') (akv live vs pos los)
 | .exit i,K,s=>K (.ex i) s
 | .ret,K,s=>K .rt s
 | .drw rs pre,K,s=>wpD P rs [] s fun log s=>mz pre log=true∧K .nor s
section
variable {P:Program} {X:Cx} [GlC P X] {w w':World} {s:St} {ρ ρ':Pl→Option Nat} {a:Act} {o:Oper} {ob ob':Obs} {R R':Nat→Prop} {ops:Array Oper} {Q:Exit→Act→World→Prop}
theorem awr (hG:Gam X s ρ a w) {g:Option (Nat×Bool)} {b:Bool} (hc:a14 ops o.guard g=true) (hy:yes s.e g=some b):Region.wanted o (yielded ops a.tmps)=b:=by
 unfold a14 at hc;split at hc
 ·rename_i h1;simp [yes] at hy;subst hy;simp [Region.wanted,h1]
 ·rename_i j want t want' hg;simp only [zaa,beq_iff_eq] at hc;obtain ⟨rfl,ht⟩:=hc;have henv:=hG.env t;simp only [yes] at hy;simp only [Region.wanted,hg,yielded,ht,Option.bind_some];generalize s.e t=x at henv hy;unfold abg at hy;split at hy
  ·rename_i q;cases hy;have h1:=f9 henv
   have h2:a.tmps[t]?=some (.bool q):=by
    rcases hq:a.tmps[t]? with _ | u
    ·simp [zab,hq,undef] at h1
    ·simp [zab,hq] at h1;rw [h1]
   rw [h2];cases want<;>cases q<;>rfl
  ·rename_i h q;cases hy;cases henv with
   | gd _ h1 h3=>
   cases h
   ·have h2:=h3 rfl;rcases hq:a.tmps[t]? with _ | u
    ·simp
    ·simp [zab,hq] at h2;subst h2;simp [undef]
   ·have h1':=f9 (h1 rfl)
    have h2:a.tmps[t]?=some (.bool q):=by
     rcases hq:a.tmps[t]? with _ | u
     ·simp [zab,hq,undef] at h1'
     ·simp [zab,hq] at h1';rw [h1']
    rw [h2];cases want<;>cases q<;>rfl
  ·cases hy
 ·cases hc
theorem aow {f:FuncId} (h:uu P f=true) (args:Array Value):(callFunc f args).run P w=.ok (.enter f args) w:=by
 unfold uu at h;split at h
 ·rename_i fn hf;simp at h;obtain ⟨h1,h2⟩:=h;have h3:¬fn.body=none:=by intro e; rw [e] at h1; cases h1
  simp [callFunc,hf,h2,h3]
 ·cases h
theorem awb {f:FuncId} {args:List Opd} (h:aaz P o (.call f args)=true):∃c,o.op=.call c∧c.callee=.value (.func f)∧o7 opd c.args.toList args=true∧uu P f=true:=by
 unfold aaz at h;cases ho:o.op<;>simp only [ho] at h<;>try (cases h; done)
 rename_i c;split at h
 ·rename_i f' hc;simp only [zaa,beq_iff_eq] at h;obtain ⟨⟨rfl,h2⟩,h3⟩:=h;exact ⟨c,rfl,hc,h2,h3⟩
 ·cases h
theorem atk {x:Opd} {args:List Opd} (h:aaz P o (.callv x args)=true):∃c x',o.op=.call c∧c.callee=.value x'∧opd x' x=true∧o7 opd c.args.toList args=true:=by
 unfold aaz at h;cases ho:o.op<;>simp only [ho] at h<;>try (cases h; done)
 rename_i c;split at h
 ·rename_i x' hc;simp only [zaa] at h;exact ⟨c,x',rfl,hc,h.1,h.2⟩
 ·cases h
theorem azk {tbl:List (TypeId×FuncId)} {x:Opd} {args:List Opd} (h:aaz P o (.inv tbl x args)=true):∃c r m,o.op=.call c∧c.callee=.invoke r m∧opd r x=true∧o7 opd c.args.toList args=true∧tbl.all (aqs P m)=true:=by
 unfold aaz at h;cases ho:o.op<;>simp only [ho] at h<;>try (cases h; done)
 rename_i c;split at h
 ·rename_i r m hc;simp only [zaa] at h;exact ⟨c,r,m,rfl,hc,h.1.1,h.1.2,h.2⟩
 ·cases h
theorem azj {x:Opd} (h:aaz P o (.nxt x)=true):∃it,o.op=.next it false∧opd it x=true:=by
 unfold aaz at h;cases ho:o.op<;>simp only [ho] at h<;>try (cases h; done)
 rename_i it str;simp only [zaa,Bool.not_eq_true'] at h;obtain ⟨h1,rfl⟩:=h;exact ⟨it,rfl,h1⟩
theorem ap5 {t:TypeId} {f:FuncId}:∀{tbl:List (TypeId×FuncId)},ap t tbl=some f→(t,f)∈tbl
 | [],h=>by cases h
 | (t',f')::r,h=>by
  simp only [ap] at h;split at h
  ·rename_i ht; cases h; subst ht; simp
  ·exact List.mem_cons_of_mem _ (ap5 h)
theorem a7v {m:String} {t:TypeId} {f:FuncId} {v:Value} {as:Array Value} (h:aqs P m (t,f)=true):(invoke (.fn (.method m) #[]) (#[.iface t v]++as)).run P w=.ok (.enter f (#[v]++as)) w:=by
 simp only [aqs,zaa] at h;obtain ⟨⟨hf,h1⟩,h2⟩:=h;split at h1
 ·rename_i i hi;split at h1
  ·rename_i q hq;simp only [zaa] at h1;obtain ⟨hp,h1⟩:=h1;split at h1
   ·rename_i f' b hfb;simp only [zaa,beq_iff_eq] at h1;obtain ⟨hff,rfl⟩:=h1;rw [hff] at hfb;obtain ⟨d,hd,hdd⟩:=p6 h2;cases d with
    | pointer e=>
     have hpath:q.path=#[]:=by simpa using hp
     obtain ⟨k,hk⟩:∃k,P.types.size+Made.depth=k+1:=⟨P.types.size+(Made.depth-1),by unfold Made.depth; omega⟩
     have hargs:(#[Value.iface t v]++as)[0]?=some (.iface t v):=by
      rw [zaf,if_pos (by simp)]
      rfl
     have hext:(#[Value.iface t v]++as).extract 1 (#[Value.iface t v]++as).size=as:=by
      rw [Array.extract_append];simp
     have hm:(method (P.types.size+Made.depth) t v m).run P w=.ok (f,v) w:=by
      rw [hk];simp [method,typeInfo,hi,hq,hpath,follow,hfb,receiverAt,run_underlying hd,Place.get]
     have hc:(callMethod (.iface t v) m as).run P w=.ok (.enter f (#[v]++as)) w:=by
      simp only [callMethod,Sem.run_bind,run_program,Result.andThen_ok,hm];exact aow hf _
     simp only [invoke,hargs,hext];exact hc
    | _=>cases hdd
   ·cases h1
  ·cases h1
 ·cases h1
theorem ayf {K:AV→Obs→Prop} {it:Operand} {u:AV} (hG:Gam X s ρ a w) (ho:o.op=.next it false) (hu:RA X s ρ w u (a.eval it)) (h:ars s.ob K u) :
  ∃c v ob1 w1,(execOp a.eval o).run P w=.ok (.value c) w1∧K v ob1∧Gam X ⟨s.e,ob1⟩ ρ a w1∧RA X ⟨s.e,ob1⟩ ρ w1 v c:=by
 unfold ars at h;split at h
 ·rename_i id ver;unfold avk at h;split at h
  ·rename_i mid mver since seen st hit;have hid:=aj4 hit;rcases hmp:n7 s.ob mid mver with _ | ⟨es,c⟩
   ·rw [hmp] at h; exact h.elim
   ·rw [hmp] at h;obtain ⟨h1,h2,h3,h4⟩:=h;generalize hev:a.eval it=v at hu;cases hu;rename_i hc0 hat;obtain ⟨b,hρ,rfl⟩:=hat.live hid;obtain ⟨b',bm,g1,g2,g3⟩:=hG.obj id ver _ hid;rw [hρ] at g1; cases g1;obtain ⟨bm',hρm,hvm,hbm⟩:=hG.mapB hmp g3;cases hvm;have hl:(leftOf es.toArray seen.toArray).toList=ae es seen:=by simp [leftOf,ae]
    rcases run_next_at (P:=P) w o.type b bm since st seen.toArray es.toArray c g2 hbm (by simpa using h1) h2 with ⟨hz,hrun⟩ | ⟨e,he,w1,hw1,hrun⟩
    ·refine ⟨.tuple #[.bool false],.tup [bl false],s.ob,w,by simp only [execOp,ho,hev,Sem.run_bind,hrun,Result.andThen_ok,Sem.run_pure],h3 ?_,hG,?_⟩
     ·rw [← hl];exact List.eq_nil_of_length_eq_zero (by simpa using hz)
     ·refine .tup _ _ rfl fun i y c hy' hc=>?_
      match i with
      | 0=>simp at hy' hc; subst hy'; subst hc; exact .r (.v _)
      | i+1=>simp at hy'
    ·rw [hl] at he
     have hG1:Gam X s ρ a w1:=by
      rcases hw1 with rfl | rfl
      ·exact hG
      ·exact hG.drew _
     have hh1:w1.heap=w.heap:=by rcases hw1 with rfl | rfl<;>rfl
     have hb1:w1.heap[b]?=some (.mapIter (some bm) since seen.toArray st):=by rw [hh1]; exact g2
     have hmo:=arz (y:=.mapIter (some bm) since (seen++[e.born]).toArray c) hb1;have hseen:seen.toArray.push e.born=(seen++[e.born]).toArray:=by simp
     rw [hseen,show ChangeMaps.setBlock w1 b (Obj.mapIter (some bm) since (seen++[e.born]).toArray c)={ w1 with heap:=w1.heap.setIfInBounds b (Obj.mapIter (some bm) since (seen++[e.born]).toArray c) } from rfl] at hrun
     have g3':RelA w1 (c6 X.B s.ob ρ w1) s.ob ρ (.mp mid mver) (.map (some bm)):=by
      cases g3;rename_i q1 q2;exact .mp _ _ _ q1 q2
     have hst:=Stays.modifyG (x':=.iter (.mp mid mver) since (seen++[e.born]) c) hG1 hid rfl hρ hmo (fun cs e fr h=>by rw [hb1] at h; cases h) ver (.inl ⟨rfl,trivial⟩)
     refine ⟨.tuple #[.bool true,e.key,e.val],.tup [bl true,.r (gr e.key),.r (gr e.val)],_,_,by simp only [execOp,ho,hev,Sem.run_bind,hrun,Result.andThen_ok,Sem.run_pure],h4 e he,
      hG1.modifyG hid rfl hρ hmo (fun cs e fr h=>by rw [hb1] at h; cases h) ver (.inl ⟨rfl,trivial⟩) (.inr ⟨rfl,trivial,fun _=>rfl⟩) ⟨b,bm,hρ,hmo.new,g3'.stays hst⟩,?_⟩
     refine .tup _ _ rfl fun i y c hy' hc=>?_
     match i with
     | 0=>simp at hy' hc; subst hy'; subst hc; exact .r (.v _)
     | 1=>simp at hy' hc; subst hy'; subst hc; exact .r (abn _)
     | 2=>simp at hy' hc; subst hy'; subst hc; exact .r (abn _)
     | i+3=>simp at hy'
  ·exact h.elim
 ·exact h.elim
theorem arl {r:PR} {K:St→Prop} {i:Nat} {N:Act→World→Prop} (hG:Gam X s ρ a w) (hi:ops[i]?=some o) (hck:afy P X.n ops o r=true) (h:r.wp P s K (yes s.e r.g)) (hN:∀s' ρ' a' w',K s'→Gam X s' ρ' a' w'→N a' w'):wpOp P ops Q i N a w:=by
 simp only [afy,zaa,beq_iff_eq] at hck;obtain ⟨⟨⟨hd,hdn⟩,hg⟩,hx⟩:=hck;rcases hy:yes s.e r.g with _ | b
 ·rw [hy] at h; exact h.elim
 rw [hy] at h;have hw:=awr hG hg hy
 have hskip:∀x,(∀c,c=undef→RA X s ρ w x c)→Gam X ⟨j9 r.d x s.e,s.ob⟩ ρ (a.put o.dst undef) w:=fun x hx=>by
  rw [hd];rcases hrd:r.d with _ | d
  ·exact hG
  ·rw [hrd] at hdn;exact hG.see (by simpa using hdn) (hx _ rfl)
 unfold wpOp;simp only [hi,hw];simp only [PR.wp] at h;rcases r with ⟨rd,rg,ru,rx⟩
 simp only at hd hdn hg hx h hy hskip;cases rx with
 | see po=>
  obtain ⟨h1,h2⟩:=h;cases b with
  | true=>
   simp only [if_true];refine .inl ?_;obtain ⟨c,hrun,hr⟩:=a4n (P:=P) rfl hG hx h1;unfold Oper.wp;rw [hrun,Oper.upon_value,hd];rcases rd with _ | d
   ·simp [av2] at hdn
   ·refine hN _ ρ _ _ h2 (hG.see (by simpa using hdn) ?_);unfold gdv;split
    ·exact hr
    ·exact .gd true (fun _=>hr) (by simp)
  | false=>
   simp only [zad,if_false];refine hN _ ρ _ _ h2 (hskip _ fun c hc=>?_);rcases rg with _ | g
   ·simp [yes] at hy
   ·simp only [gdv];exact .gd false (by simp) (fun _=>hc)
 | act po=>
  cases b with
  | false=>
   simp only [zad,if_false];exact hN _ ρ _ _ (h.2 rfl) (hskip _ fun c _=>.undef c)
  | true=>
   simp only [if_true];refine .inl ?_;obtain ⟨h1,h2⟩:=h.1 rfl;rcases rd with _ | d
   ·have hnod:po.nod=true:=by simpa [ayq,av2] using hdn
    obtain ⟨nx,w1,ρ1,hrun,hG1,hv⟩:=ai4 (P:=P) hG hx hnod h1;unfold Oper.wp;rw [hrun];rcases hv with ⟨c,rfl,hr⟩ | ⟨rfl,hv⟩
    ·rw [Oper.upon_value,hd];exact hN _ ρ1 _ _ h2 hG1
    ·rw [Oper.upon_skip,hd];exact hN _ ρ1 _ _ h2 hG1
   ·obtain ⟨nx,w1,ρ1,hrun,hG1,hv⟩:=a6h (P:=P) (d:=d) hG hx (by simpa using hdn) h1;unfold Oper.wp;rw [hrun];rcases hv with ⟨c,rfl,hr⟩ | ⟨rfl,hv⟩
    ·rw [Oper.upon_value,hd];exact hN _ ρ1 _ _ h2 (hG1.see (s:=⟨s.e,_⟩) (by simpa using hdn) hr)
    ·rw [Oper.upon_skip,hd];refine hN _ ρ1 _ _ h2 (hG1.see (s:=⟨s.e,_⟩) (by simpa using hdn) ?_);simp only [Option.getD_some];rw [hv];exact .undef _
 | call f args=>
  cases b with
  | false=>
   simp only [zad,if_false];exact hN _ ρ _ _ (h.2 rfl) (hskip _ fun c _=>.undef c)
  | true=>
   simp only [if_true];refine .inl ?_;obtain ⟨h1,h2⟩:=h.1 rfl;obtain ⟨c,ho,hcal,hall,hf⟩:=awb hx;obtain ⟨g1,g2⟩:=abc hG rfl hall h1
   have hrun:(execOp a.eval o).run P w=.ok (.enter f (c.args.map a.eval)) w:=by
    have:=aow (w:=w) hf (c.args.map a.eval);simp [execOp,ho,resolve,hcal,Act.eval,Deferred.ofValue,invoke];exact this
   unfold Oper.wp;rw [hrun,Oper.upon_enter];refine (afz hG h2 (by simp [g1]) fun i x cc hxx hc=>?_).mono ?_
   ·rw [Array.getElem?_map,zak] at hc;obtain ⟨y,hy,rfl⟩:=hc;exact g2 i x y hxx (by simpa using hy)
   ·rintro e w1 ⟨cv,v,ob1,ρ1,rfl,hK,hG1,hr⟩;simp only;rw [hd];rcases rd with _ | d
    ·exact hN _ ρ1 _ _ hK hG1
    ·exact hN _ ρ1 _ _ hK (hG1.see (s:=⟨s.e,ob1⟩) (by simpa using hdn) hr)
 | callv x args=>
  cases b with
  | false=>
   simp only [zad,if_false];exact hN _ ρ _ _ (h.2 rfl) (hskip _ fun c _=>.undef c)
  | true=>
   simp only [if_true];refine .inl ?_;obtain ⟨hm,h1,h2⟩:=h.1 rfl;obtain ⟨c,x',ho,hcal,hxx,hall⟩:=atk hx;obtain ⟨g1,g2⟩:=abc hG rfl hall h1;have hf:=c7 hG rfl hxx hm;generalize (x.ev s.e).bare=xv at hf h2;unfold awq at h2;split at h2
   ·rename_i f cap k;obtain ⟨hfn,h2⟩:=h2;generalize hev:a.eval x'=cf at hf;cases hf;rename_i fs cs hl hcs hk
    have hrun:(execOp a.eval o).run P w=.ok (.enter f (fs++(c.args.map a.eval++cs))) w:=by
     have:=aow (w:=w) hfn (fs++(c.args.map a.eval++cs));simp [execOp,ho,resolve,hcal,hev,Deferred.ofValue,invoke];exact this
    unfold Oper.wp;rw [hrun,Oper.upon_enter];have hg1:(g9 s.e args).length=c.args.size:=by rw [g1]; simp
    have hpre:∀(i:Nat) (y:AV) (v:Value),(cap.take k)[i]?=some y→fs[i]?=some v→RA X s ρ w y v:=fun i y v hy hv=>by
     rw [List.getElem?_take] at hy;split at hy
     ·rename_i hlt;exact hcs i y v hy (by rw [zaf,if_pos (by omega)]; exact hv)
     ·cases hy
    have hpost:∀(i:Nat) (y:AV) (v:Value),(cap.drop k)[i]?=some y→cs[i]?=some v→RA X s ρ w y v:=fun i y v hy hv=>by
     rw [List.getElem?_drop] at hy;exact hcs (k+i) y v hy (by rw [zaf,if_neg (by omega),show k+i-fs.size=i by omega]; exact hv)
    have happ:∀(xs ys:List AV) (us vs:Array Value),us.size=xs.length→(∀(i:Nat) (y:AV) (v:Value),xs[i]?=some y→us[i]?=some v→RA X s ρ w y v) →
      (∀(i:Nat) (y:AV) (v:Value),ys[i]?=some y→vs[i]?=some v→RA X s ρ w y v)→∀(i:Nat) (y:AV) (v:Value),(xs++ys)[i]?=some y→(us++vs)[i]?=some v→RA X s ρ w y v:=
     fun xs ys us vs hs h1 h2 i y v hy hv=>by
      rw [List.getElem?_append] at hy;rw [zaf,hs] at hv;split at hy
      ·rename_i hlt;rw [if_pos hlt] at hv;exact h1 i y v hy hv
      ·rename_i hlt;rw [if_neg hlt] at hv;exact h2 _ y v hy hv
    have hkl:(cap.take k).length=k:=by rw [List.length_take]; omega
    refine (afz hG h2 (by simp [g1]; omega) (happ _ _ _ _ (by rw [hkl]; exact hk) hpre (happ _ _ _ _ (by rw [hg1]; simp) (fun i y v hy hv=>?_) hpost))).mono ?_
    ·rw [Array.getElem?_map,zak] at hv;obtain ⟨z,hz,rfl⟩:=hv;exact g2 i y z hy (by simpa using hz)
    ·rintro e w1 ⟨cv,v,ob1,ρ1,rfl,hK,hG1,hr⟩;simp only;rw [hd];rcases rd with _ | d
     ·exact hN _ ρ1 _ _ hK hG1
     ·exact hN _ ρ1 _ _ hK (hG1.see (s:=⟨s.e,ob1⟩) (by simpa using hdn) hr)
   ·cases h2
 | inv tbl x args=>
  cases b with
  | false=>
   simp only [zad,if_false];exact hN _ ρ _ _ (h.2 rfl) (hskip _ fun c _=>.undef c)
  | true=>
   simp only [if_true];refine .inl ?_;obtain ⟨hm,h1,h2⟩:=h.1 rfl;obtain ⟨c,rv,m,ho,hcal,hxx,hall,htbl⟩:=azk hx;obtain ⟨g1,g2⟩:=abc hG rfl hall h1;have hf:=c7 hG rfl hxx hm;generalize (x.ev s.e).bare=xv at hf h2;unfold ai6 at h2;split at h2
   ·rename_i t y;split at h2
    ·rename_i f hmet;generalize hev:a.eval rv=cf at hf;cases hf;rename_i cy hy;have hmo:=zac.1 htbl _ (ap5 hmet)
     have hrun:(execOp a.eval o).run P w=.ok (.enter f (#[cy]++c.args.map a.eval)) w:=by
      have:=a7v (w:=w) (v:=cy) (as:=c.args.map a.eval) hmo;simp only [execOp,ho,resolve,hcal,hev,Sem.run_bind,Sem.run_pure,Result.andThen_ok];exact this
     unfold Oper.wp;rw [hrun,Oper.upon_enter];refine (afz hG h2 (by simp [g1]; omega) fun i z cc hz hc=>?_).mono ?_
     ·cases i with
      | zero=>
       simp at hz;rw [zaf,if_pos (by simp)] at hc;simp at hc;subst hz; subst hc;exact hy
      | succ i=>
       simp only [List.getElem?_cons_succ] at hz;rw [zaf,if_neg (by simp)] at hc;simp only [List.size_toArray,zai,List.length_nil,Nat.zero_add,Nat.add_sub_cancel] at hc;rw [Array.getElem?_map,zak] at hc;obtain ⟨q,hq,rfl⟩:=hc;exact g2 i z q hz (by simpa using hq)
     ·rintro e w1 ⟨cv,v,ob1,ρ1,rfl,hK,hG1,hr⟩;simp only;rw [hd];rcases rd with _ | d
      ·exact hN _ ρ1 _ _ hK hG1
      ·exact hN _ ρ1 _ _ hK (hG1.see (s:=⟨s.e,ob1⟩) (by simpa using hdn) hr)
    ·cases h2
   ·cases h2
 | nxt x=>
  cases b with
  | false=>
   simp only [zad,if_false];exact hN _ ρ _ _ (h.2 rfl) (hskip _ fun c _=>.undef c)
  | true=>
   simp only [if_true];refine .inl ?_;obtain ⟨hm,h2⟩:=h.1 rfl;obtain ⟨it,ho,hxx⟩:=azj hx;have hf:=c7 hG rfl hxx hm;obtain ⟨c,v,ob1,w1,hrun,hK,hG1,hr⟩:=ayf (P:=P) hG ho hf h2;unfold Oper.wp;rw [hrun,Oper.upon_value,hd];rcases rd with _ | d
   ·exact hN _ ρ _ _ hK hG1
   ·exact hN _ ρ _ _ hK (hG1.see (s:=⟨s.e,ob1⟩) (by simpa using hdn) hr)
theorem awt {rs:List PR} {l:List Oper} {K:St→Prop} {k:Nat} (hops:∀i,i<l.length→ops[k+i]?=l[i]?) (hck:o7 (afy P X.n ops) l rs=true) (hG:Gam X s ρ a w) (h:wpR P rs K s)
  (hN:∀s' ρ' a' w',K s'→Gam X s' ρ' a' w'→Q .normal a' w'):wpOps P ops Q (List.range' k l.length) a w:=by
 induction l generalizing rs k s ρ a w with
 | nil=>
  cases rs with
  | nil=>exact hN s ρ a w h hG
  | cons r rs=>cases hck
 | cons o l ih=>
  cases rs with
  | nil=>cases hck
  | cons r rs=>
   simp only [o7,zaa] at hck;have hi:ops[k]?=some o:=by have:=hops 0 (by simp); simpa using this
   rw [zai,List.range'_succ,wpOps_cons];refine arl hG hi hck.1 h fun s' ρ' a' w' hK hG'=>?_;exact ih (fun i hi=>by have:=hops (i+1) (by simp; omega); rw [show k+1+i=k+(i+1) by omega,this]; simp) hck.2 hG' hK
theorem as3 {α β:Type} {f:α→β→Bool}:∀{xs:List α} {ys:List β},o7 f xs ys=true→xs.length=ys.length∧∀(i:Nat) (x:α) (y:β),xs[i]?=some x→ys[i]?=some y→f x y=true
 | [],[],_=>⟨rfl,fun i x y h=>by simp at h⟩
 | [],_::_,h=>by cases h
 | _::_,[],h=>by cases h
 | x::xs,y::ys,h=>by
  simp only [o7,zaa] at h;obtain ⟨g1,g2⟩:=as3 h.2;refine ⟨by simp [g1],fun i a b ha hb=>?_⟩;cases i with
  | zero=>simp at ha hb; subst ha; subst hb; exact h.1
  | succ i=>simp at ha hb; exact g2 i a b ha hb
theorem ay9 {rs:List PR} {pre:List (List Nat)} {log:List Lg} {K:St→Prop} {R:Nat→St} {C:Nat→Ans} (hck:o7 (afy P X.n ops) ops.toList rs=true) (hpre:anx ops pre=true) (hap:mz pre log=true) (hll:log.length=rs.length)
  (href:∀k r,rs[k]?=some r→(r.out P (R k) (C k)).ok∧R (k+1)=(r.out P (R k) (C k)).st∧log[k]?=some (r.out P (R k) (C k)).lg) (hK:K (R rs.length))
  (hN:∀s' ρ' a' w',K s'→Gam X s' ρ' a' w'→Q .normal a' w'):∀(fuel:Nat) (listed:Array Bool) (s:St) (ρ:Pl→Option Nat) (a:Act) (w:World),listed.size=ops.size →
   (∀j,listed.getD j false=true→∀i,i∈pre.getD j []→listed.getD i false=true)→(List.range ops.size).countP (fun k=>!listed.getD k false)≤fuel →
   (∀l,o8 s l=ke (fun k=>o8 (R k)) (wrt log) (fun k=>listed.getD k false=true) ops.size l)→Gam X s ρ a w→wpAny P .any ops Q fuel listed a w:=by
 obtain ⟨hlen,hat⟩:=as3 hck;have hlen:ops.size=rs.length:=by simpa using hlen
 have hr:∀k,k<ops.size→∃o r,ops[k]?=some o∧rs[k]?=some r∧afy P X.n ops o r=true∧(r.out P (R k) (C k)).ok∧R (k+1)=(r.out P (R k) (C k)).st∧log.getD k default=(r.out P (R k) (C k)).lg:=fun k hk=>by
  have h1:ops[k]?=some ops[k]:=by simp [hk]
  have h2:rs[k]?=some (rs[k]'(by omega)):=by simp [show k<rs.length by omega]
  obtain ⟨g1,g2,g3⟩:=href k _ h2;exact ⟨_,_,h1,h2,hat k _ _ (by simpa using h1) h2,g1,g2,by simp [List.getD_eq_getElem?_getD,g3]⟩
 have hloc:∀k r,k<ops.size→rs[k]?=some r→log.getD k default=(r.out P (R k) (C k)).lg:=fun k r hk h=>by
  obtain ⟨_,r',_,h2,_,_,_,h3⟩:=hr k hk;rw [h] at h2; cases h2; exact h3
 have hflag:∀k r,k<ops.size→rs[k]?=some r→(log.getD k default).ad=r.x.adr∧(log.getD k default).st=r.x.sto:=fun k r hk h=>by
  rw [hloc k r hk h];exact ayc
 have hWR:∀k i,k<ops.size→i∈(log.getD k default).wr→i∈(log.getD k default).rd∧(log.getD k default).ad=false:=fun k i hk hw=>by
  obtain ⟨o,r,h1,h2,h3,h4,h5,h6⟩:=hr k hk;refine ⟨?_,?_⟩
  ·simp only [h6] at hw ⊢;exact ((aol (s':=R k) h4 (fun _ _=>rfl) (fun _ _ _=>rfl) (fun _ _=>rfl)).2.2.2.1 i hw).1
  ·rw [(hflag k r hk h2).1];cases hadr:r.x.adr with
   | false=>rfl
   | true=>
    rw [h6] at hw;rcases r with ⟨d,g,u,x⟩
    cases x with
    | see o=>
     unfold PR.out at hw;simp only at hw;generalize yes (R k).e g=y at hw;rcases y with _ | b
     ·simp [PX.out,PR.lg] at hw
     ·simp [PX.out,PR.lg] at hw
    | _=>cases hadr
 have hWU:∀k l,k<ops.size→wrt log k l→usd log k l:=fun k l hk hw=>by
  cases l with
  | t t=>
   obtain ⟨o,r,h1,h2,h3,h4,h5,h6⟩:=hr k hk;simp only [wrt,usd,h6] at hw ⊢;rw [al7.2] at hw;rw [al7.1];simp [hw]
  | o i=>exact hWR k i hk hw
  | p i=>exact (hWR k i hk hw.1).1
 have hoff:∀k l,k<ops.size→¬wrt log k l→o8 (R (k+1)) l=o8 (R k) l:=fun k l hk hw=>by
  obtain ⟨o,r,h1,h2,h3,h4,h5,h6⟩:=hr k hk;have hl:=aol (s':=R k) h4 (fun _ _=>rfl) (fun _ _ _=>rfl) (fun _ _=>rfl);rw [h5];cases l with
  | t t=>
   simp only [wrt,h6,al7.2] at hw;simp only [o8,hl.2.2.1 t hw]
  | o i=>
   simp only [wrt,h6] at hw;simp only [o8,hl.2.2.2.2 i hw]
  | p i=>
   simp only [wrt,(hflag k r hk h2).2] at hw;simp only [o8];by_cases hi:i∈(log.getD k default).wr
   ·have:r.x.sto=true:=by
     cases hsto:r.x.sto with
     | true=>rfl
     | false=>exact (hw ⟨hi,hsto⟩).elim
    rw [at1 this]
   ·rw [h6] at hi;rw [hl.2.2.2.2 i hi]
 have hpp:∀i j,i<j→j<ops.size→¬(i∈pre.getD j [])→∀l,¬(wrt log i l∧usd log j l)∧¬(wrt log j l∧usd log i l):=fun i j hij hj hp l=>azy hap hij (by omega) hp l;intro fuel
 induction fuel with
 | zero=>
  intro listed s ρ a w hsz hcl hcnt hpl hG
  have hall:∀k,k<ops.size→listed.getD k false=true:=fun k hk=>by
   have h0:(List.range ops.size).countP (fun k=>!listed.getD k false)=0:=by omega
   rw [List.countP_eq_zero] at h0;have:=h0 k (by simp [hk]);simpa using this
  have hs:s=R rs.length:=apw fun l=>by rw [hpl l,alq hoff hall ops.size (zae _),hlen]
  refine ⟨?_,hN s ρ a w (by rw [hs]; exact hK) hG⟩;rcases hrd:Region.ready .any ops listed with _ | ⟨j,js⟩
  ·rfl
  ·have hj:j∈Region.ready .any ops listed:=by rw [hrd]; simp
   obtain ⟨h1,o,ho,_⟩:=mem_ready.1 hj;have hlt:=(zaj.1 ho).1;have:=hall j hlt;rw [zab] at this h1;have hsome:listed[j]?=some (listed[j]'(by omega)):=by simp [show j<listed.size by omega]
   rw [hsome] at this h1;simp at this h1;rw [this] at h1;cases h1
 | succ fuel ih=>
  intro listed s ρ a w hsz hcl hcnt hpl hG;refine ⟨fun hnil=>?_,fun j hj=>?_⟩
  ·have hall:∀k,k<ops.size→listed.getD k false=true:=fun k=>by
    induction k using Nat.strongRecOn with
    | ind k ihk=>
     intro hk;apply Classical.byContradiction;intro hnot
     have hf:listed.getD k true=false:=by
      rw [zab] at hnot ⊢;have hsome:listed[k]?=some (listed[k]'(by omega)):=by simp [show k<listed.size by omega]
      rw [hsome] at hnot ⊢;simpa using hnot
     obtain ⟨o,r,h1,_⟩:=hr k hk;have:k∈Region.ready .any ops listed:=mem_ready.2 ⟨hf,o,h1,fun e he hb=>ihk e.on ((adt hpre h1).1 e he hb) (Nat.lt_trans ((adt hpre h1).1 e he hb) hk)⟩;rw [hnil] at this;cases this
   have hs:s=R rs.length:=apw fun l=>by rw [hpl l,alq hoff hall ops.size (zae _),hlen]
   exact hN s ρ a w (by rw [hs]; exact hK) hG
  ·obtain ⟨hun,oj,hoj,haft⟩:=mem_ready.1 hj;have hlt:=(zaj.1 hoj).1
   have hunf:¬(listed.getD j false=true):=by
    rw [zab] at hun ⊢;have hsome:listed[j]?=some (listed[j]'(by omega)):=by simp [show j<listed.size by omega]
    rw [hsome] at hun ⊢;simpa using hun
   obtain ⟨o,r,h1,h2,h3,h4,h5,h6⟩:=hr j hlt
   have hpj:∀i,i∈pre.getD j []→listed.getD i false=true:=fun i hi=>by
    obtain ⟨e,he,hb,hor⟩:=(adt hpre h1).2 i hi;have he':listed.getD e.on false=true:=by rw [h1] at hoj; cases hoj; exact haft e he hb
    rcases hor with rfl | hor
    ·exact he'
    ·exact hcl _ he' i hor
   have hsee:∀l,usd log j l→o8 s l=o8 (R j) l:=fun l hl=>by
    rw [hpl l];exact a5q (pr:=fun j i=>i∈pre.getD j []) hoff hpp hcl hlt hunf hpj hl
   have hL:=aol (s':=s) h4 (fun t ht=>by
    have:=hsee (.t t) (by simp only [usd,h6]; exact ht);simpa [o8] using this) (fun hadr i hi=>by
    have:=hsee (.o i) (by
     simp only [usd];rw [(hflag j r hlt h2).1,h6]
     exact ⟨hi,hadr⟩)
    simpa [o8] using this) (fun i hi=>by
    have:=hsee (.p i) (by simp only [usd,h6]; exact hi)
    simpa [o8] using this)
   have hset:∀k,(listed.setIfInBounds j true).getD k false=true↔(listed.getD k false=true∨k=j):=fun k=>by
    by_cases hkj:k=j
    ·subst hkj;simp [zab,hsz,hlt]
    ·have:(listed.setIfInBounds j true).getD k false=listed.getD k false:=getD_set_ne false (Ne.symm hkj);rw [this];simp [hkj]
   refine arl hG h1 h3 (a7o (K:=fun s'=>∀l,o8 s' l=ke (fun k=>o8 (R k)) (wrt log) (fun k=>(listed.setIfInBounds j true).getD k false=true) ops.size l) hL.1 fun l=>?_) fun s' ρ' a' w' hs' hG'=>?_
   ·have hfun:(fun k=>(listed.setIfInBounds j true).getD k false=true)=fun k=>listed.getD k false=true∨k=j:=funext fun k=>propext (hset k);rw [hfun];by_cases hw:wrt log j l
    ·rw [a13 (pr:=fun j i=>i∈pre.getD j []) hWU hpp hcl hlt hunf hw,h5];cases l with
     | t t=>
      simp only [wrt,h6,al7.2] at hw;simp only [o8,hL.2.1 t hw]
     | o i=>
      simp only [wrt,h6] at hw;simp only [o8,(hL.2.2.2.1 i hw).2]
     | p i=>
      have hw1:=hw.1;simp only [h6] at hw1;simp only [o8,(hL.2.2.2.1 i hw1).2]
    ·rw [aut hw,← hpl l];cases l with
     | t t=>
      simp only [wrt,h6,al7.2] at hw;simp only [o8,hL.2.2.1 t hw]
     | o i=>
      simp only [wrt,h6] at hw;simp only [o8,hL.2.2.2.2 i hw]
     | p i=>
      simp only [o8];by_cases hi:i∈(log.getD j default).wr
      ·have:r.x.sto=true:=by
        cases hsto:r.x.sto with
        | true=>rfl
        | false=>exact (hw ⟨hi,by rw [(hflag j r hlt h2).2]; exact hsto⟩).elim
       rw [at1 this]
      ·rw [h6] at hi;rw [hL.2.2.2.2 i hi]
   ·refine ih _ s' ρ' a' w' (by simpa using hsz) (fun k hk i hi=>?_) ?_ hs' hG'
    ·rw [hset] at hk ⊢;rcases hk with hk | rfl
     ·exact .inl (hcl k hk i hi)
     ·exact .inl (hpj i hi)
    ·have:=aqi (p:=fun k=>!listed.getD k false) (q:=fun k=>!(listed.setIfInBounds j true).getD k false) (j:=j) (fun x hx=>by
      have hx':¬((listed.setIfInBounds j true).getD x false=true):=by simpa using hx
      rw [hset] at hx'
      simpa using fun h=>hx' (.inl h)) (by simpa using hunf) (by have:=(hset j).2 (.inr rfl); simp only [this,Bool.not_true]) (l:=List.range ops.size) (by simp [hlt])
     omega
def a9e (X:Cx) (K:Ex→St→Prop):Exit→Act→World→Prop
 | .normal,a,w=>∃s ρ,K .nor s∧Gam X s ρ a w
 | .exit i,a,w=>∃s ρ,K (.ex i) s∧Gam X s ρ a w
 | .ret,a,w=>∃s ρ,K .rt s∧Gam X s ρ a w
 | _,_,_=>False
theorem a0z {fl:Bool} {id:Nat} (hid:id<1000000) {x:AV} (hG:Gam X s ρ a w):∃ρ',Gam X ⟨s.e,(lm fl id s.ob x).2⟩ ρ' a w∧(∀(y:AV) (c:Value),RA X s ρ w y c→RA X ⟨s.e,(lm fl id s.ob x).2⟩ ρ' w y c) ∧
  ∀(c:Value),RA X s ρ w x c→RA X ⟨s.e,(lm fl id s.ob x).2⟩ ρ' w (lm fl id s.ob x).1 c:=by
 unfold lm;split
 ·rename_i sz z;split
  ·refine ⟨l7 ρ id none,hG.nil id _ (hG.pnn id (am2 hid)) (fun v o h=>ul h) sz z true,fun y c h=>h.stays (Stays.nil id _ (fun v o h=>ul h) _),fun c h=>?_⟩;cases h;exact .own _ _ _ _ _ rfl (gh ⟨none,0,rfl,zae _,by simp,by simp,by simp⟩)
  ·exact ⟨ρ,hG,fun _ _ h=>h,fun _ h=>h⟩
 ·exact ⟨ρ,hG,fun _ _ h=>h,fun _ h=>h⟩
theorem ak2:∀{live:List (Nat×Bool)} {s:St} {ρ:Pl→Option Nat},(∀p∈live,p.1<100000)→Gam X s ρ a w→∃ρ',Gam X ⟨s.e,(o5 s.e live s.ob).2⟩ ρ' a w∧(∀(y:AV) (c:Value),RA X s ρ w y c→RA X ⟨s.e,(o5 s.e live s.ob).2⟩ ρ' w y c) ∧
  (o5 s.e live s.ob).1.length=live.length∧∀(i t:Nat) (fl:Bool) (x:AV) (c:Value),live[i]?=some (t,fl)→(o5 s.e live s.ob).1[i]?=some x→RA X s ρ w (s.e t) c→RA X ⟨s.e,(o5 s.e live s.ob).2⟩ ρ' w x c
 | [],s,ρ,_,hG=>⟨ρ,hG,fun _ _ h=>h,rfl,fun i t fl x c h=>by simp at h⟩
 | (t,fl)::r,s,ρ,hl,hG=>by
  have ht:t<100000:=hl (t,fl) (by simp);obtain ⟨ρ1,g1,g2,g3⟩:=a0z (fl:=fl) (id:=900000+t) (by omega) (x:=s.e t) hG;obtain ⟨ρ2,k1,k2,k3,k4⟩:=ak2 (live:=r) (s:=⟨s.e,(lm fl (900000+t) s.ob (s.e t)).2⟩) (fun p hp=>hl p (by simp [hp])) g1;refine ⟨ρ2,k1,fun y c h=>k2 y c (g2 y c h),by simp [o5,k3],fun i t' fl' x c hi hx hr=>?_⟩;cases i with
  | zero=>
   simp [o5] at hi hx;obtain ⟨rfl,rfl⟩:=hi;subst hx;exact k2 _ c (g3 c hr)
  | succ i=>
   simp [o5] at hi hx;exact k4 i t' fl' x c hi hx (g2 _ c hr)
theorem auf:∀{live:List (Nat×Bool)} {vs:List AV} (t:Nat),(∃(i:Nat) (fl:Bool) (x:AV),live[i]?=some (t,fl)∧vs[i]?=some x∧keep live vs t=x)∨keep live vs t=.undef
 | [],vs,t=>.inr (by simp [keep])
 | _::_,[],t=>.inr (by simp [keep])
 | (l,fl)::ls,v::vs,t=>by
  by_cases h:t=l
  ·subst h;exact .inl ⟨0,fl,v,rfl,rfl,by simp [keep,put]⟩
  ·have hk:keep ((l,fl)::ls) (v::vs) t=keep ls vs t:=by simp [keep,put,h]
   rw [hk];rcases auf (live:=ls) (vs:=vs) t with ⟨i,fl',x,h1,h2,h3⟩ | h0
   ·exact .inl ⟨i+1,fl',x,by simpa using h1,by simpa using h2,h3⟩
   ·exact .inr h0
theorem ain {np:Nat} {live:List (Nat×Bool)} {D:List AV→List Ob→List Ob→Prop} (hl:∀p∈live,p.1<100000) (hnp:np≤1000000) (hpn:∀id b,X.pn id=some b→1000000≤id∧id<1000000+np) (hG:Gam X s ρ a w) (h:yz np live s D) :
  ∃vs pos los ρ',D vs pos los∧Gam X (akv live vs pos los) ρ' a w:=by
 obtain ⟨ρ1,g1,g2,g3,g4⟩:=ak2 hl hG;unfold yz at h;rcases hn:nrm 64 np 2000000 (o5 s.e live s.ob).1 (o5 s.e live s.ob).2 with _ | ⟨vs,pos,los⟩
 ·rw [hn] at h; exact h.elim
 rw [hn] at h;obtain ⟨ρ2,k1,k2,k3,k4⟩:=g1.toMem.nrm hn (by omega) hpn;refine ⟨vs,pos,los,ρ2,h,k1,hG.sz,hG.df,fun t=>?_,hG.pnn,hG.small,hG.base⟩;simp only [akv];rcases auf (live:=live) (vs:=vs) t with ⟨i,fl,x,h1,h2,h3⟩ | h0
 ·rw [h3];have hlt:=(zag.1 h2).1;have hp:(o5 s.e live s.ob).1[i]?=some ((o5 s.e live s.ob).1[i]'(by omega)):=by simp [show i<(o5 s.e live s.ob).1.length by omega]
  exact k4 i _ x _ hp h2 (g4 i t fl _ _ h1 hp (hG.env t))
 ·rw [h0];exact .undef _
theorem avz {S:Nat→Prop} (h:∃k,S k):∃k,S k∧∀j,S j→k≤j:=by
 obtain ⟨k,hk⟩:=h
 induction k using Nat.strongRecOn with
 | _ k ih=>
  by_cases hx:∃j,j<k∧S j
  ·obtain ⟨j,h1,h2⟩:=hx;exact ih j h1 h2
  ·refine ⟨k,hk,fun j hj=>?_⟩;rcases Nat.lt_or_ge j k with h | h
   ·exact absurd ⟨j,h,hj⟩ hx
   ·exact h
theorem a6i {np:Nat} (hnp:np≤1000000) (hpn:∀id b,X.pn id=some b→1000000≤id∧id<1000000+np):∀(pc:PC) (c:Code) (K:Ex→St→Prop) (s:St) (ρ:Pl→Option Nat) (a:Act) (w:World),kh P X.n c pc=true→W P np pc K s→Gam X s ρ a w→c.wp P (a9e X K) a w:=by
 intro pc
 induction pc with
 | skip=>
  intro c K s ρ a w hc h hG;cases c<;>simp only [kh] at hc<;>try (cases hc; done)
  exact wp_skip ⟨s,ρ,h,hG⟩
 | reg rs=>
  intro c K s ρ a w hc h hG;cases c<;>simp only [kh] at hc<;>try (cases hc; done)
  rename_i id ops d;simp only [zaa,Bool.not_eq_true'] at hc;obtain ⟨rfl,hc⟩:=hc;refine wp_region ?_;rw [List.range_eq_range',← Array.length_toList];exact awt (k:=0) (l:=ops.toList) (fun i hi=>by simp) hc hG h fun s' ρ' a' w' hK hG'=>⟨s',ρ',hK,hG'⟩
 | seq p q ihp ihq=>
  intro c K s ρ a w hc h hG;cases c<;>simp only [kh] at hc<;>try (cases hc; done)
  rename_i x y;simp only [zaa] at hc;refine wp_seq (wp_mono (ihp x _ s ρ a w hc.1 h hG) fun e a' w' hp=>?_);cases e with
  | normal=>
   obtain ⟨s',ρ',h1,h2⟩:=hp;exact ihq y K s' ρ' a' w' hc.2 h1 h2
  | exit i=>exact hp
  | ret=>exact hp
  | goto l=>exact hp
  | panic ch=>exact hp
  | outgrown=>exact hp
 | cond x p q ihp ihq=>
  intro c K s ρ a w hc h hG;cases c<;>simp only [kh] at hc<;>try (cases hc; done)
  rename_i y c1 c2;simp only [zaa] at hc;obtain ⟨⟨h1,h2⟩,h3⟩:=hc;have hx:=aiu hG.env h1;simp only [W] at h;generalize x.ev s.e=xv at hx h;split at h
  ·rename_i b;exact wp_cond_split (f9 hx) (fun hb=>ihp c1 K s ρ a w h2 (h.1 hb) hG) (fun hb=>ihq c2 K s ρ a w h3 (h.2 hb) hG)
  ·exact h.elim
 | block id p ih=>
  intro c K s ρ a w hc h hG;cases c<;>simp only [kh] at hc<;>try (cases hc; done)
  rename_i id' c';simp only [zaa,beq_iff_eq] at hc;obtain ⟨rfl,hc⟩:=hc;refine wp_block (wp_mono (ih c' _ s ρ a w hc h hG) fun e a' w' hp=>?_);cases e with
  | normal=>exact hp
  | exit i=>
   obtain ⟨s',ρ',h1,h2⟩:=hp;simp only [Exit.inBlock];simp only at h1;split
   ·rename_i hi;rw [if_pos hi] at h1;exact ⟨s',ρ',h1,h2⟩
   ·rename_i hi;rw [if_neg hi] at h1;exact ⟨s',ρ',h1,h2⟩
  | ret=>exact hp
  | goto l=>exact hp
  | panic ch=>exact hp
  | outgrown=>exact hp
 | loop p ih=>
  intro c K s ρ a w hc h hG;cases c<;>simp only [kh] at hc<;>try (cases hc; done)
  rename_i c';obtain ⟨live,I,m,hl,h0,hr⟩:=h;have hl':∀p∈live,p.1<100000:=fun p hp=>by simpa using zac.1 hl p hp
  let S:Nat→Act→World→Prop:=fun k a w=>∃vs pos los ρ,I vs pos los∧Gam X (akv live vs pos los) ρ a w∧m vs pos los=k
  refine wp_loop (fun a w=>∃k,S k a w) (fun a w=>open Classical in if hx:∃k,S k a w then (avz hx).choose else 0) ?_ ?_
  ·obtain ⟨vs,pos,los,ρ',h1,h2⟩:=ain hl' hnp hpn hG h0;exact ⟨_,vs,pos,los,ρ',h1,h2,rfl⟩
  ·intro a w hx;simp only [dif_pos hx];obtain ⟨vs,pos,los,ρ',h1,h2,h3⟩:=(avz hx).choose_spec.1;refine wp_mono (ih c' _ _ ρ' a w hc (hr vs pos los h1) h2) fun e a' w' hp=>?_;cases e with
   | normal=>
    obtain ⟨s',ρ'',g1,g2⟩:=hp;obtain ⟨vs',pos',los',ρ3,k1,k2⟩:=ain hl' hnp hpn g2 g1;have hex:∃k,S k a' w':=⟨_,vs',pos',los',ρ3,k1.1,k2,rfl⟩
    refine ⟨hex,?_⟩;rw [dif_pos hex,← h3];exact Nat.lt_of_le_of_lt ((avz hex).choose_spec.2 _ ⟨vs',pos',los',ρ3,k1.1,k2,rfl⟩) k1.2
   | exit i=>exact hp
   | ret=>exact hp
   | goto l=>exact hp
   | panic ch=>exact hp
   | outgrown=>exact hp
 | exit i=>
  intro c K s ρ a w hc h hG;cases c<;>simp only [kh] at hc<;>try (cases hc; done)
  rename_i j;have:j=i:=by simpa using hc
  subst this;exact wp_exit ⟨s,ρ,h,hG⟩
 | ret=>
  intro c K s ρ a w hc h hG;cases c<;>simp only [kh] at hc<;>try (cases hc; done)
  exact wp_ret ⟨s,ρ,h,hG⟩
 | drw rs pre=>
  intro c K s ρ a w hc h hG;cases c<;>simp only [kh] at hc<;>try (cases hc; done)
  rename_i id ops d;simp only [zaa] at hc;obtain ⟨⟨⟨rfl,hm⟩,hck⟩,hpre⟩:=hc;obtain ⟨R,C,log,h0,hll,href,hap,hK⟩:=atp h;refine wp_region_any hm ?_
  have hrep:∀k,¬((Array.replicate ops.size false).getD k false=true):=fun k=>by
   rw [zab,Array.getElem?_replicate];split<;>simp
  refine ay9 hck hpre (by simpa using hap) hll href hK (fun s' ρ' a' w' hK' hG'=>⟨s',ρ',hK',hG'⟩) ops.size _ s ρ a _ (by simp) (fun j hj=>?_) ?_ (fun l=>?_) (hG.drew _)
  ·exact (hrep j hj).elim
  ·exact Nat.le_trans List.countP_le_length (by simp)
  ·rw [aqj hrep,h0]
end

def AV.isNil:AV→Bool
 | .nils _ _=>true
 | _=>false
def mt:List AV→Bool
 | []=>false
 | x::xs=>x.isNil||mt xs
def abo (ob:Obs):AV→Option (AV×List Nat)
 | .nils sz z=>some (.nils sz z,[])
 | x=>match x.rv ob with
  | some (y,l)=>some (.r y,l)
  | none=>none
def lw (ob:Obs):List AV→Option (List AV×List Nat)
 | []=>some ([],[])
 | x::xs=>match abo ob x,lw ob xs with
  | some (y,i),some (ys,j)=>some (y::ys,i++j)
  | _,_=>none
def abp (ob:Obs) (xs:List AV):Bool→Option (AV×List Nat)
 | true=>match lw ob xs with
  | some (ys,l)=>some (.agg ys,l)
  | none=>none
 | false=>match rvs ob xs with
  | some (ys,l)=>some (.r (.agg ys),l)
  | none=>none
def zn (ob:Obs):AV→Option (AV×List Nat)
 | .own id ver lo len=>match d7 ob id ver with
  | some (sz,_,_,wr,xs)=>if wr then some (.own id ver lo len,[]) else some (.r (.sl sz ((xs.drop lo).take len)),[])
  | none=>match l9 ob id ver with
   | some _=>some (.own id ver lo len,[])
   | none=>none
 | .agg xs=>abp ob xs (lq&&mt xs)
 | x=>some (x,[])
def pt (ob:Obs):List AV→Option (List AV×List Nat)
 | []=>some ([],[])
 | x::xs=>match zn ob x,pt ob xs with
  | some (y,i),some (ys,j)=>some (y::ys,i++j)
  | _,_=>none
def oi:List AV→AV
 | [x]=>x
 | xs=>.tup xs
def aqv (np:Nat) (ob:Obs) (D:AV→List Ob→Prop):Option (List AV×List Nat)→Prop
 | some (vs,l)=>art (fun vs pos los=>D (oi vs) (pos++los)) (nrm 64 np (1000000+np) vs (freeze ob l))
 | none=>False
def aso (np:Nat) (rs:List (Nat×Bool)) (s:St) (D:AV→List Ob→Prop):Prop:=
 aqv np (o5 s.e rs s.ob).2 D (pt (o5 s.e rs s.ob).2 (o5 s.e rs s.ob).1)
abbrev RSl:=Nat×Bool×Option (TypeId×Option Nat)
def opn (np:Nat) (all:List (Nat×Bool)) (D:AV→List Ob→Prop):List RSl→Env→Obs→Prop
 | [],e,ob=>aso np all ⟨e,ob⟩ D
 | (_,_,none)::r,e,ob=>opn np all D r e ob
 | (a,_,some (_,n))::r,e,ob=>(ld1 true n (e a) ob).ok∧opn np all D r (put a (ld1 true n (e a) ob).v e) ob
def apf (np:Nat) (rs:List RSl) (D:AV→List Ob→Prop):Ex→St→Prop
 | .nor,s=>opn np (rs.map fun p=>(p.1,p.2.1)) D rs s.e s.ob
 | .rt,s=>opn np (rs.map fun p=>(p.1,p.2.1)) D rs s.e s.ob
 | .ex _,_=>False
def RSl.rv:RSl→ResultVar
 | (t,_,none)=>.tmp t
 | (a,_,some (ty,_))=>.cell a ty
def RSl.agg (P:Program):RSl→Bool
 | (_,_,none)=>true
 | (_,_,some (ty,n))=>ad1 P ty n
def km:Nat→List AV→Env
 | _,[]=>fun _=>.undef
 | k,x::xs=>put k x (km (k+1) xs)
theorem auy:∀{xs:List AV} {k t:Nat},k≤t→km k xs t=(xs[t-k]?).getD .undef
 | [],k,t,h=>by simp [km]
 | x::xs,k,t,h=>by
  simp only [km,put];by_cases hk:t=k
  ·subst hk; simp
  ·rw [if_neg hk,auy (by omega),show t-k=(t-(k+1))+1 by omega];simp
theorem ak9:∀(xs ys:List Ob) (k:Nat),u0 k xs (u0 (k+xs.length) ys fun _=>none)=obs k (xs++ys)
 | [],[],k=>rfl
 | [],y::ys,k=>by
  have:=ak9 [] ys (k+1);simp only [u0,List.length_nil,Nat.add_zero,List.nil_append,obs] at this ⊢;rw [this]
 | x::xs,ys,k=>by
  have:=ak9 xs ys (k+1);simp only [u0,zai,List.cons_append,obs] at this ⊢;rw [show k+(xs.length+1)=k+1+xs.length by omega,this]
section
variable {P:Program} {X:Cx} {w w':World} {s:St} {ρ ρ':Pl→Option Nat} {a:Act} {o:Oper} {ob ob':Obs} {R R':Nat→Prop}
theorem ap0 {lall:List Nat} (hG:Gam X s ρ a w) {ob:Obs} (hob:s.ob=Ev.freeze ob lall):∀{xs ys:List AV} {l:List Nat},lw ob xs=some (ys,l)→(∀i,i∈l→i∈lall) →
  ys.length=xs.length∧∀(i:Nat) (x y:AV) (c:Value),xs[i]?=some x→ys[i]?=some y→RA X s ρ w x c→RA X s ρ w y c
 | [],ys,l,h,hs=>by simp [lw] at h; obtain ⟨rfl,rfl⟩:=h; simp
 | z::xs,ys,l,h,hs=>by
  simp only [lw] at h;split at h
  ·rename_i y' k zs j h1 h2;cases h;obtain ⟨g1,g2⟩:=ap0 hG hob h2 (fun p hp=>hs p (by simp [hp]));refine ⟨by simp [g1],fun i x y c hx hy hr=>?_⟩;cases i with
   | zero=>
    simp at hx hy;subst hx; subst hy;unfold abo at h1;split at h1
    ·cases h1; exact hr
    ·split at h1
     ·rename_i hrv;cases h1;exact .r (amj hG hrv (fun p hp=>hs p (by simp [hp])) hob hr)
     ·cases h1
   | succ i=>
    simp at hx hy;exact g2 i x y c hx hy hr
  ·cases h
theorem a04 {lall:List Nat} (hG:Gam X s ρ a w) {ob:Obs} (hob:s.ob=Ev.freeze ob lall) {x y:AV} {l:List Nat} {c:Value} (h:zn ob x=some (y,l)) (hsub:∀i,i∈l→i∈lall) (hx:RA X s ρ w x c):RA X s ρ w y c:=by
 unfold zn at h;split at h
 ·split at h
  ·rename_i sz z app wr xs hr;split at h
   ·cases h; exact hx
   ·rename_i hwr;cases h;obtain ⟨wr',h1,h2⟩:=afp lall ob _ (m0 hr);rw [← hob,h2 (.inl (by simpa using hwr))] at h1;exact .r (ax8 hG h1 hx)
  ·split at h
   ·cases h; exact hx
   ·cases h
 ·rename_i xs;unfold abp at h;split at h
  ·split at h
   ·rename_i ys l' hrv;cases h;cases hx;rename_i cs hl hrel;obtain ⟨k1,k2⟩:=ap0 hG hob hrv hsub;refine .agg _ _ (by rw [k1]; exact hl) fun i y c hy hc=>?_;have hlt:i<xs.length:=by have:=(zag.1 hy).1; omega
    have hxi:xs[i]?=some xs[i]:=by simp [hlt]
    exact k2 i _ y c hxi hy (hrel i _ c hxi hc)
   ·cases h
  split at h
  ·rename_i ys l' hrv;cases h;cases hx;rename_i cs hl hrel;refine .r (.agg _ _ (by rw [lc hrv]; exact hl) fun i y c hy hc=>?_);have hlt:i<xs.length:=by have:=(zag.1 hy).1; have:=lc hrv; omega
   have hxi:xs[i]?=some xs[i]:=by simp [hlt]
   exact aef hG hob hrv hsub i _ y c hxi hy (hrel i _ c hxi hc)
  ·cases h
 ·cases h; exact hx
theorem aro {lall:List Nat} (hG:Gam X s ρ a w) {ob:Obs} (hob:s.ob=Ev.freeze ob lall):∀{xs ys:List AV} {l:List Nat},pt ob xs=some (ys,l)→(∀i,i∈l→i∈lall) →
  ys.length=xs.length∧∀(i:Nat) (x y:AV) (c:Value),xs[i]?=some x→ys[i]?=some y→RA X s ρ w x c→RA X s ρ w y c
 | [],ys,l,h,hs=>by simp [pt] at h; obtain ⟨rfl,rfl⟩:=h; simp
 | z::xs,ys,l,h,hs=>by
  simp only [pt] at h;split at h
  ·rename_i y' k zs j h1 h2;cases h;obtain ⟨g1,g2⟩:=aro hG hob h2 (fun p hp=>hs p (by simp [hp]));refine ⟨by simp [g1],fun i x y c hx hy hr=>?_⟩;cases i with
   | zero=>
    simp at hx hy;subst hx; subst hy;exact a04 hG hob h1 (fun p hp=>hs p (by simp [hp])) hr
   | succ i=>
    simp at hx hy;exact g2 i x y c hx hy hr
  ·cases h
def a9q:List Value→Value
 | [v]=>v
 | vs=>.tuple vs.toArray
def arj (tmps:Array Value):ResultVar→Sem Value
 | .tmp t=>pure (tmps.getD t undef)
 | .cell a t=>do loadVar t (← asAddr (tmps.getD a undef))
theorem atc (fn:Func) (rs:List ResultVar) (h:fn.results.toList=rs) (tmps:Array Value) {cs:List Value} (hm:(rs.mapM (arj tmps)).run P w=.ok cs w):(results fn tmps).run P w=.ok (a9q cs) w:=by
 have hfn:fn.results=rs.toArray:=by rw [← h]
 have key:(fn.results.mapM (m:=Sem) (arj tmps)).run P w=.ok cs.toArray w:=by
  rw [hfn];simp only [List.mapM_toArray];simp only [map_eq_pure_bind,Sem.run_bind,hm,Result.andThen_ok,Sem.run_pure]
 have key2:(fn.results.mapM (m:=Sem) fun | .tmp t=>pure (tmps.getD t undef) | .cell a t=>do loadVar t (← asAddr (tmps.getD a undef))).run P w=.ok cs.toArray w:=by
  rw [← key];congr 2
 unfold results;rw [Sem.run_bind];refine (congrArg (fun r=>Result.andThen r _) key2).trans ?_;clear key key2 hfn h hm
 match cs with
 | []=>rfl
 | [t]=>rfl
 | t::t'::rs=>rfl
theorem a72 {g:Bool} (hg:g=true) {n:Option Nat} {u:AV} {v:Value} (hG:Gam X s ρ a w) (hok:(ld1 g n u s.ob).ok) (hu:RA X s ρ w u v):∃b o,v=.pointer (some ⟨b,o,none⟩):=by
 cases u with
 | ptr id ver off=>
  simp only [ld1] at hok;rcases hr:l9 s.ob id ver with _ | c
  ·rw [hr] at hok; exact (hok hg).elim
  ·cases hu;rename_i h;obtain ⟨b,_,hc⟩:=h.live (de hr);exact ⟨b,off,hc⟩
 | oel id ver i off=>
  simp only [ld1] at hok;rcases hr:d7 s.ob id ver with _ | c
  ·rw [hr] at hok; exact (hok hg).elim
  ·cases hu;rename_i h;obtain ⟨_,_,b,_,hc⟩:=h.live (m0 hr);exact ⟨b,_,hc⟩
 | rp ys=>cases hu; exact ⟨_,_,rfl⟩
 | _=>exact (hok.2 hg).elim
theorem aon {np:Nat} {all:List (Nat×Bool)} {D:AV→List Ob→Prop} {tmps:Array Value} {ob:Obs}:∀{rs:List RSl} {e:Env} {a:Act},opn np all D rs e ob→Gam X ⟨e,ob⟩ ρ a w→(rs.all fun p=>p.agg P)=true→(∀p∈rs,p.1<X.n)→(rs.map (·.1)).Nodup →
  (∀p∈rs,tmps.getD p.1 undef=a.tmps.getD p.1 undef)→∃e' a' cs,Gam X ⟨e',ob⟩ ρ a' w∧aso np all ⟨e',ob⟩ D∧((rs.map RSl.rv).mapM (arj tmps)).run P w=.ok cs w∧cs.length=rs.length ∧
   (∀(i:Nat) (p:RSl) (c:Value),rs[i]?=some p→cs[i]?=some c→RelA w (c6 X.B ob ρ w) ob ρ (e' p.1) c)∧∀t,t∉rs.map (·.1)→e' t=e t
 | [],e,a,h,hG,_,_,_,_=>⟨e,a,[],hG,h,by simp,rfl,by simp,fun _ _=>rfl⟩
 | (t,fl,none)::rs,e,a,h,hG,hag,hlt,hnd,htm=>by
  simp only [List.all_cons,zaa] at hag;simp only [zah,List.nodup_cons] at hnd;obtain ⟨e',a',cs,g1,g2,g3,g4,g5,g6⟩:=aon (rs:=rs) h hG hag.2 (fun p hp=>hlt p (by simp [hp])) hnd.2 (fun p hp=>htm p (by simp [hp]));refine ⟨e',a',tmps.getD t undef::cs,g1,g2,?_,by simp [g4],fun i p c hp hc=>?_,fun t' ht'=>?_⟩
  ·simp only [zah,List.mapM_cons,Sem.run_bind,RSl.rv,arj,Sem.run_pure,Result.andThen_ok];rw [g3];simp only [Result.andThen_ok]
  ·cases i with
   | zero=>
    simp at hp hc;subst hp; subst hc;rw [g6 t hnd.1];have:=hG.env t;rw [← htm (t,fl,none) (by simp)] at this;rw [zab] at this;exact this
   | succ i=>exact g5 i p c (by simpa using hp) (by simpa using hc)
  ·simp at ht';exact g6 t' (by simpa using ht'.2)
 | (t,fl,some (ty,n))::rs,e,a,h,hG,hag,hlt,hnd,htm=>by
  simp only [List.all_cons,zaa] at hag;simp only [zah,List.nodup_cons] at hnd;obtain ⟨hok,h⟩:=h;have ht:a.eval (.tmp t)=a.tmps.getD t undef:=rfl;have hsee := axf (P := P) (s := ⟨e, ob⟩) (o := { dst := none, op := .load ty (.tmp t), type := 0, pos := "", after := #[], guard := none }) rfl hG rfl hag.1 (hG.env t) hok
  obtain ⟨c,hrun,hr⟩:=hsee;obtain ⟨b,o,hv⟩:=a72 rfl hG hok (hG.env t)
  have hload:(loadVar ty ⟨b,o,none⟩).run P w=.ok c w:=by
   simp only [execOp,ht,hv,Instr.loadAt,Instr.sureAddr,Sem.run_bind,Sem.run_pure,Result.andThen_ok] at hrun;generalize (loadVar ty ⟨b,o,none⟩).run P w=r at hrun ⊢;cases r with
   | ok v w1=>simp only [Result.andThen_ok] at hrun; cases hrun; rfl
   | halt x w1=>cases hrun
  have hG2:=hG.see (hlt (t,fl,some (ty,n)) (by simp)) hr
  obtain ⟨e',a',cs,g1,g2,g3,g4,g5,g6⟩:=aon (rs:=rs) (tmps:=tmps) h hG2 hag.2 (fun p hp=>hlt p (by simp [hp])) hnd.2 (fun p hp=>by
   rw [htm p (by simp [hp])];have hne:t≠p.1:=fun heq=>hnd.1 (by rw [heq]; exact List.mem_map_of_mem hp)
   simp [Act.put,zab,Array.getElem?_setIfInBounds_ne hne])
  refine ⟨e',a',c::cs,g1,g2,?_,by simp [g4],fun i p c' hp hc=>?_,fun t' ht'=>?_⟩
  ·have htm0:=htm (t,fl,some (ty,n)) (by simp);simp only [zah,List.mapM_cons,Sem.run_bind,RSl.rv,arj];simp only at htm0;rw [htm0,hv];simp only [asAddr,Sem.run_pure,Result.andThen_ok];rw [hload];simp only [Result.andThen_ok];rw [g3];simp only [Result.andThen_ok]
  ·cases i with
   | zero=>
    simp at hp hc;subst hp; subst hc;rw [g6 t hnd.1];simp only [put,if_true];exact hr
   | succ i=>exact g5 i p c' (by simpa using hp) (by simpa using hc)
  ·simp at ht';rw [g6 t' (by simpa using ht'.2)];simp [put,ht'.1]
def ai5 (P:Program) (f:FuncId) (args:List AV) (po:List Ob) (D:AV→List Ob→Prop):Prop:=
 ∀(w:World) (cargs:Array Value) (ρ:Pl→Option Nat) (B:Nat→Prop),Gl P w (ek (ob0 po) ρ)→(∀b,ek (ob0 po) ρ b∨w.heap.size≤b→B b) →
  Mem ⟨0,ek (ob0 po) ρ,fun _=>none,B,w⟩ (ob0 po) ρ w→cargs.size=args.length →
  (∀(i:Nat) (x:AV) (c:Value),args[i]?=some x→cargs[i]?=some c→RelA w (c6 B (ob0 po) ρ w) (ob0 po) ρ x c) →
  Calls P f cargs w fun e w'=>∃c ρ' res ro,e=.returned c∧D res ro∧Mem ⟨0,ek (ob0 po) ρ,io po ρ,B,w⟩ (ob0 ro) ρ' w'∧RelA w' (c6 B (ob0 ro) ρ' w') (ob0 ro) ρ' res c
set_option maxHeartbeats 1000000 in
theorem agz {f:FuncId} {fn:Func} {c:Code} {pc:PC} {args:List AV} {po:List Ob} {D:AV→List Ob→Prop} {rs:List RSl} (hf:P.funcs[f]?=some fn) (hb:fn.body=some c) (hn:fn.ntmps≤100000) (hck:kh P fn.ntmps c pc=true)
  (hal:args.length≤fn.ntmps) (hres:fn.results.toList=rs.map RSl.rv) (hag:(rs.all fun p=>p.agg P)=true) (hrs:(rs.all fun p=>decide (p.1<fn.ntmps))=true) (hnd:(rs.map (·.1)).Nodup) (hpo:po.length≤1000)
  (h:W P po.length pc (apf po.length rs D) ⟨km 0 args,ob0 po⟩):ai5 P f args po D:=by
 intro w cargs ρ B hgl hB hM hcs hargs
 let X:Cx:=⟨fn.ntmps,ek (ob0 po) ρ,io po ρ,B,w⟩
 haveI:GlC P X:=⟨hgl⟩
 have hpin:∀id b,X.pn id=some b→ρ id=some b∧∃o,ob0 po id=some (0,o)∧o.pinned=true∧(o.isRow=true→qt X.w0 w b):=fun id b hp=>by
  simp only [X,io] at hp;split at hp
  ·rename_i v o hx;split at hp
   ·rename_i ho;have:=(rc hx).2.2;simp only at this;subst this;exact ⟨hp,o,hx,ho,fun _=>qt.refl _ _⟩
   ·cases hp
  ·cases hp
 have hX:Mem X (ob0 po) ρ w:=⟨hM.obj,hM.inj,hM.keeps,hM.own,hpin⟩
 have hpr:∀id b,X.pn id=some b→1000000≤id∧id<1000000+po.length:=fun id b hp=>by
  obtain ⟨_,cells,hx,_⟩:=hpin id b hp;obtain ⟨h1,h2,_⟩:=rc hx;have:=(zag.1 h2).1;exact ⟨h1,by omega⟩
 have hG:Gam X ⟨km 0 args,ob0 po⟩ ρ { tmps:=cargs++Array.replicate (fn.ntmps-cargs.size) undef,defers:=[] } w:=by
  refine ⟨hX,by simp [X]; omega,rfl,fun t=>?_,fun id hid=>?_,hn,hB⟩
  ·show RelA w (c6 X.B (ob0 po) ρ w) (ob0 po) ρ (km 0 args t) _;rw [auy (Nat.zero_le _),Nat.sub_zero];by_cases ht:t<args.length
   ·have hx:args[t]?=some args[t]:=by simp [ht]
    have hc:cargs[t]?=some (cargs[t]'(by omega)):=by simp [show t<cargs.size by omega]
    have:=hargs t _ _ hx hc;rw [hx];simp only [Option.getD_some];rw [zab,Array.getElem?_append_left (by omega),hc];exact this
   ·rw [List.getElem?_eq_none (by omega)];exact .undef _
  ·rcases hp:X.pn id with _ | b
   ·rfl
   ·have h1:=(hpr id b hp).1;have h2:=(hpr id b hp).2
    rcases (show id<1000000∨2000000≤id by
     unfold par at hid;by_cases q:1000000≤id
     ·rw [decide_eq_true q] at hid;exact .inr (by have:=of_decide_eq_false hid; omega)
     ·exact .inl (by omega)) with q | q<;>omega
 refine calls_of_wp hf hb (wp_mono (a6i (by omega) hpr pc c _ _ ρ _ w hck h hG) fun e a' w' hp=>?_)
 have key:(∃s ρ,opn po.length (rs.map fun p=>(p.1,p.2.1)) D rs s.e s.ob∧Gam X s ρ a' w')→a'.defers=[]∧∃v,(results fn a'.tmps).run P w'=.ok v w'∧∃c ρ' res ro,Ending.returned v=.returned c∧D res ro∧Mem ⟨0,ek (ob0 po) ρ,io po ρ,B,w⟩ (ob0 ro) ρ' w'∧RelA w' (c6 B (ob0 ro) ρ' w') (ob0 ro) ρ' res c:=by
  rintro ⟨s0,ρ1,hx0,hG0⟩;obtain ⟨e1,a1,cs,hG1,hx,hrun,hcl,hrel,_⟩:=aon (P:=P) (tmps:=a'.tmps) hx0 hG0 hag (fun p hp=>by simpa using zac.1 hrs p hp) hnd (fun _ _=>rfl);refine ⟨hG0.df,_,atc fn _ hres a'.tmps hrun,?_⟩;generalize hall:(rs.map fun p=>(p.1,p.2.1))=all at hx;have hal1:all.length=rs.length:=by rw [← hall]; simp
  obtain ⟨ρ2,g1,g2,g3,g4⟩:=ak2 (live:=all) (fun p hp=>by
   rw [← hall] at hp;obtain ⟨q,hq,rfl⟩:=List.mem_map.1 hp;have:q.1<fn.ntmps:=by simpa using zac.1 hrs q hq
   simp only
   omega) hG1
  unfold aso at hx;simp only at g1 g2 g3 g4 hx;rcases ho:pt (o5 e1 all s0.ob).2 (o5 e1 all s0.ob).1 with _ | ⟨vs,l⟩
  ·rw [ho] at hx; exact hx.elim
  rw [ho] at hx;simp only [aqv] at hx;have hG3:=Gam.freeze (s:=⟨e1,(o5 e1 all s0.ob).2⟩) l g1;obtain ⟨k1,k2⟩:=aro (s:=⟨e1,Ev.freeze (o5 e1 all s0.ob).2 l⟩) hG3 rfl ho (fun _ h=>h);rcases hn2:nrm 64 po.length (1000000+po.length) vs (freeze (o5 e1 all s0.ob).2 l) with _ | ⟨vs',pos,los⟩
  ·rw [hn2] at hx; exact hx.elim
  rw [hn2] at hx;have hx:D (oi vs') (pos++los):=hx;obtain ⟨ρ4,m1,m2,m3,m4⟩:=hG3.toMem.nrm hn2 (zae _) hpr;rw [← m3,ak9 pos los 1000000] at m1 m4;refine ⟨_,ρ4,_,_,rfl,hx,⟨m1.obj,m1.inj,m1.keeps,m1.own,m1.pin⟩,?_⟩
  have hval:∀(i:Nat) (y:AV) (v:Value),vs'[i]?=some y→cs[i]?=some v→RelA w' (c6 B (ob0 (pos++los)) ρ4 w') (ob0 (pos++los)) ρ4 y v:=fun i y v hy hv=>by
   have hlt:=(zag.1 hv).1;obtain ⟨q,hr⟩:∃q,rs[i]?=some q:=⟨rs[i]'(by omega),by simp [show i<rs.length by omega]⟩
   have ha:all[i]?=some (q.1,q.2.1):=by rw [← hall,List.getElem?_map,hr]; rfl
   have hp:(o5 e1 all s0.ob).1[i]?=some ((o5 e1 all s0.ob).1[i]'(by omega)):=by simp [show i<(o5 e1 all s0.ob).1.length by omega]
   have hv':vs[i]?=some (vs[i]'(by omega)):=by simp [show i<vs.length by omega]
   exact m4 i _ y _ hv' hy (k2 i _ _ _ hp hv' (afq l (g4 i _ _ _ _ ha hp (hrel i _ v hr hv))))
  have hlen:vs'.length=cs.length:=by omega
  clear hx;clear hrun hrel hcl g4
  match vs',cs,hlen,hval with
  | [],[],_,hv=>exact .tup _ _ (by simp) fun i x c hx=>by simp at hx
  | [x],[c],_,hv=>exact hv 0 x c rfl rfl
  | x::x'::xs,c::c'::cs,hl,hv=>exact .tup _ _ (by simp at hl ⊢; omega) fun i y v hy hc=>hv i y v hy (by simpa using hc)
  | [],_::_,hl,_=>simp at hl
  | _::_,[],hl,_=>simp at hl
  | [_],_::_::_,hl,_=>simp at hl
  | _::_::_,[_],hl,_=>simp at hl
 cases e with
 | normal=>exact key hp
 | ret=>exact key hp
 | exit i=>obtain ⟨_,_,h,_⟩:=hp; exact h.elim
 | goto l=>exact hp.elim
 | panic ch=>exact hp.elim
 | outgrown=>exact hp.elim
theorem as9 {f:FuncId} {fn:Func} {c:Code} {pc:PC} {args:List AV} {po ro:List Ob} {res:AV} {rs:List RSl} (hf:P.funcs[f]?=some fn) (hb:fn.body=some c) (hn:fn.ntmps≤100000) (hck:kh P fn.ntmps c pc=true)
  (hal:args.length≤fn.ntmps) (hres:fn.results.toList=rs.map RSl.rv) (hag:(rs.all fun p=>p.agg P)=true) (hrs:(rs.all fun p=>decide (p.1<fn.ntmps))=true) (hnd:(rs.map (·.1)).Nodup) (hpo:po.length≤1000)
  (h:W P po.length pc (apf po.length rs fun v os=>v=res∧os=ro) ⟨km 0 args,ob0 po⟩):a7 P f args po res ro:=by
 intro w cargs ρ B hgl hB hM hcs hargs;refine (agz hf hb hn hck hal hres hag hrs hnd hpo h w cargs ρ B hgl hB hM hcs hargs).mono ?_;rintro e w' ⟨c,ρ',_,_,rfl,⟨rfl,rfl⟩,hM',hr⟩;exact ⟨c,ρ',rfl,hM',hr⟩
end

structure Shut (p:Prop):Prop where
 out:p
inductive Item where
 | c (c:PC)
 | blk (id:Nat)
 | lp (live:List (Nat×Bool)) (D:List AV→List Ob→List Ob→Prop)
 | cut (S:Env→Obs→Prop)
section
variable {P:Program}
theorem af2 {f:FuncId} {u:Nat} {ob:Obs} {K K':AV→Obs→Prop} (hK:∀v o,K v o→K' v o) {vs:List AV} {a:Option (List AV×List Nat)} (h:ada P f u ob K vs a):ada P f u ob K' vs a:=by
 have hR:∀{ob:Obs} {ids:List Nat} {as:List AV} {l:List Nat} {fz:Bool} {o:Option (List Ob)},aa8 P f u ob ids as l fz K o→aa8 P f u ob ids as l fz K' o:=fun {ob ids as l fz o} h=>by
  cases o with
  | none=>exact h
  | some po=>obtain ⟨r,o,h1,h2,h3,h4,h5⟩:=h; exact ⟨r,o,h1,h2,h3,h4,hK _ _ h5⟩
 rcases a with _ | ⟨as,_ | ⟨i,l⟩⟩
 ·exact hR h
 ·exact hR h
 ·exact h.imp hR (Or.imp hR (Or.imp hR (Or.imp (fun ⟨id,v,z,xs,h1,h2,h3⟩=>⟨id,v,z,xs,h1,h2,fun ex=>hR (h3 ex)⟩) fun ⟨id,v,sz,z,xs,h1,h2,h3⟩=>⟨id,v,sz,z,xs,h1,h2,hR h3⟩)))
theorem aq0:∀{rs:List PR} {K K':St→Prop} {s:St},(∀s,K s→K' s)→wpR P rs K s→wpR P rs K' s
 | [],K,K',s,hK,h=>hK s h
 | r::rs,K,K',s,hK,h=>by
  have ih:∀s,wpR P rs K s→wpR P rs K' s:=fun s=>aq0 hK;simp only [wpR] at h ⊢;generalize yes s.e r.g=y at h ⊢;cases y with
  | none=>exact h
  | some b=>
   simp only [PR.wp] at h ⊢;rcases r with ⟨d,g,u,x⟩
   cases x with
   | see o=>exact ⟨h.1,ih _ h.2⟩
   | act o=>exact ⟨fun hb=>⟨(h.1 hb).1,ih _ (h.1 hb).2⟩,fun hb=>ih _ (h.2 hb)⟩
   | call f xs=>exact ⟨fun hb=>⟨(h.1 hb).1,af2 (fun v o=>ih _) (h.1 hb).2⟩,fun hb=>ih _ (h.2 hb)⟩
   | callv x xs=>
    refine ⟨fun hb=>⟨(h.1 hb).1,(h.1 hb).2.1,?_⟩,fun hb=>ih _ (h.2 hb)⟩;have h3:=(h.1 hb).2.2;simp only at h3 ⊢;generalize (x.ev s.e).bare=y at h3 ⊢;cases y with
    | fn f cap=>cases f with
     | func f=>exact ⟨h3.1,af2 (fun v o=>ih _) h3.2⟩
     | _=>exact h3
    | _=>exact h3
   | inv tbl x xs=>
    refine ⟨fun hb=>⟨(h.1 hb).1,(h.1 hb).2.1,?_⟩,fun hb=>ih _ (h.2 hb)⟩;have h3:=(h.1 hb).2.2;simp only at h3 ⊢;generalize (x.ev s.e).bare=y at h3 ⊢;cases y with
    | ifc t y=>
     simp only [ai6] at h3 ⊢;generalize ap t tbl=q at h3 ⊢;cases q with
     | some f=>exact af2 (fun v o=>ih _) h3
     | none=>exact h3
    | _=>exact h3
   | nxt x=>
    refine ⟨fun hb=>⟨(h.1 hb).1,?_⟩,fun hb=>ih _ (h.2 hb)⟩;have h3:=(h.1 hb).2;simp only at h3 ⊢;unfold ars at h3 ⊢;split at h3
    ·unfold avk at h3 ⊢;split at h3
     ·unfold a08 at h3 ⊢;split at h3
      ·exact ⟨h3.1,h3.2.1,fun q=>ih _ (h3.2.2.1 q),fun q hq=>ih _ (h3.2.2.2 q hq)⟩
      ·exact h3
     ·exact h3
    ·exact h3
theorem aq1:∀{rs:List PR} {log:List Lg} {K K':List Lg→St→Prop} {s:St},(∀l s,K l s→K' l s)→wpD P rs log s K→wpD P rs log s K'
 | [],log,K,K',s,hK,h=>hK log s h
 | r::rs,log,K,K',s,hK,h=>by
  obtain ⟨c,h1,h2⟩:=h;exact ⟨c,h1,aq1 hK h2⟩
theorem a9d {np:Nat}:∀{pc:PC} {K K':Ex→St→Prop} {s:St},(∀x s,K x s→K' x s)→W P np pc K s→W P np pc K' s:=by
 intro pc
 induction pc with
 | skip=>intro K K' s hK h; exact hK _ _ h
 | reg rs=>intro K K' s hK h; exact aq0 (hK .nor) h
 | seq a b iha ihb=>
  intro K K' s hK h;refine iha (fun x s h=>?_) h;cases x with
  | nor=>exact ihb hK h
  | _=>exact hK _ _ h
 | cond x a b iha ihb=>
  intro K K' s hK h;unfold W at h ⊢;split at h
  ·exact ⟨fun q=>iha hK (h.1 q),fun q=>ihb hK (h.2 q)⟩
  ·exact h.elim
 | block id c ih=>
  intro K K' s hK h;refine ih (fun x s h=>?_) h;cases x with
  | ex i=>
   simp only at h ⊢;split
   ·rename_i hi; rw [if_pos hi] at h; exact hK _ _ h
   ·rename_i hi; rw [if_neg hi] at h; exact hK _ _ h
  | _=>exact hK _ _ h
 | loop c ih=>
  intro K K' s hK h;obtain ⟨live,I,m,h1,h2,h3⟩:=h;refine ⟨live,I,m,h1,h2,fun vs pos los hv=>ih (fun x s h=>?_) (h3 vs pos los hv)⟩;cases x with
  | nor=>exact h
  | _=>exact hK _ _ h
 | exit i=>intro K K' s hK h; exact hK _ _ h
 | ret=>intro K K' s hK h; exact hK _ _ h
 | drw rs pre=>intro K K' s hK h; exact aq1 (fun l s h=>⟨h.1,hK _ _ h.2⟩) h
end
mutual
def run (P:Program) (np:Nat) (Q:Ex→St→Prop):List Item→St→Prop
 | [],s=>Q .nor s
 | .c c::is,s=>W P np c (fun x s=>match x with | .nor=>run P np Q is s | x=>unw P np Q is x s) s
 | .blk _::is,s=>run P np Q is s
 | .lp live D::_,s=>yz np live s D
 | .cut S::_,s=>S s.e s.ob
def unw (P:Program) (np:Nat) (Q:Ex→St→Prop):List Item→Ex→St→Prop
 | [],x,s=>Q x s
 | .blk id::is,.ex i,s=>if i=id then run P np Q is s else unw P np Q is (.ex i) s
 | _::is,x,s=>unw P np Q is x s
end
def t5 (P:Program) (np:Nat) (Q:Ex→St→Prop) (rs:List PR) (is:List Item) (e:Env) (ob:Obs):Prop:=wpR P rs (run P np Q is) ⟨e,ob⟩
def stp (P:Program) (np:Nat) (Q:Ex→St→Prop) (d:Option Nat) (g:Option (Nat×Bool)) (u:Nat) (x:PX) (rs:List PR) (is:List Item) (e:Env) (ob:Obs):Option Bool→Prop
 | some b=>x.wp P ⟨d,g,u,x⟩ ⟨e,ob⟩ (wpR P rs (run P np Q is)) b
 | none=>False
def a63 (P:Program) (np:Nat) (Q:Ex→St→Prop) (d:Option Nat) (g:Option (Nat×Bool)) (b:Bool) (rs:List PR) (is:List Item) (e:Env) (R:Rs) (ob:Obs):Prop:=
 R.ok∧t5 P np Q rs is (j9 d (gdv g b R.v) e) ob
def as4 (P:Program) (np:Nat) (Q:Ex→St→Prop) (d:Option Nat) (rs:List PR) (is:List Item) (e:Env) (R:Rs):Prop:=
 R.ok∧t5 P np Q rs is (j9 d R.v e) R.ob
def bbm (P:Program) (np:Nat) (Q:Ex→St→Prop) (d:Option Nat) (g:Option (Nat×Bool)) (u:Nat) (x:PX) (rs:List PR) (is:List Item) (e:Env) (ob:Obs) (b:Bool):Prop:=
 Shut ((b=true→stp P np Q d g u x rs is e ob (some true))∧(b=false→t5 P np Q rs is (j9 d .undef e) ob))
def cnd (P:Program) (np:Nat) (Q:Ex→St→Prop) (x:AV) (a b:PC) (is:List Item) (s:St):Prop:=match x with
  | .r (.v (.bool c))=>Shut ((c=true→run P np Q (.c a::is) s)∧(c=false→run P np Q (.c b::is) s))
  | _=>False
def qw (P:Program) (np:Nat) (Q:Ex→St→Prop) (f:FuncId) (u:Nat) (d:Option Nat) (rs:List PR) (is:List Item) (e:Env) (ob:Obs) (vs:List AV):Option (List AV×List Nat)→Prop:=
 ada P f u ob (fun v ob=>t5 P np Q rs is (j9 d v e) ob) vs
def ac7 (P:Program) (np:Nat) (Q:Ex→St→Prop) (f:FuncId) (u:Nat) (d:Option Nat) (rs:List PR) (is:List Item) (e:Env) (ob:Obs) (as:List AV) (l:List Nat) (fz:Bool) (ids:List Nat):Prop:=
 aa8 P f u ob ids (imL (fwd ob ids) as) l fz (fun v ob=>t5 P np Q rs is (j9 d v e) ob) (o3 (fwd ob ids) ob ids)
def awh (P:Program) (np:Nat) (Q:Ex→St→Prop) (f:FuncId) (u:Nat) (d:Option Nat) (rs:List PR) (is:List Item) (e:Env) (ob:Obs) (as:List AV) (l:List Nat) (fz:Bool) (ids:List Nat):Option (List Ob)→Prop:=
 aa8 P f u ob ids as l fz (fun v ob=>t5 P np Q rs is (j9 d v e) ob)
def an4 (P:Program) (np:Nat) (Q:Ex→St→Prop) (f:FuncId) (u:Nat) (d:Option Nat) (rs:List PR) (is:List Item) (e:Env) (ob:Obs) (as:List AV) (l:List Nat) (fz:Bool) (ids:List Nat) (po:List Ob):Prop:=
 awh P np Q f u d rs is e ob as l fz ids (some po)
def aft (P:Program) (np:Nat) (Q:Ex→St→Prop) (u:Nat) (d:Option Nat) (rs:List PR) (is:List Item) (e:Env) (ob:Obs) (ids:List Nat) (res:AV) (ro:List Ob):Prop:=
 t5 P np Q rs is (j9 d (imV (back ob u ids ro.length) res) e) (ab ob u ids (back ob u ids ro.length) 0 ro)
def awg (P:Program) (np:Nat) (Q:Ex→St→Prop) (u:Nat) (d:Option Nat) (rs:List PR) (is:List Item) (e:Env) (ob:Obs) (vs:List AV) (x:AV):Prop:=
 awq P u ob vs (fun v ob=>t5 P np Q rs is (j9 d v e) ob) x
def an5 (P:Program) (np:Nat) (Q:Ex→St→Prop) (tbl:List (TypeId×FuncId)) (u:Nat) (d:Option Nat) (rs:List PR) (is:List Item) (e:Env) (ob:Obs) (vs:List AV) (x:AV):Prop:=
 ai6 P tbl u ob vs (fun v ob=>t5 P np Q rs is (j9 d v e) ob) x
def azo (P:Program) (np:Nat) (Q:Ex→St→Prop) (u:Nat) (d:Option Nat) (rs:List PR) (is:List Item) (e:Env) (ob:Obs) (vs:List AV) (x:AV):Option FuncId→Prop
 | some f=>qw P np Q f u d rs is e ob (x::vs) (j8 ob (x::vs))
 | none=>False
def a07 (P:Program) (np:Nat) (Q:Ex→St→Prop) (d:Option Nat) (rs:List PR) (is:List Item) (e:Env) (ob:Obs) (x:AV):Prop:=ars ob (fun v ob=>t5 P np Q rs is (j9 d v e) ob) x
def a7r (P:Program) (np:Nat) (Q:Ex→St→Prop) (d:Option Nat) (rs:List PR) (is:List Item) (e:Env) (ob:Obs) (id ver:Nat) (x:Option (AV×Nat×List Nat×Nat)):Prop:=avk id ver ob (fun v ob=>t5 P np Q rs is (j9 d v e) ob) x
def a7q (P:Program) (np:Nat) (Q:Ex→St→Prop) (d:Option Nat) (rs:List PR) (is:List Item) (e:Env) (ob:Obs) (id ver:Nat) (m:AV) (since:Nat) (seen:List Nat) (st:Nat) (x:Option (List MapEntry×Nat)):Prop:=
 a08 id ver ob m since seen st (fun v ob=>t5 P np Q rs is (j9 d v e) ob) x
theorem arr {P:Program} {np:Nat} {Q:Ex→St→Prop} {d:Option Nat} {rs:List PR} {is:List Item} {e:Env} {ob:Obs} {id ver:Nat} {m:AV} {since st c:Nat} {seen:List Nat} {es:List MapEntry} (h1:∀e,e∈es→e.born<since) (h2:since≤st)
  (h3:ae es seen=[]→t5 P np Q rs is (j9 d (.tup [bl false]) e) ob)
  (h4:∀en,en∈ae es seen→t5 P np Q rs is (j9 d (.tup [bl true,.r (gr en.key),.r (gr en.val)]) e) (upd id (ver,.iter m since (seen++[en.born]) c) ob)):a7q P np Q d rs is e ob id ver m since seen st (some (es,c)):=
 ⟨h1,h2,h3,h4⟩
section
variable (P:Program) (np:Nat) (Q:Ex→St→Prop) (is:List Item) (s:St) (e:Env) (ob:Obs)
theorem nr (d:Option Nat) (g:Option (Nat×Bool)) (u:Nat) (tbl:List (TypeId×FuncId)) (x:Opd) (xs:List Opd) (rs:List PR):stp P np Q d g u (.inv tbl x xs) rs is e ob (some true)=((x.ev e).may true∧v6 true e xs∧an5 P np Q tbl u d rs is e ob (g9 e xs) (x.ev e).bare):=by
 simp [stp,PX.wp,an5,t5]
theorem ci (d:Option Nat) (g:Option (Nat×Bool)) (u:Nat) (tbl:List (TypeId×FuncId)) (x:Opd) (xs:List Opd) (rs:List PR):stp P np Q d g u (.inv tbl x xs) rs is e ob (some false)=t5 P np Q rs is (j9 d .undef e) ob:=by
 simp [stp,PX.wp,t5]
theorem cu (u:Nat) (d:Option Nat) (rs:List PR) (tbl:List (TypeId×FuncId)) (vs:List AV) (t:TypeId) (x:AV):an5 P np Q tbl u d rs is e ob vs (.ifc t x)=azo P np Q u d rs is e ob vs x (ap t tbl):=by
 simp only [an5,ai6];generalize ap t tbl=q;cases q<;>rfl
theorem bh (u:Nat) (d:Option Nat) (rs:List PR) (vs:List AV) (x:AV) (f:FuncId):azo P np Q u d rs is e ob vs x (some f)=qw P np Q f u d rs is e ob (x::vs) (j8 ob (x::vs)):=(rfl)
theorem nq (d:Option Nat) (g:Option (Nat×Bool)) (u:Nat) (x:Opd) (rs:List PR):stp P np Q d g u (.nxt x) rs is e ob (some true)=((x.ev e).may true∧a07 P np Q d rs is e ob (x.ev e).bare):=by
 simp [stp,PX.wp,a07,t5]
theorem jt (d:Option Nat) (rs:List PR) (id ver:Nat):a07 P np Q d rs is e ob (.ptr id ver 0)=a7r P np Q d rs is e ob id ver (af ob id ver):=(rfl)
theorem fk (d:Option Nat) (rs:List PR) (id ver mid mver since st:Nat) (seen:List Nat):a7r P np Q d rs is e ob id ver (some (.mp mid mver,since,seen,st))=a7q P np Q d rs is e ob id ver (.mp mid mver) since seen st (n7 ob mid mver):=(rfl)
theorem et (d:Option Nat) (g:Option (Nat×Bool)) (u:Nat) (x:Opd) (xs:List Opd) (rs:List PR):stp P np Q d g u (.callv x xs) rs is e ob (some true)=((x.ev e).may true∧v6 true e xs∧awg P np Q u d rs is e ob (g9 e xs) (x.ev e).bare):=by
 simp [stp,PX.wp,awg,t5]
theorem ki (u:Nat) (d:Option Nat) (rs:List PR) (vs:List AV) (f:FuncId) (cap:List AV) (k:Nat):awg P np Q u d rs is e ob vs (.fn (.func f) cap k)=(uu P f=true∧qw P np Q f u d rs is e ob (cap.take k++(vs++cap.drop k)) (j8 ob (cap.take k++(vs++cap.drop k)))):=(rfl)
theorem z7 (d:Option Nat) (g:Option (Nat×Bool)) (u:Nat) (x:Opd) (xs:List Opd) (rs:List PR):stp P np Q d g u (.callv x xs) rs is e ob (some false)=t5 P np Q rs is (j9 d .undef e) ob:=by
 simp [stp,PX.wp,t5]
theorem oc:run P np Q [] s=Q .nor s:=by unfold run; rfl
theorem ji:run P np Q (.c .skip::is) s=run P np Q is s:=by rw [run]; rfl
theorem ny (a b:PC):run P np Q (.c (.seq a b)::is) s=run P np Q (.c a :: .c b::is) s:=by
 rw [run,W,run];congr 1;funext x s;cases x<;>simp only [run,unw]
theorem oa (ops:List PR):run P np Q (.c (.reg ops)::is) ⟨e,ob⟩=t5 P np Q ops is e ob:=by rw [run]; rfl
theorem jm:t5 P np Q [] is e ob=run P np Q is ⟨e,ob⟩:=(rfl)
theorem fb (d:Option Nat) (g:Option (Nat×Bool)) (u:Nat) (x:PX) (rs:List PR):t5 P np Q (⟨d,g,u,x⟩::rs) is e ob=stp P np Q d g u x rs is e ob (yes e g):=by
 show PR.wp P ⟨d,g,u,x⟩ ⟨e,ob⟩ (wpR P rs (run P np Q is)) (yes e g) = _;generalize yes e g=y;cases y<;>rfl
theorem nn (d:Option Nat) (g:Option (Nat×Bool)) (u:Nat) (o:PO) (rs:List PR) (b:Bool):stp P np Q d g u (.see o) rs is e ob (some b)=a63 P np Q d g b rs is e (o.see b e ob) ob:=(rfl)
theorem nw (d:Option Nat) (g:Option (Nat×Bool)) (b:Bool) (rs:List PR) (p:Prop) (v:AV) (ob':Obs) (rd wr:List Nat):a63 P np Q d g b rs is e ⟨p,v,ob',rd,wr⟩ ob=(p∧t5 P np Q rs is (j9 d (gdv g b v) e) ob):=(rfl)
theorem nt (d:Option Nat) (g:Option (Nat×Bool)) (u:Nat) (o:PO) (rs:List PR):stp P np Q d g u (.act o) rs is e ob (some true)=as4 P np Q d rs is e (o.act (d.getD 0) e ob):=by
 simp [stp,PX.wp,as4,t5]
theorem cj (d:Option Nat) (g:Option (Nat×Bool)) (u:Nat) (o:PO) (rs:List PR):stp P np Q d g u (.act o) rs is e ob (some false)=t5 P np Q rs is (j9 d .undef e) ob:=by
 simp [stp,PX.wp,as4,t5]
theorem ay (d:Option Nat) (g:Option (Nat×Bool)) (u:Nat) (f:FuncId) (xs:List Opd) (rs:List PR):stp P np Q d g u (.call f xs) rs is e ob (some false)=t5 P np Q rs is (j9 d .undef e) ob:=by
 simp [stp,PX.wp,as4,t5]
theorem pe (d:Option Nat) (rs:List PR) (p:Prop) (v:AV) (ob':Obs) (rd wr:List Nat):as4 P np Q d rs is e ⟨p,v,ob',rd,wr⟩=(p∧t5 P np Q rs is (j9 d v e) ob'):=(rfl)
theorem jh (d:Option Nat) (g:Option (Nat×Bool)) (u:Nat) (f:FuncId) (xs:List Opd) (rs:List PR):stp P np Q d g u (.call f xs) rs is e ob (some true)=(v6 true e xs∧qw P np Q f u d rs is e ob (g9 e xs) (j8 ob (g9 e xs))):=by
 simp [stp,PX.wp,qw,t5]
theorem cz (f:FuncId) (u:Nat) (d:Option Nat) (rs:List PR) (vs as:List AV):qw P np Q f u d rs is e ob vs (some (as,[]))=ac7 P np Q f u d rs is e ob as [] true (k8 ob 64 (i7 as) []):=(rfl)
theorem da {P:Program} {np:Nat} {Q:Ex→St→Prop} {is:List Item} {e:Env} {ob:Obs} {f:FuncId} {u:Nat} {d:Option Nat} {rs:List PR} {vs as:List AV} {i:Nat} {l:List Nat} (h:ac7 P np Q f u d rs is e ob as (i::l) false (k8 ob 64 (i7 as) [])):qw P np Q f u d rs is e ob vs (some (as,i::l)):=Or.inr (Or.inl h)
theorem f6 {P:Program} {np:Nat} {Q:Ex→St→Prop} {is:List Item} {e:Env} {ob:Obs} {f:FuncId} {u:Nat} {d:Option Nat} {rs:List PR} {vs as:List AV} {i:Nat} {l:List Nat} (h:ac7 P np Q f u d rs is e (freeze ob (i::l)) as (i::l) true (k8 (freeze ob (i::l)) 64 (i7 as) [])):qw P np Q f u d rs is e ob vs (some (as,i::l)):=Or.inl h
theorem gc (f:FuncId) (u:Nat) (d:Option Nat) (rs:List PR) (vs:List AV):qw P np Q f u d rs is e ob vs none=ac7 P np Q f u d rs is e ob vs [] true (k8 ob 64 (i7 vs) []):=(rfl)
theorem ac8 {P:Program} {np:Nat} {Q:Ex→St→Prop} {is:List Item} {e:Env} {ob:Obs} {f:FuncId} {u:Nat} {d:Option Nat} {rs:List PR} {vs as:List AV} {i:Nat} {l:List Nat} (h:ac7 P np Q f u d rs is e ob vs [] true (k8 ob 64 (i7 vs) [])):qw P np Q f u d rs is e ob vs (some (as,i::l)):=Or.inr (Or.inr (Or.inl h))
theorem awi {P:Program} {np:Nat} {Q:Ex→St→Prop} {is:List Item} {e:Env} {ob:Obs} {f:FuncId} {u:Nat} {d:Option Nat} {rs:List PR} {vs as:List AV} {i:Nat} {l:List Nat} (id v sz:Nat) (z:RV) (xs:List RV) (hid:ob id=some (v,.row sz z true true xs)) (hne:xs≠[])
  (h:ac7 P np Q f u d rs is e (upd id (v,.row sz z false true xs) ob) vs [] true (k8 (upd id (v,.row sz z false true xs) ob) 64 (i7 vs) [])):qw P np Q f u d rs is e ob vs (some (as,i::l)):=Or.inr (Or.inr (Or.inr (Or.inr ⟨id,v,sz,z,xs,hid,hne,h⟩)))
theorem azp {P:Program} {np:Nat} {Q:Ex→St→Prop} {is:List Item} {e:Env} {ob:Obs} {f:FuncId} {u:Nat} {d:Option Nat} {rs:List PR} {vs as:List AV} {i:Nat} {l:List Nat} (id v:Nat) (z:RV) (xs:List Value) (hid:ob id=some (v,.row 1 z true true (xs.map RV.v))) (hne:xs≠[])
  (h:∀m,ac7 P np Q f u d rs is e (upd id (v,.box (xs.map (fun x=>AV.r (.v x))++List.replicate m .undef)) ob) vs [] true (k8 (upd id (v,.box (xs.map (fun x=>AV.r (.v x))++List.replicate m .undef)) ob) 64 (i7 vs) [])):qw P np Q f u d rs is e ob vs (some (as,i::l)):=Or.inr (Or.inr (Or.inr (Or.inl ⟨id,v,z,xs,hid,hne,h⟩)))
theorem kj (f:FuncId) (u:Nat) (d:Option Nat) (rs:List PR) (as:List AV) (l:List Nat) (fz:Bool) (ids:List Nat):ac7 P np Q f u d rs is e ob as l fz ids=awh P np Q f u d rs is e ob (imL (fwd ob ids) as) l fz ids (o3 (fwd ob ids) ob ids):=(rfl)
theorem cw (f:FuncId) (u:Nat) (d:Option Nat) (rs:List PR) (as:List AV) (l:List Nat) (fz:Bool) (ids:List Nat) (po:List Ob):awh P np Q f u d rs is e ob as l fz ids (some po)=an4 P np Q f u d rs is e ob as l fz ids po:=(rfl)
theorem a5 {P:Program} {np:Nat} {Q:Ex→St→Prop} {is:List Item} {e:Env} {ob:Obs} {f:FuncId} {u:Nat} {d:Option Nat} {rs:List PR} {as:List AV} {l:List Nat} {ids:List Nat} {po:List Ob} {res:AV} {ro:List Ob}
  (h:a7 P f as po res ro) (h1:okC u ids ro.length l true=true) (h2:ak po ro) (h3:aft P np Q u d rs is e ob ids res ro):an4 P np Q f u d rs is e ob as l true ids po:=
 ⟨res,ro,h,h1,h2,(fun h=>by cases h),h3⟩
theorem a9 {P:Program} {np:Nat} {Q:Ex→St→Prop} {is:List Item} {e:Env} {ob:Obs} {f:FuncId} {u:Nat} {d:Option Nat} {rs:List PR} {as as':List AV} {l:List Nat} {fz:Bool} {ids:List Nat} {po:List Ob} (has:as=as') (h:an4 P np Q f u d rs is e ob as' l fz ids po):an4 P np Q f u d rs is e ob as l fz ids po:=has▸h
theorem fw {P:Program} {np:Nat} {Q:Ex→St→Prop} {is:List Item} {e:Env} {ob:Obs} {f:FuncId} {u:Nat} {d:Option Nat} {rs:List PR} {as:List AV} {l:List Nat} {ids:List Nat} {po:List Ob} {res:AV} {ro:List Ob}
  (h:a7 P f as po res ro) (h1:okC u ids ro.length l false=true) (h2:ak po ro) (h4:v8 res) (h5:∀o∈ro,iv o) (h3:aft P np Q u d rs is e ob ids res ro):an4 P np Q f u d rs is e ob as l false ids po:=
 ⟨res,ro,h,h1,h2,fun _=>⟨h4,h5⟩,h3⟩
theorem vp (u:Nat) (d:Option Nat) (rs:List PR) (ids:List Nat) (res:AV) (ro:List Ob):aft P np Q u d rs is e ob ids res ro=t5 P np Q rs is (j9 d (imV (back ob u ids ro.length) res) e) (ab ob u ids (back ob u ids ro.length) 0 ro):=(rfl)
theorem jl (x:Opd) (a b:PC):run P np Q (.c (.cond x a b)::is) ⟨e,ob⟩=cnd P np Q (x.ev e) a b is ⟨e,ob⟩:=by
 rw [run,W]; unfold cnd; split
 ·simp only [*,run]; exact propext ⟨fun h=>⟨h⟩,fun h=>h.out⟩
 ·simp [*]
theorem kg (a b:PC):cnd P np Q (.r (.v (.bool true))) a b is s=run P np Q (.c a::is) s:=propext ⟨fun h=>h.out.1 rfl,fun h=>⟨fun _=>h,fun h=>by cases h⟩⟩
theorem fv (a b:PC):cnd P np Q (.r (.v (.bool false))) a b is s=run P np Q (.c b::is) s:=propext ⟨fun h=>h.out.2 rfl,fun h=>⟨(fun h=>by cases h),fun _=>h⟩⟩
theorem b6 {P:Program} {np:Nat} {Q:Ex→St→Prop} {is:List Item} {s:St} {c:Bool} {a b:PC} (h1:c=true→run P np Q (.c a::is) s) (h2:c=false→run P np Q (.c b::is) s):cnd P np Q (.r (.v (.bool c))) a b is s:=⟨⟨h1,h2⟩⟩
theorem ez (id:Nat) (c:PC):run P np Q (.c (.block id c)::is) s=run P np Q (.c c :: .blk id::is) s:=by
 rw [run,W,run];congr 1;funext x s;cases x with
 | nor=>simp only [run]
 | ex i=>simp only [unw]
 | rt=>simp [unw]
theorem jk (i:Nat):run P np Q (.c (.exit i)::is) s=unw P np Q is (.ex i) s:=by rw [run]; rfl
theorem nz:run P np Q (.c .ret::is) s=unw P np Q is .rt s:=by rw [run]; rfl
theorem oh (i:Nat):run P np Q (.blk i::is) s=run P np Q is s:=by rw [run]
theorem uc (l:List (Nat×Bool)) (D:List AV→List Ob→List Ob→Prop):run P np Q (.lp l D::is) s=yz np l s D:=by rw [run]
theorem ng (x:Ex):unw P np Q [] x s=Q x s:=by unfold unw; rfl
theorem ni (i j:Nat):unw P np Q (.blk j::is) (.ex i) s=if i=j then run P np Q is s else unw P np Q is (.ex i) s:=by rw [unw]
theorem cg (j:Nat):unw P np Q (.blk j::is) .rt s=unw P np Q is .rt s:=by simp [unw]
theorem aak (c:PC) (x:Ex):unw P np Q (.c c::is) x s=unw P np Q is x s:=by cases x<;>simp [unw]
theorem tq (l:List (Nat×Bool)) (D:List AV→List Ob→List Ob→Prop) (x:Ex):unw P np Q (.lp l D::is) x s=unw P np Q is x s:=by cases x<;>simp [unw]
theorem oe (S:Env→Obs→Prop):run P np Q (.cut S::is) ⟨e,ob⟩=S e ob:=by rw [run]
theorem nh (S:Env→Obs→Prop) (x:Ex):unw P np Q (.cut S::is) x s=unw P np Q is x s:=by cases x<;>simp [unw]
theorem ast {P:Program} {np:Nat} {Q:Ex→St→Prop} {is:List Item} {s:St} {c:Bool} {a b:PC} (S:Env→Obs→Prop) (hS:∀e ob,S e ob→run P np Q is ⟨e,ob⟩)
  (h1:c=true→run P np Q (.c a :: .cut S::is) s) (h2:c=false→run P np Q (.c b :: .cut S::is) s):cnd P np Q (.r (.v (.bool c))) a b is s:=by
 have key:∀a,run P np Q (.c a :: .cut S::is) s→run P np Q (.c a::is) s:=fun a h=>by
  rw [run] at h ⊢;refine a9d (fun x s h=>?_) h;cases x with
  | nor=>simp only [run] at h; exact hS _ _ h
  | ex i=>simp only [unw] at h; exact h
  | rt=>simp only [unw] at h; exact h
 exact ⟨⟨fun h=>key a (h1 h),fun h=>key b (h2 h)⟩⟩
theorem run_loop {P:Program} {np:Nat} {Q:Ex→St→Prop} {is:List Item} {s:St} {c:PC} (live:List (Nat×Bool)) (I:List AV→List Ob→List Ob→Prop) (m:List AV→List Ob→List Ob→Nat) (hl:(live.all fun p=>decide (p.1<100000))=true) (h0:yz np live s I)
  (h:∀vs pos los,I vs pos los→run P np Q (.c c :: .lp live (fun vs' pos' los'=>I vs' pos' los'∧m vs' pos' los'<m vs pos los)::is) (akv live vs pos los)):run P np Q (.c (.loop c)::is) s:=by
 rw [run,W];refine ⟨live,I,m,hl,h0,fun vs pos los hv=>?_⟩;have:=h vs pos los hv;rw [run] at this;refine cast (congrArg (fun K=>W P np c K (akv live vs pos los)) ?_) this;funext x e;cases x<;>simp only [run,unw]
theorem as6 {P:Program} {np:Nat} {Q:Ex→St→Prop} {s:St} {c:PC} (h:run P np Q [.c c] s):W P np c Q s:=by
 rw [run] at h;refine cast (congrArg (fun K=>W P np c K s) ?_) h;funext x e;cases x<;>simp only [run,unw]
theorem pf (rs:List RSl) (D:AV→List Ob→Prop) (e:Env) (ob:Obs):apf np rs D .rt ⟨e,ob⟩=opn np (rs.map fun p=>(p.1,p.2.1)) D rs e ob:=(rfl)
theorem ko (rs:List RSl) (D:AV→List Ob→Prop) (e:Env) (ob:Obs):apf np rs D .nor ⟨e,ob⟩=opn np (rs.map fun p=>(p.1,p.2.1)) D rs e ob:=(rfl)
theorem oo (all:List (Nat×Bool)) (D:AV→List Ob→Prop) (e:Env) (ob:Obs):opn np all D [] e ob=aso np all ⟨e,ob⟩ D:=(rfl)
theorem om (all:List (Nat×Bool)) (D:AV→List Ob→Prop) (a:Nat) (b:Bool) (r:List RSl) (e:Env) (ob:Obs):opn np all D ((a,b,none)::r) e ob=opn np all D r e ob:=(rfl)
def opf (np:Nat) (all:List (Nat×Bool)) (D:AV→List Ob→Prop) (a:Nat) (r:List RSl) (e:Env) (ob:Obs) (R:Rs):Prop:=R.ok∧opn np all D r (put a R.v e) ob
theorem jr (all:List (Nat×Bool)) (D:AV→List Ob→Prop) (a:Nat) (b:Bool) (t:TypeId) (n:Option Nat) (r:List RSl) (e:Env) (ob:Obs):opn np all D ((a,b,some (t,n))::r) e ob=opf np all D a r e ob (ld1 true n (e a) ob):=(rfl)
theorem uj (all:List (Nat×Bool)) (D:AV→List Ob→Prop) (a:Nat) (r:List RSl) (e:Env) (ob:Obs) (p:Prop) (v:AV) (ob':Obs) (rd wr:List Nat):opf np all D a r e ob ⟨p,v,ob',rd,wr⟩=(p∧opn np all D r (put a v e) ob):=(rfl)
end
def xa (P:Program) (np:Nat) (Q:Ex→St→Prop) (pre:List (List Nat)) (rs:List PR) (log:List Lg) (is:List Item) (e:Env) (ob:Obs):Prop:=wpD P rs log ⟨e,ob⟩ fun log s=>mz pre log=true∧run P np Q is s
def zt (P:Program) (np:Nat) (Q:Ex→St→Prop) (pre:List (List Nat)) (d:Option Nat) (g:Option (Nat×Bool)) (u:Nat) (x:PX) (rs:List PR) (log:List Lg) (is:List Item) (e:Env) (ob:Obs) (y:Option Bool):Prop:=
 ∃c:Ans,(x.out P ⟨d,g,u,x⟩ ⟨e,ob⟩ c y).ok∧wpD P rs (log++[(x.out P ⟨d,g,u,x⟩ ⟨e,ob⟩ c y).lg]) (x.out P ⟨d,g,u,x⟩ ⟨e,ob⟩ c y).st fun log s=>mz pre log=true∧run P np Q is s
def a8k (P:Program) (np:Nat) (Q:Ex→St→Prop) (pre:List (List Nat)) (r:PR) (b:Bool) (rs:List PR) (log:List Lg) (is:List Item) (e:Env) (ob:Obs) (R:Rs):Prop:=
 R.ok∧xa P np Q pre rs (log++[r.lg R.rd []]) is (j9 r.d (gdv r.g b R.v) e) ob
def a3a (P:Program) (np:Nat) (Q:Ex→St→Prop) (pre:List (List Nat)) (r:PR) (rs:List PR) (log:List Lg) (is:List Item) (e:Env) (R:Rs):Prop:=
 R.ok∧xa P np Q pre rs (log++[r.lg R.rd R.wr]) is (j9 r.d R.v e) R.ob
def bbe (P:Program) (np:Nat) (Q:Ex→St→Prop) (pre:List (List Nat)) (d:Option Nat) (g:Option (Nat×Bool)) (u:Nat) (x:PX) (rs:List PR) (log:List Lg) (is:List Item) (e:Env) (ob:Obs) (b:Bool):Prop:=
 Shut ((b=true→zt P np Q pre d g u x rs log is e ob (some true))∧(b=false→zt P np Q pre d g u x rs log is e ob (some false)))
def dcA (P:Program) (np:Nat) (Q:Ex→St→Prop) (pre:List (List Nat)) (r:PR) (f:FuncId) (p:Prop) (rs:List PR) (log:List Lg) (is:List Item) (e:Env) (ob:Obs) (a:List AV×List Nat×Bool):Prop:=
 ∃c:Ans,(s4 P r ⟨e,ob⟩ f p c a).ok∧wpD P rs (log++[(s4 P r ⟨e,ob⟩ f p c a).lg]) (s4 P r ⟨e,ob⟩ f p c a).st fun log s=>mz pre log=true∧run P np Q is s
def dcX (P:Program) (np:Nat) (Q:Ex→St→Prop) (pre:List (List Nat)) (r:PR) (p:Prop) (rs:List PR) (log:List Lg) (is:List Item) (e:Env) (ob:Obs) (vs:List AV) (y:AV):Prop:=
 ∃c:Ans,(vl P r ⟨e,ob⟩ p c vs y).ok∧wpD P rs (log++[(vl P r ⟨e,ob⟩ p c vs y).lg]) (vl P r ⟨e,ob⟩ p c vs y).st fun log s=>mz pre log=true∧run P np Q is s
def dcI (P:Program) (np:Nat) (Q:Ex→St→Prop) (pre:List (List Nat)) (r:PR) (tbl:List (TypeId×FuncId)) (p:Prop) (rs:List PR) (log:List Lg) (is:List Item) (e:Env) (ob:Obs) (vs:List AV) (y:AV):Prop:=
 ∃c:Ans,(pa P r ⟨e,ob⟩ tbl p c vs y).ok∧wpD P rs (log++[(pa P r ⟨e,ob⟩ tbl p c vs y).lg]) (pa P r ⟨e,ob⟩ tbl p c vs y).st fun log s=>mz pre log=true∧run P np Q is s
def a8m (P:Program) (np:Nat) (Q:Ex→St→Prop) (pre:List (List Nat)) (r:PR) (p:Prop) (rs:List PR) (log:List Lg) (is:List Item) (e:Env) (ob:Obs) (vs:List AV) (y:AV):Option FuncId→Prop
 | some f=>dcA P np Q pre r f p rs log is e ob (v7 (y::vs) (j8 ob (y::vs)))
 | none=>False
def dcB (P:Program) (np:Nat) (Q:Ex→St→Prop) (pre:List (List Nat)) (r:PR) (f:FuncId) (p:Prop) (rs:List PR) (log:List Lg) (is:List Item) (e:Env) (ob:Obs) (as:List AV) (l:List Nat) (fz:Bool) (ids:List Nat):Prop:=
 ∃c:Ans,(aew P r ⟨e,ob⟩ f p c as l fz ids (o3 (fwd ob ids) ob ids)).ok∧wpD P rs (log++[(aew P r ⟨e,ob⟩ f p c as l fz ids (o3 (fwd ob ids) ob ids)).lg]) (aew P r ⟨e,ob⟩ f p c as l fz ids (o3 (fwd ob ids) ob ids)).st fun log s=>mz pre log=true∧run P np Q is s
def a2g (P:Program) (np:Nat) (Q:Ex→St→Prop) (pre:List (List Nat)) (r:PR) (rs:List PR) (log:List Lg) (is:List Item) (e:Env) (ob:Obs) (l:List Nat) (ids:List Nat) (res:AV) (ro:List Ob):Prop:=
 xa P np Q pre rs (log++[r.lg (l++(ids++ao r.u ids ro.length)) (ao r.u ids ro.length)]) is (j9 r.d (imV (back ob r.u ids ro.length) res) e) (ab ob r.u ids (back ob r.u ids ro.length) 0 ro)
def dcP (P:Program) (np:Nat) (Q:Ex→St→Prop) (pre:List (List Nat)) (r:PR) (f:FuncId) (rs:List PR) (log:List Lg) (is:List Item) (e:Env) (ob:Obs) (as:List AV) (l:List Nat) (fz:Bool) (ids:List Nat) (po:List Ob):Prop:=
 ∃(res:AV) (ro:List Ob),a7 P f as po res ro∧okC r.u ids ro.length l fz=true∧ak po ro∧(fz=false→v8 res∧∀o∈ro,iv o)∧a2g P np Q pre r rs log is e ob l ids res ro
def dcC (P:Program) (np:Nat) (Q:Ex→St→Prop) (pre:List (List Nat)) (r:PR) (f:FuncId) (p:Prop) (rs:List PR) (log:List Lg) (is:List Item) (e:Env) (ob:Obs) (as:List AV) (l:List Nat) (fz:Bool) (ids:List Nat):Option (List Ob)→Prop
 | some po=>p∧dcP P np Q pre r f rs log is e ob as l fz ids po
 | none=>False
section
variable (P:Program) (np:Nat) (Q:Ex→St→Prop) (pre:List (List Nat)) (log:List Lg) (is:List Item) (e:Env) (ob:Obs) (rs:List PR)
theorem od (ops:List PR):run P np Q (.c (.drw ops pre)::is) ⟨e,ob⟩=xa P np Q pre ops [] is e ob:=by rw [run]; rfl
theorem jn:xa P np Q pre [] log is e ob=(mz pre log=true∧run P np Q is ⟨e,ob⟩):=(rfl)
theorem ff (d:Option Nat) (g:Option (Nat×Bool)) (u:Nat) (x:PX):xa P np Q pre (⟨d,g,u,x⟩::rs) log is e ob=zt P np Q pre d g u x rs log is e ob (yes e g):=(rfl)
theorem jw (d:Option Nat) (g:Option (Nat×Bool)) (u:Nat) (o:PO) (b:Bool):zt P np Q pre d g u (.see o) rs log is e ob (some b)=a8k P np Q pre ⟨d,g,u,.see o⟩ b rs log is e ob (o.see b e ob):=propext ⟨fun ⟨_,h⟩=>h,fun h=>⟨(.undef,[]),h⟩⟩
theorem ov (r:PR) (b:Bool) (p:Prop) (v:AV) (ob':Obs) (rd wr:List Nat):a8k P np Q pre r b rs log is e ob ⟨p,v,ob',rd,wr⟩=(p∧xa P np Q pre rs (log++[r.lg rd []]) is (j9 r.d (gdv r.g b v) e) ob):=(rfl)
theorem jy (d:Option Nat) (g:Option (Nat×Bool)) (u:Nat) (o:PO):zt P np Q pre d g u (.act o) rs log is e ob (some true)=a3a P np Q pre ⟨d,g,u,.act o⟩ rs log is e (o.act (d.getD 0) e ob):=propext ⟨fun ⟨_,h⟩=>h,fun h=>⟨(.undef,[]),h⟩⟩
theorem kb (r:PR) (p:Prop) (v:AV) (ob':Obs) (rd wr:List Nat):a3a P np Q pre r rs log is e ⟨p,v,ob',rd,wr⟩=(p∧xa P np Q pre rs (log++[r.lg rd wr]) is (j9 r.d v e) ob'):=(rfl)
theorem bg (d:Option Nat) (g:Option (Nat×Bool)) (u:Nat) (o:PO):zt P np Q pre d g u (.act o) rs log is e ob (some false)=xa P np Q pre rs (log++[PR.lg ⟨d,g,u,.act o⟩ [] []]) is (j9 d .undef e) ob:=propext ⟨fun ⟨_,_,h⟩=>h,fun h=>⟨(.undef,[]),trivial,h⟩⟩
theorem ah (d:Option Nat) (g:Option (Nat×Bool)) (u:Nat) (f:FuncId) (xs:List Opd):zt P np Q pre d g u (.call f xs) rs log is e ob (some false)=xa P np Q pre rs (log++[PR.lg ⟨d,g,u,.call f xs⟩ [] []]) is (j9 d .undef e) ob:=propext ⟨fun ⟨_,_,h⟩=>h,fun h=>⟨(.undef,[]),trivial,h⟩⟩
theorem ft (d:Option Nat) (g:Option (Nat×Bool)) (u:Nat) (f:FuncId) (xs:List Opd):zt P np Q pre d g u (.call f xs) rs log is e ob (some true)=dcA P np Q pre ⟨d,g,u,.call f xs⟩ f (v6 true e xs) rs log is e ob (v7 (g9 e xs) (j8 ob (g9 e xs))):=(rfl)
theorem ct (d:Option Nat) (g:Option (Nat×Bool)) (u:Nat) (x:Opd) (xs:List Opd):zt P np Q pre d g u (.callv x xs) rs log is e ob (some true)=dcX P np Q pre ⟨d,g,u,.callv x xs⟩ ((x.ev e).may true∧v6 true e xs) rs log is e ob (g9 e xs) (x.ev e).bare:=(rfl)
theorem jx (d:Option Nat) (g:Option (Nat×Bool)) (u:Nat) (tbl:List (TypeId×FuncId)) (x:Opd) (xs:List Opd):zt P np Q pre d g u (.inv tbl x xs) rs log is e ob (some true)=dcI P np Q pre ⟨d,g,u,.inv tbl x xs⟩ tbl ((x.ev e).may true∧v6 true e xs) rs log is e ob (g9 e xs) (x.ev e).bare:=(rfl)
theorem ow (r:PR) (tbl:List (TypeId×FuncId)) (p:Prop) (vs:List AV) (t:TypeId) (y:AV):dcI P np Q pre r tbl p rs log is e ob vs (.ifc t y)=a8m P np Q pre r p rs log is e ob vs y (ap t tbl):=by
 unfold dcI;simp only [pa];generalize ap t tbl=q;cases q with
 | some f=>rfl
 | none=>exact propext ⟨fun ⟨_,h,_⟩=>h.elim,fun h=>h.elim⟩
theorem fu (r:PR) (p:Prop) (vs:List AV) (y:AV) (f:FuncId):a8m P np Q pre r p rs log is e ob vs y (some f)=dcA P np Q pre r f p rs log is e ob (v7 (y::vs) (j8 ob (y::vs))):=(rfl)
theorem bf (d:Option Nat) (g:Option (Nat×Bool)) (u:Nat) (tbl:List (TypeId×FuncId)) (x:Opd) (xs:List Opd):zt P np Q pre d g u (.inv tbl x xs) rs log is e ob (some false)=xa P np Q pre rs (log++[PR.lg ⟨d,g,u,.inv tbl x xs⟩ [] []]) is (j9 d .undef e) ob:=propext ⟨fun ⟨_,_,h⟩=>h,fun h=>⟨(.undef,[]),trivial,h⟩⟩
theorem vc (r:PR) (p:Prop) (vs:List AV) (f:FuncId) (cap:List AV) (k:Nat):dcX P np Q pre r p rs log is e ob vs (.fn (.func f) cap k)=dcA P np Q pre r f (p∧uu P f=true) rs log is e ob (v7 (cap.take k++(vs++cap.drop k)) (j8 ob (cap.take k++(vs++cap.drop k)))):=(rfl)
theorem u9 (d:Option Nat) (g:Option (Nat×Bool)) (u:Nat) (x:Opd) (xs:List Opd):zt P np Q pre d g u (.callv x xs) rs log is e ob (some false)=xa P np Q pre rs (log++[PR.lg ⟨d,g,u,.callv x xs⟩ [] []]) is (j9 d .undef e) ob:=propext ⟨fun ⟨_,_,h⟩=>h,fun h=>⟨(.undef,[]),trivial,h⟩⟩
theorem ka (r:PR) (f:FuncId) (p:Prop) (as:List AV) (l:List Nat) (fz:Bool):dcA P np Q pre r f p rs log is e ob (as,l,fz)=dcB P np Q pre r f p rs log is e ob as l fz (k8 ob 64 (i7 as) []):=(rfl)
theorem vd (r:PR) (f:FuncId) (p:Prop) (as:List AV) (l:List Nat) (fz:Bool) (ids:List Nat):dcB P np Q pre r f p rs log is e ob as l fz ids=dcC P np Q pre r f p rs log is e ob (imL (fwd ob ids) as) l fz ids (o3 (fwd ob ids) ob ids):=by
 unfold dcB;generalize o3 (fwd ob ids) ob ids=po;cases po with
 | none=>exact propext ⟨fun ⟨_,h,_⟩=>h.elim,fun h=>h.elim⟩
 | some po=>exact propext ⟨fun ⟨c,⟨h0,h1,h2,h3,h4⟩,h5⟩=>⟨h0,c.1,c.2,h1,h2,h3,h4,h5⟩,fun ⟨h0,r,o,h1,h2,h3,h4,h5⟩=>⟨(r,o),⟨h0,h1,h2,h3,h4⟩,h5⟩⟩
theorem jz (r:PR) (f:FuncId) (p:Prop) (as:List AV) (l:List Nat) (fz:Bool) (ids:List Nat) (po:List Ob):dcC P np Q pre r f p rs log is e ob as l fz ids (some po)=(p∧dcP P np Q pre r f rs log is e ob as l fz ids po):=(rfl)
theorem pd (r:PR) (l ids:List Nat) (res:AV) (ro:List Ob):a2g P np Q pre r rs log is e ob l ids res ro=xa P np Q pre rs (log++[r.lg (l++(ids++ao r.u ids ro.length)) (ao r.u ids ro.length)]) is (j9 r.d (imV (back ob r.u ids ro.length) res) e) (ab ob r.u ids (back ob r.u ids ro.length) 0 ro):=(rfl)
end
theorem c8 {P:Program} {np:Nat} {Q:Ex→St→Prop} {pre:List (List Nat)} {r:PR} {f:FuncId} {rs:List PR} {log:List Lg} {is:List Item} {e:Env} {ob:Obs} {as:List AV} {l ids:List Nat} {po:List Ob} {res:AV} {ro:List Ob}
  (h:a7 P f as po res ro) (h1:okC r.u ids ro.length l true=true) (h2:ak po ro) (h3:a2g P np Q pre r rs log is e ob l ids res ro):dcP P np Q pre r f rs log is e ob as l true ids po:=
 ⟨res,ro,h,h1,h2,(fun h=>by cases h),h3⟩
theorem o6 {P:Program} {np:Nat} {Q:Ex→St→Prop} {pre:List (List Nat)} {r:PR} {f:FuncId} {rs:List PR} {log:List Lg} {is:List Item} {e:Env} {ob:Obs} {as as':List AV} {l ids:List Nat} {po:List Ob} {fz:Bool} (has:as=as') (h:dcP P np Q pre r f rs log is e ob as' l fz ids po):dcP P np Q pre r f rs log is e ob as l fz ids po:=has▸h
theorem ud (d:Nat) (x:AV) (e:Env) (n:Nat):put d x e n=if n=d then x else e n:=(rfl)
theorem to (i:Nat) (x:Nat×Ob) (ob:Obs) (n:Nat):upd i x ob n=if n=i then some x else ob n:=(rfl)
theorem fh (d:Nat) (x:AV) (e:Env):j9 (some d) x e=put d x e:=(rfl)
theorem fj (x:AV) (e:Env):j9 none x e=e:=(rfl)
theorem aa5 (e:Env) (n:Nat):(Opd.t n).ev e=e n:=(rfl)
theorem aa6 (e:Env) (x:AV):(Opd.c x).ev e=x:=(rfl)
theorem aaw (b:Bool) (x:AV):gdv none b x=x:=(rfl)
theorem aav (g:Nat×Bool) (b:Bool) (x:AV):gdv (some g) b x=.gd b x:=(rfl)
section
variable (np:Nat) (live:List (Nat×Bool)) (e:Env) (ob:Obs)
theorem gi (D:List AV→List Ob→List Ob→Prop):yz np live ⟨e,ob⟩ D=art D (nrm 64 np 2000000 (o5 e live ob).1 (o5 e live ob).2):=(rfl)
theorem fm (D:List AV→List Ob→List Ob→Prop) (vs:List AV) (pos los:List Ob):art D (some (vs,pos,los))=D vs pos los:=(rfl)
def adi (np lb:Nat) (vs:List AV) (ob:Obs) (ids:List Nat):Option (List AV×List Ob×List Ob):=match mu (re np lb ob ids) ob (x6 np np),mu (re np lb ob ids) ob ids with
 | some pos,some los=>some (imL (re np lb ob ids) vs,pos,los)
 | _,_=>none
theorem um (fuel lb:Nat) (vs:List AV):nrm fuel np lb vs ob=adi np lb vs ob (jb np (k8 ob fuel (i7 vs++x6 np np) [])):=(rfl)
theorem nu (vs:List AV) (pos los:List Ob):akv live vs pos los=⟨keep live vs,u0 1000000 pos (u0 2000000 los fun _=>none)⟩:=(rfl)
theorem ou (rs:List (Nat×Bool)) (D:AV→List Ob→Prop):aso np rs ⟨e,ob⟩ D=aqv np (o5 e rs ob).2 D (pt (o5 e rs ob).2 (o5 e rs ob).1):=(rfl)
def a29 (D:AV→List Ob→Prop):Option (List AV×List Ob×List Ob)→Prop
 | some (vs,pos,los)=>D (oi vs) (pos++los)
 | none=>False
theorem cr (D:AV→List Ob→Prop) (vs:List AV) (l:List Nat):aqv np ob D (some (vs,l))=a29 D (nrm 64 np (1000000+np) vs (freeze ob l)):=by
 show art _ _ = _;generalize nrm 64 np (1000000+np) vs (freeze ob l)=y;rcases y with _ | ⟨_,_,_⟩<;>rfl
theorem cq (D:AV→List Ob→Prop) (vs:List AV) (pos los:List Ob):a29 D (some (vs,pos,los))=D (oi vs) (pos++los):=(rfl)
end
theorem kk {α:Type} (a b:α):(bif true then a else b)=a:=(rfl)
theorem gf {α:Type} (a b:α):(bif false then a else b)=b:=(rfl)

theorem a18 (n:Nat):@Nat.cast Int _ (no_index (OfNat.ofNat n))=OfNat.ofNat n:=rfl
attribute [push_cast high] a18
attribute [push_cast] oe nh nr ci cu bh nq jt fk et ki z7 oc ji ny oa jm fb nn nw nt cj jh ay pe cz gc kj cw vp jl kg fv ez jk nz oh uc ng ni cg aak tq pf ko oo om jr uj od jn ff jw ov jy kb bg ah ft jx bf ow fu ct vc u9 ka vd jz pd ao List.range_zero ud to fh fj aa5 aa6 aaw aav gi fm um adi nu ou cr cq ap n7 af pp uq mc wt rn pz rm adl qd qu ma mb zk ra xf xk toV wo wq iw ju gr yes abg bad n6 jc mmL jv zq eq2 eql AV.isA PO.see PO.act Vs.q Rs.and AV.bare AV.may xn ab8 ab7 xp ol un1 oz rk ia2 iab leb xg ldb ldr ld1 uo vb fa1 xh bnd wv pj xi src em be g9 v6 PO.see.mayO PO.see.bareO d7 l9 dz nv AV.rv rvs AV.elt frz freeze k9 s5 stb str st2 qc par rr xl qz zj s8 dj abr RV.cells AV.cells AV.one RV.one AV.boxable RV.good b7 o5 lm pt zn abp abo lw lq mt AV.isNil oi km v7 j8 du o9 i7 adj k8 fwd abw ua o3 f7 db ef back ab imV imL imO idx u0 obs keep x6 ut jb re oq mu yc Ob.own Value.oneCell' kk gf true_and and_true and_self true_implies imp_self implies_true Option.getD_some Option.getD_none zai List.length_nil List.length_map zah List.map_nil List.getD_cons_zero List.getD_cons_succ List.take_succ_cons List.take_zero List.drop_succ_cons List.drop_zero List.cons_append List.nil_append List.append_nil List.all_cons List.all_nil Bool.and_true Bool.true_and Bool.false_and Bool.and_self Bool.or_true Bool.true_or Bool.false_or Bool.or_false Bool.not_true Bool.not_false List.contains_cons List.contains_nil List.filter_cons List.filter_nil decide_true decide_false if_true if_false false_and and_false not_true not_false_eq_true Option.map_some Option.map_none List.getElem?_cons_zero List.getElem?_cons_succ List.getElem?_nil List.length_append beq_self_eq_true List.take_nil List.drop_nil false_implies zad ne_eq

end Go.Ev

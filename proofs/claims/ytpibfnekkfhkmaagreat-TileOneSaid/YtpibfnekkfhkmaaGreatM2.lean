import Derived.Maps.RangeRun
import Derived.Test.YtpibfnekkfhkmaaGreatM1
open Bool renaming and_eq_true → zaa
open Option renaming isSome_iff_exists → zab
open Array renaming getElem?_eq_some_iff → zac
namespace Go.Ev
set_option maxRecDepth 100000
open Go
set_option linter.unusedSectionVars false
set_option linter.unnecessarySimpa false
set_option linter.unusedVariables false
set_option linter.unusedSimpArgs false
section
variable {P:Program} {X:Cx} {w w':World} {s:St} {ρ ρ':Pl→Option Nat} {a:Act} {o:Oper} {ob ob':Obs} {R R':Nat→Prop}
theorem ard {ob:Obs} {id ver:Nat} {es:List MapEntry} {c:Nat} (h:t7 ob id ver=some (es,c)):ob id=some (ver,.map es c):=by
 unfold t7 at h;split at h
 ·rename_i v es' c' ho;split at h
  ·rename_i hv; cases h; rw [ho,hv]
  ·cases h
 ·cases h
theorem anx {ob:Obs} {id ver:Nat} {m:AV} {since st:Nat} {seen:List Nat} (h:de ob id ver=some (m,since,seen,st)):ob id=some (ver,.iter m since seen st):=by
 unfold de at h;split at h
 ·rename_i v m' s' e' t' ho;split at h
  ·rename_i hv; cases h; rw [ho,hv]
  ·cases h
 ·cases h
theorem jw {b c:Nat} {es:Array MapEntry} (hb:w.heap[b]?=some (.map es c)):(getObj b).run P w=.ok (.map es c) w:=by simp [getObj,Sem.run,hb]
theorem adx {b c:Nat} {es:Array MapEntry} (y:Obj) (hb:w.heap[b]?=some (.map es c)):(setObj b y).run P w=.ok () { w with heap:=w.heap.setIfInBounds b y }:=by simp [setObj,Sem.run,hb]
theorem aeu (v:Value):RelV w R (ll v) v:=by
 unfold ll;split
 ·rename_i cs;refine .agg _ _ (by simp) fun i x c hx hc=>?_;rw [List.getElem?_map,Option.map_eq_some_iff] at hx;obtain ⟨y,hy,rfl⟩:=hx;rw [Array.getElem?_toList] at hy;rw [hc] at hy;cases hy;exact .v _
 ·exact .v _
theorem a9b {v:Value} {x:RV} (h:eqr v x=true) (hx:∃y,x=.v y):RelV w R x v:=by
 obtain ⟨y,rfl⟩:=hx
 have:eqv v y=true:=by
  cases v with
  | slice a l c=>rcases a with _ | a<;>rcases l with _ | l<;>rcases c with _ | c<;>exact h
  | _=>exact h
 rw [arq this];exact .v _
theorem ato {z:RV} {e:TypeId} (h:ag9 P z e=true):∃i v,P.info? e=some i∧i.zero=some v∧∀(w:World) (R:Nat→Prop),RelV w R z v:=by
 unfold ag9 at h;split at h
 ·rename_i i hi;split at h
  ·rename_i v hv;refine ⟨i,v,hi,hv,fun w R=>?_⟩;split at h
   ·rename_i cs xs;simp only [zaa] at h;obtain ⟨h1,h2⟩:=h;refine .agg _ _ (by rw [← ma h1]; simp) fun j x c hx hc=>?_;refine a9b (aeo h1 (by simpa using hc) hx) ?_;have:=List.all_eq_true.1 h2 x (List.mem_of_getElem? hx);cases x<;>simp at this;exact ⟨_,rfl⟩
   ·rw [arq h]; exact .v _
   ·cases h
  ·cases h
 ·cases h
def a23 (P:Program) (k:TypeId) (v:Value):Prop:=(∃q q' n,P.underlying k=some (.int q)∧v=.int q' n)∨(∃t,P.underlying k=some .string∧v=.string t)
theorem ao8 {t:TypeId} {str:Bool} {f:TypeId→Bool} (h:af7 P t str f=true):∃k e,P.underlying t=some (.map k e)∧f e=true∧∀v,oh str v=true→a23 P k v:=by
 unfold af7 at h;split at h
 ·rename_i k e ht;simp only [zaa] at h;refine ⟨k,e,ht,h.2,fun v hv=>?_⟩;have h1:=h.1;split at h1
  ·rename_i q hk;cases v<;>simp [oh] at hv
   ·exact .inl ⟨q,_,_,hk,rfl⟩
   ·rw [hv] at h1; cases h1
  ·rename_i hk;cases v<;>simp [oh] at hv
   ·rw [hv] at h1; cases h1
   ·exact .inr ⟨_,hk,rfl⟩
  ·cases h1
 ·cases h
theorem an1 {q q':IntKind} {n:Int}:∀(es:List MapEntry) (i:Nat),Instr.findNow (.int q') (.int q n) es i=jd (.int q n) es i
 | [],i=>rfl
 | e::es,i=>by
  have h:Instr.sameNow (.int q') (.int q n) e.key=ab1 (.int q n) e.key:=by cases e.key<;>rfl
  simp only [Instr.findNow,jd,h];rcases ab1 (.int q n) e.key with _ | b
  ·rfl
  ·cases b
   ·exact an1 es (i+1)
   ·rfl
theorem an0 {t:ByteArray}:∀(es:List MapEntry) (i:Nat),Instr.findNow .string (.string t) es i=jd (.string t) es i
 | [],i=>rfl
 | e::es,i=>by
  have h:Instr.sameNow .string (.string t) e.key=ab1 (.string t) e.key:=by cases e.key<;>rfl
  simp only [Instr.findNow,jd,h];rcases ab1 (.string t) e.key with _ | b
  ·rfl
  ·cases b
   ·exact an0 es (i+1)
   ·rfl
theorem pw {k:TypeId} {v:Value} {es:List MapEntry} {r:Option (Nat×Value)} (hk:a23 P k v) (hf:jd v es 0=some r):(Instr.findKey k v es).run P w=.ok r w:=by
 rcases hk with ⟨q,q',n,hu,rfl⟩ | ⟨t,hu,rfl⟩
 ·simp [Instr.findKey,run_underlying hu,an1,hf]
 ·simp [Instr.findKey,run_underlying hu,an0,hf]
theorem aux {k:TypeId} {v:Value} {b:Bool} (n:Nat) (hk:a23 P k v):(Instr.checkKey b (n+1) k v).run P w=.ok () w:=by
 rcases hk with ⟨q,q',n,hu,rfl⟩ | ⟨t,hu,rfl⟩
 ·simp [Instr.checkKey,run_underlying hu]
 ·simp [Instr.checkKey,run_underlying hu]
theorem mt {k:TypeId} {v:Value} {b:Bool} (hk:a23 P k v):(Instr.checkKey b 10000 k v).run P w=.ok () w:=aux 9999 hk
theorem Gam.mapB (hG:Gam X s ρ a w) {id ver:Nat} {es:List MapEntry} {c:Nat} {v:Value} (hm:t7 s.ob id ver=some (es,c)) (h:RA X s ρ w (.mp id ver) v):∃b,ρ id=some b∧v=.map (some b)∧w.heap[b]?=some (.map es.toArray c):=by
 have hid:=ard hm;cases h;rename_i hc h;obtain ⟨b,hρ,rfl⟩:=h.live hid;obtain ⟨b',h1,h2⟩:=hG.obj id ver _ hid;rw [hρ] at h1;cases h1;exact ⟨b,hρ,rfl,h2⟩
theorem aiu {k:Value}:∀{es:List MapEntry} {i j:Nat} {v:Value},jd k es i=some (some (j,v))→i≤j∧∃e,es[j-i]?=some e∧e.val=v∧ab1 k e.key=some true
 | [],i,j,v,h=>by cases h
 | e::es,i,j,v,h=>by
  simp only [jd] at h;split at h
  ·rename_i hs;cases h;exact ⟨Nat.le_refl _,e,by simp,rfl,hs⟩
  ·obtain ⟨h1,e',h2,h3,h4⟩:=aiu h;refine ⟨by omega,e',?_,h3,h4⟩;rw [show j-i=(j-(i+1))+1 by omega,List.getElem?_cons_succ];exact h2
  ·cases h
theorem bby {g:Bool} (hg:g=true) {str comma:Bool} {z:RV} {t:TypeId} {x i:Operand} {u k:AV} (hG:Gam X s ρ a w) (ho:o.op=.lookup t x i comma) (hm:af7 P t str (ag9 P z)=true) (hx:RA X s ρ w u (a.eval x)) (hk:RA X s ρ w k (a.eval i))
  (hok:(zx g str z comma u k s.ob).ok):m6 P X a w s ρ o (zx g str z comma u k s.ob).v:=by
 obtain ⟨kt,e,ht,hz,hkey⟩:=ao8 hm;obtain ⟨inf,zv,hi,hzv,hzr⟩:=ato hz;unfold zx at hok ⊢;split at hok
 ·rename_i id ver kv;rcases hmp:t7 s.ob id ver with _ | ⟨es,c⟩
  ·rw [hmp] at hok; exact (hok hg).elim
  ·rw [hmp] at hok;simp only [vj] at hok ⊢;obtain ⟨h1,h2⟩:=hok hg;obtain ⟨b,hρ,hv,hb⟩:=hG.mapB hmp hx;have hkv:=k9 hk;have hT:=hkey kv h1;obtain ⟨r,hr⟩:=zab.1 h2;have hzrun:(zeroValue e).run P w=.ok zv w:=by simp [zeroValue,typeInfo,hi,hzv]
   have hres:∃val ok,(Instr.lookup t (a.eval x) (a.eval i) comma).run P w=.ok (if comma then .tuple #[val,.bool ok] else val) w∧ok=lkB es kv∧RelV w (g8 X.B s.ob ρ w) (lkR es kv z) val:=by
    rw [hv,hkv];rcases r with _ | ⟨j,val⟩
    ·refine ⟨zv,false,?_,by simp [lkB,hr],by simp only [lkR,hr]; exact hzr _ _⟩;simp [Instr.lookup,run_underlying ht,jw hb,mt hT,pw hT hr,hzrun]
    ·refine ⟨val,true,?_,by simp [lkB,hr],by simp only [lkR,hr]; exact aeu _⟩;simp [Instr.lookup,run_underlying ht,jw hb,mt hT,pw hT hr]
   obtain ⟨val,okb,hrun,hob,hrel⟩:=hres;refine ⟨if comma then .tuple #[val,.bool okb] else val,?_,?_⟩
   ·simp only [execOp,ho,Sem.run_bind,hrun,Result.andThen_ok,Sem.run_pure]
   ·cases comma with
    | false=>exact .r hrel
    | true=>
     subst hob;refine .tup _ _ rfl fun i y c hy hc=>?_
     match i with
     | 0=>simp at hy hc; subst hy; subst hc; exact .r hrel
     | 1=>simp at hy hc; subst hy; subst hc; exact .r (.v _)
     | i+2=>simp at hy
 ·exact (hok.2 hg).elim
theorem a7o {g:Bool} (hg:g=true) {t:TypeId} {x:Operand} {c:Call} {u:AV} {kt e:TypeId} (hG:Gam X s ρ a w) (ho:o.op=.call c) (hc:c.callee=.builtin .len) (ha:c.args=#[x]) (hat:c.argTypes=#[t]) (ht:P.underlying t=some (.map kt e))
  (hx:RA X s ρ w u (a.eval x)) (hok:(qr g u s.ob).ok):m6 P X a w s ρ o (qr g u s.ob).v:=by
 unfold qr at hok ⊢;split at hok
 ·rename_i id ver;rcases hmp:t7 s.ob id ver with _ | ⟨es,cl⟩
  ·rw [hmp] at hok; exact (hok hg).elim
  ·obtain ⟨b,hρ,hv,hb⟩:=hG.mapB hmp hx;simp only [vj];refine ⟨.int .i64 es.length,?_,.r (.v _)⟩;simp [execOp,ho,resolve,hc,ha,hat,invoke,builtin,Builtin.len_,run_underlying ht,hv,jw hb,goInt]
 ·exact (hok.2 hg).elim
theorem auh {t:TypeId} (h:aht P t=true):∃d,P.underlying t=some d∧∀ms,d≠.interface ms:=by
 unfold aht at h;split at h
 ·cases h
 ·rename_i d hd hn;exact ⟨d,hn,fun ms e=>hd ms e⟩
 ·cases h
theorem bbx {t:TypeId} {x:Operand} {u:AV} (ho:o.op=.makeInterface t x) (hc:aht P t=true) (hx:RA X s ρ w u (a.eval x)):m6 P X a w s ρ o (.ifc t u):=by
 obtain ⟨d,hd,hn⟩:=auh hc;refine ⟨.iface t (a.eval x),?_,.ifc t hx⟩
 have:(Instr.makeInterface t (a.eval x)).run P w=.ok (.iface t (a.eval x)) w:=by
  simp only [Instr.makeInterface,Sem.run_bind,run_underlying hd,Result.andThen_ok];cases d<;>first | rfl | exact absurd rfl (hn _)
 simp only [execOp,ho,Sem.run_bind,this,Result.andThen_ok,Sem.run_pure]
theorem bbs {g:Bool} (hg:g=true) {t xt:TypeId} {z:RV} {comma:Bool} {x:Operand} {u:AV} (ho:o.op=.typeAssert x xt t comma) (hc:aht P t=true) (hz:ag9 P z t=true) (hx:RA X s ρ w u (a.eval x)) (hok:(aa8 g t z comma u).1):m6 P X a w s ρ o (aa8 g t z comma u).2:=by
 obtain ⟨d,hd,hn⟩:=auh hc;obtain ⟨inf,zv,hi,hzv,hzr⟩:=ato hz;unfold aa8 at hok ⊢;split at hok
 ·rename_i t' y;generalize hev:a.eval x=v at hx;cases hx;rename_i c hy
  have hrun:(Instr.typeAssert (.iface t' c) xt t comma).run P w=.ok (if t'=t then (if comma then .tuple #[c,.bool true] else c) else .tuple #[zv,.bool false]) w:=by
   simp only [Instr.typeAssert,Sem.run_bind,run_underlying hd,Result.andThen_ok];by_cases h:t'=t
   ·subst h;cases d<;>first | (simp; done) | exact absurd rfl (hn _)
   ·have hcm:comma=true:=(hok hg).resolve_left h;subst hcm;cases d<;>first | (simp [h,zeroValue,typeInfo,hi,hzv]; done) | exact absurd rfl (hn _)
  refine ⟨if t'=t then (if comma then .tuple #[c,.bool true] else c) else .tuple #[zv,.bool false],by simp only [execOp,ho,hev,Sem.run_bind,hrun,Result.andThen_ok,Sem.run_pure],?_⟩;by_cases h:t'=t
  ·simp only [h,if_true];cases comma with
   | false=>exact hy
   | true=>
    refine .tup _ _ rfl fun i y c hy' hc=>?_
    match i with
    | 0=>simp at hy' hc; subst hy'; subst hc; exact hy
    | 1=>simp at hy' hc; subst hy'; subst hc; exact .r (.v _)
    | i+2=>simp at hy'
  ·simp only [h,if_false];refine .tup _ _ rfl fun i y c hy' hc=>?_
   match i with
   | 0=>simp at hy' hc; subst hy'; subst hc; exact .r (hzr _ _)
   | 1=>simp at hy' hc; subst hy'; subst hc; exact .r (.v _)
   | i+2=>simp at hy'
 ·exact (hok hg).elim
theorem bb7 {g:Bool} (hg:g=true) {x:Operand} {u:AV} (hG:Gam X s ρ a w) (ho:o.op=.entry x) (hx:RA X s ρ w u (a.eval x)) (hok:(xq g u s.ob).ok):m6 P X a w s ρ o (xq g u s.ob).v:=by
 unfold xq at hok ⊢;split at hok
 ·rename_i id ver;rcases hit:de s.ob id ver with _ | ⟨m,since,seen,st⟩
  ·rw [hit] at hok; exact (hok hg).elim
  ·rw [hit] at hok;have hid:=anx hit;generalize hev:a.eval x=v at hx;cases hx;rename_i hc0 h;obtain ⟨b,hρ,rfl⟩:=h.live hid;obtain ⟨b',bm,h1,h2,h3⟩:=hG.obj id ver _ hid;rw [hρ] at h1; cases h1;unfold vo at hok ⊢;split at hok
   ·rename_i mid mver since' seen' st' heq;cases heq;rcases hmp:t7 s.ob mid mver with _ | ⟨es,c⟩
    ·rw [hmp] at hok; exact (hok hg).elim
    ·rw [hmp] at hok;obtain ⟨bm',hρm,hvm,hbm⟩:=hG.mapB hmp h3;cases hvm;simp only [xp] at hok ⊢;obtain ⟨hst,hse⟩:=hok hg;subst hst;obtain ⟨e,he⟩:=zab.1 hse;have he':=he;unfold axk at he';split at he'
     ·rename_i bb hl;have hback:seen.toArray.back?=some bb:=by simpa using hl
      have hfind:es.toArray.find? (fun e=>e.born == bb)=some e:=by simpa using he'
      have hrun:(Instr.entry (.pointer (some ⟨b,0,none⟩))).run P w=.ok (.tuple #[e.key,e.val]) w:=by
       simp only [Instr.entry,getObj,Sem.run_bind,Sem.run,h2,hbm,Result.andThen,hback,bne_self_eq_false,Bool.false_eq_true,if_false,hfind]
       rfl
      refine ⟨.tuple #[e.key,e.val],by simp only [execOp,ho,hev,Sem.run_bind,hrun,Result.andThen_ok,Sem.run_pure],?_⟩;rw [he];refine .tup _ _ rfl fun i y c hy' hc=>?_
      match i with
      | 0=>simp at hy' hc; subst hy'; subst hc; exact .r (aeu _)
      | 1=>simp at hy' hc; subst hy'; subst hc; exact .r (aeu _)
      | i+2=>simp at hy'
     ·cases he'
   ·exact (hok hg).elim
 ·exact (hok.2 hg).elim
theorem avm {R:Nat→Prop}:∀{xs:List RV} {l:List Value},aa6 xs=some l→l.length=xs.length∧∀(i:Nat) (x:RV) (c:Value),xs[i]?=some x→RelV w R x c→l[i]?=some c
 | [],l,h=>by cases h; exact ⟨rfl,fun i x c hx=>by simp at hx⟩
 | .v y::xs,l,h=>by
  simp only [aa6] at h;split at h
  ·rename_i l' hl;cases h;obtain ⟨g1,g2⟩:=avm (R:=R) hl;refine ⟨by simp [g1],fun i x c hx hr=>?_⟩;cases i with
   | zero=>simp at hx; subst hx; cases hr; rfl
   | succ i=>simp at hx; simpa using g2 i x c hx hr
  ·cases h
 | .agg _::_,l,h=>by cases h
 | .sl _ _::_,l,h=>by cases h
theorem avn:∀{xs:List AV} {l:List Value},aa7 xs=some l→l.length=xs.length∧∀(i:Nat) (x:AV) (c:Value),xs[i]?=some x→RelA w R ob ρ x c→l[i]?=some c
 | [],l,h=>by cases h; exact ⟨rfl,fun i x c hx=>by simp at hx⟩
 | y::xs,l,h=>by
  unfold aa7 at h;split at h
  ·rename_i heq; cases heq
  ·rename_i v xs' heq;cases heq;split at h
   ·rename_i l' hl;cases h;obtain ⟨g1,g2⟩:=avn hl;refine ⟨by simp [g1],fun i x c hx hr=>?_⟩;cases i with
    | zero=>simp at hx; subst hx; cases hr; rename_i hr; cases hr; rfl
    | succ i=>simp at hx; simpa using g2 i x c hx hr
   ·cases h
  ·cases h
theorem a6v {cs:Array Value} {l:List Value} (hl:l.length=cs.size) (h:∀(i:Nat) (c:Value),cs[i]?=some c→l[i]?=some c):cs=l.toArray:=by
 apply Array.ext (by simp [hl]);intro i h1 h2;have:=h i cs[i] (by simp [h1]);simp at h2;rw [List.getElem?_eq_getElem h2] at this;simpa using (Option.some.inj this).symm
theorem bbe {x:AV} {v c:Value} (h:toV x=some v) (hx:RelA w R ob ρ x c):c=v:=by
 unfold toV at h;split at h
 ·cases h; cases hx; rename_i hx; cases hx; rfl
 ·rename_i xs;unfold ml at h;split at h
  ·rename_i l hl;cases h;cases hx; rename_i hx; cases hx;rename_i cs hlen hrel;obtain ⟨g1,g2⟩:=avm (w:=w) (R:=R) hl;congr 1;refine a6v (by omega) fun i c hc=>?_;have hlt:=(zac.1 hc).1;exact g2 i (xs[i]'(by omega)) c (by simp [show i<xs.length by omega]) (hrel i _ c (by simp [show i<xs.length by omega]) hc)
  ·cases h
 ·rename_i xs;unfold ml at h;split at h
  ·rename_i l hl;cases h;cases hx;rename_i cs hlen hrel;obtain ⟨g1,g2⟩:=avn (w:=w) (R:=R) (ob:=ob) (ρ:=ρ) hl;congr 1;refine a6v (by omega) fun i c hc=>?_;have hlt:=(zac.1 hc).1;exact g2 i (xs[i]'(by omega)) c (by simp [show i<xs.length by omega]) (hrel i _ c (by simp [show i<xs.length by omega]) hc)
  ·cases h
 ·cases h
theorem awq {b:Nat} {x y:Obj} (h:w.heap[b]?=some x):Mods w { w with heap:=w.heap.setIfInBounds b y } b y:=by
 have hlt:=(zac.1 h).1;exact ⟨rfl,rfl,rfl,by simp,by simp [hlt],fun k hk=>by simp [Array.getElem?_setIfInBounds_ne (Ne.symm hk)]⟩
theorem ax1 {id ver:Nat} {es es':List MapEntry} {c c':Nat} {v:Value} {ok:Prop} {nx:Next} (hG:Gam X s ρ a w) (hm:t7 s.ob id ver=some (es,c)) (hx:RA X s ρ w (.mp id ver) v)
  (hrun:∀b,v=.map (some b)→w.heap[b]?=some (.map es.toArray c)→(execOp a.eval o).run P w=.ok nx { w with heap:=w.heap.setIfInBounds b (.map es'.toArray c') })
  (hnx:(∃u,nx=.value u)∨nx=.skip):jo P X a w s o ⟨ok,.undef,upd id (ver,.map es' c') s.ob,[id],[id]⟩:=by
 obtain ⟨b,hρ,hv,hb⟩:=hG.mapB hm hx;have hid:=ard hm;have hmo:=awq (y:=.map es'.toArray c') hb;refine ⟨nx,_,ρ,hrun b hv hb,hG.modifyG hid rfl hρ hmo (fun cs e fr h=>by rw [hb] at h; cases h) ver (.inl ⟨rfl,trivial⟩) (.inr ⟨rfl,trivial,fun _=>rfl⟩) ⟨b,hρ,hmo.new⟩,?_⟩;rcases hnx with ⟨u,rfl⟩ | rfl
 ·exact .inl ⟨u,rfl,.undef _⟩
 ·exact .inr ⟨rfl,rfl⟩
theorem bjf {a b:ByteArray} (h:(a == b)=true):a=b:=by
 cases a; cases b;have:(ByteArray.mk _).beq (ByteArray.mk _)=true:=h;simpa [ByteArray.beq] using this
theorem bd2 (a:ByteArray):(a == a)=true:=by
 show a.beq a=true;simp [ByteArray.beq]
theorem aya {k k':Value} (n:Nat) (h:ab1 k k'=some true):Instr.sameBits n k' k=true:=by
 unfold ab1 at h;split at h
 ·split at h
  ·rename_i hk;simp at h;subst hk; subst h;simp [Instr.sameBits]
  ·cases h
 ·rename_i a b;have h':(a == b)=true:=by simpa using h
  rw [bjf h'];simp [Instr.sameBits,bd2]
 ·cases h
theorem a08 {k k':Value} (h:ab1 k k'=some true):Instr.sameBits 10000 k' k=true:=aya 10000 h
theorem a91 {str:Bool} {t:TypeId} {x i y:Operand} {u k q:AV} (hG:Gam X s ρ a w) (ho:o.op=.mapUpdate t x i y) (hm:af7 P t str (fun _=>true)=true) (hx:RA X s ρ w u (a.eval x)) (hk:RA X s ρ w k (a.eval i)) (hy:RA X s ρ w q (a.eval y))
  (hok:(qo str u k q s.ob).ok):jo P X a w s o (qo str u k q s.ob):=by
 obtain ⟨kt,e,ht,_,hkey⟩:=ao8 hm;unfold qo at hok ⊢;split at hok
 ·rename_i id ver kv;unfold xa at hok ⊢;split at hok
  ·rename_i v hv;rcases hmp:t7 s.ob id ver with _ | ⟨es,c⟩
   ·rw [hmp] at hok; exact hok.elim
   ·rw [hmp] at hok;simp only [vq] at hok ⊢;obtain ⟨h1,h2⟩:=hok;have hT:=hkey kv h1;obtain ⟨r,hr⟩:=zab.1 h2;have hkv:=k9 hk;have hyv:=bbe hv hy;refine ax1 (ok:=_) (nx:=.skip) hG hmp hx (fun b hvb hb=>?_) (.inr rfl)
    have hrun:(Instr.mapUpdate t (a.eval x) (a.eval i) (a.eval y)).run P w=.ok () { w with heap:=w.heap.setIfInBounds b (.map (mg es c kv v).toArray (mh es c kv)) }:=by
     rw [hvb,hkv,hyv];rcases r with _ | ⟨j,val⟩
     ·simp only [mg,mh,hr];simp [Instr.mapUpdate,run_underlying ht,jw hb,mt hT,pw hT hr,adx _ hb]
     ·obtain ⟨_,e0,g1,g2,g3⟩:=aiu hr;rw [Nat.sub_zero] at g1;simp only [mg,mh,hr];have hkeep:(Instr.keyThatStays e0.key kv).run P w=.ok kv w:=by simp [Instr.keyThatStays,a08 g3]
      simp [Instr.mapUpdate,run_underlying ht,jw hb,mt hT,pw hT hr,g1,hkeep,adx _ hb,List.modify_toArray]
    simp only [execOp,ho,Sem.run_bind,hrun,Result.andThen_ok,Sem.run_pure]
  ·exact hok.elim
 ·exact hok.elim
theorem a92 {str:Bool} {t t':TypeId} {x i:Operand} {u k:AV} {c:Call} (hG:Gam X s ρ a w) (ho:o.op=.call c) (hc:c.callee=.builtin .delete) (ha:c.args=#[x,i]) (hat:c.argTypes=#[t,t']) (hm:af7 P t str (fun _=>true)=true) (hx:RA X s ρ w u (a.eval x)) (hk:RA X s ρ w k (a.eval i))
  (hok:(qp str u k s.ob).ok):jo P X a w s o (qp str u k s.ob):=by
 obtain ⟨kt,e,ht,_,hkey⟩:=ao8 hm;unfold qp at hok ⊢;split at hok
 ·rename_i id ver kv;rcases hmp:t7 s.ob id ver with _ | ⟨es,cl⟩
  ·rw [hmp] at hok; exact hok.elim
  ·rw [hmp] at hok;simp only [vq] at hok ⊢;obtain ⟨h1,h2⟩:=hok;have hT:=hkey kv h1;obtain ⟨r,hr⟩:=zab.1 h2;have hkv:=k9 hk;refine ax1 (ok:=_) (nx:=.value (.tuple #[])) hG hmp hx (fun b hvb hb=>?_) (.inl ⟨_,rfl⟩)
   have hrun:(Builtin.delete_ c.argTypes o.type (c.args.map a.eval)).run P w=.ok (.tuple #[]) { w with heap:=w.heap.setIfInBounds b (.map (adz es kv).toArray cl) }:=by
    rw [ha,hat];rcases r with _ | ⟨j,val⟩
    ·simp only [adz,hr];simp [Builtin.delete_,run_underlying ht,hvb,hkv,jw hb,mt hT,pw hT hr,adx _ hb]
    ·obtain ⟨_,e0,g1,_⟩:=aiu hr;rw [Nat.sub_zero] at g1;have hlt:=(List.getElem?_eq_some_iff.1 g1).1;simp only [adz,hr];simp [Builtin.delete_,run_underlying ht,hvb,hkv,jw hb,mt hT,pw hT hr,adx _ hb,Array.eraseIdxIfInBounds,hlt]
   simp only [execOp,ho,resolve,hc,Sem.run_bind,Sem.run_pure,Result.andThen_ok,invoke,builtin,hrun]
 ·exact hok.elim
theorem bec {d:Nat} {t:TypeId} {ok:Prop} (hdn:d<X.n) (hG:Gam X s ρ a w) (ho:o.op=.makeMap t none):jo P X a w s o (o3 s.ob d (.map [] 0) (fun v=>.mp d v) ok [] []):=by
 have hrun:(execOp a.eval o).run P w=.ok (.value (.map (some w.heap.size))) (w.alloc (.map #[] 0)):=by
  simp [execOp,ho,Instr.makeMap]
 refine sk hdn hG (z8 _) hrun ?_ (.mp _ _ _ rfl (lf ⟨_,by simp [o4],rfl⟩));exact ⟨w.heap.size,by simp [o4],(z8 _).new⟩
theorem bd9 {d:Nat} {t kt e:TypeId} {x:Operand} {u:AV} (hdn:d<X.n) (hG:Gam X s ρ a w) (ho:o.op=.range t x) (ht:P.underlying t=some (.map kt e)) (hx:RA X s ρ w u (a.eval x)) (hok:(xe d u s.ob).ok):jo P X a w s o (xe d u s.ob):=by
 unfold xe at hok ⊢;split at hok
 ·rename_i mid mver;rcases hmp:t7 s.ob mid mver with _ | ⟨es,c⟩
  ·rw [hmp] at hok; exact hok.elim
  ·obtain ⟨b,hρ,hv,hb⟩:=hG.mapB hmp hx;simp only [ac1]
   have hrun:(execOp a.eval o).run P w=.ok (.value (.pointer (some ⟨w.heap.size,0,none⟩))) (w.alloc (.mapIter (some b) c #[] c)):=by
    simp [execOp,ho,Instr.range,run_underlying ht,hv,jw hb]
   have hst:=Stays.alloc hG (z8 (.mapIter (some b) c #[] c)) d (nv s.ob d) (fun v o h=>zp h) (.iter (.mp mid mver) c [] c);refine sk (rd:=[mid]) hdn hG (z8 _) hrun ?_ (.ptr _ _ _ _ rfl (lf ⟨_,by simp [o4],rfl⟩));refine ⟨w.heap.size,b,by simp [o4],(z8 _).new,?_⟩;rw [← hv];exact hx.stays hst
 ·exact hok.elim
end

section
variable {P:Program} {X:Cx} {w w':World} {s:St} {ρ ρ':Pl→Option Nat} {a:Act} {o:Oper}
theorem br {t:TypeId} {f:TypeId→TypeInfo→Bool} (h:ej P t f=true):∃e i,P.underlying t=some (.slice e)∧P.info? e=some i∧f e i=true:=by
 unfold ej at h;split at h
 ·rename_i e hu;split at h
  ·rename_i i hi;exact ⟨e,i,hu,hi,h⟩
  ·cases h
 ·cases h
theorem z6 {t:TypeId} {f:TypeDesc→Bool} (h:al P t f=true):∃d,P.underlying t=some d∧f d=true:=by
 unfold al at h;split at h
 ·rename_i d hu;exact ⟨d,hu,h⟩
 ·cases h
theorem arp {t:TypeId} {k:Nat} {f:Go.Field→TypeInfo→Bool} (h:amp P t k f=true):∃fs fd i,P.underlying t=some (.struct fs)∧fs[k]?=some fd∧P.info? fd.type=some i∧f fd i=true:=by
 unfold amp at h;split at h
 ·rename_i fs hu;split at h
  ·rename_i fd hf;split at h
   ·rename_i i hi;exact ⟨fs,fd,i,hu,hf,hi,h⟩
   ·cases h
  ·cases h
 ·cases h
theorem ahy {g:Bool} (hG:Gam X s ρ a w) (hg:g=true) {x:Option Operand} {y:Option Opd} (h:aoz x y=true) (hm:PO.see.mayO g s.e y):RAO X s ρ w a x (PO.see.bareO s.e y):=by
 unfold aoz at h;split at h
 ·trivial
 ·exact g9 hG hg h hm
 ·cases h
theorem ael {g:Bool} (hG:Gam X s ρ a w) (hg:g=true):∀{xs:List Operand} {ys:List Opd},u7 opd xs ys=true→bw g s.e ys→(l8 s.e ys).length=xs.length∧∀(i:Nat) (x:AV) (y:Operand),(l8 s.e ys)[i]?=some x→xs[i]?=some y→RA X s ρ w x (a.eval y)
 | [],[],_,_=>⟨rfl,by simp [l8]⟩
 | x::xs,y::ys,h,hm=>by
  simp [u7] at h;obtain ⟨h1,h2⟩:=ael hG hg h.2 hm.2;refine ⟨by simp [l8,h1],fun i p q hp hq=>?_⟩;cases i with
  | zero=>simp [l8] at hp hq; subst hp; subst hq; exact g9 hG hg h.1 hm.1
  | succ i=>simp [l8] at hp hq; exact h2 i p q hp hq
 | [],_::_,h,_=>by cases h
 | _::_,[],h,_=>by cases h
theorem bf {α:Type} {xs:Array α} {l:List α} (h:xs.toList=l):xs=l.toArray:=by rw [← h]
theorem bca {g:Bool} (hg:g=true) {po:PO} (hG:Gam X s ρ a w) (hc:axp P o po=true) (hok:(po.see g s.e s.ob).ok):m6 P X a w s ρ o (po.see g s.e s.ob).v:=by
 unfold axp at hc;split at hc
 ·rename_i x y ho;refine ⟨_,?_,g9 hG hg hc hok.1⟩;simp only [execOp,ho,Sem.run_pure]
 ·rename_i x y ho;refine ⟨_,?_,g9 hG hg hc hok.1⟩;simp only [execOp,ho,Sem.run_pure]
 ·rename_i c x y c' x' y' ho;simp only [zaa] at hc;exact a7n hg ho (g9 hG hg hc.1.1 hok.1) (ami hG.env hc.1.2) (ami hG.env hc.2) hok.2
 ·rename_i op t x y ty op' x' y' ho;simp only [zaa,beq_iff_eq] at hc;obtain ⟨⟨rfl,h1⟩,h2⟩:=hc;exact bb8 hg ho (g9 hG hg h1 hok.1.1) (g9 hG hg h2 hok.1.2) hok.2
 ·rename_i op t x y ty neg x' y' ho;simp only [zaa] at hc;obtain ⟨⟨⟨h0,h1⟩,h2⟩,h3⟩:=hc;obtain ⟨d,hd,hdd⟩:=z6 h1;have hop:op=if neg=true then .neq else .eql:=by cases neg<;>simpa using h0
  have hdb:d=.bool:=by cases d<;>first | rfl | cases hdd
  subst hdb;exact bb9 hg ho hop hd (g9 hG hg h2 hok.1.1) (g9 hG hg h3 hok.1.2) hok.2
 ·rename_i op t x op' x' ho;simp only [zaa,beq_iff_eq] at hc;obtain ⟨rfl,h1⟩:=hc;exact be7 hg ho (g9 hG hg h1 hok.1) hok.2
 ·rename_i t d x k x' ho;simp only [zaa] at hc;obtain ⟨⟨h1,h2⟩,h3⟩:=hc;obtain ⟨d1,hd1,_⟩:=z6 h1;obtain ⟨d2,hd2,hdd⟩:=z6 h2;have:d2=.int k:=by cases d2<;>first | cases hdd; done | (simp at hdd; rw [hdd])
  subst this;exact a7p hg ho hd1 hd2 (g9 hG hg h3 hok.1) hok.2
 ·rename_i c str x' ho;split at hc
  ·rename_i hcal;split at hc
   ·rename_i x t hx ht;simp only [zaa] at hc;obtain ⟨d,hd,hdd⟩:=z6 hc.2;exact bbz hg ho hcal (bf hx) (bf ht) hd hdd (g9 hG hg hc.1 hok.1) hok.2
   ·cases hc
  ·cases hc
 ·rename_i t x i sz z x' i' ho;simp only [zaa] at hc;obtain ⟨⟨h1,h2⟩,h3⟩:=hc;obtain ⟨e,inf,hu,hi,hsz⟩:=br h1;exact bfa hg ho hu hi (by simpa using hsz) (g9 hG hg h2 hok.1.1) (g9 hG hg h3 hok.1.2) hok.2
 ·rename_i t x i x' i' ho;simp only [zaa] at hc;obtain ⟨⟨h1,h2⟩,h3⟩:=hc;obtain ⟨d,hd,hdd⟩:=z6 h1;have:d=.string:=by cases d<;>first | rfl | cases hdd
  subst this;exact bb0 hg ho hd (g9 hG hg h2 hok.1.1) (g9 hG hg h3 hok.1.2) hok.2
 ·rename_i t x m x' ho;simp only [zaa] at hc;exact a3x hg hG ho hc.1 (g9 hG hg hc.2 hok.1) hok.2
 ·rename_i x x' ho;exact bbw hg ho (g9 hG hg hc hok.1) hok.2
 ·rename_i t x f off x' ho;simp only [zaa] at hc;obtain ⟨fs,fd,i,h1,h2,h3,h4⟩:=arp hc.1;simp at h4;exact bfb hg ho h1 h2 h3 h4.1 h4.2 (g9 hG hg hc.2 hok.1) hok.2
 ·rename_i t x f off m x' ho;simp only [zaa] at hc;obtain ⟨fs,fd,i,h1,h2,h3,h4⟩:=arp hc.1;simp at h4;exact bb2 hg ho h1 h2 h4.1 h4.2 (g9 hG hg hc.2 hok.1) hok.2
 ·rename_i t x lo hi mx n x' ho;simp only [zaa] at hc;obtain ⟨⟨⟨⟨h1,h2⟩,h3⟩,h4⟩,h5⟩:=hc;obtain rfl:lo=none:=by simpa using h3
  obtain rfl:hi=none:=by simpa using h4
  obtain rfl:mx=none:=by simpa using h5
  split at h1
  ·rename_i n' e hu;simp only [zaa,beq_iff_eq] at h1;obtain ⟨rfl,h1⟩:=h1;split at h1
   ·rename_i inf hinf;exact bbv hg hG ho hu hinf (by simpa using h1) (g9 hG hg h2 hok.1) hok.2
   ·cases h1
  ·cases h1
 ·rename_i t x lo hi mx x' lo' hi' ho;simp only [zaa] at hc;obtain ⟨⟨⟨⟨h1,h2⟩,h3⟩,h4⟩,h5⟩:=hc;obtain ⟨d,hd,hdd⟩:=z6 h1;have:d=.string:=by cases d<;>first | rfl | cases hdd
  subst this;have hmx:mx=none:=by simpa using h2
  subst hmx;exact bbt hg ho hd (g9 hG hg h3 hok.1.1) (ahy hG hg h4 hok.1.2.1) (ahy hG hg h5 hok.1.2.2) hok.2
 ·rename_i t x lo hi mx sz x' lo' hi' mx' ho;simp only [zaa] at hc;obtain ⟨⟨⟨⟨⟨h1,h2⟩,h3⟩,h4⟩,h5⟩,h6⟩:=hc;obtain ⟨e,inf,hu,hi,hsz⟩:=br h1;exact bbu hg ho hu hi (by simpa using hsz) (g9 hG hg h2 hok.1.1) (ahy hG hg h3 hok.1.2.1) (ahy hG hg h4 hok.1.2.2.1) (ahy hG hg h5 hok.1.2.2.2) (fun hm hn=>by simp [hn] at h6; exact hm h6) hok.2
 ·rename_i x i x' i' ho;simp only [zaa,beq_iff_eq] at hc;obtain ⟨rfl,h1⟩:=hc;exact bb3 hg ho (g9 hG hg h1 hok.1) hok.2
 ·rename_i t d x x' ho;simp only [zaa] at hc;obtain ⟨⟨h1,h2⟩,h3⟩:=hc;obtain ⟨e,inf,hu,hi,he⟩:=br h1;obtain ⟨d1,hd1,hdd1⟩:=z6 he;obtain ⟨d2,hd2,hdd2⟩:=z6 h2
  have e1:d1=.int .u8:=by
   split at hdd1
   ·rfl
   ·cases hdd1
  have e2:d2=.string:=by cases d2<;>first | rfl | cases hdd2
  subst e1; subst e2;have hx:=g9 hG hg h3 hok.1;have hok2:=hok.2;simp only [PO.see,Rs.and];unfold jq at hok2 ⊢;split at hok2
  ·rename_i sz ys rd hs;exact a3v hG ho hu hd1 hd2 hx hs hok2.1 hok2.2
  ·exact hok2.1.elim
 ·rename_i t ps zs qs ho;simp only [zaa] at hc;obtain ⟨⟨h1,h2⟩,h3⟩:=hc;split at h1
  ·rename_i i hi;split at h1
   ·rename_i z hz;obtain ⟨d,hd,hdd⟩:=z6 h2;exact a3z hg hG ho hi hz h1 hd hdd h3 hok.2
   ·cases h1
  ·cases h1
 ·rename_i f first cap f' xs k ho
  simp only [zaa,beq_iff_eq] at hc;obtain ⟨⟨rfl,h1⟩,h2⟩:=hc;obtain ⟨g1,g2⟩:=ael hG hg h2 hok.1;refine ⟨.func f (first.map a.eval) (cap.map a.eval),?_,.fn _ _ _ _ _ (by simpa using h1) (by rw [g1]; simp) fun i x c hx hc=>?_⟩
  ·simp [execOp,ho,Instr.makeFunc]
  ·rw [← Array.map_append,Array.getElem?_map,Option.map_eq_some_iff] at hc;obtain ⟨y,hy,rfl⟩:=hc;exact g2 i x y hx (by rw [Array.getElem?_toList]; exact hy)
 ·rename_i c mx x' ys' ho;simp only [zaa] at hc;obtain ⟨h1,h2⟩:=hc;split at h2
  ·rename_i x ys hargs;simp only [zaa] at h2;obtain ⟨g1,g2⟩:=ael hG hg h2.2 hok.1.2;refine be9 hg ho ?_ hargs (g9 hG hg h2.1 hok.1.1) g1 g2 hok.2;split at h1
   ·rename_i hcal; cases mx<;>first | exact hcal | cases h1
   ·rename_i hcal; cases mx<;>first | exact hcal | cases h1
   ·cases h1
  ·cases h2
 ·rename_i t x i n sz x' i' ho;simp only [zaa] at hc;obtain ⟨⟨h1,h2⟩,h3⟩:=hc;split at h1
  ·rename_i n' e hu;simp only [zaa,beq_iff_eq] at h1;obtain ⟨rfl,h1⟩:=h1;split at h1
   ·rename_i inf hinf;exact bb1 hg ho hu hinf (by simpa using h1) (g9 hG hg h2 hok.1.1) (g9 hG hg h3 hok.1.2) hok.2
   ·cases h1
  ·cases h1
 ·rename_i c sub x' y' z' ho;simp only [zaa] at hc;obtain ⟨h1,h2⟩:=hc;split at h2
  ·rename_i x y z hargs;simp only [zaa] at h2;split at h1
   ·rename_i f hcal;exact a3y hg ho hcal h1 hargs (g9 hG hg h2.1.1 hok.1.1) (g9 hG hg h2.1.2 hok.1.2.1) (g9 hG hg h2.2 hok.1.2.2) hok.2
   ·cases h1
  ·cases h2
 ·rename_i op t x y ty neg ks x' y' ho;simp only [zaa] at hc;obtain ⟨⟨⟨h0,h1⟩,h2⟩,h3⟩:=hc;have hop:op=if neg=true then .neq else .eql:=by cases neg<;>simpa using h0
  obtain ⟨⟨m1,m2,a12⟩,hok⟩:=hok;obtain ⟨a1,a2⟩:=a12 hg;exact bb5 hg ho hop h1 (g9 hG hg h2 m1) (g9 hG hg h3 m2) a1 a2 hok
 ·rename_i t x i cm str z cm' x' i' ho;simp only [zaa,beq_iff_eq] at hc;obtain ⟨⟨⟨h1,rfl⟩,h2⟩,h3⟩:=hc;exact bby hg hG ho h1 (g9 hG hg h2 hok.1.1) (g9 hG hg h3 hok.1.2) hok.2
 ·rename_i c x' ho;split at hc
  ·rename_i hcal;split at hc
   ·rename_i x t hx ht;simp only [zaa] at hc;obtain ⟨d,hd,hdd⟩:=z6 hc.2;cases d with
    | map kt e=>exact a7o hg hG ho hcal (bf hx) (bf ht) hd (g9 hG hg hc.1 hok.1) hok.2
    | _=>cases hdd
   ·cases hc
  ·cases hc
 ·rename_i t x t' x' ho;simp only [zaa,beq_iff_eq] at hc;obtain ⟨⟨rfl,h1⟩,h2⟩:=hc;exact bbx ho h1 (g9 hG hg h2 hok.1)
 ·rename_i x xt t cm t' z cm' x' ho;simp only [zaa,beq_iff_eq] at hc;obtain ⟨⟨⟨⟨rfl,h1⟩,h2⟩,rfl⟩,h3⟩:=hc;exact bbs hg ho h1 h2 (g9 hG hg h3 hok.1) hok.2
 ·rename_i x x' ho;exact bb7 hg hG ho (g9 hG hg hc hok.1) hok.2
 ·rename_i op t x y ty neg x' ho;simp only [zaa] at hc;obtain ⟨⟨⟨h0,h1⟩,h2⟩,h3⟩:=hc;split at h0
  ·obtain ⟨d,hd,hdd⟩:=z6 h2;have hop:op=if neg=true then .neq else .eql:=by cases neg<;>simpa using h1
   split at hdd
   ·exact bb4 hg ho hop hd (g9 hG hg h3 hok.1) hok.2
   ·cases hdd
  ·cases h0
 ·cases hc
theorem a6x {m:Nat} {x y:AV} {t:TypeId} {inf:TypeInfo} {u v:Operand} (hG:Gam X s ρ a w) (ho:o.op=.store t u v) (hi:P.info? t=some inf) (hm:inf.size=m) (hx:RA X s ρ w x (a.eval u)) (hy:RA X s ρ w y (a.eval v)) (hok:(st2 m x y s.ob).ok) :
  jo P X a w s o (st2 m x y s.ob):=by
 unfold st2 at hok ⊢;split at hok
 ·rename_i id ver off;obtain ⟨hb,hok⟩:=hok;unfold stb at hok ⊢;split at hok
  ·rename_i cells hc;exact bd8 (ok:=True) hG ho hi hm hx hy hc hok.1 hok.2.1 hok.2.2 hb
  ·exact hok.elim
 ·rename_i id ver idx off;split at hok
  ·rename_i ys hys;obtain ⟨hb,hok⟩:=hok;unfold str at hok ⊢;split at hok
   ·rename_i sz z app wr xs hr;obtain ⟨h1,h2,h3,h4⟩:=hok;subst h3;exact bd7 (ok:=True) hG ho hi hm hx hy hr hys h1 h2 h4 hb
   ·exact hok.elim
  ·exact hok.elim
 ·exact hok.elim
theorem amu {d:Nat} {po:PO} (hG:Gam X s ρ a w) (hc:al3 P o po=true) (hn:po.nod=true) (hok:(po.act d s.e s.ob).ok):jo P X a w s o (po.act d s.e s.ob):=by
 unfold al3 at hc;split at hc<;>try (cases hn; done)
 ·rename_i t x y m x' y' ho;simp only [zaa] at hc;obtain ⟨⟨h1,h2⟩,h3⟩:=hc;split at h1
  ·rename_i inf hi;exact a6x hG ho hi (by simpa using h1) (g9 hG rfl h2 hok.1.1) (g9 hG rfl h3 hok.1.2) hok.2
  ·cases h1
 ·rename_i t x i y str x' i' y' ho;simp only [zaa] at hc;obtain ⟨⟨⟨h1,h2⟩,h3⟩,h4⟩:=hc;obtain ⟨⟨hm1,hm2,hm3⟩,hok⟩:=hok;exact a91 hG ho h1 (g9 hG rfl h2 hm1) (g9 hG rfl h3 hm2) (g9 hG rfl h4 hm3) hok
 ·rename_i c str x' i' ho;split at hc
  ·rename_i hcal;split at hc
   ·rename_i x i t t' hx ht;simp only [zaa] at hc;obtain ⟨⟨h1,h2⟩,h3⟩:=hc;obtain ⟨⟨hm1,hm2⟩,hok⟩:=hok;exact a92 hG ho hcal (bf hx) (bf ht) h1 (g9 hG rfl h2 hm1) (g9 hG rfl h3 hm2) hok
   ·cases hc
  ·cases hc
 ·rename_i c sz z x' ho;split at hc
  ·rename_i hcal;split at hc
   ·rename_i x t hx ht;simp only [zaa] at hc;obtain ⟨h1,h3⟩:=hc;obtain ⟨e,inf,hu,hi,hsz⟩:=br h1;simp only [zaa,beq_iff_eq] at hsz;obtain ⟨hsz,hzz⟩:=hsz;split at hzz
    ·rename_i v hz;simp only [zaa,beq_iff_eq] at hzz;obtain ⟨hm1,hok⟩:=hok;have hxx:=g9 hG rfl h3 hm1;simp only [PO.act];generalize (x'.ev s.e).bare=xv at hxx hok ⊢;unfold abt at hok ⊢;split at hok
     ·rename_i id ver lo len;split at hok
      ·rename_i sz' z' app wr xs hr;obtain ⟨k1,k2⟩:=hok;subst k1; subst k2;exact beg (ok:=True) (rd':=[]) hG ho hcal (bf hx) (bf ht) hu hi hsz hz hzz.1 hzz.2 hxx hr
      ·exact hok.elim
     ·exact hok.elim
    ·cases hzz
   ·cases hc
  ·cases hc
 ·cases hc
theorem bej {d:Nat} {po:PO} (hG:Gam X s ρ a w) (hc:al3 P o po=true) (hdn:d<X.n) (hok:(po.act d s.e s.ob).ok):jo P X a w s o (po.act d s.e s.ob):=by
 have hc0:=hc;unfold al3 at hc;split at hc
 ·rename_i e zs ho;split at hc
  ·rename_i i hi;split at hc
   ·rename_i z hz;exact a90 hdn hG ho hi hz hc
   ·cases hc
  ·cases hc
 ·rename_i e x x' ho;exact bei hdn hG ho (g9 hG rfl hc hok.1) hok.2
 ·rename_i t m ps sz z qs ho;simp only [zaa,beq_iff_eq,decide_eq_true_eq] at hc;obtain ⟨⟨⟨⟨⟨h1,h2⟩,h3⟩,h4⟩,h5⟩,h6⟩:=hc;obtain ⟨e,inf,hu,hi,hsz⟩:=br h1;simp at hsz;obtain ⟨zv,hz⟩:=zab.1 hsz.2;simp only [PO.act] at hok ⊢;split at hok
  ·rename_i p ys fz hel;simp only [o3] at hok;exact beh hdn hG ho hu hi hz hsz.1 h2 h3 h4 h5 h6 hel hok.1 hok.2.1 hok.2.2
  ·exact hok.elim
 ·rename_i t x y m x' y' ho;simp only [zaa] at hc;obtain ⟨⟨h1,h2⟩,h3⟩:=hc;split at h1
  ·rename_i inf hi;exact a6x hG ho hi (by simpa using h1) (g9 hG rfl h2 hok.1.1) (g9 hG rfl h3 hok.1.2) hok.2
  ·cases h1
 ·rename_i c sz z bytes x' y' ho;split at hc
  ·rename_i hcal;split at hc
   ·rename_i x y t u hx ht;simp only [zaa] at hc;obtain ⟨⟨⟨h1,h2⟩,h3⟩,h4⟩:=hc;obtain ⟨e,inf,hu,hi,hsz⟩:=br h1;obtain ⟨e2,inf2,hu2,hi2,_⟩:=br h2;simp at hsz;obtain ⟨⟨⟨g1,g2⟩,g3⟩,g4⟩:=hsz;obtain ⟨⟨hm1,hm2⟩,hok⟩:=hok;have hxx:=g9 hG rfl h3 hm1;have hyy:=g9 hG rfl h4 hm2;split at g3
    ·rename_i zv hz;have hzs:zv.cells.size=inf.size:=by rw [g1]; simpa using g3
     simp only [PO.act];generalize (x'.ev s.e).bare=xv at hxx hok ⊢;generalize (y'.ev s.e).bare=yv at hyy hok ⊢;generalize hsrc:src s.ob yv=so at hok ⊢;unfold vp at hok ⊢;split at hok
     ·rename_i sz' zz sy ys rd;simp only [o3] at hok;obtain ⟨k1,k2,k3,k4⟩:=hok;subst k1; subst k2;exact ayq (ok:=True) hdn hG ho hcal (bf hx) (bf ht) hu hu2 hi hz hzs g1 g2 hxx hyy hsrc k3 k4
     ·rename_i id ver len sy ys rd;split at hok
      ·rename_i sz' z' app wr xs hr;obtain ⟨k1,k2,k3,k4,k5,k6⟩:=hok;subst k1; subst k2; subst k4;exact ayp (ok:=True) (rd':=[]) hG ho hcal (bf hx) (bf ht) hu hu2 hi hz hzs g1 g2 hxx hr k3 hyy hsrc k5 k6
      ·exact hok.elim
     ·exact hok.elim
    ·cases g3
   ·cases hc
  ·cases hc
 ·rename_i c sz x' y' ho;split at hc
  ·rename_i hcal;split at hc
   ·rename_i x y t u hx ht;simp only [zaa] at hc;obtain ⟨⟨⟨h1,h2⟩,h3⟩,h4⟩:=hc;obtain ⟨e,inf,hu,hi,hsz⟩:=br h1;simp only [beq_iff_eq] at hsz;obtain ⟨⟨hm1,hm2⟩,hok⟩:=hok;have hxx:=g9 hG rfl h3 hm1;have hyy:=g9 hG rfl h4 hm2;simp only [PO.act];generalize (x'.ev s.e).bare=xv at hxx hok ⊢;generalize (y'.ev s.e).bare=yv at hyy hok ⊢;generalize hsrc:src s.ob yv=so at hok ⊢;unfold xu at hok ⊢;split at hok
    ·rename_i id ver lo len sy ys rd;split at hok
     ·rename_i sz' z' app wr xs hr;obtain ⟨k1,k2,k3⟩:=hok;subst k1; subst k2; subst k3;exact bee (ok:=True) (rd':=[]) hG ho hcal (bf hx) (bf ht) hu hi hsz hxx hr hyy hsrc
     ·exact hok.elim
    ·exact hok.elim
   ·cases hc
  ·cases hc
 ·rename_i t d x z x' ho;simp only [zaa] at hc;obtain ⟨⟨h1,h2⟩,h3⟩:=hc;obtain ⟨d1,hd1,hdd1⟩:=z6 h1;have e1:d1=.string:=by cases d1<;>first | rfl | cases hdd1
  subst e1;obtain ⟨e,inf,hu,hi,hsz⟩:=br h2;simp only [zaa] at hsz;obtain ⟨d2,hd2,hdd2⟩:=z6 hsz.2
  have e2:d2=.int .u8:=by
   split at hdd2
   ·rfl
   ·cases hdd2
  subst e2;obtain ⟨hm,hok⟩:=hok;have hxx:=g9 hG rfl h3 hm;simp only [PO.act];generalize (x'.ev s.e).bare=xv at hxx hok ⊢;unfold ir at hok ⊢;split at hok
  ·exact ayo (inf:=inf) (ok:=True) hdn hG ho hd1 hu hd2 (k9 hxx) hok
  ·exact hok.elim
 ·rename_i t l c sz z bytes l' c' ho;simp only [zaa] at hc;obtain ⟨⟨h1,h2⟩,h3⟩:=hc;obtain ⟨e,inf,hu,hi,hsz⟩:=br h1;simp only [zaa,beq_iff_eq] at hsz;obtain ⟨⟨⟨g1,g2⟩,g3⟩,g4⟩:=hsz;split at g4
  ·rename_i v hz;simp only [zaa,beq_iff_eq] at g4;obtain ⟨⟨hm1,hm2⟩,hok⟩:=hok;have hxx:=g9 hG rfl h2 hm1;have hyy:=g9 hG rfl h3 hm2;simp only [PO.act];generalize (l'.ev s.e).bare=xv at hxx hok ⊢;generalize (c'.ev s.e).bare=yv at hyy hok ⊢;unfold aey at hok ⊢;split at hok
   ·simp only [o3] at hok;exact beb (ok:=True) hdn hG ho hu hi hz g1 g2 g4.1 g4.2 (k9 hxx) (k9 hyy) hok.1 hok.2.1 hok.2.2.1 hok.2.2.2
   ·exact hok.elim
  ·cases g4
 ·rename_i t r ho;cases r with
  | none=>exact bec hdn hG ho
  | some r=>cases hc
 ·rename_i t x i y str x' i' y' ho;exact amu hG hc0 rfl hok
 ·rename_i c str x' i' ho;exact amu hG hc0 rfl hok
 ·rename_i t x x' ho;simp only [zaa] at hc;obtain ⟨d1,hd1,hdd1⟩:=z6 hc.1;cases d1 with
  | map kt e=>exact bd9 hdn hG ho hd1 (g9 hG rfl hc.2 hok.1) hok.2
  | _=>cases hdd1
 ·rename_i c sz z x' ho;exact amu hG hc0 rfl hok
 ·rename_i c x' y' ho;split at hc
  ·rename_i hcal;split at hc
   ·rename_i x y t u hx ht;simp only [zaa] at hc;obtain ⟨⟨h1,h3⟩,h4⟩:=hc;obtain ⟨e,inf,hu,hi,hsz⟩:=br h1;simp only [beq_iff_eq] at hsz;obtain ⟨⟨hm1,hm2⟩,hok⟩:=hok;have hxx:=g9 hG rfl h3 hm1;have hyy:=g9 hG rfl h4 hm2;simp only [PO.act];generalize (x'.ev s.e).bare=xv at hxx hok ⊢;generalize (y'.ev s.e).bare=yv at hyy hok ⊢;unfold abr at hok ⊢;split at hok
    ·rename_i id ver lo len sv;split at hok
     ·rename_i sz' z' app wr xs hr;obtain ⟨k1,k2⟩:=hok;subst k1; subst k2;exact bef (ok:=True) (rd':=[]) hG ho hcal (bf hx) (bf ht) hu hi hsz hxx hr (k9 hyy) rfl rfl
     ·exact hok.elim
    ·exact hok.elim
   ·cases hc
  ·cases hc
 ·rename_i t u x x' ho;simp only [zaa,beq_iff_eq] at hc;obtain ⟨⟨h1,rfl⟩,h3⟩:=hc;obtain ⟨e,inf,hu,hi,hsz⟩:=br h1;obtain ⟨d2,hd2,hdd2⟩:=z6 hsz
  have e2:d2=.int .u8:=by
   split at hdd2
   ·rfl
   ·cases hdd2
  subst e2;obtain ⟨hm,hok⟩:=hok;have hxx:=g9 hG rfl h3 hm;simp only [PO.act];generalize (x'.ev s.e).bare=xv at hxx hok ⊢;unfold abj at hok ⊢;split at hok
  ·split at hok
   ·rename_i sz' z' app wr xs hr;obtain ⟨k1,k2,k3⟩:=hok;subst k1; subst k2;exact bea (ok:=True) (rd':=[]) hG ho hu hd2 hxx hr k3
   ·exact hok.elim
  ·exact hok.elim
 ·cases hc
end

end Go.Ev

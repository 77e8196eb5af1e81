import Derived.Maps.RangeRun
import Derived.Test.YtocfnfcflljooaaGreatM1
open Bool renaming and_eq_true → zaa
open Option renaming isSome_iff_exists → zab
open Array renaming getElem?_eq_some_iff → zac
open List renaming modify_toArray → zad
namespace Go.Ev
set_option maxHeartbeats 8000000
set_option maxRecDepth 100000
open Go
set_option linter.unusedSectionVars false
set_option linter.unnecessarySimpa false
set_option linter.unusedVariables false
set_option linter.unusedSimpArgs false
section
variable {P:Program} {X:Cx} {w w':World} {s:St} {ρ ρ':Pl->Option Nat} {a:Act} {o:Oper} {ob ob':Obs} {R R':Nat->Prop}
theorem abl {ob:Obs} {id ver:Nat} {es:List MapEntry} {c:Nat} (h:n7 ob id ver=some (es,c)):ob id=some (ver,.map es c):=by
 unfold n7 at h;split at h
 ·rename_i v d c' a;split at h
  ·rename_i b; cases h; rw [a,b]
  cases h
 cases h
theorem aei {ob:Obs} {id ver:Nat} {m:AV} {a c:Nat} {b:List Nat} (h:aq ob id ver=some (m,a,b,c)):ob id=some (ver,.iter m a b c):=by
 unfold aq at h;split at h
 ·rename_i v m' s' e' f d;split at h
  ·rename_i e; cases h; rw [d,e]
  cases h
 cases h
theorem al {b c:Nat} {es:Array MapEntry} (a:w.heap[b]?=some (.map es c)):(getObj b).run P w=.ok (.map es c) w:=by simp [getObj,Sem.run,a]
theorem iq {b c:Nat} {es:Array MapEntry} (y:Obj) (a:w.heap[b]?=some (.map es c)):(setObj b y).run P w=.ok () { w with heap:=w.heap.setIfInBounds b y }:=by simp [setObj,Sem.run,a]
theorem ua (v:Value):RelV w R (gm v) v:=by
 unfold gm;split
 ·rename_i cs;refine .agg _ _ (by simp) λ i x c hx hc=>?_;rw [List.getElem?_map,Option.map_eq_some_iff] at hx;obtain ⟨y,hy,rfl⟩:=hx;rw [Array.getElem?_toList] at hy;rw [hc] at hy;cases hy;exact .v _
 exact .v _
theorem asa {v:Value} {x:RV} (h:eqr v x=true) (hx:∃y,x=.v y):RelV w R x v:=by
 obtain ⟨y,rfl⟩:=hx
 have:eqv v y=true:=by
  cases v with
  | slice a l c=>rcases a with _ | a<;>rcases l with _ | l<;>rcases c with _ | c<;>exact h
  | _=>exact h
 rw [agr this];exact .v _
theorem ack {z:RV} {e:TypeId} (h:uv P z e=true):∃i v,P.info? e=some i/\i.zero=some v/\∀(w:World) (R:Nat->Prop),RelV w R z v:=by
 unfold uv at h;split at h
 ·rename_i i d;split at h
  ·rename_i v f;refine ⟨i,v,d,f,λ w R=>?_⟩;split at h
   ·rename_i cs xs;simp only [zaa] at h;obtain ⟨a,b⟩:=h;refine .agg _ _ (by rw [<- gr a]; simp) λ j x c hx hc=>?_;refine asa (xz a (by simpa using hc) hx) ?_;have:=List.all_eq_true.1 b x (List.mem_of_getElem? hx);cases x<;>simp at this;exact ⟨_,rfl⟩
   ·rw [agr h]; exact .v _
   cases h
  cases h
 cases h
def an3 (P:Program) (k:TypeId) (v:Value):Prop:=(∃q a n,P.underlying k=some (.int q)/\v=.int a n)\/(∃t,P.underlying k=some .string/\v=.string t)
theorem abn {t:TypeId} {str:Bool} {f:TypeId->Bool} (h:up P t str f=true):∃k e,P.underlying t=some (.map k e)/\f e=true/\∀v,bg str v=true->an3 P k v:=by
 unfold up at h;split at h
 ·rename_i k e d;simp only [zaa] at h;refine ⟨k,e,d,h.2,λ v b=>?_⟩;have a:=h.1;split at a
  ·rename_i q c;cases v<;>simp [bg] at b
   ·exact .inl ⟨q,_,_,c,rfl⟩
   rw [b] at a; cases a
  ·rename_i c;cases v<;>simp [bg] at b
   ·rw [b] at a; cases a
   exact .inr ⟨_,c,rfl⟩
  cases a
 cases h
theorem aeo {q a:IntKind} {n:Int}:∀(es:List MapEntry) (i:Nat),Instr.findNow (.int a) (.int q n) es i=z8 (.int q n) es i
 | [],i=>rfl
 | e::es,i=>by
   have h:Instr.sameNow (.int a) (.int q n) e.key=kr (.int q n) e.key:=by cases e.key<;>rfl
   simp only [Instr.findNow,z8,h];rcases kr (.int q n) e.key with _ | b
   ·rfl
   cases b
   ·exact aeo es (i+1)
   rfl
theorem aen {t:ByteArray}:∀(es:List MapEntry) (i:Nat),Instr.findNow .string (.string t) es i=z8 (.string t) es i
 | [],i=>rfl
 | e::es,i=>by
   have h:Instr.sameNow .string (.string t) e.key=kr (.string t) e.key:=by cases e.key<;>rfl
   simp only [Instr.findNow,z8,h];rcases kr (.string t) e.key with _ | b
   ·rfl
   cases b
   ·exact aen es (i+1)
   rfl
theorem dn {k:TypeId} {v:Value} {es:List MapEntry} {r:Option (Nat×Value)} (c:an3 P k v) (b:z8 v es 0=some r):(Instr.findKey k v es).run P w=.ok r w:=by
 rcases c with ⟨q,d,n,a,rfl⟩ | ⟨t,a,rfl⟩
 ·simp [Instr.findKey,run_underlying a,aeo,b]
 simp [Instr.findKey,run_underlying a,aen,b]
theorem aij {k:TypeId} {v:Value} {b:Bool} (n:Nat) (c:an3 P k v):(Instr.checkKey b (n+1) k v).run P w=.ok () w:=by
 rcases c with ⟨q,d,n,a,rfl⟩ | ⟨t,a,rfl⟩
 ·simp [Instr.checkKey,run_underlying a]
 simp [Instr.checkKey,run_underlying a]
theorem bw {k:TypeId} {v:Value} {b:Bool} (a:an3 P k v):(Instr.checkKey b 10000 k v).run P w=.ok () w:=aij 9999 a
theorem Gam.mapB (j:Gam X s ρ a w) {id ver:Nat} {es:List MapEntry} {c:Nat} {v:Value} (i:n7 s.ob id ver=some (es,c)) (h:RA X s ρ w (.mp id ver) v):∃b,ρ id=some b/\v=.map (some b)/\w.heap[b]?=some (.map es.toArray c):=by
 have d:=abl i;cases h;rename_i hc h;obtain ⟨b,e,rfl⟩:=h.live d;obtain ⟨k,f,g⟩:=j.obj id ver _ d;rw [e] at f;cases f;exact ⟨b,e,rfl,g⟩
theorem xe {k:Value}:∀{es:List MapEntry} {i j:Nat} {v:Value},z8 k es i=some (some (j,v))->i<=j/\∃e,es[j-i]?=some e/\e.val=v/\kr k e.key=some true
 | [],i,j,v,h=>by cases h
 | e::es,i,j,v,h=>by
   simp only [z8] at h;split at h
   ·rename_i c;cases h;exact ⟨Nat.le_refl _,e,by simp,rfl,c⟩
   ·obtain ⟨f,e',a,b,d⟩:=xe h;refine ⟨by omega,e',?_,b,d⟩;rw [show j-i=(j-(i+1))+1 by omega,List.getElem?_cons_succ];exact a
   cases h
theorem at8 {g:Bool} (I:g=true) {str d:Bool} {z:RV} {t:TypeId} {x i:Operand} {u k:AV} (R:Gam X s ρ a w) (Q:o.op=.lookup t x i d) (W:up P t str (uv P z)=true) (hx:RA X s ρ w u (a.eval x)) (S:RA X s ρ w k (a.eval i))
 (f:(sa g str z d u k s.ob).ok):l4 P X a w s ρ o (sa g str z d u k s.ob).v:=by
 obtain ⟨Y,e,K,T,p⟩:=abn W;obtain ⟨inf,J,M,C,D⟩:=ack T;unfold sa at f |-;split at f
 ·rename_i id ver H;rcases hmp:n7 s.ob id ver with _ | ⟨es,c⟩
  ·rw [hmp] at f; exact (f I).elim
  rw [hmp] at f;simp only [ov] at f |-;obtain ⟨V,U⟩:=f I;obtain ⟨b,O,N,L⟩:=R.mapB hmp hx;have F:=i9 S;have A:=p H V;obtain ⟨r,m⟩:=zab.1 U;have l:(zeroValue e).run P w=.ok J w:=by simp [zeroValue,typeInfo,M,C]
  have q:∃val ok,(Instr.lookup t (a.eval x) (a.eval i) d).run P w=.ok (if d then .tuple #[val,.bool ok] else val) w/\ok=lkB es H/\RelV w (d6 X.B s.ob ρ w) (lkR es H z) val:=by
   rw [N,F];rcases r with _ | ⟨j,val⟩
   ·refine ⟨J,false,?_,by simp [lkB,m],by simp only [lkR,m]; exact D _ _⟩;simp [Instr.lookup,run_underlying K,al L,bw A,dn A m,l]
   refine ⟨val,true,?_,by simp [lkB,m],by simp only [lkR,m]; exact ua _⟩;simp [Instr.lookup,run_underlying K,al L,bw A,dn A m]
  obtain ⟨val,E,n,G,h⟩:=q;refine ⟨if d then .tuple #[val,.bool E] else val,?_,?_⟩
  ·simp only [execOp,Q,Sem.run_bind,n,Result.andThen_ok,Sem.run_pure]
  cases d with
  | false=>exact .r h
  | true=>
    subst G;refine .tup _ _ rfl λ i y c hy hc=>?_
    match i with
    | 0=>simp at hy hc; subst hy; subst hc; exact .r h
    | 1=>simp at hy hc; subst hy; subst hc; exact .r (.v _)
    | i+2=>simp at hy
 exact (f.2 I).elim
theorem aq7 {g:Bool} (h:g=true) {t:TypeId} {x:Operand} {c:Call} {u:AV} {p e:TypeId} (n:Gam X s ρ a w) (m:o.op=.call c) (hc:c.callee=.builtin .len) (j:c.args=#[x]) (f:c.argTypes=#[t]) (l:P.underlying t=some (.map p e))
 (hx:RA X s ρ w u (a.eval x)) (d:(lc g u s.ob).ok):l4 P X a w s ρ o (lc g u s.ob).v:=by
 unfold lc at d |-;split at d
 ·rename_i id ver;rcases hmp:n7 s.ob id ver with _ | ⟨es,y⟩
  ·rw [hmp] at d; exact (d h).elim
  obtain ⟨b,k,i,q⟩:=n.mapB hmp hx;simp only [ov];refine ⟨.int .i64 es.length,?_,.r (.v _)⟩;simp [execOp,m,resolve,hc,j,f,invoke,builtin,Builtin.len_,run_underlying l,i,al q,goInt]
 exact (d.2 h).elim
theorem aib {t:TypeId} (h:aaq P t=true):∃d,P.underlying t=some d/\∀a,d≠.interface a:=by
 unfold aaq at h;split at h
 ·cases h
 ·rename_i d c b;exact ⟨d,b,λ a e=>c a e⟩
 cases h
theorem at7 {t:TypeId} {x:Operand} {u:AV} (b:o.op=.makeInterface t x) (hc:aaq P t=true) (hx:RA X s ρ w u (a.eval x)):l4 P X a w s ρ o (.ifc t u):=by
 obtain ⟨d,e,c⟩:=aib hc;refine ⟨.iface t (a.eval x),?_,.ifc t hx⟩
 have:(Instr.makeInterface t (a.eval x)).run P w=.ok (.iface t (a.eval x)) w:=by
  simp only [Instr.makeInterface,Sem.run_bind,run_underlying e,Result.andThen_ok];cases d<;>first | rfl | exact absurd rfl (c _)
 simp only [execOp,b,Sem.run_bind,this,Result.andThen_ok,Sem.run_pure]
theorem at2 {g:Bool} (C:g=true) {t q:TypeId} {z:RV} {b:Bool} {x:Operand} {u:AV} (F:o.op=.typeAssert x q t b) (hc:aaq P t=true) (G:uv P z t=true) (hx:RA X s ρ w u (a.eval x)) (f:(tt g t z b u).1):l4 P X a w s ρ o (tt g t z b u).2:=by
 obtain ⟨d,E,A⟩:=aib hc;obtain ⟨inf,B,D,m,n⟩:=ack G;unfold tt at f |-;split at f
 ·rename_i k y;generalize p:a.eval x=v at hx;cases hx;rename_i c hy
  have j:(Instr.typeAssert (.iface k c) q t b).run P w=.ok (if k=t then (if b then .tuple #[c,.bool true] else c) else .tuple #[B,.bool false]) w:=by
   simp only [Instr.typeAssert,Sem.run_bind,run_underlying E,Result.andThen_ok];by_cases h:k=t
   ·subst h;cases d<;>first | (simp; done) | exact absurd rfl (A _)
   have l:b=true:=(f C).resolve_left h;subst l;cases d<;>first | (simp [h,zeroValue,typeInfo,D,m]; done) | exact absurd rfl (A _)
  refine ⟨if k=t then (if b then .tuple #[c,.bool true] else c) else .tuple #[B,.bool false],by simp only [execOp,F,p,Sem.run_bind,j,Result.andThen_ok,Sem.run_pure],?_⟩;by_cases h:k=t
  ·simp only [h,if_true];cases b with
   | false=>exact hy
   | true=>
     refine .tup _ _ rfl λ i y c e hc=>?_
     match i with
     | 0=>simp at e hc; subst e; subst hc; exact hy
     | 1=>simp at e hc; subst e; subst hc; exact .r (.v _)
     | i+2=>simp at e
  simp only [h,if_false];refine .tup _ _ rfl λ i y c e hc=>?_
  match i with
  | 0=>simp at e hc; subst e; subst hc; exact .r (n _ _)
  | 1=>simp at e hc; subst e; subst hc; exact .r (.v _)
  | i+2=>simp at e
 exact (f C).elim
theorem auh {g:Bool} (z:g=true) {x:Operand} {u:AV} (L:Gam X s ρ a w) (S:o.op=.entry x) (hx:RA X s ρ w u (a.eval x)) (d:(qg g u s.ob).ok):l4 P X a w s ρ o (qg g u s.ob).v:=by
 unfold qg at d |-;split at d
 ·rename_i id ver;rcases hit:aq s.ob id ver with _ | ⟨m,K,t,st⟩
  ·rw [hit] at d; exact (d z).elim
  rw [hit] at d;have p:=aei hit;generalize H:a.eval x=v at hx;cases hx;rename_i U h;obtain ⟨b,C,rfl⟩:=h.live p;obtain ⟨Z,bm,M,V,W⟩:=L.obj id ver _ p;rw [C] at M; cases M;unfold oz at d |-;split at d
  ·rename_i G q A I Y E;cases E;rcases hmp:n7 s.ob G q with _ | ⟨es,c⟩
   ·rw [hmp] at d; exact (d z).elim
   rw [hmp] at d;obtain ⟨T,O,J,B⟩:=L.mapB hmp W;cases J;simp only [qf] at d |-;obtain ⟨D,F⟩:=d z;subst D;obtain ⟨e,Q⟩:=zab.1 F;have j:=Q;unfold aj9 at j;split at j
   ·rename_i N R;have l:t.toArray.back?=some N:=by simpa using R
    have k:es.toArray.find? (λ e=>e.born == N)=some e:=by simpa using j
    have n:(Instr.entry (.pointer (some ⟨b,0,none⟩))).run P w=.ok (.tuple #[e.key,e.val]) w:=by
     simp only [Instr.entry,getObj,Sem.run_bind,Sem.run,V,B,Result.andThen,l,bne_self_eq_false,Bool.false_eq_true,if_false,k]
     rfl
    refine ⟨.tuple #[e.key,e.val],by simp only [execOp,S,H,Sem.run_bind,n,Result.andThen_ok,Sem.run_pure],?_⟩;rw [Q];refine .tup _ _ rfl λ i y c f hc=>?_
    match i with
    | 0=>simp at f hc; subst f; subst hc; exact .r (ua _)
    | 1=>simp at f hc; subst f; subst hc; exact .r (ua _)
    | i+2=>simp at f
   cases j
  exact (d z).elim
 exact (d.2 z).elim
theorem aiy {R:Nat->Prop}:∀{xs:List RV} {l:List Value},tp xs=some l->l.length=xs.length/\∀(i:Nat) (x:RV) (c:Value),xs[i]?=some x->RelV w R x c->l[i]?=some c
 | [],l,h=>by cases h; exact ⟨rfl,λ i x c hx=>by simp at hx⟩
 | .v y::xs,l,h=>by
   simp only [tp] at h;split at h
   ·rename_i f e;cases h;obtain ⟨b,d⟩:=aiy (R:=R) e;refine ⟨by simp [b],λ i x c hx a=>?_⟩;cases i with
    | zero=>simp at hx; subst hx; cases a; rfl
    | succ i=>simp at hx; simpa using d i x c hx a
   cases h
 | .agg _::_,l,h=>by cases h
 | .sl _ _::_,l,h=>by cases h
theorem aiz:∀{xs:List AV} {l:List Value},tq xs=some l->l.length=xs.length/\∀(i:Nat) (x:AV) (c:Value),xs[i]?=some x->RelA w R ob ρ x c->l[i]?=some c
 | [],l,h=>by cases h; exact ⟨rfl,λ i x c hx=>by simp at hx⟩
 | y::xs,l,h=>by
   unfold tq at h;split at h
   ·rename_i a; cases a
   ·rename_i v f a;cases a;split at h
    ·rename_i j g;cases h;obtain ⟨d,e⟩:=aiz g;refine ⟨by simp [d],λ i x c hx b=>?_⟩;cases i with
     | zero=>simp at hx; subst hx; cases b; rename_i b; cases b; rfl
     | succ i=>simp at hx; simpa using e i x c hx b
    cases h
   cases h
theorem aqv {cs:Array Value} {l:List Value} (d:l.length=cs.size) (h:∀(i:Nat) (c:Value),cs[i]?=some c->l[i]?=some c):cs=l.toArray:=by
 apply Array.ext (by simp [d]);intro i b a;have:=h i cs[i] (by simp [b]);simp at a;rw [List.getElem?_eq_getElem a] at this;simpa using (Option.some.inj this).symm
theorem ala {x:AV} {v c:Value} (h:toV x=some v) (hx:RelA w R ob ρ x c):c=v:=by
 unfold toV at h;split at h
 ·cases h; cases hx; rename_i hx; cases hx; rfl
 ·rename_i xs;unfold gx at h;split at h
  ·rename_i l f;cases h;cases hx; rename_i hx; cases hx;rename_i cs b a;obtain ⟨g,d⟩:=aiy (w:=w) (R:=R) f;congr 1;refine aqv (by omega) λ i c hc=>?_;have e:=(zac.1 hc).1;exact d i (xs[i]'(by omega)) c (by simp [show i<xs.length by omega]) (a i _ c (by simp [show i<xs.length by omega]) hc)
  cases h
 ·rename_i xs;unfold gx at h;split at h
  ·rename_i l f;cases h;cases hx;rename_i cs b a;obtain ⟨g,d⟩:=aiz (w:=w) (R:=R) (ob:=ob) (ρ:=ρ) f;congr 1;refine aqv (by omega) λ i c hc=>?_;have e:=(zac.1 hc).1;exact d i (xs[i]'(by omega)) c (by simp [show i<xs.length by omega]) (a i _ c (by simp [show i<xs.length by omega]) hc)
  cases h
 cases h
theorem ae8 {b:Nat} {x y:Obj} (h:w.heap[b]?=some x):Mods w { w with heap:=w.heap.setIfInBounds b y } b y:=by
 have a:=(zac.1 h).1;exact ⟨rfl,rfl,rfl,by simp,by simp [a],λ k c=>by simp [Array.getElem?_setIfInBounds_ne (Ne.symm c)]⟩
theorem afl {id ver:Nat} {es d:List MapEntry} {c c':Nat} {v:Value} {ok:Prop} {nx:Next} (m:Gam X s ρ a w) (n:n7 s.ob id ver=some (es,c)) (hx:RA X s ρ w (.mp id ver) v)
 (f:∀b,v=.map (some b)->w.heap[b]?=some (.map es.toArray c)->(execOp a.eval o).run P w=.ok nx { w with heap:=w.heap.setIfInBounds b (.map d.toArray c') })
 (j:(∃u,nx=.value u)\/nx=.skip):dk P X a w s o ⟨ok,.undef,upd id (ver,.map d c') s.ob,[id],[id]⟩:=by
 obtain ⟨b,g,p,l⟩:=m.mapB n hx;have k:=abl n;have i:=ae8 (y:=.map d.toArray c') l;refine ⟨nx,_,ρ,f b p l,m.modifyG k rfl g i (λ cs e fr h=>by rw [l] at h; cases h) ver (.inl ⟨rfl,trivial⟩) (.inr ⟨rfl,trivial,λ _=>rfl⟩) ⟨b,g,i.new⟩,?_⟩;rcases j with ⟨u,rfl⟩ | rfl
 ·exact .inl ⟨u,rfl,.undef _⟩
 exact .inr ⟨rfl,rfl⟩
theorem a0h {a b:ByteArray} (h:(a == b)=true):a=b:=by
 cases a; cases b;have:(ByteArray.mk _).beq (ByteArray.mk _)=true:=h;simpa [ByteArray.beq] using this
theorem av3 (a:ByteArray):(a == a)=true:=by
 show a.beq a=true;simp [ByteArray.beq]
theorem akt {k c:Value} (n:Nat) (h:kr k c=some true):Instr.sameBits n c k=true:=by
 unfold kr at h;split at h
 ·split at h
  ·rename_i e;simp at h;subst e; subst h;simp [Instr.sameBits]
  cases h
 ·rename_i a b;have d:(a == b)=true:=by simpa using h
  rw [a0h d];simp [Instr.sameBits,av3]
 cases h
theorem afu {k a:Value} (h:kr k a=some true):Instr.sameBits 10000 a k=true:=akt 10000 h
theorem ass {str:Bool} {t:TypeId} {x i y:Operand} {u k q:AV} (H:Gam X s ρ a w) (G:o.op=.mapUpdate t x i y) (L:up P t str (λ _=>true)=true) (hx:RA X s ρ w u (a.eval x)) (I:RA X s ρ w k (a.eval i)) (hy:RA X s ρ w q (a.eval y))
 (d:(kw str u k q s.ob).ok):dk P X a w s o (kw str u k q s.ob):=by
 obtain ⟨O,e,C,_,h⟩:=abn L;unfold kw at d |-;split at d
 ·rename_i id ver m;unfold pq at d |-;split at d
  ·rename_i v E;rcases hmp:n7 s.ob id ver with _ | ⟨es,c⟩
   ·rw [hmp] at d; exact d.elim
   rw [hmp] at d;simp only [kp] at d |-;obtain ⟨K,J⟩:=d;have p:=h m K;obtain ⟨r,l⟩:=zab.1 J;have A:=i9 I;have z:=ala E hy;refine afl (ok:=_) (nx:=.skip) H hmp hx (λ b B n=>?_) (.inr rfl)
   have g:(Instr.mapUpdate t (a.eval x) (a.eval i) (a.eval y)).run P w=.ok () { w with heap:=w.heap.setIfInBounds b (.map (y7 es c m v).toArray (v5 es c m)) }:=by
    rw [B,A,z];rcases r with _ | ⟨j,val⟩
    ·simp only [y7,v5,l];simp [Instr.mapUpdate,run_underlying C,al n,bw p,dn p l,iq _ n]
    obtain ⟨_,M,D,N,F⟩:=xe l;rw [Nat.sub_zero] at D;simp only [y7,v5,l];have f:(Instr.keyThatStays M.key m).run P w=.ok m w:=by simp [Instr.keyThatStays,afu F]
    simp [Instr.mapUpdate,run_underlying C,al n,bw p,dn p l,D,f,iq _ n,zad]
   simp only [execOp,G,Sem.run_bind,g,Result.andThen_ok,Sem.run_pure]
  exact d.elim
 exact d.elim
theorem ast {t:TypeId} {x i y:Operand} {u k q:AV} (z:Gam X s ρ a w) (r:o.op=.entryStore t x i y) (hx:RA X s ρ w u (a.eval x)) (A:RA X s ρ w k (a.eval i)) (hy:RA X s ρ w q (a.eval y))
 (d:(ad1 u k q s.ob).ok):dk P X a w s o (ad1 u k q s.ob):=by
 unfold ad1 at d |-;split at d
 ·rename_i id ver B n;unfold aik at d |-;split at d
  ·rename_i v p;rcases hmp:n7 s.ob id ver with _ | ⟨es,c⟩
   ·rw [hmp] at d; exact d.elim
   rw [hmp] at d;simp only [kp] at d |-;have g:=i9 A;have f:=ala p hy;refine afl (ok:=_) (nx:=.skip) z hmp hx (λ b h m=>?_) (.inr rfl);obtain ⟨j,l⟩:=zab.1 d
   have e:(Instr.entryStore t (a.eval x) (a.eval i) (a.eval y)).run P w=.ok () { w with heap:=w.heap.setIfInBounds b (.map (agb es n v).toArray c) }:=by
    rw [h,g,f];simp only [agb,l];simp [Instr.entryStore,al m,asInt,asIntOf,l,iq _ m,zad]
   simp only [execOp,r,Sem.run_bind,e,Result.andThen_ok,Sem.run_pure]
  exact d.elim
 exact d.elim
theorem asu {str:Bool} {z:RV} {t:TypeId} {x i:Operand} {u k:AV} (L:Gam X s ρ a w) (S:o.op=.mapEntry t x i) (Y:up P t str (uv P z)=true) (hx:RA X s ρ w u (a.eval x)) (T:RA X s ρ w k (a.eval i))
 (d:(abk str z u k s.ob).ok):dk P X a w s o (abk str z u k s.ob):=by
 obtain ⟨kt,e,K,U,A⟩:=abn Y;obtain ⟨inf,n,N,F,G⟩:=ack U;unfold abk at d |-;split at d
 ·rename_i id ver f;cases z with
  | v zv'=>
    rcases hmp:n7 s.ob id ver with _ | ⟨es,c⟩
    ·rw [hmp] at d; exact d.elim
    rw [hmp] at d;simp only [agc] at d |-;obtain ⟨W,V⟩:=d;have E:=A f W;obtain ⟨r,l⟩:=zab.1 V;have I:=i9 T
    have J:n=zv':=by
     have:=G w (λ _=>False);cases this
     rfl
    subst J;have m:(zeroValue e).run P w=.ok n w:=by simp [zeroValue,typeInfo,N,F]
    obtain ⟨b,q,O,p⟩:=L.mapB hmp hx;have H:=abl hmp;have D:=ae8 (y:=.map (xg es c f n).toArray (v5 es c f)) p
    obtain ⟨val,C,B⟩:∃val,(Instr.mapEntry t (a.eval x) (a.eval i)).run P w=.ok (.tuple #[val,.int .i64 (xf es c f)]) { w with heap:=w.heap.setIfInBounds b (.map (xg es c f n).toArray (v5 es c f)) }/\∀w R,RelV w R (lkR es f (.v n)) val:=by
     rw [O,I];rcases r with _ | ⟨j,val⟩
     ·refine ⟨n,?_,λ w R=>by simp only [lkR,l]; exact .v _⟩;simp only [xg,xf,v5,l];simp [Instr.mapEntry,run_underlying K,al p,bw E,dn E l,m,iq _ p,goInt]
     obtain ⟨_,Z,M,g2,Q⟩:=xe l;rw [Nat.sub_zero] at M;have g:(Instr.keyThatStays Z.key f).run P w=.ok f w:=by simp [Instr.keyThatStays,afu Q]
     refine ⟨val,?_,λ w R=>by simp only [lkR,l]; exact ua _⟩;simp only [xg,xf,v5,l];simp [Instr.mapEntry,run_underlying K,al p,bw E,dn E l,M,g,iq _ p,zad,goInt]
    refine ⟨.value (.tuple #[val,.int .i64 (xf es c f)]),_,ρ,by simp only [execOp,S,Sem.run_bind,C,Result.andThen_ok,Sem.run_pure],L.modifyG H rfl q D (λ cs e fr h=>by rw [p] at h; cases h) ver (.inl ⟨rfl,trivial⟩) (.inr ⟨rfl,trivial,λ _=>rfl⟩) ⟨b,q,D.new⟩,.inl ⟨_,rfl,?_⟩⟩;refine .tup _ _ rfl λ i y c' hy hc=>?_
    match i with
    | 0=>simp at hy hc; subst hy; subst hc; exact .r (B _ _)
    | 1=>simp at hy hc; subst hy; subst hc; exact .r (.v _)
    | i+2=>simp at hy
  | _=>exact d.elim
 exact d.elim
theorem asv {str:Bool} {t F:TypeId} {x i:Operand} {u k:AV} {c:Call} (D:Gam X s ρ a w) (C:o.op=.call c) (hc:c.callee=.builtin .delete) (B:c.args=#[x,i]) (q:c.argTypes=#[t,F]) (I:up P t str (λ _=>true)=true) (hx:RA X s ρ w u (a.eval x)) (E:RA X s ρ w k (a.eval i))
 (d:(la str u k s.ob).ok):dk P X a w s o (la str u k s.ob):=by
 obtain ⟨K,e,y,_,g⟩:=abn I;unfold la at d |-;split at d
 ·rename_i id ver A;rcases hmp:n7 s.ob id ver with _ | ⟨es,J⟩
  ·rw [hmp] at d; exact d.elim
  rw [hmp] at d;simp only [kp] at d |-;obtain ⟨H,G⟩:=d;have p:=g A H;obtain ⟨r,l⟩:=zab.1 G;have h:=i9 E;refine afl (ok:=_) (nx:=.value (.tuple #[])) D hmp hx (λ b m n=>?_) (.inl ⟨_,rfl⟩)
  have f:(Builtin.delete_ c.argTypes o.type (c.args.map a.eval)).run P w=.ok (.tuple #[]) { w with heap:=w.heap.setIfInBounds b (.map (y8 es A).toArray J) }:=by
   rw [B,q];rcases r with _ | ⟨j,val⟩
   ·simp only [y8,l];simp [Builtin.delete_,run_underlying y,m,h,al n,bw p,dn p l,iq _ n]
   obtain ⟨_,L,z,_⟩:=xe l;rw [Nat.sub_zero] at z;have v:=(List.getElem?_eq_some_iff.1 z).1;simp only [y8,l];simp [Builtin.delete_,run_underlying y,m,h,al n,bw p,dn p l,iq _ n,Array.eraseIdxIfInBounds,v]
  simp only [execOp,C,resolve,hc,Sem.run_bind,Sem.run_pure,Result.andThen_ok,invoke,builtin,f]
 exact d.elim
theorem awb {d:Nat} {t:TypeId} {ok:Prop} (c:d<X.n) (f:Gam X s ρ a w) (e:o.op=.makeMap t none):dk P X a w s o (m0 s.ob d (.map [] 0) (λ v=>.mp d v) ok [] []):=by
 have b:(execOp a.eval o).run P w=.ok (.value (.map (some w.heap.size))) (w.alloc (.map #[] 0)):=by
  simp [execOp,e,Instr.makeMap]
 refine mf c f (u6 _) b ?_ (.mp _ _ _ rfl (gc ⟨_,by simp [m5],rfl⟩));exact ⟨w.heap.size,by simp [m5],(u6 _).new⟩
theorem av8 {d:Nat} {t z e:TypeId} {x:Operand} {u:AV} (k:d<X.n) (m:Gam X s ρ a w) (y:o.op=.range t x) (r:P.underlying t=some (.map z e)) (hx:RA X s ρ w u (a.eval x)) (f:(pu d u s.ob).ok):dk P X a w s o (pu d u s.ob):=by
 unfold pu at f |-;split at f
 ·rename_i i g;rcases hmp:n7 s.ob i g with _ | ⟨es,c⟩
  ·rw [hmp] at f; exact f.elim
  obtain ⟨b,q,p,A⟩:=m.mapB hmp hx;simp only [vp]
  have j:(execOp a.eval o).run P w=.ok (.value (.pointer (some ⟨w.heap.size,0,none⟩))) (w.alloc (.mapIter (some b) c #[] c)):=by
   simp [execOp,y,Instr.range,run_underlying r,p,al A]
  have l:=Stays.alloc m (u6 (.mapIter (some b) c #[] c)) d (nv s.ob d) (λ v o h=>rn h) (.iter (.mp i g) c [] c);refine mf (rd:=[i]) k m (u6 _) j ?_ (.ptr _ _ _ _ rfl (gc ⟨_,by simp [m5],rfl⟩));refine ⟨w.heap.size,b,by simp [m5],(u6 _).new,?_⟩;rw [<- p];exact hx.stays l
 exact f.elim
end

section
variable {P:Program} {X:Cx} {w w':World} {s:St} {ρ ρ':Pl->Option Nat} {a:Act} {o:Oper}
theorem z9 {t:TypeId} {f:TypeId->TypeInfo->Bool} (h:bj P t f=true):∃e i,P.underlying t=some (.slice e)/\P.info? e=some i/\f e i=true:=by
 unfold bj at h;split at h
 ·rename_i e b;split at h
  ·rename_i i a;exact ⟨e,i,b,a,h⟩
  cases h
 cases h
theorem u5 {t:TypeId} {f:TypeDesc->Bool} (h:v6 P t f=true):∃d,P.underlying t=some d/\f d=true:=by
 unfold v6 at h;split at h
 ·rename_i d a;exact ⟨d,a,h⟩
 cases h
theorem agq {t:TypeId} {k:Nat} {f:Go.Field->TypeInfo->Bool} (h:ad5 P t k f=true):∃b a i,P.underlying t=some (.struct b)/\b[k]?=some a/\P.info? a.type=some i/\f a i=true:=by
 unfold ad5 at h;split at h
 ·rename_i b e;split at h
  ·rename_i a c;split at h
   ·rename_i i d;exact ⟨b,a,i,e,c,d,h⟩
   cases h
  cases h
 cases h
theorem aau {g:Bool} (c:Gam X s ρ a w) (d:g=true) {x:Option Operand} {y:Option Opd} (h:ae4 x y=true) (b:PO.see.mayO g s.e y):RAO X s ρ w a x (PO.see.bareO s.e y):=by
 unfold ae4 at h;split at h
 ·trivial
 ·exact d5 c d h b
 cases h
theorem xw {g:Bool} (d:Gam X s ρ a w) (f:g=true):∀{xs:List Operand} {ys:List Opd},q9 opd xs ys=true->ae g s.e ys->(k7 s.e ys).length=xs.length/\∀(i:Nat) (x:AV) (y:Operand),(k7 s.e ys)[i]?=some x->xs[i]?=some y->RA X s ρ w x (a.eval y)
 | [],[],_,_=>⟨rfl,by simp [k7]⟩
 | x::xs,y::ys,h,hm=>by
   simp [q9] at h;obtain ⟨k,j⟩:=xw d f h.2 hm.2;refine ⟨by simp [k7,k],λ i p q c b=>?_⟩;cases i with
   | zero=>simp [k7] at c b; subst c; subst b; exact d5 d f h.1 hm.1
   | succ i=>simp [k7] at c b; exact j i p q c b
 | [],_::_,h,_=>by cases h
 | _::_,[],h,_=>by cases h
theorem y6 {a:Type} {xs:Array a} {l:List a} (h:xs.toList=l):xs=l.toArray:=by rw [<- h]
theorem auk {g:Bool} (h:g=true) {po:PO} (p:Gam X s ρ a w) (hc:ake P o po=true) (b:(po.see g s.e s.ob).ok):l4 P X a w s ρ o (po.see g s.e s.ob).v:=by
 unfold ake at hc;split at hc
 ·rename_i x y l;refine ⟨_,?_,d5 p h hc b.1⟩;simp only [execOp,l,Sem.run_pure]
 ·rename_i x y l;refine ⟨_,?_,d5 p h hc b.1⟩;simp only [execOp,l,Sem.run_pure]
 ·rename_i c x y c' x' V l;simp only [zaa] at hc;exact aq6 h l (d5 p h hc.1.1 b.1) (ady p.env hc.1.2) (ady p.env hc.2) b.2
 ·rename_i op t x y ty h7 x' V l;simp only [zaa,beq_iff_eq] at hc;obtain ⟨⟨rfl,j⟩,q⟩:=hc;exact aui h l (d5 p h j b.1.1) (d5 p h q b.1.2) b.2
 ·rename_i op t x y ty C x' V l;simp only [zaa] at hc;obtain ⟨⟨⟨Q,j⟩,q⟩,u⟩:=hc;obtain ⟨d,E,r⟩:=u5 j;have H:op=if C=true then .neq else .eql:=by cases C<;>simpa using Q
  have h8:d=.bool:=by cases d<;>first | rfl | cases r
  subst h8;exact auj h l H E (d5 p h q b.1.1) (d5 p h u b.1.2) b.2
 ·rename_i op t x h7 x' l;simp only [zaa,beq_iff_eq] at hc;obtain ⟨rfl,j⟩:=hc;exact awv h l (d5 p h j b.1) b.2
 ·rename_i t d x k x' l;simp only [zaa] at hc;obtain ⟨⟨j,q⟩,u⟩:=hc;obtain ⟨d1,L,_⟩:=u5 j;obtain ⟨S,M,r⟩:=u5 q;have:S=.int k:=by cases S<;>first | cases r; done | (simp at r; rw [r])
  subst this;exact aq8 h l L M (d5 p h u b.1) b.2
 ·rename_i c str x' l;split at hc
  ·rename_i A;split at hc
   ·rename_i x t hx ht;simp only [zaa] at hc;obtain ⟨d,E,r⟩:=u5 hc.2;exact at9 h l A (y6 hx) (y6 ht) E r (d5 p h hc.1 b.1) b.2
   cases hc
  cases hc
 ·rename_i t x i sz z x' U l;simp only [zaa] at hc;obtain ⟨⟨j,q⟩,u⟩:=hc;obtain ⟨e,inf,J,I,N⟩:=z9 j;exact awy h l J I (by simpa using N) (d5 p h q b.1.1) (d5 p h u b.1.2) b.2
 ·rename_i t x i x' U l;simp only [zaa] at hc;obtain ⟨⟨j,q⟩,u⟩:=hc;obtain ⟨d,E,r⟩:=u5 j;have:d=.string:=by cases d<;>first | rfl | cases r
  subst this;exact aua h l E (d5 p h q b.1.1) (d5 p h u b.1.2) b.2
 ·rename_i t x m x' l;simp only [zaa] at hc;exact aop h p l hc.1 (d5 p h hc.2 b.1) b.2
 ·rename_i x x' l;exact at6 h l (d5 p h hc b.1) b.2
 ·rename_i t x f off x' l;simp only [zaa] at hc;obtain ⟨fs,fd,i,j,q,u,F⟩:=agq hc.1;simp at F;exact awz h l j q u F.1 F.2 (d5 p h hc.2 b.1) b.2
 ·rename_i t x f off m x' l;simp only [zaa] at hc;obtain ⟨fs,fd,i,j,q,u,F⟩:=agq hc.1;simp at F;exact auc h l j q F.1 F.2 (d5 p h hc.2 b.1) b.2
 ·rename_i t x lo I O n x' l;simp only [zaa] at hc;obtain ⟨⟨⟨⟨j,q⟩,u⟩,F⟩,T⟩:=hc;obtain rfl:lo=none:=by simpa using u
  obtain rfl:I=none:=by simpa using F
  obtain rfl:O=none:=by simpa using T
  split at j
  ·rename_i n' e J;simp only [zaa,beq_iff_eq] at j;obtain ⟨rfl,j⟩:=j;split at j
   ·rename_i inf G;exact at5 h p l J G (by simpa using j) (d5 p h q b.1) b.2
   cases j
  cases j
 ·rename_i t x lo I O x' Y h9 l;simp only [zaa] at hc;obtain ⟨⟨⟨⟨j,q⟩,u⟩,F⟩,T⟩:=hc;obtain ⟨d,E,r⟩:=u5 j;have:d=.string:=by cases d<;>first | rfl | cases r
  subst this;have Z:O=none:=by simpa using q
  subst Z;exact at3 h l E (d5 p h u b.1.1) (aau p h F b.1.2.1) (aau p h T b.1.2.2) b.2
 ·rename_i t x lo I O sz x' Y h9 hh l;simp only [zaa] at hc;obtain ⟨⟨⟨⟨⟨j,q⟩,u⟩,F⟩,T⟩,h6⟩:=hc;obtain ⟨e,inf,J,I,N⟩:=z9 j;exact at4 h l J I (by simpa using N) (d5 p h q b.1.1) (aau p h u b.1.2.1) (aau p h F b.1.2.2.1) (aau p h T b.1.2.2.2) (λ hm hn=>by simp [hn] at h6; exact hm h6) b.2
 ·rename_i x i x' U l;simp only [zaa,beq_iff_eq] at hc;obtain ⟨rfl,j⟩:=hc;exact aud h l (d5 p h j b.1) b.2
 ·rename_i t d x x' l;simp only [zaa] at hc;obtain ⟨⟨j,q⟩,u⟩:=hc;obtain ⟨e,inf,J,I,he⟩:=z9 j;obtain ⟨d1,L,K⟩:=u5 he;obtain ⟨S,M,R⟩:=u5 q
  have e1:d1=.int .u8:=by
   split at K
   ·rfl
   cases K
  have e2:S=.string:=by cases S<;>first | rfl | cases R
  subst e1; subst e2;have hx:=d5 p h u b.1;have B:=b.2;simp only [PO.see,Rs.and];unfold ej at B |-;split at B
  ·rename_i sz ys rd hs;exact aon p l J L M hx hs B.1 B.2
  exact B.1.elim
 ·rename_i t ps zs qs l;simp only [zaa] at hc;obtain ⟨⟨j,q⟩,u⟩:=hc;split at j
  ·rename_i i I;split at j
   ·rename_i z hz;obtain ⟨d,E,r⟩:=u5 q;exact aor h p l I hz j E r u b.2
   cases j
  cases j
 ·rename_i f first cap f' xs k l
  simp only [zaa,beq_iff_eq] at hc;obtain ⟨⟨rfl,j⟩,q⟩:=hc;obtain ⟨g1,g2⟩:=xw p h q b.1;refine ⟨.func f (first.map a.eval) (cap.map a.eval),?_,.fn _ _ _ _ _ (by simpa using j) (by rw [g1]; simp) λ i x c hx hc=>?_⟩
  ·simp [execOp,l,Instr.makeFunc]
  rw [<- Array.map_append,Array.getElem?_map,Option.map_eq_some_iff] at hc;obtain ⟨y,hy,rfl⟩:=hc;exact g2 i x y hx (by rw [Array.getElem?_toList]; exact hy)
 ·rename_i c O x' hb l;simp only [zaa] at hc;obtain ⟨j,q⟩:=hc;split at q
  ·rename_i x ys D;simp only [zaa] at q;obtain ⟨g1,g2⟩:=xw p h q.2 b.1.2;refine awx h l ?_ D (d5 p h q.1 b.1.1) g1 g2 b.2;split at j
   ·rename_i A; cases O<;>first | exact A | cases j
   ·rename_i A; cases O<;>first | exact A | cases j
   cases j
  cases q
 ·rename_i t x i n sz x' U l;simp only [zaa] at hc;obtain ⟨⟨j,q⟩,u⟩:=hc;split at j
  ·rename_i n' e J;simp only [zaa,beq_iff_eq] at j;obtain ⟨rfl,j⟩:=j;split at j
   ·rename_i inf G;exact aub h l J G (by simpa using j) (d5 p h q b.1.1) (d5 p h u b.1.2) b.2
   cases j
  cases j
 ·rename_i c hf x' V z' l;simp only [zaa] at hc;obtain ⟨j,q⟩:=hc;split at q
  ·rename_i x y z D;simp only [zaa] at q;split at j
   ·rename_i f A;exact aoq h l A j D (d5 p h q.1.1 b.1.1) (d5 p h q.1.2 b.1.2.1) (d5 p h q.2 b.1.2.2) b.2
   cases j
  cases q
 ·rename_i op t x y ty C ks x' V l;simp only [zaa] at hc;obtain ⟨⟨⟨Q,j⟩,q⟩,u⟩:=hc;have H:op=if C=true then .neq else .eql:=by cases C<;>simpa using Q
  obtain ⟨⟨m1,m2,ha⟩,b⟩:=b;obtain ⟨a1,a2⟩:=ha h;exact auf h l H j (d5 p h q m1) (d5 p h u m2) a1 a2 b
 ·rename_i t x i cm str z W x' U l;simp only [zaa,beq_iff_eq] at hc;obtain ⟨⟨⟨j,rfl⟩,q⟩,u⟩:=hc;exact at8 h p l j (d5 p h q b.1.1) (d5 p h u b.1.2) b.2
 ·rename_i c x' l;split at hc
  ·rename_i A;split at hc
   ·rename_i x t hx ht;simp only [zaa] at hc;obtain ⟨d,E,r⟩:=u5 hc.2;cases d with
    | map kt e=>exact aq7 h p l A (y6 hx) (y6 ht) E (d5 p h hc.1 b.1) b.2
    | _=>cases r
   cases hc
  cases hc
 ·rename_i t x t' x' l;simp only [zaa,beq_iff_eq] at hc;obtain ⟨⟨rfl,j⟩,q⟩:=hc;exact at7 l j (d5 p h q b.1)
 ·rename_i x xt t cm t' z W x' l;simp only [zaa,beq_iff_eq] at hc;obtain ⟨⟨⟨⟨rfl,j⟩,q⟩,rfl⟩,u⟩:=hc;exact at2 h l j q (d5 p h u b.1) b.2
 ·rename_i x x' l;exact auh h p l (d5 p h hc b.1) b.2
 ·rename_i op t x y ty C x' l;simp only [zaa] at hc;obtain ⟨⟨⟨Q,j⟩,q⟩,u⟩:=hc;split at Q
  ·obtain ⟨d,E,r⟩:=u5 q;have H:op=if C=true then .neq else .eql:=by cases C<;>simpa using j
   split at r
   ·exact aue h l H E (d5 p h u b.1) b.2
   cases r
  cases Q
 cases hc
theorem aqw {m:Nat} {x y:AV} {t:TypeId} {inf:TypeInfo} {u v:Operand} (h:Gam X s ρ a w) (g:o.op=.store t u v) (f:P.info? t=some inf) (i:inf.size=m) (hx:RA X s ρ w x (a.eval u)) (hy:RA X s ρ w y (a.eval v)) (b:(st2 m x y s.ob).ok) :
 dk P X a w s o (st2 m x y s.ob):=by
 unfold st2 at b |-;split at b
 ·rename_i id ver off;obtain ⟨e,b⟩:=b;unfold stb at b |-;split at b
  ·rename_i d hc;exact av7 (ok:=True) h g f i hx hy hc b.1 b.2.1 b.2.2 e
  exact b.elim
 ·rename_i id ver idx off;split at b
  ·rename_i ys c;obtain ⟨e,b⟩:=b;unfold str at b |-;split at b
   ·rename_i sz z j r xs n;obtain ⟨l,k,p,q⟩:=b;subst p;exact av6 (ok:=True) h g f i hx hy n c l k q e
   exact b.elim
  exact b.elim
 exact b.elim
theorem aa3 {d:Nat} {po:PO} (f:Gam X s ρ a w) (hc:adl P o po=true) (H:po.nod=true) (b:(po.act d s.e s.ob).ok):dk P X a w s o (po.act d s.e s.ob):=by
 unfold adl at hc;split at hc<;>try (cases H; done)
 ·rename_i t x y m x' F l;simp only [zaa] at hc;obtain ⟨⟨n,r⟩,p⟩:=hc;split at n
  ·rename_i inf B;exact aqw f l B (by simpa using n) (d5 f rfl r b.1.1) (d5 f rfl p b.1.2) b.2
  cases n
 ·rename_i t x i y x' E F l;simp only [zaa] at hc;obtain ⟨⟨r,p⟩,D⟩:=hc;obtain ⟨⟨g,j,u⟩,b⟩:=b;exact ast f l (d5 f rfl r g) (d5 f rfl p j) (d5 f rfl D u) b
 ·rename_i t x i y str x' E F l;simp only [zaa] at hc;obtain ⟨⟨⟨n,r⟩,p⟩,D⟩:=hc;obtain ⟨⟨g,j,u⟩,b⟩:=b;exact ass f l n (d5 f rfl r g) (d5 f rfl p j) (d5 f rfl D u) b
 ·rename_i c str x' E l;split at hc
  ·rename_i k;split at hc
   ·rename_i x i t Q hx C;simp only [zaa] at hc;obtain ⟨⟨n,r⟩,p⟩:=hc;obtain ⟨⟨g,j⟩,b⟩:=b;exact asv f l k (y6 hx) (y6 C) n (d5 f rfl r g) (d5 f rfl p j) b
   cases hc
  cases hc
 ·rename_i c sz z x' l;split at hc
  ·rename_i k;split at hc
   ·rename_i x t hx C;simp only [zaa] at hc;obtain ⟨n,p⟩:=hc;obtain ⟨e,inf,J,B,q⟩:=z9 n;simp only [zaa,beq_iff_eq] at q;obtain ⟨q,h⟩:=q;split at h
    ·rename_i v L;simp only [zaa,beq_iff_eq] at h;obtain ⟨g,b⟩:=b;have A:=d5 f rfl p g;simp only [PO.act];generalize (x'.ev s.e).bare=R at A b |-;unfold uk at b |-;split at b
     ·rename_i id ver S len;split at b
      ·rename_i K O I T xs M;obtain ⟨N,G⟩:=b;subst N; subst G;exact awf (ok:=True) (rd':=[]) f l k (y6 hx) (y6 C) J B q L h.1 h.2 A M
      exact b.elim
     exact b.elim
    cases h
   cases hc
  cases hc
 cases hc
theorem awi {d:Nat} {po:PO} (h:Gam X s ρ a w) (hc:adl P o po=true) (E:d<X.n) (b:(po.act d s.e s.ob).ok):dk P X a w s o (po.act d s.e s.ob):=by
 have N:=hc;unfold adl at hc;split at hc
 ·rename_i e zs j;split at hc
  ·rename_i i G;split at hc
   ·rename_i z R;exact asr E h j G R hc
   cases hc
  cases hc
 ·rename_i e x x' j;exact awh E h j (d5 h rfl hc b.1) b.2
 ·rename_i t m ps sz z qs j;simp only [zaa,beq_iff_eq,decide_eq_true_eq] at hc;obtain ⟨⟨⟨⟨⟨C,J⟩,F⟩,Z⟩,h5⟩,h6⟩:=hc;obtain ⟨e,inf,H,G,f⟩:=z9 C;simp at f;obtain ⟨zv,R⟩:=zab.1 f.2;simp only [PO.act] at b |-;split at b
  ·rename_i p ys fz h8;simp only [m0] at b;exact awg E h j H G R f.1 J F Z h5 h6 h8 b.1 b.2.1 b.2.2
  exact b.elim
 ·rename_i t x y m x' Q j;simp only [zaa] at hc;obtain ⟨⟨C,J⟩,F⟩:=hc;split at C
  ·rename_i inf G;exact aqw h j G (by simpa using C) (d5 h rfl J b.1.1) (d5 h rfl F b.1.2) b.2
  cases C
 ·rename_i c sz z U x' Q j;split at hc
  ·rename_i q;split at hc
   ·rename_i x y t u hx ht;simp only [zaa] at hc;obtain ⟨⟨⟨C,J⟩,F⟩,Z⟩:=hc;obtain ⟨e,inf,H,G,f⟩:=z9 C;obtain ⟨e2,h9,h7,ha,_⟩:=z9 J;simp at f;obtain ⟨⟨⟨g1,g2⟩,g3⟩,g4⟩:=f;obtain ⟨⟨B,A⟩,b⟩:=b;have g:=d5 h rfl F B;have k:=d5 h rfl Z A;split at g3
    ·rename_i zv R;have h0:zv.cells.size=inf.size:=by rw [g1]; simpa using g3
     simp only [PO.act];generalize (x'.ev s.e).bare=xv at g b |-;generalize (Q.ev s.e).bare=yv at k b |-;generalize I:src s.ob yv=so at b |-;unfold pa at b |-;split at b
     ·rename_i O zz sy ys rd;simp only [m0] at b;obtain ⟨M,L,W,k4⟩:=b;subst M; subst L;exact ak4 (ok:=True) E h j q (y6 hx) (y6 ht) H h7 G R h0 g1 g2 g k I W k4
     ·rename_i id ver len sy ys rd;split at b
      ·rename_i O z' T wr xs Y;obtain ⟨M,L,W,k4,k5,k6⟩:=b;subst M; subst L; subst k4;exact ak3 (ok:=True) (rd':=[]) h j q (y6 hx) (y6 ht) H h7 G R h0 g1 g2 g Y W k I k5 k6
      exact b.elim
     exact b.elim
    cases g3
   cases hc
  cases hc
 ·rename_i c sz x' Q j;split at hc
  ·rename_i q;split at hc
   ·rename_i x y t u hx ht;simp only [zaa] at hc;obtain ⟨⟨⟨C,J⟩,F⟩,Z⟩:=hc;obtain ⟨e,inf,H,G,f⟩:=z9 C;simp only [beq_iff_eq] at f;obtain ⟨⟨B,A⟩,b⟩:=b;have g:=d5 h rfl F B;have k:=d5 h rfl Z A;simp only [PO.act];generalize (x'.ev s.e).bare=xv at g b |-;generalize (Q.ev s.e).bare=yv at k b |-;generalize I:src s.ob yv=so at b |-;unfold qi at b |-;split at b
    ·rename_i id ver lo len sy ys rd;split at b
     ·rename_i O z' T wr xs Y;obtain ⟨M,L,W⟩:=b;subst M; subst L; subst W;exact awd (ok:=True) (rd':=[]) h j q (y6 hx) (y6 ht) H G f g Y k I
     exact b.elim
    exact b.elim
   cases hc
  cases hc
 ·rename_i t d x z x' j;simp only [zaa] at hc;obtain ⟨⟨C,J⟩,F⟩:=hc;obtain ⟨d1,S,K⟩:=u5 C;have e1:d1=.string:=by cases d1<;>first | rfl | cases K
  subst e1;obtain ⟨e,inf,H,G,f⟩:=z9 J;simp only [zaa] at f;obtain ⟨d2,V,D⟩:=u5 f.2
  have e2:d2=.int .u8:=by
   split at D
   ·rfl
   cases D
  subst e2;obtain ⟨hm,b⟩:=b;have g:=d5 h rfl F hm;simp only [PO.act];generalize (x'.ev s.e).bare=xv at g b |-;unfold dp at b |-;split at b
  ·exact ak2 (inf:=inf) (ok:=True) E h j S H V (i9 g) b
  exact b.elim
 ·rename_i t l c sz z U l' c' j;simp only [zaa] at hc;obtain ⟨⟨C,J⟩,F⟩:=hc;obtain ⟨e,inf,H,G,f⟩:=z9 C;simp only [zaa,beq_iff_eq] at f;obtain ⟨⟨⟨g1,g2⟩,g3⟩,g4⟩:=f;split at g4
  ·rename_i v R;simp only [zaa,beq_iff_eq] at g4;obtain ⟨⟨B,A⟩,b⟩:=b;have g:=d5 h rfl J B;have k:=d5 h rfl F A;simp only [PO.act];generalize (l'.ev s.e).bare=xv at g b |-;generalize (c'.ev s.e).bare=yv at k b |-;unfold yi at b |-;split at b
   ·simp only [m0] at b;exact awa (ok:=True) E h j H G R g1 g2 g4.1 g4.2 (i9 g) (i9 k) b.1 b.2.1 b.2.2.1 b.2.2.2
   exact b.elim
  cases g4
 ·rename_i t r j;cases r with
  | none=>exact awb E h j
  | some r=>cases hc
 ·rename_i t x i str z x' i' j;simp only [zaa] at hc;obtain ⟨⟨C,J⟩,F⟩:=hc;obtain ⟨⟨B,A⟩,b⟩:=b;exact asu h j C (d5 h rfl J B) (d5 h rfl F A) b
 ·rename_i t x i y x' i' Q j;exact aa3 h N rfl b
 ·rename_i t x i y str x' i' Q j;exact aa3 h N rfl b
 ·rename_i c str x' i' j;exact aa3 h N rfl b
 ·rename_i t x x' j;simp only [zaa] at hc;obtain ⟨d1,S,K⟩:=u5 hc.1;cases d1 with
  | map kt e=>exact av8 E h j S (d5 h rfl hc.2 b.1) b.2
  | _=>cases K
 ·rename_i c sz z x' j;exact aa3 h N rfl b
 ·rename_i c x' Q j;split at hc
  ·rename_i q;split at hc
   ·rename_i x y t u hx ht;simp only [zaa] at hc;obtain ⟨⟨C,F⟩,Z⟩:=hc;obtain ⟨e,inf,H,G,f⟩:=z9 C;simp only [beq_iff_eq] at f;obtain ⟨⟨B,A⟩,b⟩:=b;have g:=d5 h rfl F B;have k:=d5 h rfl Z A;simp only [PO.act];generalize (x'.ev s.e).bare=xv at g b |-;generalize (Q.ev s.e).bare=yv at k b |-;unfold uj at b |-;split at b
    ·rename_i id ver lo len sv;split at b
     ·rename_i O z' T wr xs Y;obtain ⟨M,L⟩:=b;subst M; subst L;exact awe (ok:=True) (rd':=[]) h j q (y6 hx) (y6 ht) H G f g Y (i9 k) rfl rfl
     exact b.elim
    exact b.elim
   cases hc
  cases hc
 ·rename_i t u x x' j;simp only [zaa,beq_iff_eq] at hc;obtain ⟨⟨C,rfl⟩,F⟩:=hc;obtain ⟨e,inf,H,G,f⟩:=z9 C;obtain ⟨d2,V,D⟩:=u5 f
  have e2:d2=.int .u8:=by
   split at D
   ·rfl
   cases D
  subst e2;obtain ⟨hm,b⟩:=b;have g:=d5 h rfl F hm;simp only [PO.act];generalize (x'.ev s.e).bare=xv at g b |-;unfold ue at b |-;split at b
  ·split at b
   ·rename_i O z' T wr xs Y;obtain ⟨M,L,W⟩:=b;subst M; subst L;exact av9 (ok:=True) (rd':=[]) h j H V g Y W
   exact b.elim
  exact b.elim
 cases hc
end

end Go.Ev

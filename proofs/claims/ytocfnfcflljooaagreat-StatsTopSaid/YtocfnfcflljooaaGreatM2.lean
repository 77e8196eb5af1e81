import Derived.Maps.RangeRun
import Derived.Test.YtocfnfcflljooaaGreatM1
open Bool renaming and_eq_true → zaa
open Option renaming isSome_iff_exists → zab
open Array renaming getElem?_eq_some_iff → zac
open List renaming modify_toArray → zad
namespace Go.Ev
set_option maxHeartbeats 8000000
set_option maxRecDepth 100000
open Go
set_option linter.unusedSectionVars false
set_option linter.unnecessarySimpa false
set_option linter.unusedVariables false
set_option linter.unusedSimpArgs false
section
variable {P:Program} {X:Cx} {w w':World} {s:St} {ρ ρ':Pl->Option Nat} {a:Act} {o:Oper} {ob ob':Obs} {R R':Nat->Prop}
theorem abq {ob:Obs} {id ver:Nat} {es:List MapEntry} {c:Nat} (h:o3 ob id ver=some (es,c)):ob id=some (ver,.map es c):=by
 unfold o3 at h;split at h
 ·rename_i v a c' d;split at h
  ·rename_i b; cases h; rw [d,b]
  cases h
 cases h
theorem aem {ob:Obs} {id ver:Nat} {m:AV} {a c:Nat} {b:List Nat} (h:aw ob id ver=some (m,a,b,c)):ob id=some (ver,.iter m a b c):=by
 unfold aw at h;split at h
 ·rename_i v m' s' e' f e;split at h
  ·rename_i d; cases h; rw [e,d]
  cases h
 cases h
theorem ao {b c:Nat} {es:Array MapEntry} (a:w.heap[b]?=some (.map es c)):(getObj b).run P w=.ok (.map es c) w:=by simp [getObj,Sem.run,a]
theorem iv {b c:Nat} {es:Array MapEntry} (y:Obj) (a:w.heap[b]?=some (.map es c)):(setObj b y).run P w=.ok () { w with heap:=w.heap.setIfInBounds b y }:=by simp [setObj,Sem.run,a]
theorem ue (v:Value):RelV w R (gp v) v:=by
 unfold gp;split
 ·rename_i cs;refine .agg _ _ (by simp) λ i x c hx hc=>?_;rw [List.getElem?_map,Option.map_eq_some_iff] at hx;obtain ⟨y,hy,rfl⟩:=hx;rw [Array.getElem?_toList] at hy;rw [hc] at hy;cases hy;exact .v _
 exact .v _
theorem asd {v:Value} {x:RV} (h:eqr v x=true) (hx:∃y,x=.v y):RelV w R x v:=by
 obtain ⟨y,rfl⟩:=hx
 have:eqv v y=true:=by
  cases v with
  | slice a l c=>rcases a with _ | a<;>rcases l with _ | l<;>rcases c with _ | c<;>exact h
  | _=>exact h
 rw [agv this];exact .v _
theorem aco {z:RV} {e:TypeId} (h:vc P z e=true):∃i v,P.info? e=some i/\i.zero=some v/\∀(w:World) (R:Nat->Prop),RelV w R z v:=by
 unfold vc at h;split at h
 ·rename_i i b;split at h
  ·rename_i v d;refine ⟨i,v,b,d,λ w R=>?_⟩;split at h
   ·rename_i cs xs;simp only [zaa] at h;obtain ⟨a,f⟩:=h;refine .agg _ _ (by rw [<- gv a]; simp) λ j x c hx hc=>?_;refine asd (ye a (by simpa using hc) hx) ?_;have:=List.all_eq_true.1 f x (List.mem_of_getElem? hx);cases x<;>simp at this;exact ⟨_,rfl⟩
   ·rw [agv h]; exact .v _
   cases h
  cases h
 cases h
def an6 (P:Program) (k:TypeId) (v:Value):Prop:=(∃q a n,P.underlying k=some (.int q)/\v=.int a n)\/(∃t,P.underlying k=some .string/\v=.string t)
theorem abt {t:TypeId} {str:Bool} {f:TypeId->Bool} (h:uv P t str f=true):∃k e,P.underlying t=some (.map k e)/\f e=true/\∀v,bj str v=true->an6 P k v:=by
 unfold uv at h;split at h
 ·rename_i k e d;simp only [zaa] at h;refine ⟨k,e,d,h.2,λ v b=>?_⟩;have a:=h.1;split at a
  ·rename_i q c;cases v<;>simp [bj] at b
   ·exact .inl ⟨q,_,_,c,rfl⟩
   rw [b] at a; cases a
  ·rename_i c;cases v<;>simp [bj] at b
   ·rw [b] at a; cases a
   exact .inr ⟨_,c,rfl⟩
  cases a
 cases h
theorem aes {q a:IntKind} {n:Int}:∀(es:List MapEntry) (i:Nat),Instr.findNow (.int a) (.int q n) es i=ab (.int q n) es i
 | [],i=>rfl
 | e::es,i=>by
   have h:Instr.sameNow (.int a) (.int q n) e.key=la (.int q n) e.key:=by cases e.key<;>rfl
   simp only [Instr.findNow,ab,h];rcases la (.int q n) e.key with _ | b
   ·rfl
   cases b
   ·exact aes es (i+1)
   rfl
theorem aer {t:ByteArray}:∀(es:List MapEntry) (i:Nat),Instr.findNow .string (.string t) es i=ab (.string t) es i
 | [],i=>rfl
 | e::es,i=>by
   have h:Instr.sameNow .string (.string t) e.key=la (.string t) e.key:=by cases e.key<;>rfl
   simp only [Instr.findNow,ab,h];rcases la (.string t) e.key with _ | b
   ·rfl
   cases b
   ·exact aer es (i+1)
   rfl
theorem dr {k:TypeId} {v:Value} {es:List MapEntry} {r:Option (Nat×Value)} (c:an6 P k v) (b:ab v es 0=some r):(Instr.findKey k v es).run P w=.ok r w:=by
 rcases c with ⟨q,d,n,a,rfl⟩ | ⟨t,a,rfl⟩
 ·simp [Instr.findKey,run_underlying a,aes,b]
 simp [Instr.findKey,run_underlying a,aer,b]
theorem aip {k:TypeId} {v:Value} {b:Bool} (n:Nat) (c:an6 P k v):(Instr.checkKey b (n+1) k v).run P w=.ok () w:=by
 rcases c with ⟨q,d,n,a,rfl⟩ | ⟨t,a,rfl⟩
 ·simp [Instr.checkKey,run_underlying a]
 simp [Instr.checkKey,run_underlying a]
theorem cb {k:TypeId} {v:Value} {b:Bool} (a:an6 P k v):(Instr.checkKey b 10000 k v).run P w=.ok () w:=aip 9999 a
theorem Gam.mapB (g:Gam X s ρ a w) {id ver:Nat} {es:List MapEntry} {c:Nat} {v:Value} (j:o3 s.ob id ver=some (es,c)) (h:RA X s ρ w (.mp id ver) v):∃b,ρ id=some b/\v=.map (some b)/\w.heap[b]?=some (.map es.toArray c):=by
 have d:=abq j;cases h;rename_i hc h;obtain ⟨b,e,rfl⟩:=h.live d;obtain ⟨k,f,i⟩:=g.obj id ver _ d;rw [e] at f;cases f;exact ⟨b,e,rfl,i⟩
theorem xj {k:Value}:∀{es:List MapEntry} {i j:Nat} {v:Value},ab k es i=some (some (j,v))->i<=j/\∃e,es[j-i]?=some e/\e.val=v/\la k e.key=some true
 | [],i,j,v,h=>by cases h
 | e::es,i,j,v,h=>by
   simp only [ab] at h;split at h
   ·rename_i a;cases h;exact ⟨Nat.le_refl _,e,by simp,rfl,a⟩
   ·obtain ⟨f,e',c,d,b⟩:=xj h;refine ⟨by omega,e',?_,d,b⟩;rw [show j-i=(j-(i+1))+1 by omega,List.getElem?_cons_succ];exact c
   cases h
theorem aub {g:Bool} (F:g=true) {str d:Bool} {z:RV} {t:TypeId} {x i:Operand} {u k:AV} (N:Gam X s ρ a w) (V:o.op=.lookup t x i d) (S:uv P t str (vc P z)=true) (hx:RA X s ρ w u (a.eval x)) (T:RA X s ρ w k (a.eval i))
 (f:(se g str z d u k s.ob).ok):l6 P X a w s ρ o (se g str z d u k s.ob).v:=by
 obtain ⟨Y,e,L,W,p⟩:=abt S;obtain ⟨inf,J,O,E,D⟩:=aco W;unfold se at f |-;split at f
 ·rename_i id ver G;rcases hmp:o3 s.ob id ver with _ | ⟨es,c⟩
  ·rw [hmp] at f; exact (f F).elim
  rw [hmp] at f;simp only [oy] at f |-;obtain ⟨U,Q⟩:=f F;obtain ⟨b,R,M,K⟩:=N.mapB hmp hx;have I:=j8 T;have A:=p G U;obtain ⟨r,m⟩:=zab.1 Q;have l:(zeroValue e).run P w=.ok J w:=by simp [zeroValue,typeInfo,O,E]
  have n:∃val ok,(Instr.lookup t (a.eval x) (a.eval i) d).run P w=.ok (if d then .tuple #[val,.bool ok] else val) w/\ok=lkB es G/\RelV w (d7 X.B s.ob ρ w) (lkR es G z) val:=by
   rw [M,I];rcases r with _ | ⟨j,val⟩
   ·refine ⟨J,false,?_,by simp [lkB,m],by simp only [lkR,m]; exact D _ _⟩;simp [Instr.lookup,run_underlying L,ao K,cb A,dr A m,l]
   refine ⟨val,true,?_,by simp [lkB,m],by simp only [lkR,m]; exact ue _⟩;simp [Instr.lookup,run_underlying L,ao K,cb A,dr A m]
  obtain ⟨val,C,q,H,h⟩:=n;refine ⟨if d then .tuple #[val,.bool C] else val,?_,?_⟩
  ·simp only [execOp,V,Sem.run_bind,q,Result.andThen_ok,Sem.run_pure]
  cases d with
  | false=>exact .r h
  | true=>
    subst H;refine .tup _ _ rfl λ i y c hy hc=>?_
    match i with
    | 0=>simp at hy hc; subst hy; subst hc; exact .r h
    | 1=>simp at hy hc; subst hy; subst hc; exact .r (.v _)
    | i+2=>simp at hy
 exact (f.2 F).elim
theorem ara {g:Bool} (h:g=true) {t:TypeId} {x:Operand} {c:Call} {u:AV} {k e:TypeId} (j:Gam X s ρ a w) (n:o.op=.call c) (hc:c.callee=.builtin .len) (m:c.args=#[x]) (f:c.argTypes=#[t]) (q:P.underlying t=some (.map k e))
 (hx:RA X s ρ w u (a.eval x)) (d:(li g u s.ob).ok):l6 P X a w s ρ o (li g u s.ob).v:=by
 unfold li at d |-;split at d
 ·rename_i id ver;rcases hmp:o3 s.ob id ver with _ | ⟨es,y⟩
  ·rw [hmp] at d; exact (d h).elim
  obtain ⟨b,l,i,p⟩:=j.mapB hmp hx;simp only [oy];refine ⟨.int .i64 es.length,?_,.r (.v _)⟩;simp [execOp,n,resolve,hc,m,f,invoke,builtin,Builtin.len_,run_underlying q,i,ao p,goInt]
 exact (d.2 h).elim
theorem aih {t:TypeId} (h:aav P t=true):∃d,P.underlying t=some d/\∀a,d≠.interface a:=by
 unfold aav at h;split at h
 ·cases h
 ·rename_i d b c;exact ⟨d,c,λ a e=>b a e⟩
 cases h
theorem aua {t:TypeId} {x:Operand} {u:AV} (b:o.op=.makeInterface t x) (hc:aav P t=true) (hx:RA X s ρ w u (a.eval x)):l6 P X a w s ρ o (.ifc t u):=by
 obtain ⟨d,c,e⟩:=aih hc;refine ⟨.iface t (a.eval x),?_,.ifc t hx⟩
 have:(Instr.makeInterface t (a.eval x)).run P w=.ok (.iface t (a.eval x)) w:=by
  simp only [Instr.makeInterface,Sem.run_bind,run_underlying c,Result.andThen_ok];cases d<;>first | rfl | exact absurd rfl (e _)
 simp only [execOp,b,Sem.run_bind,this,Result.andThen_ok,Sem.run_pure]
theorem at5 {g:Bool} (q:g=true) {t B:TypeId} {z:RV} {b:Bool} {x:Operand} {u:AV} (E:o.op=.typeAssert x B t b) (hc:aav P t=true) (F:vc P z t=true) (hx:RA X s ρ w u (a.eval x)) (f:(tz g t z b u).1):l6 P X a w s ρ o (tz g t z b u).2:=by
 obtain ⟨d,G,A⟩:=aih hc;obtain ⟨inf,C,D,p,m⟩:=aco F;unfold tz at f |-;split at f
 ·rename_i j y;generalize l:a.eval x=v at hx;cases hx;rename_i c hy
  have k:(Instr.typeAssert (.iface j c) B t b).run P w=.ok (if j=t then (if b then .tuple #[c,.bool true] else c) else .tuple #[C,.bool false]) w:=by
   simp only [Instr.typeAssert,Sem.run_bind,run_underlying G,Result.andThen_ok];by_cases h:j=t
   ·subst h;cases d<;>first | (simp; done) | exact absurd rfl (A _)
   have n:b=true:=(f q).resolve_left h;subst n;cases d<;>first | (simp [h,zeroValue,typeInfo,D,p]; done) | exact absurd rfl (A _)
  refine ⟨if j=t then (if b then .tuple #[c,.bool true] else c) else .tuple #[C,.bool false],by simp only [execOp,E,l,Sem.run_bind,k,Result.andThen_ok,Sem.run_pure],?_⟩;by_cases h:j=t
  ·simp only [h,if_true];cases b with
   | false=>exact hy
   | true=>
     refine .tup _ _ rfl λ i y c e hc=>?_
     match i with
     | 0=>simp at e hc; subst e; subst hc; exact hy
     | 1=>simp at e hc; subst e; subst hc; exact .r (.v _)
     | i+2=>simp at e
  simp only [h,if_false];refine .tup _ _ rfl λ i y c e hc=>?_
  match i with
  | 0=>simp at e hc; subst e; subst hc; exact .r (m _ _)
  | 1=>simp at e hc; subst e; subst hc; exact .r (.v _)
  | i+2=>simp at e
 exact (f q).elim
theorem auk {g:Bool} (p:g=true) {x:Operand} {u:AV} (L:Gam X s ρ a w) (Y:o.op=.entry x) (hx:RA X s ρ w u (a.eval x)) (d:(qk g u s.ob).ok):l6 P X a w s ρ o (qk g u s.ob).v:=by
 unfold qk at d |-;split at d
 ·rename_i id ver;rcases hit:aw s.ob id ver with _ | ⟨m,C,q,Z⟩
  ·rw [hit] at d; exact (d p).elim
  rw [hit] at d;have t:=aem hit;generalize B:a.eval x=v at hx;cases hx;rename_i T h;obtain ⟨b,E,rfl⟩:=h.live t;obtain ⟨b',bm,O,S,U⟩:=L.obj id ver _ t;rw [E] at O; cases O;unfold pe at d |-;split at d
  ·rename_i F n A J W H;cases H;rcases hmp:o3 s.ob F n with _ | ⟨es,c⟩
   ·rw [hmp] at d; exact (d p).elim
   rw [hmp] at d;obtain ⟨R,Q,I,D⟩:=L.mapB hmp U;cases I;simp only [qj] at d |-;obtain ⟨G,K⟩:=d p;subst G;obtain ⟨e,N⟩:=zab.1 K;have j:=N;unfold akf at j;split at j
   ·rename_i M V;have l:q.toArray.back?=some M:=by simpa using V
    have k:es.toArray.find? (λ e=>e.born == M)=some e:=by simpa using j
    have z:(Instr.entry (.pointer (some ⟨b,0,none⟩))).run P w=.ok (.tuple #[e.key,e.val]) w:=by
     simp only [Instr.entry,getObj,Sem.run_bind,Sem.run,S,D,Result.andThen,l,bne_self_eq_false,Bool.false_eq_true,if_false,k]
     rfl
    refine ⟨.tuple #[e.key,e.val],by simp only [execOp,Y,B,Sem.run_bind,z,Result.andThen_ok,Sem.run_pure],?_⟩;rw [N];refine .tup _ _ rfl λ i y c f hc=>?_
    match i with
    | 0=>simp at f hc; subst f; subst hc; exact .r (ue _)
    | 1=>simp at f hc; subst f; subst hc; exact .r (ue _)
    | i+2=>simp at f
   cases j
  exact (d p).elim
 exact (d.2 p).elim
theorem ai4 {R:Nat->Prop}:∀{xs:List RV} {l:List Value},tw xs=some l->l.length=xs.length/\∀(i:Nat) (x:RV) (c:Value),xs[i]?=some x->RelV w R x c->l[i]?=some c
 | [],l,h=>by cases h; exact ⟨rfl,λ i x c hx=>by simp at hx⟩
 | .v y::xs,l,h=>by
   simp only [tw] at h;split at h
   ·rename_i f b;cases h;obtain ⟨d,e⟩:=ai4 (R:=R) b;refine ⟨by simp [d],λ i x c hx a=>?_⟩;cases i with
    | zero=>simp at hx; subst hx; cases a; rfl
    | succ i=>simp at hx; simpa using e i x c hx a
   cases h
 | .agg _::_,l,h=>by cases h
 | .sl _ _::_,l,h=>by cases h
theorem ai5:∀{xs:List AV} {l:List Value},tx xs=some l->l.length=xs.length/\∀(i:Nat) (x:AV) (c:Value),xs[i]?=some x->RelA w R ob ρ x c->l[i]?=some c
 | [],l,h=>by cases h; exact ⟨rfl,λ i x c hx=>by simp at hx⟩
 | y::xs,l,h=>by
   unfold tx at h;split at h
   ·rename_i a; cases a
   ·rename_i v f a;cases a;split at h
    ·rename_i j d;cases h;obtain ⟨e,g⟩:=ai5 d;refine ⟨by simp [e],λ i x c hx b=>?_⟩;cases i with
     | zero=>simp at hx; subst hx; cases b; rename_i b; cases b; rfl
     | succ i=>simp at hx; simpa using g i x c hx b
    cases h
   cases h
theorem aqz {cs:Array Value} {l:List Value} (b:l.length=cs.size) (h:∀(i:Nat) (c:Value),cs[i]?=some c->l[i]?=some c):cs=l.toArray:=by
 apply Array.ext (by simp [b]);intro i d a;have:=h i cs[i] (by simp [d]);simp at a;rw [List.getElem?_eq_getElem a] at this;simpa using (Option.some.inj this).symm
theorem alf {x:AV} {v c:Value} (h:toV x=some v) (hx:RelA w R ob ρ x c):c=v:=by
 unfold toV at h;split at h
 ·cases h; cases hx; rename_i hx; cases hx; rfl
 ·rename_i xs;unfold ic at h;split at h
  ·rename_i l d;cases h;cases hx; rename_i hx; cases hx;rename_i cs b a;obtain ⟨g,e⟩:=ai4 (w:=w) (R:=R) d;congr 1;refine aqz (by omega) λ i c hc=>?_;have f:=(zac.1 hc).1;exact e i (xs[i]'(by omega)) c (by simp [show i<xs.length by omega]) (a i _ c (by simp [show i<xs.length by omega]) hc)
  cases h
 ·rename_i xs;unfold ic at h;split at h
  ·rename_i l d;cases h;cases hx;rename_i cs b a;obtain ⟨g,e⟩:=ai5 (w:=w) (R:=R) (ob:=ob) (ρ:=ρ) d;congr 1;refine aqz (by omega) λ i c hc=>?_;have f:=(zac.1 hc).1;exact e i (xs[i]'(by omega)) c (by simp [show i<xs.length by omega]) (a i _ c (by simp [show i<xs.length by omega]) hc)
  cases h
 cases h
theorem afc {b:Nat} {x y:Obj} (h:w.heap[b]?=some x):Mods w { w with heap:=w.heap.setIfInBounds b y } b y:=by
 have a:=(zac.1 h).1;exact ⟨rfl,rfl,rfl,by simp,by simp [a],λ k c=>by simp [Array.getElem?_setIfInBounds_ne (Ne.symm c)]⟩
theorem afp {id ver:Nat} {es d:List MapEntry} {c c':Nat} {v:Value} {ok:Prop} {nx:Next} (m:Gam X s ρ a w) (n:o3 s.ob id ver=some (es,c)) (hx:RA X s ρ w (.mp id ver) v)
 (i:∀b,v=.map (some b)->w.heap[b]?=some (.map es.toArray c)->(execOp a.eval o).run P w=.ok nx { w with heap:=w.heap.setIfInBounds b (.map d.toArray c') })
 (j:(∃u,nx=.value u)\/nx=.skip):dp P X a w s o ⟨ok,.undef,upd id (ver,.map d c') s.ob,[id],[id]⟩:=by
 obtain ⟨b,f,p,l⟩:=m.mapB n hx;have k:=abq n;have g:=afc (y:=.map d.toArray c') l;refine ⟨nx,_,ρ,i b p l,m.modifyG k rfl f g (λ cs e fr h=>by rw [l] at h; cases h) ver (.inl ⟨rfl,trivial⟩) (.inr ⟨rfl,trivial,λ _=>rfl⟩) ⟨b,f,g.new⟩,?_⟩;rcases j with ⟨u,rfl⟩ | rfl
 ·exact .inl ⟨u,rfl,.undef _⟩
 exact .inr ⟨rfl,rfl⟩
theorem a0k {a b:ByteArray} (h:(a == b)=true):a=b:=by
 cases a; cases b;have:(ByteArray.mk _).beq (ByteArray.mk _)=true:=h;simpa [ByteArray.beq] using this
theorem av7 (a:ByteArray):(a == a)=true:=by
 show a.beq a=true;simp [ByteArray.beq]
theorem akz {k c:Value} (n:Nat) (h:la k c=some true):Instr.sameBits n c k=true:=by
 unfold la at h;split at h
 ·split at h
  ·rename_i e;simp at h;subst e; subst h;simp [Instr.sameBits]
  cases h
 ·rename_i a b;have d:(a == b)=true:=by simpa using h
  rw [a0k d];simp [Instr.sameBits,av7]
 cases h
theorem afy {k a:Value} (h:la k a=some true):Instr.sameBits 10000 a k=true:=akz 10000 h
theorem asv {str:Bool} {t:TypeId} {x i y:Operand} {u k q:AV} (F:Gam X s ρ a w) (M:o.op=.mapUpdate t x i y) (J:uv P t str (λ _=>true)=true) (hx:RA X s ρ w u (a.eval x)) (K:RA X s ρ w k (a.eval i)) (hy:RA X s ρ w q (a.eval y))
 (d:(lf str u k q s.ob).ok):dp P X a w s o (lf str u k q s.ob):=by
 obtain ⟨O,e,D,_,l⟩:=abt J;unfold lf at d |-;split at d
 ·rename_i id ver h;unfold pz at d |-;split at d
  ·rename_i v E;rcases hmp:o3 s.ob id ver with _ | ⟨es,c⟩
   ·rw [hmp] at d; exact d.elim
   rw [hmp] at d;simp only [ku] at d |-;obtain ⟨L,I⟩:=d;have n:=l h L;obtain ⟨r,g⟩:=zab.1 I;have A:=j8 K;have z:=alf E hy;refine afp (ok:=_) (nx:=.skip) F hmp hx (λ b B p=>?_) (.inr rfl)
   have m:(Instr.mapUpdate t (a.eval x) (a.eval i) (a.eval y)).run P w=.ok () { w with heap:=w.heap.setIfInBounds b (.map (z0 es c h v).toArray (v9 es c h)) }:=by
    rw [B,A,z];rcases r with _ | ⟨j,val⟩
    ·simp only [z0,v9,g];simp [Instr.mapUpdate,run_underlying D,ao p,cb n,dr n g,iv _ p]
    obtain ⟨_,H,C,N,G⟩:=xj g;rw [Nat.sub_zero] at C;simp only [z0,v9,g];have f:(Instr.keyThatStays H.key h).run P w=.ok h w:=by simp [Instr.keyThatStays,afy G]
    simp [Instr.mapUpdate,run_underlying D,ao p,cb n,dr n g,C,f,iv _ p,zad]
   simp only [execOp,M,Sem.run_bind,m,Result.andThen_ok,Sem.run_pure]
  exact d.elim
 exact d.elim
theorem asw {t:TypeId} {x i y:Operand} {u k q:AV} (r:Gam X s ρ a w) (A:o.op=.entryStore t x i y) (hx:RA X s ρ w u (a.eval x)) (z:RA X s ρ w k (a.eval i)) (hy:RA X s ρ w q (a.eval y))
 (d:(ad5 u k q s.ob).ok):dp P X a w s o (ad5 u k q s.ob):=by
 unfold ad5 at d |-;split at d
 ·rename_i id ver B n;unfold aiq at d |-;split at d
  ·rename_i v p;rcases hmp:o3 s.ob id ver with _ | ⟨es,c⟩
   ·rw [hmp] at d; exact d.elim
   rw [hmp] at d;simp only [ku] at d |-;have g:=j8 z;have f:=alf p hy;refine afp (ok:=_) (nx:=.skip) r hmp hx (λ b h m=>?_) (.inr rfl);obtain ⟨j,l⟩:=zab.1 d
   have e:(Instr.entryStore t (a.eval x) (a.eval i) (a.eval y)).run P w=.ok () { w with heap:=w.heap.setIfInBounds b (.map (agf es n v).toArray c) }:=by
    rw [h,g,f];simp only [agf,l];simp [Instr.entryStore,ao m,asInt,asIntOf,l,iv _ m,zad]
   simp only [execOp,A,Sem.run_bind,e,Result.andThen_ok,Sem.run_pure]
  exact d.elim
 exact d.elim
theorem asx {str:Bool} {z:RV} {t:TypeId} {x i:Operand} {u k:AV} (L:Gam X s ρ a w) (Y:o.op=.mapEntry t x i) (U:uv P t str (vc P z)=true) (hx:RA X s ρ w u (a.eval x)) (V:RA X s ρ w k (a.eval i))
 (d:(abp str z u k s.ob).ok):dp P X a w s o (abp str z u k s.ob):=by
 obtain ⟨kt,e,M,Z,A⟩:=abt U;obtain ⟨inf,n,S,H,G⟩:=aco Z;unfold abp at d |-;split at d
 ·rename_i id ver f;cases z with
  | v zv'=>
    rcases hmp:o3 s.ob id ver with _ | ⟨es,c⟩
    ·rw [hmp] at d; exact d.elim
    rw [hmp] at d;simp only [agh] at d |-;obtain ⟨W,T⟩:=d;have E:=A f W;obtain ⟨r,l⟩:=zab.1 T;have J:=j8 V
    have F:n=zv':=by
     have:=G w (λ _=>False);cases this
     rfl
    subst F;have g:(zeroValue e).run P w=.ok n w:=by simp [zeroValue,typeInfo,S,H]
    obtain ⟨b,B,N,p⟩:=L.mapB hmp hx;have I:=abq hmp;have C:=afc (y:=.map (xl es c f n).toArray (v9 es c f)) p
    obtain ⟨val,q,D⟩:∃val,(Instr.mapEntry t (a.eval x) (a.eval i)).run P w=.ok (.tuple #[val,.int .i64 (xk es c f)]) { w with heap:=w.heap.setIfInBounds b (.map (xl es c f n).toArray (v9 es c f)) }/\∀w R,RelV w R (lkR es f (.v n)) val:=by
     rw [N,J];rcases r with _ | ⟨j,val⟩
     ·refine ⟨n,?_,λ w R=>by simp only [lkR,l]; exact .v _⟩;simp only [xl,xk,v9,l];simp [Instr.mapEntry,run_underlying M,ao p,cb E,dr E l,g,iv _ p,goInt]
     obtain ⟨_,Q,K,g2,O⟩:=xj l;rw [Nat.sub_zero] at K;have m:(Instr.keyThatStays Q.key f).run P w=.ok f w:=by simp [Instr.keyThatStays,afy O]
     refine ⟨val,?_,λ w R=>by simp only [lkR,l]; exact ue _⟩;simp only [xl,xk,v9,l];simp [Instr.mapEntry,run_underlying M,ao p,cb E,dr E l,K,m,iv _ p,zad,goInt]
    refine ⟨.value (.tuple #[val,.int .i64 (xk es c f)]),_,ρ,by simp only [execOp,Y,Sem.run_bind,q,Result.andThen_ok,Sem.run_pure],L.modifyG I rfl B C (λ cs e fr h=>by rw [p] at h; cases h) ver (.inl ⟨rfl,trivial⟩) (.inr ⟨rfl,trivial,λ _=>rfl⟩) ⟨b,B,C.new⟩,.inl ⟨_,rfl,?_⟩⟩;refine .tup _ _ rfl λ i y c' hy hc=>?_
    match i with
    | 0=>simp at hy hc; subst hy; subst hc; exact .r (D _ _)
    | 1=>simp at hy hc; subst hy; subst hc; exact .r (.v _)
    | i+2=>simp at hy
  | _=>exact d.elim
 exact d.elim
theorem asy {str:Bool} {t C:TypeId} {x i:Operand} {u k:AV} {c:Call} (B:Gam X s ρ a w) (I:o.op=.call c) (hc:c.callee=.builtin .delete) (G:c.args=#[x,i]) (v:c.argTypes=#[t,C]) (E:uv P t str (λ _=>true)=true) (hx:RA X s ρ w u (a.eval x)) (F:RA X s ρ w k (a.eval i))
 (d:(lh str u k s.ob).ok):dp P X a w s o (lh str u k s.ob):=by
 obtain ⟨L,e,A,_,g⟩:=abt E;unfold lh at d |-;split at d
 ·rename_i id ver z;rcases hmp:o3 s.ob id ver with _ | ⟨es,J⟩
  ·rw [hmp] at d; exact d.elim
  rw [hmp] at d;simp only [ku] at d |-;obtain ⟨H,D⟩:=d;have n:=g z H;obtain ⟨r,f⟩:=zab.1 D;have h:=j8 F;refine afp (ok:=_) (nx:=.value (.tuple #[])) B hmp hx (λ b l p=>?_) (.inl ⟨_,rfl⟩)
  have m:(Builtin.delete_ c.argTypes o.type (c.args.map a.eval)).run P w=.ok (.tuple #[]) { w with heap:=w.heap.setIfInBounds b (.map (z5 es z).toArray J) }:=by
   rw [G,v];rcases r with _ | ⟨j,val⟩
   ·simp only [z5,f];simp [Builtin.delete_,run_underlying A,l,h,ao p,cb n,dr n f,iv _ p]
   obtain ⟨_,K,y,_⟩:=xj f;rw [Nat.sub_zero] at y;have q:=(List.getElem?_eq_some_iff.1 y).1;simp only [z5,f];simp [Builtin.delete_,run_underlying A,l,h,ao p,cb n,dr n f,iv _ p,Array.eraseIdxIfInBounds,q]
  simp only [execOp,I,resolve,hc,Sem.run_bind,Sem.run_pure,Result.andThen_ok,invoke,builtin,m]
 exact d.elim
theorem awf {d:Nat} {t:TypeId} {ok:Prop} (c:d<X.n) (f:Gam X s ρ a w) (e:o.op=.makeMap t none):dp P X a w s o (m7 s.ob d (.map [] 0) (λ v=>.mp d v) ok [] []):=by
 have b:(execOp a.eval o).run P w=.ok (.value (.map (some w.heap.size))) (w.alloc (.map #[] 0)):=by
  simp [execOp,e,Instr.makeMap]
 refine mj c f (v4 _) b ?_ (.mp _ _ _ rfl (gi ⟨_,by simp [m9],rfl⟩));exact ⟨w.heap.size,by simp [m9],(v4 _).new⟩
theorem awc {d:Nat} {t q e:TypeId} {x:Operand} {u:AV} (l:d<X.n) (k:Gam X s ρ a w) (y:o.op=.range t x) (A:P.underlying t=some (.map q e)) (hx:RA X s ρ w u (a.eval x)) (f:(qd d u s.ob).ok):dp P X a w s o (qd d u s.ob):=by
 unfold qd at f |-;split at f
 ·rename_i i g;rcases hmp:o3 s.ob i g with _ | ⟨es,c⟩
  ·rw [hmp] at f; exact f.elim
  obtain ⟨b,r,p,z⟩:=k.mapB hmp hx;simp only [vx]
  have j:(execOp a.eval o).run P w=.ok (.value (.pointer (some ⟨w.heap.size,0,none⟩))) (w.alloc (.mapIter (some b) c #[] c)):=by
   simp [execOp,y,Instr.range,run_underlying A,p,ao z]
  have m:=Stays.alloc k (v4 (.mapIter (some b) c #[] c)) d (nv s.ob d) (λ v o h=>rz h) (.iter (.mp i g) c [] c);refine mj (rd:=[i]) l k (v4 _) j ?_ (.ptr _ _ _ _ rfl (gi ⟨_,by simp [m9],rfl⟩));refine ⟨w.heap.size,b,by simp [m9],(v4 _).new,?_⟩;rw [<- p];exact hx.stays m
 exact f.elim
end

section
variable {P:Program} {X:Cx} {w w':World} {s:St} {ρ ρ':Pl->Option Nat} {a:Act} {o:Oper}
theorem ae {t:TypeId} {f:TypeId->TypeInfo->Bool} (h:bo P t f=true):∃e i,P.underlying t=some (.slice e)/\P.info? e=some i/\f e i=true:=by
 unfold bo at h;split at h
 ·rename_i e b;split at h
  ·rename_i i a;exact ⟨e,i,b,a,h⟩
  cases h
 cases h
theorem v3 {t:TypeId} {f:TypeDesc->Bool} (h:x7 P t f=true):∃d,P.underlying t=some d/\f d=true:=by
 unfold x7 at h;split at h
 ·rename_i d a;exact ⟨d,a,h⟩
 cases h
theorem agu {t:TypeId} {k:Nat} {f:Go.Field->TypeInfo->Bool} (h:ad9 P t k f=true):∃b a i,P.underlying t=some (.struct b)/\b[k]?=some a/\P.info? a.type=some i/\f a i=true:=by
 unfold ad9 at h;split at h
 ·rename_i b e;split at h
  ·rename_i a d;split at h
   ·rename_i i c;exact ⟨b,a,i,e,d,c,h⟩
   cases h
  cases h
 cases h
theorem aaz {g:Bool} (c:Gam X s ρ a w) (b:g=true) {x:Option Operand} {y:Option Opd} (h:ae8 x y=true) (d:PO.see.mayO g s.e y):RAO X s ρ w a x (PO.see.bareO s.e y):=by
 unfold ae8 at h;split at h
 ·trivial
 ·exact d6 c b h d
 cases h
theorem yb {g:Bool} (f:Gam X s ρ a w) (d:g=true):∀{xs:List Operand} {ys:List Opd},s8 opd xs ys=true->ah g s.e ys->(l5 s.e ys).length=xs.length/\∀(i:Nat) (x:AV) (y:Operand),(l5 s.e ys)[i]?=some x->xs[i]?=some y->RA X s ρ w x (a.eval y)
 | [],[],_,_=>⟨rfl,by simp [l5]⟩
 | x::xs,y::ys,h,hm=>by
   simp [s8] at h;obtain ⟨j,k⟩:=yb f d h.2 hm.2;refine ⟨by simp [l5,j],λ i p q c b=>?_⟩;cases i with
   | zero=>simp [l5] at c b; subst c; subst b; exact d6 f d h.1 hm.1
   | succ i=>simp [l5] at c b; exact k i p q c b
 | [],_::_,h,_=>by cases h
 | _::_,[],h,_=>by cases h
theorem y9 {a:Type} {xs:Array a} {l:List a} (h:xs.toList=l):xs=l.toArray:=by rw [<- h]
theorem aun {g:Bool} (h:g=true) {po:PO} (p:Gam X s ρ a w) (hc:akk P o po=true) (b:(po.see g s.e s.ob).ok):l6 P X a w s ρ o (po.see g s.e s.ob).v:=by
 unfold akk at hc;split at hc
 ·rename_i x y l;refine ⟨_,?_,d6 p h hc b.1⟩;simp only [execOp,l,Sem.run_pure]
 ·rename_i x y l;refine ⟨_,?_,d6 p h hc b.1⟩;simp only [execOp,l,Sem.run_pure]
 ·rename_i c x y c' x' V l;simp only [zaa] at hc;exact aq9 h l (d6 p h hc.1.1 b.1) (ad2 p.env hc.1.2) (ad2 p.env hc.2) b.2
 ·rename_i op t x y ty h9 x' V l;simp only [zaa,beq_iff_eq] at hc;obtain ⟨⟨rfl,j⟩,q⟩:=hc;exact aul h l (d6 p h j b.1.1) (d6 p h q b.1.2) b.2
 ·rename_i op t x y ty B x' V l;simp only [zaa] at hc;obtain ⟨⟨⟨Q,j⟩,q⟩,u⟩:=hc;obtain ⟨d,E,r⟩:=v3 j;have G:op=if B=true then .neq else .eql:=by cases B<;>simpa using Q
  have ha:d=.bool:=by cases d<;>first | rfl | cases r
  subst ha;exact aum h l G E (d6 p h q b.1.1) (d6 p h u b.1.2) b.2
 ·rename_i op t x h9 x' l;simp only [zaa,beq_iff_eq] at hc;obtain ⟨rfl,j⟩:=hc;exact aw0 h l (d6 p h j b.1) b.2
 ·rename_i t d x k x' l;simp only [zaa] at hc;obtain ⟨⟨j,q⟩,u⟩:=hc;obtain ⟨d1,L,_⟩:=v3 j;obtain ⟨R,O,r⟩:=v3 q;have:R=.int k:=by cases R<;>first | cases r; done | (simp at r; rw [r])
  subst this;exact arb h l L O (d6 p h u b.1) b.2
 ·rename_i c str x' l;split at hc
  ·rename_i A;split at hc
   ·rename_i x t hx ht;simp only [zaa] at hc;obtain ⟨d,E,r⟩:=v3 hc.2;exact auc h l A (y9 hx) (y9 ht) E r (d6 p h hc.1 b.1) b.2
   cases hc
  cases hc
 ·rename_i t x i sz z x' U l;simp only [zaa] at hc;obtain ⟨⟨j,q⟩,u⟩:=hc;obtain ⟨e,inf,J,I,M⟩:=ae j;exact aw3 h l J I (by simpa using M) (d6 p h q b.1.1) (d6 p h u b.1.2) b.2
 ·rename_i t x i x' U l;simp only [zaa] at hc;obtain ⟨⟨j,q⟩,u⟩:=hc;obtain ⟨d,E,r⟩:=v3 j;have:d=.string:=by cases d<;>first | rfl | cases r
  subst this;exact aud h l E (d6 p h q b.1.1) (d6 p h u b.1.2) b.2
 ·rename_i t x m x' l;simp only [zaa] at hc;exact aos h p l hc.1 (d6 p h hc.2 b.1) b.2
 ·rename_i x x' l;exact at9 h l (d6 p h hc b.1) b.2
 ·rename_i t x f off x' l;simp only [zaa] at hc;obtain ⟨fs,fd,i,j,q,u,F⟩:=agu hc.1;simp at F;exact aw4 h l j q u F.1 F.2 (d6 p h hc.2 b.1) b.2
 ·rename_i t x f off m x' l;simp only [zaa] at hc;obtain ⟨fs,fd,i,j,q,u,F⟩:=agu hc.1;simp at F;exact auf h l j q F.1 F.2 (d6 p h hc.2 b.1) b.2
 ·rename_i t x Y I N n x' l;simp only [zaa] at hc;obtain ⟨⟨⟨⟨j,q⟩,u⟩,F⟩,T⟩:=hc;obtain rfl:Y=none:=by simpa using u
  obtain rfl:I=none:=by simpa using F
  obtain rfl:N=none:=by simpa using T
  split at j
  ·rename_i n' e J;simp only [zaa,beq_iff_eq] at j;obtain ⟨rfl,j⟩:=j;split at j
   ·rename_i inf H;exact at8 h p l J H (by simpa using j) (d6 p h q b.1) b.2
   cases j
  cases j
 ·rename_i t x Y I N x' h7 Z l;simp only [zaa] at hc;obtain ⟨⟨⟨⟨j,q⟩,u⟩,F⟩,T⟩:=hc;obtain ⟨d,E,r⟩:=v3 j;have:d=.string:=by cases d<;>first | rfl | cases r
  subst this;have h8:N=none:=by simpa using q
  subst h8;exact at6 h l E (d6 p h u b.1.1) (aaz p h F b.1.2.1) (aaz p h T b.1.2.2) b.2
 ·rename_i t x Y I N sz x' h7 Z hj l;simp only [zaa] at hc;obtain ⟨⟨⟨⟨⟨j,q⟩,u⟩,F⟩,T⟩,h6⟩:=hc;obtain ⟨e,inf,J,I,M⟩:=ae j;exact at7 h l J I (by simpa using M) (d6 p h q b.1.1) (aaz p h u b.1.2.1) (aaz p h F b.1.2.2.1) (aaz p h T b.1.2.2.2) (λ hm hn=>by simp [hn] at h6; exact hm h6) b.2
 ·rename_i x i x' U l;simp only [zaa,beq_iff_eq] at hc;obtain ⟨rfl,j⟩:=hc;exact aug h l (d6 p h j b.1) b.2
 ·rename_i t d x x' l;simp only [zaa] at hc;obtain ⟨⟨j,q⟩,u⟩:=hc;obtain ⟨e,inf,J,I,he⟩:=ae j;obtain ⟨d1,L,K⟩:=v3 he;obtain ⟨R,O,S⟩:=v3 q
  have e1:d1=.int .u8:=by
   split at K
   ·rfl
   cases K
  have e2:R=.string:=by cases R<;>first | rfl | cases S
  subst e1; subst e2;have hx:=d6 p h u b.1;have C:=b.2;simp only [PO.see,Rs.and];unfold em at C |-;split at C
  ·rename_i sz ys rd hs;exact aoq p l J L O hx hs C.1 C.2
  exact C.1.elim
 ·rename_i t ps zs qs l;simp only [zaa] at hc;obtain ⟨⟨j,q⟩,u⟩:=hc;split at j
  ·rename_i i I;split at j
   ·rename_i z hz;obtain ⟨d,E,r⟩:=v3 q;exact aou h p l I hz j E r u b.2
   cases j
  cases j
 ·rename_i f first cap f' xs k l
  simp only [zaa,beq_iff_eq] at hc;obtain ⟨⟨rfl,j⟩,q⟩:=hc;obtain ⟨g1,g2⟩:=yb p h q b.1;refine ⟨.func f (first.map a.eval) (cap.map a.eval),?_,.fn _ _ _ _ _ (by simpa using j) (by rw [g1]; simp) λ i x c hx hc=>?_⟩
  ·simp [execOp,l,Instr.makeFunc]
  rw [<- Array.map_append,Array.getElem?_map,Option.map_eq_some_iff] at hc;obtain ⟨y,hy,rfl⟩:=hc;exact g2 i x y hx (by rw [Array.getElem?_toList]; exact hy)
 ·rename_i c N x' hh l;simp only [zaa] at hc;obtain ⟨j,q⟩:=hc;split at q
  ·rename_i x ys D;simp only [zaa] at q;obtain ⟨g1,g2⟩:=yb p h q.2 b.1.2;refine aw2 h l ?_ D (d6 p h q.1 b.1.1) g1 g2 b.2;split at j
   ·rename_i A; cases N<;>first | exact A | cases j
   ·rename_i A; cases N<;>first | exact A | cases j
   cases j
  cases q
 ·rename_i t x i n sz x' U l;simp only [zaa] at hc;obtain ⟨⟨j,q⟩,u⟩:=hc;split at j
  ·rename_i n' e J;simp only [zaa,beq_iff_eq] at j;obtain ⟨rfl,j⟩:=j;split at j
   ·rename_i inf H;exact aue h l J H (by simpa using j) (d6 p h q b.1.1) (d6 p h u b.1.2) b.2
   cases j
  cases j
 ·rename_i c hf x' V z' l;simp only [zaa] at hc;obtain ⟨j,q⟩:=hc;split at q
  ·rename_i x y z D;simp only [zaa] at q;split at j
   ·rename_i f A;exact aot h l A j D (d6 p h q.1.1 b.1.1) (d6 p h q.1.2 b.1.2.1) (d6 p h q.2 b.1.2.2) b.2
   cases j
  cases q
 ·rename_i op t x y ty B ks x' V l;simp only [zaa] at hc;obtain ⟨⟨⟨Q,j⟩,q⟩,u⟩:=hc;have G:op=if B=true then .neq else .eql:=by cases B<;>simpa using Q
  obtain ⟨⟨m1,m2,hb⟩,b⟩:=b;obtain ⟨a1,a2⟩:=hb h;exact aui h l G j (d6 p h q m1) (d6 p h u m2) a1 a2 b
 ·rename_i t x i cm str z W x' U l;simp only [zaa,beq_iff_eq] at hc;obtain ⟨⟨⟨j,rfl⟩,q⟩,u⟩:=hc;exact aub h p l j (d6 p h q b.1.1) (d6 p h u b.1.2) b.2
 ·rename_i c x' l;split at hc
  ·rename_i A;split at hc
   ·rename_i x t hx ht;simp only [zaa] at hc;obtain ⟨d,E,r⟩:=v3 hc.2;cases d with
    | map kt e=>exact ara h p l A (y9 hx) (y9 ht) E (d6 p h hc.1 b.1) b.2
    | _=>cases r
   cases hc
  cases hc
 ·rename_i t x t' x' l;simp only [zaa,beq_iff_eq] at hc;obtain ⟨⟨rfl,j⟩,q⟩:=hc;exact aua l j (d6 p h q b.1)
 ·rename_i x xt t cm t' z W x' l;simp only [zaa,beq_iff_eq] at hc;obtain ⟨⟨⟨⟨rfl,j⟩,q⟩,rfl⟩,u⟩:=hc;exact at5 h l j q (d6 p h u b.1) b.2
 ·rename_i x x' l;exact auk h p l (d6 p h hc b.1) b.2
 ·rename_i op t x y ty B x' l;simp only [zaa] at hc;obtain ⟨⟨⟨Q,j⟩,q⟩,u⟩:=hc;split at Q
  ·obtain ⟨d,E,r⟩:=v3 q;have G:op=if B=true then .neq else .eql:=by cases B<;>simpa using j
   split at r
   ·exact auh h l G E (d6 p h u b.1) b.2
   cases r
  cases Q
 ·exact (b.2 h).elim
 cases hc
theorem aq0 {m:Nat} {x y:AV} {t:TypeId} {inf:TypeInfo} {u v:Operand} (f:Gam X s ρ a w) (i:o.op=.store t u v) (g:P.info? t=some inf) (h:inf.size=m) (hx:RA X s ρ w x (a.eval u)) (hy:RA X s ρ w y (a.eval v)) (b:(st2 m x y s.ob).ok) :
 dp P X a w s o (st2 m x y s.ob):=by
 unfold st2 at b |-;split at b
 ·rename_i id ver off;obtain ⟨e,b⟩:=b;unfold stb at b |-;split at b
  ·rename_i d hc;exact awb (ok:=True) f i g h hx hy hc b.1 b.2.1 b.2.2 e
  exact b.elim
 ·rename_i id ver idx off;split at b
  ·rename_i ys c;obtain ⟨e,b⟩:=b;unfold str at b |-;split at b
   ·rename_i sz z n r xs j;obtain ⟨p,k,l,q⟩:=b;subst l;exact awa (ok:=True) f i g h hx hy j c p k q e
   exact b.elim
  exact b.elim
 exact b.elim
theorem aa8 {d:Nat} {po:PO} (f:Gam X s ρ a w) (hc:adp P o po=true) (K:po.nod=true) (b:(po.act d s.e s.ob).ok):dp P X a w s o (po.act d s.e s.ob):=by
 unfold adp at hc;split at hc<;>try (cases K; done)
 ·rename_i t x y m x' E q;simp only [zaa] at hc;obtain ⟨⟨p,r⟩,n⟩:=hc;split at p
  ·rename_i inf B;exact aq0 f q B (by simpa using p) (d6 f rfl r b.1.1) (d6 f rfl n b.1.2) b.2
  cases p
 ·rename_i t x i y x' F E q;simp only [zaa] at hc;obtain ⟨⟨r,n⟩,C⟩:=hc;obtain ⟨⟨g,k,u⟩,b⟩:=b;exact asw f q (d6 f rfl r g) (d6 f rfl n k) (d6 f rfl C u) b
 ·rename_i t x i y str x' F E q;simp only [zaa] at hc;obtain ⟨⟨⟨p,r⟩,n⟩,C⟩:=hc;obtain ⟨⟨g,k,u⟩,b⟩:=b;exact asv f q p (d6 f rfl r g) (d6 f rfl n k) (d6 f rfl C u) b
 ·rename_i c str x' F q;split at hc
  ·rename_i h;split at hc
   ·rename_i x i t Q hx D;simp only [zaa] at hc;obtain ⟨⟨p,r⟩,n⟩:=hc;obtain ⟨⟨g,k⟩,b⟩:=b;exact asy f q h (y9 hx) (y9 D) p (d6 f rfl r g) (d6 f rfl n k) b
   cases hc
  cases hc
 ·rename_i c sz z x' q;split at hc
  ·rename_i h;split at hc
   ·rename_i x t hx D;simp only [zaa] at hc;obtain ⟨p,n⟩:=hc;obtain ⟨e,inf,L,B,l⟩:=ae p;simp only [zaa,beq_iff_eq] at l;obtain ⟨l,j⟩:=l;split at j
    ·rename_i v N;simp only [zaa,beq_iff_eq] at j;obtain ⟨g,b⟩:=b;have A:=d6 f rfl n g;simp only [PO.act];generalize (x'.ev s.e).bare=S at A b |-;unfold uq at b |-;split at b
     ·rename_i id ver R len;split at b
      ·rename_i I T M O xs G;obtain ⟨J,H⟩:=b;subst J; subst H;exact awj (ok:=True) (rd':=[]) f q h (y9 hx) (y9 D) L B l N j.1 j.2 A G
      exact b.elim
     exact b.elim
    cases j
   cases hc
  cases hc
 cases hc
theorem awm {d:Nat} {po:PO} (h:Gam X s ρ a w) (hc:adp P o po=true) (D:d<X.n) (b:(po.act d s.e s.ob).ok):dp P X a w s o (po.act d s.e s.ob):=by
 have N:=hc;unfold adp at hc;split at hc
 ·rename_i e zs j;split at hc
  ·rename_i i G;split at hc
   ·rename_i z Q;exact asu D h j G Q hc
   cases hc
  cases hc
 ·rename_i e x x' j;exact awl D h j (d6 h rfl hc b.1) b.2
 ·rename_i t m ps sz z qs j;simp only [zaa,beq_iff_eq,decide_eq_true_eq] at hc;obtain ⟨⟨⟨⟨⟨B,J⟩,E⟩,V⟩,h5⟩,h6⟩:=hc;obtain ⟨e,inf,I,G,f⟩:=ae B;simp at f;obtain ⟨zv,Q⟩:=zab.1 f.2;simp only [PO.act] at b |-;split at b
  ·rename_i p ys fz h8;simp only [m7] at b;exact awk D h j I G Q f.1 J E V h5 h6 h8 b.1 b.2.1 b.2.2
  exact b.elim
 ·rename_i t x y m x' R j;simp only [zaa] at hc;obtain ⟨⟨B,J⟩,E⟩:=hc;split at B
  ·rename_i inf G;exact aq0 h j G (by simpa using B) (d6 h rfl J b.1.1) (d6 h rfl E b.1.2) b.2
  cases B
 ·rename_i c sz z S x' R j;split at hc
  ·rename_i q;split at hc
   ·rename_i x y t u hx ht;simp only [zaa] at hc;obtain ⟨⟨⟨B,J⟩,E⟩,V⟩:=hc;obtain ⟨e,inf,I,G,f⟩:=ae B;obtain ⟨e2,h9,h7,ha,_⟩:=ae J;simp at f;obtain ⟨⟨⟨g1,g2⟩,g3⟩,g4⟩:=f;obtain ⟨⟨A,C⟩,b⟩:=b;have g:=d6 h rfl E A;have k:=d6 h rfl V C;split at g3
    ·rename_i zv Q;have h0:zv.cells.size=inf.size:=by rw [g1]; simpa using g3
     simp only [PO.act];generalize (x'.ev s.e).bare=xv at g b |-;generalize (R.ev s.e).bare=yv at k b |-;generalize H:src s.ob yv=so at b |-;unfold pf at b |-;split at b
     ·rename_i O zz sy ys rd;simp only [m7] at b;obtain ⟨L,M,W,k4⟩:=b;subst L; subst M;exact ala (ok:=True) D h j q (y9 hx) (y9 ht) I h7 G Q h0 g1 g2 g k H W k4
     ·rename_i id ver len sy ys rd;split at b
      ·rename_i O z' Y wr xs T;obtain ⟨L,M,W,k4,k5,k6⟩:=b;subst L; subst M; subst k4;exact ak9 (ok:=True) (rd':=[]) h j q (y9 hx) (y9 ht) I h7 G Q h0 g1 g2 g T W k H k5 k6
      exact b.elim
     exact b.elim
    cases g3
   cases hc
  cases hc
 ·rename_i c sz x' R j;split at hc
  ·rename_i q;split at hc
   ·rename_i x y t u hx ht;simp only [zaa] at hc;obtain ⟨⟨⟨B,J⟩,E⟩,V⟩:=hc;obtain ⟨e,inf,I,G,f⟩:=ae B;simp only [beq_iff_eq] at f;obtain ⟨⟨A,C⟩,b⟩:=b;have g:=d6 h rfl E A;have k:=d6 h rfl V C;simp only [PO.act];generalize (x'.ev s.e).bare=xv at g b |-;generalize (R.ev s.e).bare=yv at k b |-;generalize H:src s.ob yv=so at b |-;unfold qm at b |-;split at b
    ·rename_i id ver lo len sy ys rd;split at b
     ·rename_i O z' Y wr xs T;obtain ⟨L,M,W⟩:=b;subst L; subst M; subst W;exact awh (ok:=True) (rd':=[]) h j q (y9 hx) (y9 ht) I G f g T k H
     exact b.elim
    exact b.elim
   cases hc
  cases hc
 ·rename_i t d x z x' j;simp only [zaa] at hc;obtain ⟨⟨B,J⟩,E⟩:=hc;obtain ⟨d1,U,K⟩:=v3 B;have e1:d1=.string:=by cases d1<;>first | rfl | cases K
  subst e1;obtain ⟨e,inf,I,G,f⟩:=ae J;simp only [zaa] at f;obtain ⟨d2,Z,F⟩:=v3 f.2
  have e2:d2=.int .u8:=by
   split at F
   ·rfl
   cases F
  subst e2;obtain ⟨hm,b⟩:=b;have g:=d6 h rfl E hm;simp only [PO.act];generalize (x'.ev s.e).bare=xv at g b |-;unfold dt at b |-;split at b
  ·exact ak8 (inf:=inf) (ok:=True) D h j U I Z (j8 g) b
  exact b.elim
 ·rename_i t l c sz z S l' c' j;simp only [zaa] at hc;obtain ⟨⟨B,J⟩,E⟩:=hc;obtain ⟨e,inf,I,G,f⟩:=ae B;simp only [zaa,beq_iff_eq] at f;obtain ⟨⟨⟨g1,g2⟩,g3⟩,g4⟩:=f;split at g4
  ·rename_i v Q;simp only [zaa,beq_iff_eq] at g4;obtain ⟨⟨A,C⟩,b⟩:=b;have g:=d6 h rfl J A;have k:=d6 h rfl E C;simp only [PO.act];generalize (l'.ev s.e).bare=xv at g b |-;generalize (c'.ev s.e).bare=yv at k b |-;unfold yn at b |-;split at b
   ·simp only [m7] at b;exact awe (ok:=True) D h j I G Q g1 g2 g4.1 g4.2 (j8 g) (j8 k) b.1 b.2.1 b.2.2.1 b.2.2.2
   exact b.elim
  cases g4
 ·rename_i t r j;cases r with
  | none=>exact awf D h j
  | some r=>cases hc
 ·rename_i t x i str z x' i' j;simp only [zaa] at hc;obtain ⟨⟨B,J⟩,E⟩:=hc;obtain ⟨⟨A,C⟩,b⟩:=b;exact asx h j B (d6 h rfl J A) (d6 h rfl E C) b
 ·rename_i t x i y x' i' R j;exact aa8 h N rfl b
 ·rename_i t x i y str x' i' R j;exact aa8 h N rfl b
 ·rename_i c str x' i' j;exact aa8 h N rfl b
 ·rename_i t x x' j;simp only [zaa] at hc;obtain ⟨d1,U,K⟩:=v3 hc.1;cases d1 with
  | map kt e=>exact awc D h j U (d6 h rfl hc.2 b.1) b.2
  | _=>cases K
 ·rename_i c sz z x' j;exact aa8 h N rfl b
 ·rename_i c x' R j;split at hc
  ·rename_i q;split at hc
   ·rename_i x y t u hx ht;simp only [zaa] at hc;obtain ⟨⟨B,E⟩,V⟩:=hc;obtain ⟨e,inf,I,G,f⟩:=ae B;simp only [beq_iff_eq] at f;obtain ⟨⟨A,C⟩,b⟩:=b;have g:=d6 h rfl E A;have k:=d6 h rfl V C;simp only [PO.act];generalize (x'.ev s.e).bare=xv at g b |-;generalize (R.ev s.e).bare=yv at k b |-;unfold uo at b |-;split at b
    ·rename_i id ver lo len sv;split at b
     ·rename_i O z' Y wr xs T;obtain ⟨L,M⟩:=b;subst L; subst M;exact awi (ok:=True) (rd':=[]) h j q (y9 hx) (y9 ht) I G f g T (j8 k) rfl rfl
     exact b.elim
    exact b.elim
   cases hc
  cases hc
 ·rename_i t u x x' j;simp only [zaa,beq_iff_eq] at hc;obtain ⟨⟨B,rfl⟩,E⟩:=hc;obtain ⟨e,inf,I,G,f⟩:=ae B;obtain ⟨d2,Z,F⟩:=v3 f
  have e2:d2=.int .u8:=by
   split at F
   ·rfl
   cases F
  subst e2;obtain ⟨hm,b⟩:=b;have g:=d6 h rfl E hm;simp only [PO.act];generalize (x'.ev s.e).bare=xv at g b |-;unfold ui at b |-;split at b
  ·split at b
   ·rename_i O z' Y wr xs T;obtain ⟨L,M,W⟩:=b;subst L; subst M;exact awd (ok:=True) (rd':=[]) h j I Z g T W
   exact b.elim
  exact b.elim
 cases hc
end

end Go.Ev

import Derived.Maps.RangeRun
import Derived.Test.YtjpejkfhkbaakaaGreatM1
open Bool renaming and_eq_true → zaa
open Option renaming isSome_iff_exists → zab
open Array renaming getElem?_eq_some_iff → zac
namespace Go.Ev
set_option maxHeartbeats 8000000
set_option maxRecDepth 100000
open Go
set_option linter.unusedSectionVars false
set_option linter.unnecessarySimpa false
set_option linter.unusedVariables false
set_option linter.unusedSimpArgs false
section
variable {P:Program} {X:Cx} {w w':World} {s:St} {ρ ρ':Pl->Option Nat} {a:Act} {o:Oper} {ob ob':Obs} {R R':Nat->Prop}
theorem ads {ob:Obs} {id ver:Nat} {a:List MapEntry} {c:Nat} (h:n8 ob id ver=some (a,c)):ob id=some (ver,.map a c):=by
 unfold n8 at h;split at h
 ·rename_i v d c' b;split at h
  ·rename_i hv; cases h; rw [b,hv]
  cases h
 cases h
theorem abt {ob:Obs} {id ver:Nat} {m:AV} {a c:Nat} {b:List Nat} (h:v9 ob id ver=some (m,a,b,c)):ob id=some (ver,.iter m a b c):=by
 unfold v9 at h;split at h
 ·rename_i v f s' e' e d;split at h
  ·rename_i hv; cases h; rw [d,hv]
  cases h
 cases h
theorem cb {b c:Nat} {a:Array MapEntry} (d:w.heap[b]?=some (.map a c)):(getObj b).run P w=.ok (.map a c) w:=by simp [getObj,Sem.run,d]
theorem tk {b c:Nat} {d:Array MapEntry} (y:Obj) (a:w.heap[b]?=some (.map d c)):(setObj b y).run P w=.ok () { w with heap:=w.heap.setIfInBounds b y }:=by simp [setObj,Sem.run,a]
theorem ui (v:Value):RelV w R (gs v) v:=by
 unfold gs;split
 ·rename_i cs;refine .agg _ _ (by simp) fun i x c hx hc=>?_;rw [List.getElem?_map,Option.map_eq_some_iff] at hx;obtain ⟨y,hy,rfl⟩:=hx;rw [Array.getElem?_toList] at hy;rw [hc] at hy;cases hy;exact .v _
 exact .v _
theorem aqz {v:Value} {x:RV} (h:eqr v x=true) (hx:∃y,x=.v y):RelV w R x v:=by
 obtain ⟨y,rfl⟩:=hx
 have:eqv v y=true:=by
  cases v with
  | slice a l c=>rcases a with _ | a<;>rcases l with _ | l<;>rcases c with _ | c<;>exact h
  | _=>exact h
 rw [ad0 this];exact .v _
theorem ae6 {z:RV} {e:TypeId} (h:wx P z e=true):∃i v,P.info? e=some i/\i.zero=some v/\∀(w:World) (R:Nat->Prop),RelV w R z v:=by
 unfold wx at h;split at h
 ·rename_i i hi;split at h
  ·rename_i v hv;refine ⟨i,v,hi,hv,fun w R=>?_⟩;split at h
   ·rename_i cs d;simp only [zaa] at h;obtain ⟨a,b⟩:=h;refine .agg _ _ (by rw [<- dk a]; simp) fun j x c hx hc=>?_;refine aqz (uf a (by simpa using hc) hx) ?_;have:=List.all_eq_true.1 b x (List.mem_of_getElem? hx);cases x<;>simp at this;exact ⟨_,rfl⟩
   ·rw [ad0 h]; exact .v _
   cases h
  cases h
 cases h
def al8 (P:Program) (k:TypeId) (v:Value):Prop:=(∃q a n,P.underlying k=some (.int q)/\v=.int a n)\/(∃t,P.underlying k=some .string/\v=.string t)
theorem aci {t:TypeId} {str:Bool} {f:TypeId->Bool} (h:vp P t str f=true):∃k e,P.underlying t=some (.map k e)/\f e=true/\∀v,er str v=true->al8 P k v:=by
 unfold vp at h;split at h
 ·rename_i k e c;simp only [zaa] at h;refine ⟨k,e,c,h.2,fun v hv=>?_⟩;have a:=h.1;split at a
  ·rename_i q b;cases v<;>simp [er] at hv
   ·exact .inl ⟨q,_,_,b,rfl⟩
   rw [hv] at a; cases a
  ·rename_i b;cases v<;>simp [er] at hv
   ·rw [hv] at a; cases a
   exact .inr ⟨_,b,rfl⟩
  cases a
 cases h
theorem abw {q c:IntKind} {n:Int}:∀(a:List MapEntry) (i:Nat),Instr.findNow (.int c) (.int q n) a i=il (.int q n) a i
 | [],i=>rfl
 | e::a,i=>by
   have h:Instr.sameNow (.int c) (.int q n) e.key=tj (.int q n) e.key:=by cases e.key<;>rfl
   simp only [Instr.findNow,il,h];rcases tj (.int q n) e.key with _ | b
   ·rfl
   cases b
   ·exact abw a (i+1)
   rfl
theorem abv {t:ByteArray}:∀(a:List MapEntry) (i:Nat),Instr.findNow .string (.string t) a i=il (.string t) a i
 | [],i=>rfl
 | e::a,i=>by
   have h:Instr.sameNow .string (.string t) e.key=tj (.string t) e.key:=by cases e.key<;>rfl
   simp only [Instr.findNow,il,h];rcases tj (.string t) e.key with _ | b
   ·rfl
   cases b
   ·exact abv a (i+1)
   rfl
theorem gk {k:TypeId} {v:Value} {c:List MapEntry} {r:Option (Nat×Value)} (d:al8 P k v) (b:il v c 0=some r):(Instr.findKey k v c).run P w=.ok r w:=by
 rcases d with ⟨q,e,n,a,rfl⟩ | ⟨t,a,rfl⟩
 ·simp [Instr.findKey,run_underlying a,abw,b]
 simp [Instr.findKey,run_underlying a,abv,b]
theorem af1 {k:TypeId} {v:Value} {b:Bool} (n:Nat) (c:al8 P k v):(Instr.checkKey b (n+1) k v).run P w=.ok () w:=by
 rcases c with ⟨q,d,n,a,rfl⟩ | ⟨t,a,rfl⟩
 ·simp [Instr.checkKey,run_underlying a]
 simp [Instr.checkKey,run_underlying a]
theorem dn {k:TypeId} {v:Value} {b:Bool} (a:al8 P k v):(Instr.checkKey b 10000 k v).run P w=.ok () w:=af1 9999 a
theorem Gam.mapB (k:Gam X s ρ a w) {id ver:Nat} {f:List MapEntry} {c:Nat} {v:Value} (j:n8 s.ob id ver=some (f,c)) (h:RA X s ρ w (.mp id ver) v):∃b,ρ id=some b/\v=.map (some b)/\w.heap[b]?=some (.map f.toArray c):=by
 have e:=ads j;cases h;rename_i hc h;obtain ⟨b,d,rfl⟩:=h.live e;obtain ⟨l,g,i⟩:=k.obj id ver _ e;rw [d] at g;cases g;exact ⟨b,d,rfl,i⟩
theorem yg {k:Value}:∀{a:List MapEntry} {i j:Nat} {v:Value},il k a i=some (some (j,v))->i<=j/\∃e,a[j-i]?=some e/\e.val=v/\tj k e.key=some true
 | [],i,j,v,h=>by cases h
 | e::a,i,j,v,h=>by
   simp only [il] at h;split at h
   ·rename_i b;cases h;exact ⟨Nat.le_refl _,e,by simp,rfl,b⟩
   ·obtain ⟨g,e',c,f,d⟩:=yg h;refine ⟨by omega,e',?_,f,d⟩;rw [show j-i=(j-(i+1))+1 by omega,List.getElem?_cons_succ];exact c
   cases h
theorem as0 {g:Bool} (G:g=true) {str d:Bool} {z:RV} {t:TypeId} {x i:Operand} {u k:AV} (V:Gam X s ρ a w) (N:o.op=.lookup t x i d) (R:vp P t str (wx P z)=true) (hx:RA X s ρ w u (a.eval x)) (T:RA X s ρ w k (a.eval i))
 (f:(nq g str z d u k s.ob).ok):j5 P X a w s ρ o (nq g str z d u k s.ob).v:=by
 obtain ⟨W,e,M,Q,p⟩:=aci R;obtain ⟨inf,K,hi,H,D⟩:=ae6 Q;unfold nq at f |-;split at f
 ·rename_i id ver C;rcases hmp:n8 s.ob id ver with _ | ⟨L,c⟩
  ·rw [hmp] at f; exact (f G).elim
  rw [hmp] at f;simp only [kz] at f |-;obtain ⟨U,S⟩:=f G;obtain ⟨b,O,hv,J⟩:=V.mapB hmp hx;have E:=i7 T;have A:=p C U;obtain ⟨r,m⟩:=zab.1 S;have l:(zeroValue e).run P w=.ok K w:=by simp [zeroValue,typeInfo,hi,H]
  have q:∃val ok,(Instr.lookup t (a.eval x) (a.eval i) d).run P w=.ok (if d then .tuple #[val,.bool ok] else val) w/\ok=lkB L C/\RelV w (d7 X.B s.ob ρ w) (lkR L C z) val:=by
   rw [hv,E];rcases r with _ | ⟨j,val⟩
   ·refine ⟨K,false,?_,by simp [lkB,m],by simp only [lkR,m]; exact D _ _⟩;simp [Instr.lookup,run_underlying M,cb J,dn A,gk A m,l]
   refine ⟨val,true,?_,by simp [lkB,m],by simp only [lkR,m]; exact ui _⟩;simp [Instr.lookup,run_underlying M,cb J,dn A,gk A m]
  obtain ⟨val,I,n,F,h⟩:=q;refine ⟨if d then .tuple #[val,.bool I] else val,?_,?_⟩
  ·simp only [execOp,N,Sem.run_bind,n,Result.andThen_ok,Sem.run_pure]
  cases d with
  | false=>exact .r h
  | true=>
    subst F;refine .tup _ _ rfl fun i y c hy hc=>?_
    match i with
    | 0=>simp at hy hc; subst hy; subst hc; exact .r h
    | 1=>simp at hy hc; subst hy; subst hc; exact .r (.v _)
    | i+2=>simp at hy
 exact (f.2 G).elim
theorem apu {g:Bool} (h:g=true) {t:TypeId} {x:Operand} {c:Call} {u:AV} {l e:TypeId} (q:Gam X s ρ a w) (i:o.op=.call c) (hc:c.callee=.builtin .len) (m:c.args=#[x]) (f:c.argTypes=#[t]) (p:P.underlying t=some (.map l e))
 (hx:RA X s ρ w u (a.eval x)) (d:(ip g u s.ob).ok):j5 P X a w s ρ o (ip g u s.ob).v:=by
 unfold ip at d |-;split at d
 ·rename_i id ver;rcases hmp:n8 s.ob id ver with _ | ⟨n,y⟩
  ·rw [hmp] at d; exact (d h).elim
  obtain ⟨b,k,hv,j⟩:=q.mapB hmp hx;simp only [kz];refine ⟨.int .i64 n.length,?_,.r (.v _)⟩;simp [execOp,i,resolve,hc,m,f,invoke,builtin,Builtin.len_,run_underlying p,hv,cb j,goInt]
 exact (d.2 h).elim
theorem afo {t:TypeId} (h:xh P t=true):∃d,P.underlying t=some d/\∀a,d≠.interface a:=by
 unfold xh at h;split at h
 ·cases h
 ·rename_i d c b;exact ⟨d,b,fun a e=>c a e⟩
 cases h
theorem asz {t:TypeId} {x:Operand} {u:AV} (b:o.op=.makeInterface t x) (hc:xh P t=true) (hx:RA X s ρ w u (a.eval x)):j5 P X a w s ρ o (.ifc t u):=by
 obtain ⟨d,e,c⟩:=afo hc;refine ⟨.iface t (a.eval x),?_,.ifc t hx⟩
 have:(Instr.makeInterface t (a.eval x)).run P w=.ok (.iface t (a.eval x)) w:=by
  simp only [Instr.makeInterface,Sem.run_bind,run_underlying e,Result.andThen_ok];cases d<;>first | rfl | exact absurd rfl (c _)
 simp only [execOp,b,Sem.run_bind,this,Result.andThen_ok,Sem.run_pure]
theorem asu {g:Bool} (A:g=true) {t C:TypeId} {z:RV} {b:Bool} {x:Operand} {u:AV} (D:o.op=.typeAssert x C t b) (hc:xh P t=true) (E:wx P z t=true) (hx:RA X s ρ w u (a.eval x)) (f:(pl g t z b u).1):j5 P X a w s ρ o (pl g t z b u).2:=by
 obtain ⟨d,F,B⟩:=afo hc;obtain ⟨inf,q,hi,p,m⟩:=ae6 E;unfold pl at f |-;split at f
 ·rename_i k y;generalize n:a.eval x=v at hx;cases hx;rename_i c hy
  have j:(Instr.typeAssert (.iface k c) C t b).run P w=.ok (if k=t then (if b then .tuple #[c,.bool true] else c) else .tuple #[q,.bool false]) w:=by
   simp only [Instr.typeAssert,Sem.run_bind,run_underlying F,Result.andThen_ok];by_cases h:k=t
   ·subst h;cases d<;>first | (simp; done) | exact absurd rfl (B _)
   have l:b=true:=(f A).resolve_left h;subst l;cases d<;>first | (simp [h,zeroValue,typeInfo,hi,p]; done) | exact absurd rfl (B _)
  refine ⟨if k=t then (if b then .tuple #[c,.bool true] else c) else .tuple #[q,.bool false],by simp only [execOp,D,n,Sem.run_bind,j,Result.andThen_ok,Sem.run_pure],?_⟩;by_cases h:k=t
  ·simp only [h,if_true];cases b with
   | false=>exact hy
   | true=>
     refine .tup _ _ rfl fun i y c e hc=>?_
     match i with
     | 0=>simp at e hc; subst e; subst hc; exact hy
     | 1=>simp at e hc; subst e; subst hc; exact .r (.v _)
     | i+2=>simp at e
  simp only [h,if_false];refine .tup _ _ rfl fun i y c e hc=>?_
  match i with
  | 0=>simp at e hc; subst e; subst hc; exact .r (m _ _)
  | 1=>simp at e hc; subst e; subst hc; exact .r (.v _)
  | i+2=>simp at e
 exact (f A).elim
theorem as9 {g:Bool} (t:g=true) {x:Operand} {u:AV} (Q:Gam X s ρ a w) (S:o.op=.entry x) (hx:RA X s ρ w u (a.eval x)) (d:(mb g u s.ob).ok):j5 P X a w s ρ o (mb g u s.ob).v:=by
 unfold mb at d |-;split at d
 ·rename_i id ver;rcases hit:v9 s.ob id ver with _ | ⟨m,J,q,st⟩
  ·rw [hit] at d; exact (d t).elim
  rw [hit] at d;have z:=abt hit;generalize I:a.eval x=v at hx;cases hx;rename_i U h;obtain ⟨b,B,rfl⟩:=h.live z;obtain ⟨b',bm,N,W,T⟩:=Q.obj id ver _ z;rw [B] at N; cases N;unfold lc at d |-;split at d
  ·rename_i G p A F R D;cases D;rcases hmp:n8 s.ob G p with _ | ⟨Z,c⟩
   ·rw [hmp] at d; exact (d t).elim
   rw [hmp] at d;obtain ⟨V,M,H,C⟩:=Q.mapB hmp T;cases H;simp only [ma] at d |-;obtain ⟨E,K⟩:=d t;subst E;obtain ⟨e,L⟩:=zab.1 K;have j:=L;unfold aq1 at j;split at j
   ·rename_i O Y;have l:q.toArray.back?=some O:=by simpa using Y
    have k:Z.toArray.find? (fun e=>e.born == O)=some e:=by simpa using j
    have n:(Instr.entry (.pointer (some ⟨b,0,none⟩))).run P w=.ok (.tuple #[e.key,e.val]) w:=by
     simp only [Instr.entry,getObj,Sem.run_bind,Sem.run,W,C,Result.andThen,l,bne_self_eq_false,Bool.false_eq_true,if_false,k]
     rfl
    refine ⟨.tuple #[e.key,e.val],by simp only [execOp,S,I,Sem.run_bind,n,Result.andThen_ok,Sem.run_pure],?_⟩;rw [L];refine .tup _ _ rfl fun i y c f hc=>?_
    match i with
    | 0=>simp at f hc; subst f; subst hc; exact .r (ui _)
    | 1=>simp at f hc; subst f; subst hc; exact .r (ui _)
    | i+2=>simp at f
   cases j
  exact (d t).elim
 exact (d.2 t).elim
theorem agp {R:Nat->Prop}:∀{a:List RV} {l:List Value},ph a=some l->l.length=a.length/\∀(i:Nat) (x:RV) (c:Value),a[i]?=some x->RelV w R x c->l[i]?=some c
 | [],l,h=>by cases h; exact ⟨rfl,fun i x c hx=>by simp at hx⟩
 | .v y::a,l,h=>by
   simp only [ph] at h;split at h
   ·rename_i g d;cases h;obtain ⟨e,f⟩:=agp (R:=R) d;refine ⟨by simp [e],fun i x c hx b=>?_⟩;cases i with
    | zero=>simp at hx; subst hx; cases b; rfl
    | succ i=>simp at hx; simpa using f i x c hx b
   cases h
 | .agg _::_,l,h=>by cases h
 | .sl _ _::_,l,h=>by cases h
theorem agq:∀{d:List AV} {l:List Value},pi d=some l->l.length=d.length/\∀(i:Nat) (x:AV) (c:Value),d[i]?=some x->RelA w R ob ρ x c->l[i]?=some c
 | [],l,h=>by cases h; exact ⟨rfl,fun i x c hx=>by simp at hx⟩
 | y::d,l,h=>by
   unfold pi at h;split at h
   ·rename_i a; cases a
   ·rename_i v f a;cases a;split at h
    ·rename_i k e;cases h;obtain ⟨g,j⟩:=agq e;refine ⟨by simp [g],fun i x c hx b=>?_⟩;cases i with
     | zero=>simp at hx; subst hx; cases b; rename_i b; cases b; rfl
     | succ i=>simp at hx; simpa using j i x c hx b
    cases h
   cases h
theorem ao9 {cs:Array Value} {l:List Value} (b:l.length=cs.size) (h:∀(i:Nat) (c:Value),cs[i]?=some c->l[i]?=some c):cs=l.toArray:=by
 apply Array.ext (by simp [b]);intro i d a;have:=h i cs[i] (by simp [d]);simp at a;rw [List.getElem?_eq_getElem a] at this;simpa using (Option.some.inj this).symm
theorem asn {x:AV} {v c:Value} (h:toV x=some v) (hx:RelA w R ob ρ x c):c=v:=by
 unfold toV at h;split at h
 ·cases h; cases hx; rename_i hx; cases hx; rfl
 ·rename_i b;unfold dm at h;split at h
  ·rename_i l e;cases h;cases hx; rename_i hx; cases hx;rename_i cs d a;obtain ⟨j,g⟩:=agp (w:=w) (R:=R) e;congr 1;refine ao9 (by omega) fun i c hc=>?_;have f:=(zac.1 hc).1;exact g i (b[i]'(by omega)) c (by simp [show i<b.length by omega]) (a i _ c (by simp [show i<b.length by omega]) hc)
  cases h
 ·rename_i b;unfold dm at h;split at h
  ·rename_i l e;cases h;cases hx;rename_i cs d a;obtain ⟨j,g⟩:=agq (w:=w) (R:=R) (ob:=ob) (ρ:=ρ) e;congr 1;refine ao9 (by omega) fun i c hc=>?_;have f:=(zac.1 hc).1;exact g i (b[i]'(by omega)) c (by simp [show i<b.length by omega]) (a i _ c (by simp [show i<b.length by omega]) hc)
  cases h
 cases h
theorem ahn {b:Nat} {x y:Obj} (h:w.heap[b]?=some x):Mods w { w with heap:=w.heap.setIfInBounds b y } b y:=by
 have a:=(zac.1 h).1;exact ⟨rfl,rfl,rfl,by simp,by simp [a],fun k c=>by simp [Array.getElem?_setIfInBounds_ne (Ne.symm c)]⟩
theorem aik {id ver:Nat} {n d:List MapEntry} {c c':Nat} {v:Value} {ok:Prop} {nx:Next} (p:Gam X s ρ a w) (m:n8 s.ob id ver=some (n,c)) (hx:RA X s ρ w (.mp id ver) v)
 (f:∀b,v=.map (some b)->w.heap[b]?=some (.map n.toArray c)->(execOp a.eval o).run P w=.ok nx { w with heap:=w.heap.setIfInBounds b (.map d.toArray c') })
 (k:(∃u,nx=.value u)\/nx=.skip):bv P X a w s o ⟨ok,.undef,upd id (ver,.map d c') s.ob,[id],[id]⟩:=by
 obtain ⟨b,g,hv,j⟩:=p.mapB m hx;have l:=ads m;have i:=ahn (y:=.map d.toArray c') j;refine ⟨nx,_,ρ,f b hv j,p.modifyG l rfl g i (fun cs e fr h=>by rw [j] at h; cases h) ver (.inl ⟨rfl,trivial⟩) (.inr ⟨rfl,trivial,fun _=>rfl⟩) ⟨b,g,i.new⟩,?_⟩;rcases k with ⟨u,rfl⟩ | rfl
 ·exact .inl ⟨u,rfl,.undef _⟩
 exact .inr ⟨rfl,rfl⟩
theorem ax0 {a b:ByteArray} (h:(a == b)=true):a=b:=by
 cases a; cases b;have:(ByteArray.mk _).beq (ByteArray.mk _)=true:=h;simpa [ByteArray.beq] using this
theorem aui (a:ByteArray):(a == a)=true:=by
 show a.beq a=true;simp [ByteArray.beq]
theorem aip {k c:Value} (n:Nat) (h:tj k c=some true):Instr.sameBits n c k=true:=by
 unfold tj at h;split at h
 ·split at h
  ·rename_i e;simp at h;subst e; subst h;simp [Instr.sameBits]
  cases h
 ·rename_i a b;have d:(a == b)=true:=by simpa using h
  rw [ax0 d];simp [Instr.sameBits,aui]
 cases h
theorem ak2 {k a:Value} (h:tj k a=some true):Instr.sameBits 10000 a k=true:=aip 10000 h
theorem ark {str:Bool} {t:TypeId} {x i y:Operand} {u k q:AV} (M:Gam X s ρ a w) (F:o.op=.mapUpdate t x i y) (G:vp P t str (fun _=>true)=true) (hx:RA X s ρ w u (a.eval x)) (J:RA X s ρ w k (a.eval i)) (hy:RA X s ρ w q (a.eval y))
 (d:(ij str u k q s.ob).ok):bv P X a w s o (ij str u k q s.ob):=by
 obtain ⟨N,e,E,_,m⟩:=aci G;unfold ij at d |-;split at d
 ·rename_i id ver h;unfold ll at d |-;split at d
  ·rename_i v hv;rcases hmp:n8 s.ob id ver with _ | ⟨D,c⟩
   ·rw [hmp] at d; exact d.elim
   rw [hmp] at d;simp only [lf] at d |-;obtain ⟨L,I⟩:=d;have p:=m h L;obtain ⟨r,l⟩:=zab.1 I;have A:=i7 J;have z:=asn hv hy;refine aik (ok:=_) (nx:=.skip) M hmp hx (fun b B n=>?_) (.inr rfl)
   have g:(Instr.mapUpdate t (a.eval x) (a.eval i) (a.eval y)).run P w=.ok () { w with heap:=w.heap.setIfInBounds b (.map (af3 D c h v).toArray (af4 D c h)) }:=by
    rw [B,A,z];rcases r with _ | ⟨j,val⟩
    ·simp only [af3,af4,l];simp [Instr.mapUpdate,run_underlying E,cb n,dn p,gk p l,tk _ n]
    obtain ⟨_,K,C,O,H⟩:=yg l;rw [Nat.sub_zero] at C;simp only [af3,af4,l];have f:(Instr.keyThatStays K.key h).run P w=.ok h w:=by simp [Instr.keyThatStays,ak2 H]
    simp [Instr.mapUpdate,run_underlying E,cb n,dn p,gk p l,C,f,tk _ n,List.modify_toArray]
   simp only [execOp,F,Sem.run_bind,g,Result.andThen_ok,Sem.run_pure]
  exact d.elim
 exact d.elim
theorem arl {str:Bool} {t J:TypeId} {x i:Operand} {u k:AV} {c:Call} (K:Gam X s ρ a w) (B:o.op=.call c) (hc:c.callee=.builtin .delete) (F:c.args=#[x,i]) (v:c.argTypes=#[t,J]) (C:vp P t str (fun _=>true)=true) (hx:RA X s ρ w u (a.eval x)) (E:RA X s ρ w k (a.eval i))
 (d:(io str u k s.ob).ok):bv P X a w s o (io str u k s.ob):=by
 obtain ⟨L,e,A,_,m⟩:=aci C;unfold io at d |-;split at d
 ·rename_i id ver y;rcases hmp:n8 s.ob id ver with _ | ⟨I,G⟩
  ·rw [hmp] at d; exact d.elim
  rw [hmp] at d;simp only [lf] at d |-;obtain ⟨H,D⟩:=d;have p:=m y H;obtain ⟨r,g⟩:=zab.1 D;have h:=i7 E;refine aik (ok:=_) (nx:=.value (.tuple #[])) K hmp hx (fun b l n=>?_) (.inl ⟨_,rfl⟩)
  have f:(Builtin.delete_ c.argTypes o.type (c.args.map a.eval)).run P w=.ok (.tuple #[]) { w with heap:=w.heap.setIfInBounds b (.map (af5 I y).toArray G) }:=by
   rw [F,v];rcases r with _ | ⟨j,val⟩
   ·simp only [af5,g];simp [Builtin.delete_,run_underlying A,l,h,cb n,dn p,gk p g,tk _ n]
   obtain ⟨_,M,z,_⟩:=yg g;rw [Nat.sub_zero] at z;have q:=(List.getElem?_eq_some_iff.1 z).1;simp only [af5,g];simp [Builtin.delete_,run_underlying A,l,h,cb n,dn p,gk p g,tk _ n,Array.eraseIdxIfInBounds,q]
  simp only [execOp,B,resolve,hc,Sem.run_bind,Sem.run_pure,Result.andThen_ok,invoke,builtin,f]
 exact d.elim
theorem auq {d:Nat} {t:TypeId} {ok:Prop} (c:d<X.n) (f:Gam X s ρ a w) (e:o.op=.makeMap t none):bv P X a w s o (k8 s.ob d (.map [] 0) (fun v=>.mp d v) ok [] []):=by
 have b:(execOp a.eval o).run P w=.ok (.value (.map (some w.heap.size))) (w.alloc (.map #[] 0)):=by
  simp [execOp,e,Instr.makeMap]
 refine jd c f (r2 _) b ?_ (.mp _ _ _ rfl (dd ⟨_,by simp [k9],rfl⟩));exact ⟨w.heap.size,by simp [k9],(r2 _).new⟩
theorem aun {d:Nat} {t y e:TypeId} {x:Operand} {u:AV} (l:d<X.n) (m:Gam X s ρ a w) (p:o.op=.range t x) (z:P.underlying t=some (.map y e)) (hx:RA X s ρ w u (a.eval x)) (f:(lq d u s.ob).ok):bv P X a w s o (lq d u s.ob):=by
 unfold lq at f |-;split at f
 ·rename_i i g;rcases hmp:n8 s.ob i g with _ | ⟨A,c⟩
  ·rw [hmp] at f; exact f.elim
  obtain ⟨b,r,hv,q⟩:=m.mapB hmp hx;simp only [sk]
  have j:(execOp a.eval o).run P w=.ok (.value (.pointer (some ⟨w.heap.size,0,none⟩))) (w.alloc (.mapIter (some b) c #[] c)):=by
   simp [execOp,p,Instr.range,run_underlying z,hv,cb q]
  have k:=Stays.alloc m (r2 (.mapIter (some b) c #[] c)) d (nv s.ob d) (fun v o h=>nk h) (.iter (.mp i g) c [] c);refine jd (rd:=[i]) l m (r2 _) j ?_ (.ptr _ _ _ _ rfl (dd ⟨_,by simp [k9],rfl⟩));refine ⟨w.heap.size,b,by simp [k9],(r2 _).new,?_⟩;rw [<- hv];exact hx.stays k
 exact f.elim
end

section
variable {P:Program} {X:Cx} {w w':World} {s:St} {ρ ρ':Pl->Option Nat} {a:Act} {o:Oper}
theorem t7 {t:TypeId} {f:TypeId->TypeInfo->Bool} (h:z4 P t f=true):∃e i,P.underlying t=some (.slice e)/\P.info? e=some i/\f e i=true:=by
 unfold z4 at h;split at h
 ·rename_i e a;split at h
  ·rename_i i hi;exact ⟨e,i,a,hi,h⟩
  cases h
 cases h
theorem p9 {t:TypeId} {f:TypeDesc->Bool} (h:r3 P t f=true):∃d,P.underlying t=some d/\f d=true:=by
 unfold r3 at h;split at h
 ·rename_i d a;exact ⟨d,a,h⟩
 cases h
theorem adz {t:TypeId} {k:Nat} {f:Go.Field->TypeInfo->Bool} (h:abg P t k f=true):∃b a i,P.underlying t=some (.struct b)/\b[k]?=some a/\P.info? a.type=some i/\f a i=true:=by
 unfold abg at h;split at h
 ·rename_i b c;split at h
  ·rename_i a d;split at h
   ·rename_i i hi;exact ⟨b,a,i,c,d,hi,h⟩
   cases h
  cases h
 cases h
theorem xj {g:Bool} (d:Gam X s ρ a w) (c:g=true) {x:Option Operand} {y:Option Opd} (h:acd x y=true) (b:PO.see.mayO g s.e y):RAO X s ρ w a x (PO.see.bareO s.e y):=by
 unfold acd at h;split at h
 ·trivial
 ·exact d5 d c h b
 cases h
theorem ud {g:Bool} (j:Gam X s ρ a w) (f:g=true):∀{d:List Operand} {ys:List Opd},o6 opd d ys=true->t9 g s.e ys->(i8 s.e ys).length=d.length/\∀(i:Nat) (x:AV) (y:Operand),(i8 s.e ys)[i]?=some x->d[i]?=some y->RA X s ρ w x (a.eval y)
 | [],[],_,_=>⟨rfl,by simp [i8]⟩
 | x::d,y::ys,h,hm=>by
   simp [o6] at h;obtain ⟨l,k⟩:=ud j f h.2 hm.2;refine ⟨by simp [i8,l],fun i p q b c=>?_⟩;cases i with
   | zero=>simp [i8] at b c; subst b; subst c; exact d5 j f h.1 hm.1
   | succ i=>simp [i8] at b c; exact k i p q b c
 | [],_::_,h,_=>by cases h
 | _::_,[],h,_=>by cases h
theorem s7 {b:Type} {a:Array b} {l:List b} (h:a.toList=l):a=l.toArray:=by rw [<- h]
theorem atc {g:Bool} (h:g=true) {po:PO} (p:Gam X s ρ a w) (hc:aic P o po=true) (b:(po.see g s.e s.ob).ok):j5 P X a w s ρ o (po.see g s.e s.ob).v:=by
 unfold aic at hc;split at hc
 ·rename_i x y l;refine ⟨_,?_,d5 p h hc b.1⟩;simp only [execOp,l,Sem.run_pure]
 ·rename_i x y l;refine ⟨_,?_,d5 p h hc b.1⟩;simp only [execOp,l,Sem.run_pure]
 ·rename_i c x y c' x' U l;simp only [zaa] at hc;exact apt h l (d5 p h hc.1.1 b.1) (abb p.env hc.1.2) (abb p.env hc.2) b.2
 ·rename_i op t x y ty ha x' U l;simp only [zaa,beq_iff_eq] at hc;obtain ⟨⟨rfl,j⟩,q⟩:=hc;exact ata h l (d5 p h j b.1.1) (d5 p h q b.1.2) b.2
 ·rename_i op t x y ty B x' U l;simp only [zaa] at hc;obtain ⟨⟨⟨O,j⟩,q⟩,u⟩:=hc;obtain ⟨d,E,r⟩:=p9 j;have H:op=if B=true then .neq else .eql:=by cases B<;>simpa using O
  have h7:d=.bool:=by cases d<;>first | rfl | cases r
  subst h7;exact atb h l H E (d5 p h q b.1.1) (d5 p h u b.1.2) b.2
 ·rename_i op t x ha x' l;simp only [zaa,beq_iff_eq] at hc;obtain ⟨rfl,j⟩:=hc;exact avc h l (d5 p h j b.1) b.2
 ·rename_i t d x k x' l;simp only [zaa] at hc;obtain ⟨⟨j,q⟩,u⟩:=hc;obtain ⟨d1,M,_⟩:=p9 j;obtain ⟨S,K,r⟩:=p9 q;have:S=.int k:=by cases S<;>first | cases r; done | (simp at r; rw [r])
  subst this;exact apv h l M K (d5 p h u b.1) b.2
 ·rename_i c str x' l;split at hc
  ·rename_i A;split at hc
   ·rename_i x t hx ht;simp only [zaa] at hc;obtain ⟨d,E,r⟩:=p9 hc.2;exact as1 h l A (s7 hx) (s7 ht) E r (d5 p h hc.1 b.1) b.2
   cases hc
  cases hc
 ·rename_i t x i sz z x' T l;simp only [zaa] at hc;obtain ⟨⟨j,q⟩,u⟩:=hc;obtain ⟨e,inf,I,hi,L⟩:=t7 j;exact avf h l I hi (by simpa using L) (d5 p h q b.1.1) (d5 p h u b.1.2) b.2
 ·rename_i t x i x' T l;simp only [zaa] at hc;obtain ⟨⟨j,q⟩,u⟩:=hc;obtain ⟨d,E,r⟩:=p9 j;have:d=.string:=by cases d<;>first | rfl | cases r
  subst this;exact as2 h l E (d5 p h q b.1.1) (d5 p h u b.1.2) b.2
 ·rename_i t x m x' l;simp only [zaa] at hc;exact amr h p l hc.1 (d5 p h hc.2 b.1) b.2
 ·rename_i x x' l;exact asy h l (d5 p h hc b.1) b.2
 ·rename_i t x f h8 x' l;simp only [zaa] at hc;obtain ⟨fs,fd,i,j,q,u,F⟩:=adz hc.1;simp at F;exact avg h l j q u F.1 F.2 (d5 p h hc.2 b.1) b.2
 ·rename_i t x f h8 m x' l;simp only [zaa] at hc;obtain ⟨fs,fd,i,j,q,u,F⟩:=adz hc.1;simp at F;exact as4 h l j q F.1 F.2 (d5 p h hc.2 b.1) b.2
 ·rename_i t x lo hi N n x' l;simp only [zaa] at hc;obtain ⟨⟨⟨⟨j,q⟩,u⟩,F⟩,Q⟩:=hc;obtain rfl:lo=none:=by simpa using u
  obtain rfl:hi=none:=by simpa using F
  obtain rfl:N=none:=by simpa using Q
  split at j
  ·rename_i n' e I;simp only [zaa,beq_iff_eq] at j;obtain ⟨rfl,j⟩:=j;split at j
   ·rename_i inf G;exact asx h p l I G (by simpa using j) (d5 p h q b.1) b.2
   cases j
  cases j
 ·rename_i t x lo hi N x' V h9 l;simp only [zaa] at hc;obtain ⟨⟨⟨⟨j,q⟩,u⟩,F⟩,Q⟩:=hc;obtain ⟨d,E,r⟩:=p9 j;have:d=.string:=by cases d<;>first | rfl | cases r
  subst this;have hb:N=none:=by simpa using q
  subst hb;exact asv h l E (d5 p h u b.1.1) (xj p h F b.1.2.1) (xj p h Q b.1.2.2) b.2
 ·rename_i t x lo hi N sz x' V h9 hf l;simp only [zaa] at hc;obtain ⟨⟨⟨⟨⟨j,q⟩,u⟩,F⟩,Q⟩,h6⟩:=hc;obtain ⟨e,inf,I,hi,L⟩:=t7 j;exact asw h l I hi (by simpa using L) (d5 p h q b.1.1) (xj p h u b.1.2.1) (xj p h F b.1.2.2.1) (xj p h Q b.1.2.2.2) (fun hm hn=>by simp [hn] at h6; exact hm h6) b.2
 ·rename_i x i x' T l;simp only [zaa,beq_iff_eq] at hc;obtain ⟨rfl,j⟩:=hc;exact as5 h l (d5 p h j b.1) b.2
 ·rename_i t d x x' l;simp only [zaa] at hc;obtain ⟨⟨j,q⟩,u⟩:=hc;obtain ⟨e,inf,I,hi,he⟩:=t7 j;obtain ⟨d1,M,J⟩:=p9 he;obtain ⟨S,K,R⟩:=p9 q
  have e1:d1=.int .u8:=by
   split at J
   ·rfl
   cases J
  have e2:S=.string:=by cases S<;>first | rfl | cases R
  subst e1; subst e2;have hx:=d5 p h u b.1;have C:=b.2;simp only [PO.see,Rs.and];unfold bw at C |-;split at C
  ·rename_i sz ys rd hs;exact amp p l I M K hx hs C.1 C.2
  exact C.1.elim
 ·rename_i t ps zs qs l;simp only [zaa] at hc;obtain ⟨⟨j,q⟩,u⟩:=hc;split at j
  ·rename_i i hi;split at j
   ·rename_i z hz;obtain ⟨d,E,r⟩:=p9 q;exact amt h p l hi hz j E r u b.2
   cases j
  cases j
 ·rename_i f first cap f' xs k l
  simp only [zaa,beq_iff_eq] at hc;obtain ⟨⟨rfl,j⟩,q⟩:=hc;obtain ⟨Z,g2⟩:=ud p h q b.1;refine ⟨.func f (first.map a.eval) (cap.map a.eval),?_,.fn _ _ _ _ _ (by simpa using j) (by rw [Z]; simp) fun i x c hx hc=>?_⟩
  ·simp [execOp,l,Instr.makeFunc]
  rw [<- Array.map_append,Array.getElem?_map,Option.map_eq_some_iff] at hc;obtain ⟨y,hy,rfl⟩:=hc;exact g2 i x y hx (by rw [Array.getElem?_toList]; exact hy)
 ·rename_i c N x' hj l;simp only [zaa] at hc;obtain ⟨j,q⟩:=hc;split at q
  ·rename_i x ys D;simp only [zaa] at q;obtain ⟨Z,g2⟩:=ud p h q.2 b.1.2;refine ave h l ?_ D (d5 p h q.1 b.1.1) Z g2 b.2;split at j
   ·rename_i A; cases N<;>first | exact A | cases j
   ·rename_i A; cases N<;>first | exact A | cases j
   cases j
  cases q
 ·rename_i t x i n sz x' T l;simp only [zaa] at hc;obtain ⟨⟨j,q⟩,u⟩:=hc;split at j
  ·rename_i n' e I;simp only [zaa,beq_iff_eq] at j;obtain ⟨rfl,j⟩:=j;split at j
   ·rename_i inf G;exact as3 h l I G (by simpa using j) (d5 p h q b.1.1) (d5 p h u b.1.2) b.2
   cases j
  cases j
 ·rename_i c hh x' U z' l;simp only [zaa] at hc;obtain ⟨j,q⟩:=hc;split at q
  ·rename_i x y z D;simp only [zaa] at q;split at j
   ·rename_i f A;exact ams h l A j D (d5 p h q.1.1 b.1.1) (d5 p h q.1.2 b.1.2.1) (d5 p h q.2 b.1.2.2) b.2
   cases j
  cases q
 ·rename_i op t x y ty B ks x' U l;simp only [zaa] at hc;obtain ⟨⟨⟨O,j⟩,q⟩,u⟩:=hc;have H:op=if B=true then .neq else .eql:=by cases B<;>simpa using O
  obtain ⟨⟨m1,m2,W⟩,b⟩:=b;obtain ⟨a1,a2⟩:=W h;exact as7 h l H j (d5 p h q m1) (d5 p h u m2) a1 a2 b
 ·rename_i t x i cm str z Y x' T l;simp only [zaa,beq_iff_eq] at hc;obtain ⟨⟨⟨j,rfl⟩,q⟩,u⟩:=hc;exact as0 h p l j (d5 p h q b.1.1) (d5 p h u b.1.2) b.2
 ·rename_i c x' l;split at hc
  ·rename_i A;split at hc
   ·rename_i x t hx ht;simp only [zaa] at hc;obtain ⟨d,E,r⟩:=p9 hc.2;cases d with
    | map kt e=>exact apu h p l A (s7 hx) (s7 ht) E (d5 p h hc.1 b.1) b.2
    | _=>cases r
   cases hc
  cases hc
 ·rename_i t x t' x' l;simp only [zaa,beq_iff_eq] at hc;obtain ⟨⟨rfl,j⟩,q⟩:=hc;exact asz l j (d5 p h q b.1)
 ·rename_i x xt t cm t' z Y x' l;simp only [zaa,beq_iff_eq] at hc;obtain ⟨⟨⟨⟨rfl,j⟩,q⟩,rfl⟩,u⟩:=hc;exact asu h l j q (d5 p h u b.1) b.2
 ·rename_i x x' l;exact as9 h p l (d5 p h hc b.1) b.2
 ·rename_i op t x y ty B x' l;simp only [zaa] at hc;obtain ⟨⟨⟨O,j⟩,q⟩,u⟩:=hc;split at O
  ·obtain ⟨d,E,r⟩:=p9 q;have H:op=if B=true then .neq else .eql:=by cases B<;>simpa using j
   split at r
   ·exact as6 h l H E (d5 p h u b.1) b.2
   cases r
  cases O
 cases hc
theorem apb {m:Nat} {x y:AV} {t:TypeId} {inf:TypeInfo} {u v:Operand} (i:Gam X s ρ a w) (g:o.op=.store t u v) (hi:P.info? t=some inf) (h:inf.size=m) (hx:RA X s ρ w x (a.eval u)) (hy:RA X s ρ w y (a.eval v)) (b:(st2 m x y s.ob).ok) :
 bv P X a w s o (st2 m x y s.ob):=by
 unfold st2 at b |-;split at b
 ·rename_i id ver f;obtain ⟨e,b⟩:=b;unfold stb at b |-;split at b
  ·rename_i d hc;exact aum (ok:=True) i g hi h hx hy hc b.1 b.2.1 b.2.2 e
  exact b.elim
 ·rename_i id ver idx f;split at b
  ·rename_i ys c;obtain ⟨e,b⟩:=b;unfold str at b |-;split at b
   ·rename_i sz z q r A j;obtain ⟨p,l,k,n⟩:=b;subst k;exact aul (ok:=True) i g hi h hx hy j c p l n e
   exact b.elim
  exact b.elim
 exact b.elim
theorem abm {d:Nat} {po:PO} (f:Gam X s ρ a w) (hc:aaz P o po=true) (H:po.nod=true) (b:(po.act d s.e s.ob).ok):bv P X a w s o (po.act d s.e s.ob):=by
 unfold aaz at hc;split at hc<;>try (cases H; done)
 ·rename_i t x y m x' M n;simp only [zaa] at hc;obtain ⟨⟨l,r⟩,p⟩:=hc;split at l
  ·rename_i inf hi;exact apb f n hi (by simpa using l) (d5 f rfl r b.1.1) (d5 f rfl p b.1.2) b.2
  cases l
 ·rename_i t x i y str x' I M n;simp only [zaa] at hc;obtain ⟨⟨⟨l,r⟩,p⟩,F⟩:=hc;obtain ⟨⟨j,q,A⟩,b⟩:=b;exact ark f n l (d5 f rfl r j) (d5 f rfl p q) (d5 f rfl F A) b
 ·rename_i c str x' I n;split at hc
  ·rename_i g;split at hc
   ·rename_i x i t R hx B;simp only [zaa] at hc;obtain ⟨⟨l,r⟩,p⟩:=hc;obtain ⟨⟨j,q⟩,b⟩:=b;exact arl f n g (s7 hx) (s7 B) l (d5 f rfl r j) (d5 f rfl p q) b
   cases hc
  cases hc
 ·rename_i c sz z x' n;split at hc
  ·rename_i g;split at hc
   ·rename_i x t hx B;simp only [zaa] at hc;obtain ⟨l,p⟩:=hc;obtain ⟨e,inf,L,hi,k⟩:=t7 l;simp only [zaa,beq_iff_eq] at k;obtain ⟨k,h⟩:=k;split at h
    ·rename_i v D;simp only [zaa,beq_iff_eq] at h;obtain ⟨j,b⟩:=b;have u:=d5 f rfl p j;simp only [PO.act];generalize (x'.ev s.e).bare=N at u b |-;unfold ql at b |-;split at b
     ·rename_i id ver lo len;split at b
      ·rename_i E O J Q S C;obtain ⟨G,K⟩:=b;subst G; subst K;exact auu (ok:=True) (rd':=[]) f n g (s7 hx) (s7 B) L hi k D h.1 h.2 u C
      exact b.elim
     exact b.elim
    cases h
   cases hc
  cases hc
 cases hc
theorem aux {d:Nat} {po:PO} (h:Gam X s ρ a w) (hc:aaz P o po=true) (C:d<X.n) (b:(po.act d s.e s.ob).ok):bv P X a w s o (po.act d s.e s.ob):=by
 have U:=hc;unfold aaz at hc;split at hc
 ·rename_i e zs j;split at hc
  ·rename_i i hi;split at hc
   ·rename_i z N;exact arj C h j hi N hc
   cases hc
  cases hc
 ·rename_i e x x' j;exact auw C h j (d5 h rfl hc b.1) b.2
 ·rename_i t m ps sz z qs j;simp only [zaa,beq_iff_eq,decide_eq_true_eq] at hc;obtain ⟨⟨⟨⟨⟨B,J⟩,E⟩,V⟩,h5⟩,h6⟩:=hc;obtain ⟨e,inf,H,hi,f⟩:=t7 B;simp at f;obtain ⟨zv,N⟩:=zab.1 f.2;simp only [PO.act] at b |-;split at b
  ·rename_i p ys fz h8;simp only [k8] at b;exact auv C h j H hi N f.1 J E V h5 h6 h8 b.1 b.2.1 b.2.2
  exact b.elim
 ·rename_i t x y m x' T j;simp only [zaa] at hc;obtain ⟨⟨B,J⟩,E⟩:=hc;split at B
  ·rename_i inf hi;exact apb h j hi (by simpa using B) (d5 h rfl J b.1.1) (d5 h rfl E b.1.2) b.2
  cases B
 ·rename_i c sz z R x' T j;split at hc
  ·rename_i q;split at hc
   ·rename_i x y t u hx ht;simp only [zaa] at hc;obtain ⟨⟨⟨B,J⟩,E⟩,V⟩:=hc;obtain ⟨e,inf,H,hi,f⟩:=t7 B;obtain ⟨e2,h9,h7,ha,_⟩:=t7 J;simp at f;obtain ⟨⟨⟨g1,g2⟩,g3⟩,Z⟩:=f;obtain ⟨⟨F,D⟩,b⟩:=b;have g:=d5 h rfl E F;have k:=d5 h rfl V D;split at g3
    ·rename_i zv N;have h0:zv.cells.size=inf.size:=by rw [g1]; simpa using g3
     simp only [PO.act];generalize (x'.ev s.e).bare=xv at g b |-;generalize (T.ev s.e).bare=yv at k b |-;generalize G:src s.ob yv=so at b |-;unfold le at b |-;split at b
     ·rename_i K zz sy ys rd;simp only [k8] at b;obtain ⟨L,M,Y,k4⟩:=b;subst L; subst M;exact aiz (ok:=True) C h j q (s7 hx) (s7 ht) H h7 hi N h0 g1 g2 g k G Y k4
     ·rename_i id ver len sy ys rd;split at b
      ·rename_i K z' W wr xs O;obtain ⟨L,M,Y,k4,k5,k6⟩:=b;subst L; subst M; subst k4;exact aiy (ok:=True) (rd':=[]) h j q (s7 hx) (s7 ht) H h7 hi N h0 g1 g2 g O Y k G k5 k6
      exact b.elim
     exact b.elim
    cases g3
   cases hc
  cases hc
 ·rename_i c sz x' T j;split at hc
  ·rename_i q;split at hc
   ·rename_i x y t u hx ht;simp only [zaa] at hc;obtain ⟨⟨⟨B,J⟩,E⟩,V⟩:=hc;obtain ⟨e,inf,H,hi,f⟩:=t7 B;simp only [beq_iff_eq] at f;obtain ⟨⟨F,D⟩,b⟩:=b;have g:=d5 h rfl E F;have k:=d5 h rfl V D;simp only [PO.act];generalize (x'.ev s.e).bare=xv at g b |-;generalize (T.ev s.e).bare=yv at k b |-;generalize G:src s.ob yv=so at b |-;unfold mc at b |-;split at b
    ·rename_i id ver lo len sy ys rd;split at b
     ·rename_i K z' W wr xs O;obtain ⟨L,M,Y⟩:=b;subst L; subst M; subst Y;exact aus (ok:=True) (rd':=[]) h j q (s7 hx) (s7 ht) H hi f g O k G
     exact b.elim
    exact b.elim
   cases hc
  cases hc
 ·rename_i t d x z x' j;simp only [zaa] at hc;obtain ⟨⟨B,J⟩,E⟩:=hc;obtain ⟨d1,S,I⟩:=p9 B;have e1:d1=.string:=by cases d1<;>first | rfl | cases I
  subst e1;obtain ⟨e,inf,H,hi,f⟩:=t7 J;simp only [zaa] at f;obtain ⟨d2,Q,A⟩:=p9 f.2
  have e2:d2=.int .u8:=by
   split at A
   ·rfl
   cases A
  subst e2;obtain ⟨hm,b⟩:=b;have g:=d5 h rfl E hm;simp only [PO.act];generalize (x'.ev s.e).bare=xv at g b |-;unfold bj at b |-;split at b
  ·exact aix (inf:=inf) (ok:=True) C h j S H Q (i7 g) b
  exact b.elim
 ·rename_i t l c sz z R l' c' j;simp only [zaa] at hc;obtain ⟨⟨B,J⟩,E⟩:=hc;obtain ⟨e,inf,H,hi,f⟩:=t7 B;simp only [zaa,beq_iff_eq] at f;obtain ⟨⟨⟨g1,g2⟩,g3⟩,Z⟩:=f;split at Z
  ·rename_i v N;simp only [zaa,beq_iff_eq] at Z;obtain ⟨⟨F,D⟩,b⟩:=b;have g:=d5 h rfl J F;have k:=d5 h rfl E D;simp only [PO.act];generalize (l'.ev s.e).bare=xv at g b |-;generalize (c'.ev s.e).bare=yv at k b |-;unfold uo at b |-;split at b
   ·simp only [k8] at b;exact aup (ok:=True) C h j H hi N g1 g2 Z.1 Z.2 (i7 g) (i7 k) b.1 b.2.1 b.2.2.1 b.2.2.2
   exact b.elim
  cases Z
 ·rename_i t r j;cases r with
  | none=>exact auq C h j
  | some r=>cases hc
 ·rename_i t x i y str x' i' T j;exact abm h U rfl b
 ·rename_i c str x' i' j;exact abm h U rfl b
 ·rename_i t x x' j;simp only [zaa] at hc;obtain ⟨d1,S,I⟩:=p9 hc.1;cases d1 with
  | map kt e=>exact aun C h j S (d5 h rfl hc.2 b.1) b.2
  | _=>cases I
 ·rename_i c sz z x' j;exact abm h U rfl b
 ·rename_i c x' T j;split at hc
  ·rename_i q;split at hc
   ·rename_i x y t u hx ht;simp only [zaa] at hc;obtain ⟨⟨B,E⟩,V⟩:=hc;obtain ⟨e,inf,H,hi,f⟩:=t7 B;simp only [beq_iff_eq] at f;obtain ⟨⟨F,D⟩,b⟩:=b;have g:=d5 h rfl E F;have k:=d5 h rfl V D;simp only [PO.act];generalize (x'.ev s.e).bare=xv at g b |-;generalize (T.ev s.e).bare=yv at k b |-;unfold qk at b |-;split at b
    ·rename_i id ver lo len sv;split at b
     ·rename_i K z' W wr xs O;obtain ⟨L,M⟩:=b;subst L; subst M;exact aut (ok:=True) (rd':=[]) h j q (s7 hx) (s7 ht) H hi f g O (i7 k) rfl rfl
     exact b.elim
    exact b.elim
   cases hc
  cases hc
 ·rename_i t u x x' j;simp only [zaa,beq_iff_eq] at hc;obtain ⟨⟨B,rfl⟩,E⟩:=hc;obtain ⟨e,inf,H,hi,f⟩:=t7 B;obtain ⟨d2,Q,A⟩:=p9 f
  have e2:d2=.int .u8:=by
   split at A
   ·rfl
   cases A
  subst e2;obtain ⟨hm,b⟩:=b;have g:=d5 h rfl E hm;simp only [PO.act];generalize (x'.ev s.e).bare=xv at g b |-;unfold qd at b |-;split at b
  ·split at b
   ·rename_i K z' W wr xs O;obtain ⟨L,M,Y⟩:=b;subst L; subst M;exact auo (ok:=True) (rd':=[]) h j H Q g O Y
   exact b.elim
  exact b.elim
 cases hc
end

end Go.Ev

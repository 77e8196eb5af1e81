import Derived.Maps.RangeRun
import Derived.Test.YtocfnfcflljooaaGreatM1
open Bool renaming and_eq_true → zaa
open Option renaming isSome_iff_exists → zab
open Array renaming getElem?_eq_some_iff → zac
open List renaming modify_toArray → zad
namespace Go.Ev
set_option maxHeartbeats 8000000
set_option maxRecDepth 100000
open Go
set_option linter.unusedSectionVars false
set_option linter.unnecessarySimpa false
set_option linter.unusedVariables false
set_option linter.unusedSimpArgs false
section
variable {P:Program} {X:Cx} {w w':World} {s:St} {ρ ρ':Pl->Option Nat} {a:Act} {o:Oper} {ob ob':Obs} {R R':Nat->Prop}
theorem adz {ob:Obs} {id ver:Nat} {es:List MapEntry} {c:Nat} (h:t9 ob id ver=some (es,c)):ob id=some (ver,.map es c):=by
 unfold t9 at h;split at h
 ·rename_i v a c' b;split at h
  ·rename_i d; cases h; rw [b,d]
  cases h
 cases h
theorem ahh {ob:Obs} {id ver:Nat} {m:AV} {a c:Nat} {b:List Nat} (h:cb ob id ver=some (m,a,b,c)):ob id=some (ver,.iter m a b c):=by
 unfold cb at h;split at h
 ·rename_i v m' s' e' f d;split at h
  ·rename_i e; cases h; rw [d,e]
  cases h
 cases h
theorem bt {b c:Nat} {es:Array MapEntry} (a:w.heap[b]?=some (.map es c)):(getObj b).run P w=.ok (.map es c) w:=by simp [getObj,Sem.run,a]
theorem kw {b c:Nat} {es:Array MapEntry} (y:Obj) (a:w.heap[b]?=some (.map es c)):(setObj b y).run P w=.ok () { w with heap:=w.heap.setIfInBounds b y }:=by simp [setObj,Sem.run,a]
theorem xh (v:Value):RelV w R (jq v) v:=by
 unfold jq;split
 ·rename_i cs;refine .agg _ _ (by simp) λ i x c hx hc=>?_;rw [List.getElem?_map,Option.map_eq_some_iff] at hx;obtain ⟨y,hy,rfl⟩:=hx;rw [Array.getElem?_toList] at hy;rw [hc] at hy;cases hy;exact .v _
 exact .v _
theorem awv {v:Value} {x:RV} (h:eqr v x=true) (hx:∃y,x=.v y):RelV w R x v:=by
 obtain ⟨y,rfl⟩:=hx
 have:eqv v y=true:=by
  cases v with
  | slice a l c=>rcases a with _ | a<;>rcases l with _ | l<;>rcases c with _ | c<;>exact h
  | _=>exact h
 rw [aju this];exact .v _
theorem ae0 {z:RV} {e:TypeId} (h:yf P z e=true):∃i v,P.info? e=some i/\i.zero=some v/\∀(w:World) (R:Nat->Prop),RelV w R z v:=by
 unfold yf at h;split at h
 ·rename_i i b;split at h
  ·rename_i v d;refine ⟨i,v,b,d,λ w R=>?_⟩;split at h
   ·rename_i cs xs;simp only [zaa] at h;obtain ⟨a,f⟩:=h;refine .agg _ _ (by rw [<- jx a]; simp) λ j x c hx hc=>?_;refine awv (aay a (by simpa using hc) hx) ?_;have:=List.all_eq_true.1 f x (List.mem_of_getElem? hx);cases x<;>simp at this;exact ⟨_,rfl⟩
   ·rw [aju h]; exact .v _
   cases h
  cases h
 cases h
def ar7 (P:Program) (k:TypeId) (v:Value):Prop:=(∃q a n,P.underlying k=some (.int q)/\v=.int a n)\/(∃t,P.underlying k=some .string/\v=.string t)
theorem ad4 {t:TypeId} {str:Bool} {f:TypeId->Bool} (h:ya P t str f=true):∃k e,P.underlying t=some (.map k e)/\f e=true/\∀v,de str v=true->ar7 P k v:=by
 unfold ya at h;split at h
 ·rename_i k e d;simp only [zaa] at h;refine ⟨k,e,d,h.2,λ v b=>?_⟩;have a:=h.1;split at a
  ·rename_i q c;cases v<;>simp [de] at b
   ·exact .inl ⟨q,_,_,c,rfl⟩
   rw [b] at a; cases a
  ·rename_i c;cases v<;>simp [de] at b
   ·rw [b] at a; cases a
   exact .inr ⟨_,c,rfl⟩
  cases a
 cases h
theorem ahn {q a:IntKind} {n:Int}:∀(es:List MapEntry) (i:Nat),Instr.findNow (.int a) (.int q n) es i=be (.int q n) es i
 | [],i=>rfl
 | e::es,i=>by
   have h:Instr.sameNow (.int a) (.int q n) e.key=ni (.int q n) e.key:=by cases e.key<;>rfl
   simp only [Instr.findNow,be,h];rcases ni (.int q n) e.key with _ | b
   ·rfl
   cases b
   ·exact ahn es (i+1)
   rfl
theorem ahm {t:ByteArray}:∀(es:List MapEntry) (i:Nat),Instr.findNow .string (.string t) es i=be (.string t) es i
 | [],i=>rfl
 | e::es,i=>by
   have h:Instr.sameNow .string (.string t) e.key=ni (.string t) e.key:=by cases e.key<;>rfl
   simp only [Instr.findNow,be,h];rcases ni (.string t) e.key with _ | b
   ·rfl
   cases b
   ·exact ahm es (i+1)
   rfl
theorem gf {k:TypeId} {v:Value} {es:List MapEntry} {r:Option (Nat×Value)} (c:ar7 P k v) (b:be v es 0=some r):(Instr.findKey k v es).run P w=.ok r w:=by
 rcases c with ⟨q,d,n,a,rfl⟩ | ⟨t,a,rfl⟩
 ·simp [Instr.findKey,run_underlying a,ahn,b]
 simp [Instr.findKey,run_underlying a,ahm,b]
theorem alx {k:TypeId} {v:Value} {b:Bool} (n:Nat) (c:ar7 P k v):(Instr.checkKey b (n+1) k v).run P w=.ok () w:=by
 rcases c with ⟨q,d,n,a,rfl⟩ | ⟨t,a,rfl⟩
 ·simp [Instr.checkKey,run_underlying a]
 simp [Instr.checkKey,run_underlying a]
theorem eh {k:TypeId} {v:Value} {b:Bool} (a:ar7 P k v):(Instr.checkKey b 10000 k v).run P w=.ok () w:=alx 9999 a
theorem Gam.mapB (i:Gam X s ρ a w) {id ver:Nat} {es:List MapEntry} {c:Nat} {v:Value} (g:t9 s.ob id ver=some (es,c)) (h:RA X s ρ w (.mp id ver) v):∃b,ρ id=some b/\v=.map (some b)/\w.heap[b]?=some (.map es.toArray c):=by
 have d:=adz g;cases h;rename_i hc h;obtain ⟨b,e,rfl⟩:=h.live d;obtain ⟨k,f,j⟩:=i.obj id ver _ d;rw [e] at f;cases f;exact ⟨b,e,rfl,j⟩
theorem aai {k:Value}:∀{es:List MapEntry} {i j:Nat} {v:Value},be k es i=some (some (j,v))->i<=j/\∃e,es[j-i]?=some e/\e.val=v/\ni k e.key=some true
 | [],i,j,v,h=>by cases h
 | e::es,i,j,v,h=>by
   simp only [be] at h;split at h
   ·rename_i b;cases h;exact ⟨Nat.le_refl _,e,by simp,rfl,b⟩
   ·obtain ⟨f,e',d,c,a⟩:=aai h;refine ⟨by omega,e',?_,c,a⟩;rw [show j-i=(j-(i+1))+1 by omega,List.getElem?_cons_succ];exact d
   cases h
theorem ay0 {g:Bool} (H:g=true) {str d:Bool} {z:RV} {t:TypeId} {x i:Operand} {u k:AV} (V:Gam X s ρ a w) (O:o.op=.lookup t x i d) (M:ya P t str (yf P z)=true) (hx:RA X s ρ w u (a.eval x)) (W:RA X s ρ w k (a.eval i))
 (f:(uy g str z d u k s.ob).ok):o7 P X a w s ρ o (uy g str z d u k s.ob).v:=by
 obtain ⟨Y,e,J,T,p⟩:=ad4 M;obtain ⟨inf,L,N,C,F⟩:=ae0 T;unfold uy at f |-;split at f
 ·rename_i id ver E;rcases hmp:t9 s.ob id ver with _ | ⟨es,c⟩
  ·rw [hmp] at f; exact (f H).elim
  rw [hmp] at f;simp only [rc] at f |-;obtain ⟨S,U⟩:=f H;obtain ⟨b,R,Q,K⟩:=V.mapB hmp hx;have G:=m7 W;have A:=p E S;obtain ⟨r,m⟩:=zab.1 U;have l:(zeroValue e).run P w=.ok L w:=by simp [zeroValue,typeInfo,N,C]
  have n:∃val ok,(Instr.lookup t (a.eval x) (a.eval i) d).run P w=.ok (if d then .tuple #[val,.bool ok] else val) w/\ok=lkB es E/\RelV w (j8 X.B s.ob ρ w) (lkR es E z) val:=by
   rw [Q,G];rcases r with _ | ⟨j,val⟩
   ·refine ⟨L,false,?_,by simp [lkB,m],by simp only [lkR,m]; exact F _ _⟩;simp [Instr.lookup,run_underlying J,bt K,eh A,gf A m,l]
   refine ⟨val,true,?_,by simp [lkB,m],by simp only [lkR,m]; exact xh _⟩;simp [Instr.lookup,run_underlying J,bt K,eh A,gf A m]
  obtain ⟨val,D,q,I,h⟩:=n;refine ⟨if d then .tuple #[val,.bool D] else val,?_,?_⟩
  ·simp only [execOp,O,Sem.run_bind,q,Result.andThen_ok,Sem.run_pure]
  cases d with
  | false=>exact .r h
  | true=>
    subst I;refine .tup _ _ rfl λ i y c hy hc=>?_
    match i with
    | 0=>simp at hy hc; subst hy; subst hc; exact .r h
    | 1=>simp at hy hc; subst hy; subst hc; exact .r (.v _)
    | i+2=>simp at hy
 exact (f.2 H).elim
theorem avk {g:Bool} (h:g=true) {t:TypeId} {x:Operand} {c:Call} {u:AV} {j e:TypeId} (p:Gam X s ρ a w) (k:o.op=.call c) (hc:c.callee=.builtin .len) (n:c.args=#[x]) (f:c.argTypes=#[t]) (i:P.underlying t=some (.map j e))
 (hx:RA X s ρ w u (a.eval x)) (d:(nq g u s.ob).ok):o7 P X a w s ρ o (nq g u s.ob).v:=by
 unfold nq at d |-;split at d
 ·rename_i id ver;rcases hmp:t9 s.ob id ver with _ | ⟨es,y⟩
  ·rw [hmp] at d; exact (d h).elim
  obtain ⟨b,m,l,q⟩:=p.mapB hmp hx;simp only [rc];refine ⟨.int .i64 es.length,?_,.r (.v _)⟩;simp [execOp,k,resolve,hc,n,f,invoke,builtin,Builtin.len_,run_underlying i,l,bt q,goInt]
 exact (d.2 h).elim
theorem alk {t:TypeId} (h:ac3 P t=true):∃d,P.underlying t=some d/\∀a,d≠.interface a:=by
 unfold ac3 at h;split at h
 ·cases h
 ·rename_i d c b;exact ⟨d,b,λ a e=>c a e⟩
 cases h
theorem ayz {t:TypeId} {x:Operand} {u:AV} (c:o.op=.makeInterface t x) (hc:ac3 P t=true) (hx:RA X s ρ w u (a.eval x)):o7 P X a w s ρ o (.ifc t u):=by
 obtain ⟨d,e,b⟩:=alk hc;refine ⟨.iface t (a.eval x),?_,.ifc t hx⟩
 have:(Instr.makeInterface t (a.eval x)).run P w=.ok (.iface t (a.eval x)) w:=by
  simp only [Instr.makeInterface,Sem.run_bind,run_underlying e,Result.andThen_ok];cases d<;>first | rfl | exact absurd rfl (b _)
 simp only [execOp,c,Sem.run_bind,this,Result.andThen_ok,Sem.run_pure]
theorem ayu {g:Bool} (A:g=true) {t q:TypeId} {z:RV} {b:Bool} {x:Operand} {u:AV} (E:o.op=.typeAssert x q t b) (hc:ac3 P t=true) (F:yf P z t=true) (hx:RA X s ρ w u (a.eval x)) (f:(xd g t z b u).1):o7 P X a w s ρ o (xd g t z b u).2:=by
 obtain ⟨d,G,B⟩:=alk hc;obtain ⟨inf,C,D,l,m⟩:=ae0 F;unfold xd at f |-;split at f
 ·rename_i j y;generalize p:a.eval x=v at hx;cases hx;rename_i c hy
  have k:(Instr.typeAssert (.iface j c) q t b).run P w=.ok (if j=t then (if b then .tuple #[c,.bool true] else c) else .tuple #[C,.bool false]) w:=by
   simp only [Instr.typeAssert,Sem.run_bind,run_underlying G,Result.andThen_ok];by_cases h:j=t
   ·subst h;cases d<;>first | (simp; done) | exact absurd rfl (B _)
   have n:b=true:=(f A).resolve_left h;subst n;cases d<;>first | (simp [h,zeroValue,typeInfo,D,l]; done) | exact absurd rfl (B _)
  refine ⟨if j=t then (if b then .tuple #[c,.bool true] else c) else .tuple #[C,.bool false],by simp only [execOp,E,p,Sem.run_bind,k,Result.andThen_ok,Sem.run_pure],?_⟩;by_cases h:j=t
  ·simp only [h,if_true];cases b with
   | false=>exact hy
   | true=>
     refine .tup _ _ rfl λ i y c e hc=>?_
     match i with
     | 0=>simp at e hc; subst e; subst hc; exact hy
     | 1=>simp at e hc; subst e; subst hc; exact .r (.v _)
     | i+2=>simp at e
  simp only [h,if_false];refine .tup _ _ rfl λ i y c e hc=>?_
  match i with
  | 0=>simp at e hc; subst e; subst hc; exact .r (m _ _)
  | 1=>simp at e hc; subst e; subst hc; exact .r (.v _)
  | i+2=>simp at e
 exact (f A).elim
theorem ay9 {g:Bool} (z:g=true) {x:Operand} {u:AV} (Q:Gam X s ρ a w) (T:o.op=.entry x) (hx:RA X s ρ w u (a.eval x)) (d:(ss g u s.ob).ok):o7 P X a w s ρ o (ss g u s.ob).v:=by
 unfold ss at d |-;split at d
 ·rename_i id ver;rcases hit:cb s.ob id ver with _ | ⟨m,E,n,Z⟩
  ·rw [hit] at d; exact (d z).elim
  rw [hit] at d;have q:=ahh hit;generalize K:a.eval x=v at hx;cases hx;rename_i U h;obtain ⟨b,F,rfl⟩:=h.live q;obtain ⟨b',bm,O,W,R⟩:=Q.obj id ver _ q;rw [F] at O; cases O;unfold rj at d |-;split at d
  ·rename_i I t A C S D;cases D;rcases hmp:t9 s.ob I t with _ | ⟨es,c⟩
   ·rw [hmp] at d; exact (d z).elim
   rw [hmp] at d;obtain ⟨V,M,H,J⟩:=Q.mapB hmp R;cases H;simp only [sr] at d |-;obtain ⟨G,B⟩:=d z;subst G;obtain ⟨e,L⟩:=zab.1 B;have j:=L;unfold an1 at j;split at j
   ·rename_i N Y;have l:n.toArray.back?=some N:=by simpa using Y
    have k:es.toArray.find? (λ e=>e.born == N)=some e:=by simpa using j
    have p:(Instr.entry (.pointer (some ⟨b,0,none⟩))).run P w=.ok (.tuple #[e.key,e.val]) w:=by
     simp only [Instr.entry,getObj,Sem.run_bind,Sem.run,W,J,Result.andThen,l,bne_self_eq_false,Bool.false_eq_true,if_false,k]
     rfl
    refine ⟨.tuple #[e.key,e.val],by simp only [execOp,T,K,Sem.run_bind,p,Result.andThen_ok,Sem.run_pure],?_⟩;rw [L];refine .tup _ _ rfl λ i y c f hc=>?_
    match i with
    | 0=>simp at f hc; subst f; subst hc; exact .r (xh _)
    | 1=>simp at f hc; subst f; subst hc; exact .r (xh _)
    | i+2=>simp at f
   cases j
  exact (d z).elim
 exact (d.2 z).elim
theorem amd {R:Nat->Prop}:∀{xs:List RV} {l:List Value},xb xs=some l->l.length=xs.length/\∀(i:Nat) (x:RV) (c:Value),xs[i]?=some x->RelV w R x c->l[i]?=some c
 | [],l,h=>by cases h; exact ⟨rfl,λ i x c hx=>by simp at hx⟩
 | .v y::xs,l,h=>by
   simp only [xb] at h;split at h
   ·rename_i f e;cases h;obtain ⟨b,d⟩:=amd (R:=R) e;refine ⟨by simp [b],λ i x c hx a=>?_⟩;cases i with
    | zero=>simp at hx; subst hx; cases a; rfl
    | succ i=>simp at hx; simpa using d i x c hx a
   cases h
 | .agg _::_,l,h=>by cases h
 | .sl _ _::_,l,h=>by cases h
theorem ame:∀{xs:List AV} {l:List Value},xc xs=some l->l.length=xs.length/\∀(i:Nat) (x:AV) (c:Value),xs[i]?=some x->RelA w R ob ρ x c->l[i]?=some c
 | [],l,h=>by cases h; exact ⟨rfl,λ i x c hx=>by simp at hx⟩
 | y::xs,l,h=>by
   unfold xc at h;split at h
   ·rename_i a; cases a
   ·rename_i v e a;cases a;split at h
    ·rename_i j g;cases h;obtain ⟨d,f⟩:=ame g;refine ⟨by simp [d],λ i x c hx b=>?_⟩;cases i with
     | zero=>simp at hx; subst hx; cases b; rename_i b; cases b; rfl
     | succ i=>simp at hx; simpa using f i x c hx b
    cases h
   cases h
theorem au5 {cs:Array Value} {l:List Value} (d:l.length=cs.size) (h:∀(i:Nat) (c:Value),cs[i]?=some c->l[i]?=some c):cs=l.toArray:=by
 apply Array.ext (by simp [d]);intro i b a;have:=h i cs[i] (by simp [b]);simp at a;rw [List.getElem?_eq_getElem a] at this;simpa using (Option.some.inj this).symm
theorem ao2 {x:AV} {v c:Value} (h:toV x=some v) (hx:RelA w R ob ρ x c):c=v:=by
 unfold toV at h;split at h
 ·cases h; cases hx; rename_i hx; cases hx; rfl
 ·rename_i xs;unfold kh at h;split at h
  ·rename_i l f;cases h;cases hx; rename_i hx; cases hx;rename_i cs b a;obtain ⟨g,d⟩:=amd (w:=w) (R:=R) f;congr 1;refine au5 (by omega) λ i c hc=>?_;have e:=(zac.1 hc).1;exact d i (xs[i]'(by omega)) c (by simp [show i<xs.length by omega]) (a i _ c (by simp [show i<xs.length by omega]) hc)
  cases h
 ·rename_i xs;unfold kh at h;split at h
  ·rename_i l f;cases h;cases hx;rename_i cs b a;obtain ⟨g,d⟩:=ame (w:=w) (R:=R) (ob:=ob) (ρ:=ρ) f;congr 1;refine au5 (by omega) λ i c hc=>?_;have e:=(zac.1 hc).1;exact d i (xs[i]'(by omega)) c (by simp [show i<xs.length by omega]) (a i _ c (by simp [show i<xs.length by omega]) hc)
  cases h
 cases h
theorem aia {b:Nat} {x y:Obj} (h:w.heap[b]?=some x):Mods w { w with heap:=w.heap.setIfInBounds b y } b y:=by
 have a:=(zac.1 h).1;exact ⟨rfl,rfl,rfl,by simp,by simp [a],λ k c=>by simp [Array.getElem?_setIfInBounds_ne (Ne.symm c)]⟩
theorem air {id ver:Nat} {es d:List MapEntry} {c c':Nat} {v:Value} {ok:Prop} {nx:Next} (n:Gam X s ρ a w) (m:t9 s.ob id ver=some (es,c)) (hx:RA X s ρ w (.mp id ver) v)
 (g:∀b,v=.map (some b)->w.heap[b]?=some (.map es.toArray c)->(execOp a.eval o).run P w=.ok nx { w with heap:=w.heap.setIfInBounds b (.map d.toArray c') })
 (j:(∃u,nx=.value u)\/nx=.skip):fw P X a w s o ⟨ok,.undef,upd id (ver,.map d c') s.ob,[id],[id]⟩:=by
 obtain ⟨b,f,p,l⟩:=n.mapB m hx;have k:=adz m;have i:=aia (y:=.map d.toArray c') l;refine ⟨nx,_,ρ,g b p l,n.modifyG k rfl f i (λ cs e fr h=>by rw [l] at h; cases h) ver (.inl ⟨rfl,trivial⟩) (.inr ⟨rfl,trivial,λ _=>rfl⟩) ⟨b,f,i.new⟩,?_⟩;rcases j with ⟨u,rfl⟩ | rfl
 ·exact .inl ⟨u,rfl,.undef _⟩
 exact .inr ⟨rfl,rfl⟩
theorem a5r {a b:ByteArray} (h:(a == b)=true):a=b:=by
 cases a; cases b;have:(ByteArray.mk _).beq (ByteArray.mk _)=true:=h;simpa [ByteArray.beq] using this
theorem a06 (a:ByteArray):(a == a)=true:=by
 show a.beq a=true;simp [ByteArray.beq]
theorem aoo {k c:Value} (n:Nat) (h:ni k c=some true):Instr.sameBits n c k=true:=by
 unfold ni at h;split at h
 ·split at h
  ·rename_i e;simp at h;subst e; subst h;simp [Instr.sameBits]
  cases h
 ·rename_i a b;have d:(a == b)=true:=by simpa using h
  rw [a5r d];simp [Instr.sameBits,a06]
 cases h
theorem aiz {k a:Value} (h:ni k a=some true):Instr.sameBits 10000 a k=true:=aoo 10000 h
theorem axe {str:Bool} {t:TypeId} {x i y:Operand} {u k q:AV} (L:Gam X s ρ a w) (F:o.op=.mapUpdate t x i y) (E:ya P t str (λ _=>true)=true) (hx:RA X s ρ w u (a.eval x)) (M:RA X s ρ w k (a.eval i)) (hy:RA X s ρ w q (a.eval y))
 (d:(nl str u k q s.ob).ok):fw P X a w s o (nl str u k q s.ob):=by
 obtain ⟨N,e,C,_,l⟩:=ad4 E;unfold nl at d |-;split at d
 ·rename_i id ver g;unfold sf at d |-;split at d
  ·rename_i v G;rcases hmp:t9 s.ob id ver with _ | ⟨es,c⟩
   ·rw [hmp] at d; exact d.elim
   rw [hmp] at d;simp only [nf] at d |-;obtain ⟨I,K⟩:=d;have p:=l g I;obtain ⟨r,h⟩:=zab.1 K;have A:=m7 M;have B:=ao2 G hy;refine air (ok:=_) (nx:=.skip) L hmp hx (λ b z n=>?_) (.inr rfl)
   have m:(Instr.mapUpdate t (a.eval x) (a.eval i) (a.eval y)).run P w=.ok () { w with heap:=w.heap.setIfInBounds b (.map (ao es c g v).toArray (ah es c g)) }:=by
    rw [z,A,B];rcases r with _ | ⟨j,val⟩
    ·simp only [ao,ah,h];simp [Instr.mapUpdate,run_underlying C,bt n,eh p,gf p h,kw _ n]
    obtain ⟨_,J,D,O,H⟩:=aai h;rw [Nat.sub_zero] at D;simp only [ao,ah,h];have f:(Instr.keyThatStays J.key g).run P w=.ok g w:=by simp [Instr.keyThatStays,aiz H]
    simp [Instr.mapUpdate,run_underlying C,bt n,eh p,gf p h,D,f,kw _ n,zad]
   simp only [execOp,F,Sem.run_bind,m,Result.andThen_ok,Sem.run_pure]
  exact d.elim
 exact d.elim
theorem axf {t:TypeId} {x i y:Operand} {u k q:AV} (z:Gam X s ρ a w) (p:o.op=.entryStore t x i y) (hx:RA X s ρ w u (a.eval x)) (A:RA X s ρ w k (a.eval i)) (hy:RA X s ρ w q (a.eval y))
 (d:(agv u k q s.ob).ok):fw P X a w s o (agv u k q s.ob):=by
 unfold agv at d |-;split at d
 ·rename_i id ver B n;unfold aly at d |-;split at d
  ·rename_i v r;rcases hmp:t9 s.ob id ver with _ | ⟨es,c⟩
   ·rw [hmp] at d; exact d.elim
   rw [hmp] at d;simp only [nf] at d |-;have g:=m7 A;have h:=ao2 r hy;refine air (ok:=_) (nx:=.skip) z hmp hx (λ b f m=>?_) (.inr rfl);obtain ⟨j,l⟩:=zab.1 d
   have e:(Instr.entryStore t (a.eval x) (a.eval i) (a.eval y)).run P w=.ok () { w with heap:=w.heap.setIfInBounds b (.map (ajg es n v).toArray c) }:=by
    rw [f,g,h];simp only [ajg,l];simp [Instr.entryStore,bt m,asInt,asIntOf,l,kw _ m,zad]
   simp only [execOp,p,Sem.run_bind,e,Result.andThen_ok,Sem.run_pure]
  exact d.elim
 exact d.elim
theorem axg {str:Bool} {z:RV} {t:TypeId} {x i:Operand} {u k:AV} (M:Gam X s ρ a w) (Q:o.op=.mapEntry t x i) (N:ya P t str (yf P z)=true) (hx:RA X s ρ w u (a.eval x)) (Z:RA X s ρ w k (a.eval i))
 (d:(ady str z u k s.ob).ok):fw P X a w s o (ady str z u k s.ob):=by
 obtain ⟨kt,e,K,V,B⟩:=ad4 N;obtain ⟨inf,p,O,F,G⟩:=ae0 V;unfold ady at d |-;split at d
 ·rename_i id ver f;cases z with
  | v zv'=>
    rcases hmp:t9 s.ob id ver with _ | ⟨es,c⟩
    ·rw [hmp] at d; exact d.elim
    rw [hmp] at d;simp only [ajh] at d |-;obtain ⟨U,Y⟩:=d;have E:=B f U;obtain ⟨r,l⟩:=zab.1 Y;have H:=m7 Z
    have I:p=zv':=by
     have:=G w (λ _=>False);cases this
     rfl
    subst I;have m:(zeroValue e).run P w=.ok p w:=by simp [zeroValue,typeInfo,O,F]
    obtain ⟨b,A,S,n⟩:=M.mapB hmp hx;have J:=adz hmp;have C:=aia (y:=.map (aak es c f p).toArray (ah es c f)) n
    obtain ⟨val,q,D⟩:∃val,(Instr.mapEntry t (a.eval x) (a.eval i)).run P w=.ok (.tuple #[val,.int .i64 (aaj es c f)]) { w with heap:=w.heap.setIfInBounds b (.map (aak es c f p).toArray (ah es c f)) }/\∀w R,RelV w R (lkR es f (.v p)) val:=by
     rw [S,H];rcases r with _ | ⟨j,val⟩
     ·refine ⟨p,?_,λ w R=>by simp only [lkR,l]; exact .v _⟩;simp only [aak,aaj,ah,l];simp [Instr.mapEntry,run_underlying K,bt n,eh E,gf E l,m,kw _ n,goInt]
     obtain ⟨_,W,L,g2,T⟩:=aai l;rw [Nat.sub_zero] at L;have g:(Instr.keyThatStays W.key f).run P w=.ok f w:=by simp [Instr.keyThatStays,aiz T]
     refine ⟨val,?_,λ w R=>by simp only [lkR,l]; exact xh _⟩;simp only [aak,aaj,ah,l];simp [Instr.mapEntry,run_underlying K,bt n,eh E,gf E l,L,g,kw _ n,zad,goInt]
    refine ⟨.value (.tuple #[val,.int .i64 (aaj es c f)]),_,ρ,by simp only [execOp,Q,Sem.run_bind,q,Result.andThen_ok,Sem.run_pure],M.modifyG J rfl A C (λ cs e fr h=>by rw [n] at h; cases h) ver (.inl ⟨rfl,trivial⟩) (.inr ⟨rfl,trivial,λ _=>rfl⟩) ⟨b,A,C.new⟩,.inl ⟨_,rfl,?_⟩⟩;refine .tup _ _ rfl λ i y c' hy hc=>?_
    match i with
    | 0=>simp at hy hc; subst hy; subst hc; exact .r (D _ _)
    | 1=>simp at hy hc; subst hy; subst hc; exact .r (.v _)
    | i+2=>simp at hy
  | _=>exact d.elim
 exact d.elim
theorem axh {str:Bool} {t D:TypeId} {x i:Operand} {u k:AV} {c:Call} (I:Gam X s ρ a w) (C:o.op=.call c) (hc:c.callee=.builtin .delete) (E:c.args=#[x,i]) (v:c.argTypes=#[t,D]) (B:ya P t str (λ _=>true)=true) (hx:RA X s ρ w u (a.eval x)) (J:RA X s ρ w k (a.eval i))
 (d:(nn str u k s.ob).ok):fw P X a w s o (nn str u k s.ob):=by
 obtain ⟨K,e,y,_,h⟩:=ad4 B;unfold nn at d |-;split at d
 ·rename_i id ver A;rcases hmp:t9 s.ob id ver with _ | ⟨es,F⟩
  ·rw [hmp] at d; exact d.elim
  rw [hmp] at d;simp only [nf] at d |-;obtain ⟨G,H⟩:=d;have p:=h A G;obtain ⟨r,f⟩:=zab.1 H;have l:=m7 J;refine air (ok:=_) (nx:=.value (.tuple #[])) I hmp hx (λ b g n=>?_) (.inl ⟨_,rfl⟩)
  have m:(Builtin.delete_ c.argTypes o.type (c.args.map a.eval)).run P w=.ok (.tuple #[]) { w with heap:=w.heap.setIfInBounds b (.map (aq es A).toArray F) }:=by
   rw [E,v];rcases r with _ | ⟨j,val⟩
   ·simp only [aq,f];simp [Builtin.delete_,run_underlying y,g,l,bt n,eh p,gf p f,kw _ n]
   obtain ⟨_,L,z,_⟩:=aai f;rw [Nat.sub_zero] at z;have q:=(List.getElem?_eq_some_iff.1 z).1;simp only [aq,f];simp [Builtin.delete_,run_underlying y,g,l,bt n,eh p,gf p f,kw _ n,Array.eraseIdxIfInBounds,q]
  simp only [execOp,C,resolve,hc,Sem.run_bind,Sem.run_pure,Result.andThen_ok,invoke,builtin,m]
 exact d.elim
theorem a1f {d:Nat} {t:TypeId} {ok:Prop} (c:d<X.n) (e:Gam X s ρ a w) (f:o.op=.makeMap t none):fw P X a w s o (q9 s.ob d (.map [] 0) (λ v=>.mp d v) ok [] []):=by
 have b:(execOp a.eval o).run P w=.ok (.value (.map (some w.heap.size))) (w.alloc (.map #[] 0)):=by
  simp [execOp,f,Instr.makeMap]
 refine ov c e (ae _) b ?_ (.mp _ _ _ rfl (jk ⟨_,by simp [s6],rfl⟩));exact ⟨w.heap.size,by simp [s6],(ae _).new⟩
theorem a1c {d:Nat} {t r e:TypeId} {x:Operand} {u:AV} (l:d<X.n) (m:Gam X s ρ a w) (y:o.op=.range t x) (q:P.underlying t=some (.map r e)) (hx:RA X s ρ w u (a.eval x)) (f:(si d u s.ob).ok):fw P X a w s o (si d u s.ob):=by
 unfold si at f |-;split at f
 ·rename_i i g;rcases hmp:t9 s.ob i g with _ | ⟨es,c⟩
  ·rw [hmp] at f; exact f.elim
  obtain ⟨b,z,p,A⟩:=m.mapB hmp hx;simp only [zg]
  have j:(execOp a.eval o).run P w=.ok (.value (.pointer (some ⟨w.heap.size,0,none⟩))) (w.alloc (.mapIter (some b) c #[] c)):=by
   simp [execOp,y,Instr.range,run_underlying q,p,bt A]
  have k:=Stays.alloc m (ae (.mapIter (some b) c #[] c)) d (nv s.ob d) (λ v o h=>ut h) (.iter (.mp i g) c [] c);refine ov (rd:=[i]) l m (ae _) j ?_ (.ptr _ _ _ _ rfl (jk ⟨_,by simp [s6],rfl⟩));refine ⟨w.heap.size,b,by simp [s6],(ae _).new,?_⟩;rw [<- p];exact hx.stays k
 exact f.elim
end

section
variable {P:Program} {X:Cx} {w w':World} {s:St} {ρ ρ':Pl->Option Nat} {a:Act} {o:Oper}
theorem bf {t:TypeId} {f:TypeId->TypeInfo->Bool} (h:dm P t f=true):∃e i,P.underlying t=some (.slice e)/\P.info? e=some i/\f e i=true:=by
 unfold dm at h;split at h
 ·rename_i e a;split at h
  ·rename_i i b;exact ⟨e,i,a,b,h⟩
  cases h
 cases h
theorem ab {t:TypeId} {f:TypeDesc->Bool} (h:ai P t f=true):∃d,P.underlying t=some d/\f d=true:=by
 unfold ai at h;split at h
 ·rename_i d a;exact ⟨d,a,h⟩
 cases h
theorem ajt {t:TypeId} {k:Nat} {f:Go.Field->TypeInfo->Bool} (h:ag1 P t k f=true):∃b a i,P.underlying t=some (.struct b)/\b[k]?=some a/\P.info? a.type=some i/\f a i=true:=by
 unfold ag1 at h;split at h
 ·rename_i b d;split at h
  ·rename_i a c;split at h
   ·rename_i i e;exact ⟨b,a,i,d,c,e,h⟩
   cases h
  cases h
 cases h
theorem ac6 {g:Bool} (d:Gam X s ρ a w) (c:g=true) {x:Option Operand} {y:Option Opd} (h:ah5 x y=true) (b:PO.see.mayO g s.e y):RAO X s ρ w a x (PO.see.bareO s.e y):=by
 unfold ah5 at h;split at h
 ·trivial
 ·exact j7 d c h b
 cases h
theorem aav {g:Bool} (f:Gam X s ρ a w) (d:g=true):∀{xs:List Operand} {ys:List Opd},x7 opd xs ys=true->bi g s.e ys->(n6 s.e ys).length=xs.length/\∀(i:Nat) (x:AV) (y:Operand),(n6 s.e ys)[i]?=some x->xs[i]?=some y->RA X s ρ w x (a.eval y)
 | [],[],_,_=>⟨rfl,by simp [n6]⟩
 | x::xs,y::ys,h,hm=>by
   simp [x7] at h;obtain ⟨j,k⟩:=aav f d h.2 hm.2;refine ⟨by simp [n6,j],λ i p q b c=>?_⟩;cases i with
   | zero=>simp [n6] at b c; subst b; subst c; exact j7 f d h.1 hm.1
   | succ i=>simp [n6] at b c; exact k i p q b c
 | [],_::_,h,_=>by cases h
 | _::_,[],h,_=>by cases h
theorem an {a:Type} {xs:Array a} {l:List a} (h:xs.toList=l):xs=l.toArray:=by rw [<- h]
theorem azc {g:Bool} (h:g=true) {po:PO} (p:Gam X s ρ a w) (hc:an8 P o po=true) (b:(po.see g s.e s.ob).ok):o7 P X a w s ρ o (po.see g s.e s.ob).v:=by
 unfold an8 at hc;split at hc
 ·rename_i x y l;refine ⟨_,?_,j7 p h hc b.1⟩;simp only [execOp,l,Sem.run_pure]
 ·rename_i x y l;refine ⟨_,?_,j7 p h hc b.1⟩;simp only [execOp,l,Sem.run_pure]
 ·rename_i c x y c' x' V l;simp only [zaa] at hc;exact avj h l (j7 p h hc.1.1 b.1) (agq p.env hc.1.2) (agq p.env hc.2) b.2
 ·rename_i op t x y ty Z x' V l;simp only [zaa,beq_iff_eq] at hc;obtain ⟨⟨rfl,j⟩,q⟩:=hc;exact aza h l (j7 p h j b.1.1) (j7 p h q b.1.2) b.2
 ·rename_i op t x y ty B x' V l;simp only [zaa] at hc;obtain ⟨⟨⟨Q,j⟩,q⟩,u⟩:=hc;obtain ⟨d,E,r⟩:=ab j;have H:op=if B=true then .neq else .eql:=by cases B<;>simpa using Q
  have hb:d=.bool:=by cases d<;>first | rfl | cases r
  subst hb;exact azb h l H E (j7 p h q b.1.1) (j7 p h u b.1.2) b.2
 ·rename_i op t x Z x' l;simp only [zaa,beq_iff_eq] at hc;obtain ⟨rfl,j⟩:=hc;exact a14 h l (j7 p h j b.1) b.2
 ·rename_i t d x k x' l;simp only [zaa] at hc;obtain ⟨⟨j,q⟩,u⟩:=hc;obtain ⟨d1,M,_⟩:=ab j;obtain ⟨S,O,r⟩:=ab q;have:S=.int k:=by cases S<;>first | cases r; done | (simp at r; rw [r])
  subst this;exact avl h l M O (j7 p h u b.1) b.2
 ·rename_i c str x' l;split at hc
  ·rename_i A;split at hc
   ·rename_i x t hx W;simp only [zaa] at hc;obtain ⟨d,E,r⟩:=ab hc.2;exact ay1 h l A (an hx) (an W) E r (j7 p h hc.1 b.1) b.2
   cases hc
  cases hc
 ·rename_i t x i sz z x' U l;simp only [zaa] at hc;obtain ⟨⟨j,q⟩,u⟩:=hc;obtain ⟨e,inf,J,I,L⟩:=bf j;exact a17 h l J I (by simpa using L) (j7 p h q b.1.1) (j7 p h u b.1.2) b.2
 ·rename_i t x i x' U l;simp only [zaa] at hc;obtain ⟨⟨j,q⟩,u⟩:=hc;obtain ⟨d,E,r⟩:=ab j;have:d=.string:=by cases d<;>first | rfl | cases r
  subst this;exact ay2 h l E (j7 p h q b.1.1) (j7 p h u b.1.2) b.2
 ·rename_i t x m x' l;simp only [zaa] at hc;exact asv h p l hc.1 (j7 p h hc.2 b.1) b.2
 ·rename_i x x' l;exact ayy h l (j7 p h hc b.1) b.2
 ·rename_i t x f off x' l;simp only [zaa] at hc;obtain ⟨fs,fd,i,j,q,u,F⟩:=ajt hc.1;simp at F;exact a18 h l j q u F.1 F.2 (j7 p h hc.2 b.1) b.2
 ·rename_i t x f off m x' l;simp only [zaa] at hc;obtain ⟨fs,fd,i,j,q,u,F⟩:=ajt hc.1;simp at F;exact ay4 h l j q F.1 F.2 (j7 p h hc.2 b.1) b.2
 ·rename_i t x lo I N n x' l;simp only [zaa] at hc;obtain ⟨⟨⟨⟨j,q⟩,u⟩,F⟩,T⟩:=hc;obtain rfl:lo=none:=by simpa using u
  obtain rfl:I=none:=by simpa using F
  obtain rfl:N=none:=by simpa using T
  split at j
  ·rename_i n' e J;simp only [zaa,beq_iff_eq] at j;obtain ⟨rfl,j⟩:=j;split at j
   ·rename_i inf G;exact ayx h p l J G (by simpa using j) (j7 p h q b.1) b.2
   cases j
  cases j
 ·rename_i t x lo I N x' ha h7 l;simp only [zaa] at hc;obtain ⟨⟨⟨⟨j,q⟩,u⟩,F⟩,T⟩:=hc;obtain ⟨d,E,r⟩:=ab j;have:d=.string:=by cases d<;>first | rfl | cases r
  subst this;have Y:N=none:=by simpa using q
  subst Y;exact ayv h l E (j7 p h u b.1.1) (ac6 p h F b.1.2.1) (ac6 p h T b.1.2.2) b.2
 ·rename_i t x lo I N sz x' ha h7 hj l;simp only [zaa] at hc;obtain ⟨⟨⟨⟨⟨j,q⟩,u⟩,F⟩,T⟩,h6⟩:=hc;obtain ⟨e,inf,J,I,L⟩:=bf j;exact ayw h l J I (by simpa using L) (j7 p h q b.1.1) (ac6 p h u b.1.2.1) (ac6 p h F b.1.2.2.1) (ac6 p h T b.1.2.2.2) (λ hm hn=>by simp [hn] at h6; exact hm h6) b.2
 ·rename_i x i x' U l;simp only [zaa,beq_iff_eq] at hc;obtain ⟨rfl,j⟩:=hc;exact ay5 h l (j7 p h j b.1) b.2
 ·rename_i t d x x' l;simp only [zaa] at hc;obtain ⟨⟨j,q⟩,u⟩:=hc;obtain ⟨e,inf,J,I,he⟩:=bf j;obtain ⟨d1,M,K⟩:=ab he;obtain ⟨S,O,R⟩:=ab q
  have e1:d1=.int .u8:=by
   split at K
   ·rfl
   cases K
  have e2:S=.string:=by cases S<;>first | rfl | cases R
  subst e1; subst e2;have hx:=j7 p h u b.1;have C:=b.2;simp only [PO.see,Rs.and];unfold ig at C |-;split at C
  ·rename_i sz ys rd hs;exact ast p l J M O hx hs C.1 C.2
  exact C.1.elim
 ·rename_i t ps zs qs l;simp only [zaa] at hc;obtain ⟨⟨j,q⟩,u⟩:=hc;split at j
  ·rename_i i I;split at j
   ·rename_i z hz;obtain ⟨d,E,r⟩:=ab q;exact asx h p l I hz j E r u b.2
   cases j
  cases j
 ·rename_i f first cap f' xs k l
  simp only [zaa,beq_iff_eq] at hc;obtain ⟨⟨rfl,j⟩,q⟩:=hc;obtain ⟨g1,g2⟩:=aav p h q b.1;refine ⟨.func f (first.map a.eval) (cap.map a.eval),?_,.fn _ _ _ _ _ (by simpa using j) (by rw [g1]; simp) λ i x c hx hc=>?_⟩
  ·simp [execOp,l,Instr.makeFunc]
  rw [<- Array.map_append,Array.getElem?_map,Option.map_eq_some_iff] at hc;obtain ⟨y,hy,rfl⟩:=hc;exact g2 i x y hx (by rw [Array.getElem?_toList]; exact hy)
 ·rename_i c N x' hf l;simp only [zaa] at hc;obtain ⟨j,q⟩:=hc;split at q
  ·rename_i x ys D;simp only [zaa] at q;obtain ⟨g1,g2⟩:=aav p h q.2 b.1.2;refine a16 h l ?_ D (j7 p h q.1 b.1.1) g1 g2 b.2;split at j
   ·rename_i A; cases N<;>first | exact A | cases j
   ·rename_i A; cases N<;>first | exact A | cases j
   cases j
  cases q
 ·rename_i t x i n sz x' U l;simp only [zaa] at hc;obtain ⟨⟨j,q⟩,u⟩:=hc;split at j
  ·rename_i n' e J;simp only [zaa,beq_iff_eq] at j;obtain ⟨rfl,j⟩:=j;split at j
   ·rename_i inf G;exact ay3 h l J G (by simpa using j) (j7 p h q b.1.1) (j7 p h u b.1.2) b.2
   cases j
  cases j
 ·rename_i c hh x' V z' l;simp only [zaa] at hc;obtain ⟨j,q⟩:=hc;split at q
  ·rename_i x y z D;simp only [zaa] at q;split at j
   ·rename_i f A;exact asw h l A j D (j7 p h q.1.1 b.1.1) (j7 p h q.1.2 b.1.2.1) (j7 p h q.2 b.1.2.2) b.2
   cases j
  cases q
 ·rename_i op t x y ty B ks x' V l;simp only [zaa] at hc;obtain ⟨⟨⟨Q,j⟩,q⟩,u⟩:=hc;have H:op=if B=true then .neq else .eql:=by cases B<;>simpa using Q
  obtain ⟨⟨m1,m2,h9⟩,b⟩:=b;obtain ⟨a1,a2⟩:=h9 h;exact ay7 h l H j (j7 p h q m1) (j7 p h u m2) a1 a2 b
 ·rename_i t x i cm str z h8 x' U l;simp only [zaa,beq_iff_eq] at hc;obtain ⟨⟨⟨j,rfl⟩,q⟩,u⟩:=hc;exact ay0 h p l j (j7 p h q b.1.1) (j7 p h u b.1.2) b.2
 ·rename_i c x' l;split at hc
  ·rename_i A;split at hc
   ·rename_i x t hx W;simp only [zaa] at hc;obtain ⟨d,E,r⟩:=ab hc.2;cases d with
    | map kt e=>exact avk h p l A (an hx) (an W) E (j7 p h hc.1 b.1) b.2
    | _=>cases r
   cases hc
  cases hc
 ·rename_i t x t' x' l;simp only [zaa,beq_iff_eq] at hc;obtain ⟨⟨rfl,j⟩,q⟩:=hc;exact ayz l j (j7 p h q b.1)
 ·rename_i x xt t cm t' z h8 x' l;simp only [zaa,beq_iff_eq] at hc;obtain ⟨⟨⟨⟨rfl,j⟩,q⟩,rfl⟩,u⟩:=hc;exact ayu h l j q (j7 p h u b.1) b.2
 ·rename_i x x' l;exact ay9 h p l (j7 p h hc b.1) b.2
 ·rename_i op t x y ty B x' l;simp only [zaa] at hc;obtain ⟨⟨⟨Q,j⟩,q⟩,u⟩:=hc;split at Q
  ·obtain ⟨d,E,r⟩:=ab q;have H:op=if B=true then .neq else .eql:=by cases B<;>simpa using j
   split at r
   ·exact ay6 h l H E (j7 p h u b.1) b.2
   cases r
  cases Q
 ·exact (b.2 h).elim
 cases hc
theorem au6 {m:Nat} {x y:AV} {t:TypeId} {inf:TypeInfo} {u v:Operand} (i:Gam X s ρ a w) (h:o.op=.store t u v) (g:P.info? t=some inf) (f:inf.size=m) (hx:RA X s ρ w x (a.eval u)) (hy:RA X s ρ w y (a.eval v)) (b:(st2 m x y s.ob).ok) :
 fw P X a w s o (st2 m x y s.ob):=by
 unfold st2 at b |-;split at b
 ·rename_i id ver off;obtain ⟨e,b⟩:=b;unfold stb at b |-;split at b
  ·rename_i d hc;exact a1b (ok:=True) i h g f hx hy hc b.1 b.2.1 b.2.2 e
  exact b.elim
 ·rename_i id ver idx off;split at b
  ·rename_i ys c;obtain ⟨e,b⟩:=b;unfold str at b |-;split at b
   ·rename_i sz z l r xs k;obtain ⟨n,q,j,p⟩:=b;subst j;exact a1a (ok:=True) i h g f hx hy k c n q p e
   exact b.elim
  exact b.elim
 exact b.elim
theorem adg {d:Nat} {po:PO} (f:Gam X s ρ a w) (hc:af8 P o po=true) (M:po.nod=true) (b:(po.act d s.e s.ob).ok):fw P X a w s o (po.act d s.e s.ob):=by
 unfold af8 at hc;split at hc<;>try (cases M; done)
 ·rename_i t x y m x' F p;simp only [zaa] at hc;obtain ⟨⟨q,u⟩,n⟩:=hc;split at q
  ·rename_i inf C;exact au6 f p C (by simpa using q) (j7 f rfl u b.1.1) (j7 f rfl n b.1.2) b.2
  cases q
 ·rename_i t x i y x' E F p;simp only [zaa] at hc;obtain ⟨⟨u,n⟩,D⟩:=hc;obtain ⟨⟨g,h,r⟩,b⟩:=b;exact axf f p (j7 f rfl u g) (j7 f rfl n h) (j7 f rfl D r) b
 ·rename_i t x i y str x' E F p;simp only [zaa] at hc;obtain ⟨⟨⟨q,u⟩,n⟩,D⟩:=hc;obtain ⟨⟨g,h,r⟩,b⟩:=b;exact axe f p q (j7 f rfl u g) (j7 f rfl n h) (j7 f rfl D r) b
 ·rename_i c str x' E p;split at hc
  ·rename_i k;split at hc
   ·rename_i x i t Q hx B;simp only [zaa] at hc;obtain ⟨⟨q,u⟩,n⟩:=hc;obtain ⟨⟨g,h⟩,b⟩:=b;exact axh f p k (an hx) (an B) q (j7 f rfl u g) (j7 f rfl n h) b
   cases hc
  cases hc
 ·rename_i c sz z x' p;split at hc
  ·rename_i k;split at hc
   ·rename_i x t hx B;simp only [zaa] at hc;obtain ⟨q,n⟩:=hc;obtain ⟨e,inf,J,C,l⟩:=bf q;simp only [zaa,beq_iff_eq] at l;obtain ⟨l,j⟩:=l;split at j
    ·rename_i v K;simp only [zaa,beq_iff_eq] at j;obtain ⟨g,b⟩:=b;have A:=j7 f rfl n g;simp only [PO.act];generalize (x'.ev s.e).bare=T at A b |-;unfold xw at b |-;split at b
     ·rename_i id ver R len;split at b
      ·rename_i G O I S xs H;obtain ⟨L,N⟩:=b;subst L; subst N;exact a1j (ok:=True) (rd':=[]) f p k (an hx) (an B) J C l K j.1 j.2 A H
      exact b.elim
     exact b.elim
    cases j
   cases hc
  cases hc
 cases hc
theorem a1m {d:Nat} {po:PO} (h:Gam X s ρ a w) (hc:af8 P o po=true) (D:d<X.n) (b:(po.act d s.e s.ob).ok):fw P X a w s o (po.act d s.e s.ob):=by
 have O:=hc;unfold af8 at hc;split at hc
 ·rename_i e zs j;split at hc
  ·rename_i i G;split at hc
   ·rename_i z R;exact axd D h j G R hc
   cases hc
  cases hc
 ·rename_i e x x' j;exact a1l D h j (j7 h rfl hc b.1) b.2
 ·rename_i t m ps sz z qs j;simp only [zaa,beq_iff_eq,decide_eq_true_eq] at hc;obtain ⟨⟨⟨⟨⟨C,J⟩,F⟩,V⟩,h5⟩,h6⟩:=hc;obtain ⟨e,inf,I,G,f⟩:=bf C;simp at f;obtain ⟨zv,R⟩:=zab.1 f.2;simp only [PO.act] at b |-;split at b
  ·rename_i p ys fz h8;simp only [q9] at b;exact a1k D h j I G R f.1 J F V h5 h6 h8 b.1 b.2.1 b.2.2
  exact b.elim
 ·rename_i t x y m x' Q j;simp only [zaa] at hc;obtain ⟨⟨C,J⟩,F⟩:=hc;split at C
  ·rename_i inf G;exact au6 h j G (by simpa using C) (j7 h rfl J b.1.1) (j7 h rfl F b.1.2) b.2
  cases C
 ·rename_i c sz z U x' Q j;split at hc
  ·rename_i q;split at hc
   ·rename_i x y t u hx ht;simp only [zaa] at hc;obtain ⟨⟨⟨C,J⟩,F⟩,V⟩:=hc;obtain ⟨e,inf,I,G,f⟩:=bf C;obtain ⟨e2,h9,h0,ha,_⟩:=bf J;simp at f;obtain ⟨⟨⟨g1,g2⟩,g3⟩,g4⟩:=f;obtain ⟨⟨A,B⟩,b⟩:=b;have g:=j7 h rfl F A;have k:=j7 h rfl V B;split at g3
    ·rename_i zv R;have h7:zv.cells.size=inf.size:=by rw [g1]; simpa using g3
     simp only [PO.act];generalize (x'.ev s.e).bare=xv at g b |-;generalize (Q.ev s.e).bare=yv at k b |-;generalize H:src s.ob yv=so at b |-;unfold rk at b |-;split at b
     ·rename_i L zz sy ys rd;simp only [q9] at b;obtain ⟨M,N,Y,k4⟩:=b;subst M; subst N;exact aoy (ok:=True) D h j q (an hx) (an ht) I h0 G R h7 g1 g2 g k H Y k4
     ·rename_i id ver len sy ys rd;split at b
      ·rename_i L z' T wr xs S;obtain ⟨M,N,Y,k4,k5,k6⟩:=b;subst M; subst N; subst k4;exact aox (ok:=True) (rd':=[]) h j q (an hx) (an ht) I h0 G R h7 g1 g2 g S Y k H k5 k6
      exact b.elim
     exact b.elim
    cases g3
   cases hc
  cases hc
 ·rename_i c sz x' Q j;split at hc
  ·rename_i q;split at hc
   ·rename_i x y t u hx ht;simp only [zaa] at hc;obtain ⟨⟨⟨C,J⟩,F⟩,V⟩:=hc;obtain ⟨e,inf,I,G,f⟩:=bf C;simp only [beq_iff_eq] at f;obtain ⟨⟨A,B⟩,b⟩:=b;have g:=j7 h rfl F A;have k:=j7 h rfl V B;simp only [PO.act];generalize (x'.ev s.e).bare=xv at g b |-;generalize (Q.ev s.e).bare=yv at k b |-;generalize H:src s.ob yv=so at b |-;unfold td at b |-;split at b
    ·rename_i id ver lo len sy ys rd;split at b
     ·rename_i L z' T wr xs S;obtain ⟨M,N,Y⟩:=b;subst M; subst N; subst Y;exact a1h (ok:=True) (rd':=[]) h j q (an hx) (an ht) I G f g S k H
     exact b.elim
    exact b.elim
   cases hc
  cases hc
 ·rename_i t d x z x' j;simp only [zaa] at hc;obtain ⟨⟨C,J⟩,F⟩:=hc;obtain ⟨d1,W,K⟩:=ab C;have e1:d1=.string:=by cases d1<;>first | rfl | cases K
  subst e1;obtain ⟨e,inf,I,G,f⟩:=bf J;simp only [zaa] at f;obtain ⟨d2,Z,E⟩:=ab f.2
  have e2:d2=.int .u8:=by
   split at E
   ·rfl
   cases E
  subst e2;obtain ⟨hm,b⟩:=b;have g:=j7 h rfl F hm;simp only [PO.act];generalize (x'.ev s.e).bare=xv at g b |-;unfold gh at b |-;split at b
  ·exact aow (inf:=inf) (ok:=True) D h j W I Z (m7 g) b
  exact b.elim
 ·rename_i t l c sz z U l' c' j;simp only [zaa] at hc;obtain ⟨⟨C,J⟩,F⟩:=hc;obtain ⟨e,inf,I,G,f⟩:=bf C;simp only [zaa,beq_iff_eq] at f;obtain ⟨⟨⟨g1,g2⟩,g3⟩,g4⟩:=f;split at g4
  ·rename_i v R;simp only [zaa,beq_iff_eq] at g4;obtain ⟨⟨A,B⟩,b⟩:=b;have g:=j7 h rfl J A;have k:=j7 h rfl F B;simp only [PO.act];generalize (l'.ev s.e).bare=xv at g b |-;generalize (c'.ev s.e).bare=yv at k b |-;unfold aa9 at b |-;split at b
   ·simp only [q9] at b;exact a1e (ok:=True) D h j I G R g1 g2 g4.1 g4.2 (m7 g) (m7 k) b.1 b.2.1 b.2.2.1 b.2.2.2
   exact b.elim
  cases g4
 ·rename_i t r j;cases r with
  | none=>exact a1f D h j
  | some r=>cases hc
 ·rename_i t x i str z x' i' j;simp only [zaa] at hc;obtain ⟨⟨C,J⟩,F⟩:=hc;obtain ⟨⟨A,B⟩,b⟩:=b;exact axg h j C (j7 h rfl J A) (j7 h rfl F B) b
 ·rename_i t x i y x' i' Q j;exact adg h O rfl b
 ·rename_i t x i y str x' i' Q j;exact adg h O rfl b
 ·rename_i c str x' i' j;exact adg h O rfl b
 ·rename_i t x x' j;simp only [zaa] at hc;obtain ⟨d1,W,K⟩:=ab hc.1;cases d1 with
  | map kt e=>exact a1c D h j W (j7 h rfl hc.2 b.1) b.2
  | _=>cases K
 ·rename_i c sz z x' j;exact adg h O rfl b
 ·rename_i c x' Q j;split at hc
  ·rename_i q;split at hc
   ·rename_i x y t u hx ht;simp only [zaa] at hc;obtain ⟨⟨C,F⟩,V⟩:=hc;obtain ⟨e,inf,I,G,f⟩:=bf C;simp only [beq_iff_eq] at f;obtain ⟨⟨A,B⟩,b⟩:=b;have g:=j7 h rfl F A;have k:=j7 h rfl V B;simp only [PO.act];generalize (x'.ev s.e).bare=xv at g b |-;generalize (Q.ev s.e).bare=yv at k b |-;unfold xr at b |-;split at b
    ·rename_i id ver lo len sv;split at b
     ·rename_i L z' T wr xs S;obtain ⟨M,N⟩:=b;subst M; subst N;exact a1i (ok:=True) (rd':=[]) h j q (an hx) (an ht) I G f g S (m7 k) rfl rfl
     exact b.elim
    exact b.elim
   cases hc
  cases hc
 ·rename_i t u x x' j;simp only [zaa,beq_iff_eq] at hc;obtain ⟨⟨C,rfl⟩,F⟩:=hc;obtain ⟨e,inf,I,G,f⟩:=bf C;obtain ⟨d2,Z,E⟩:=ab f
  have e2:d2=.int .u8:=by
   split at E
   ·rfl
   cases E
  subst e2;obtain ⟨hm,b⟩:=b;have g:=j7 h rfl F hm;simp only [PO.act];generalize (x'.ev s.e).bare=xv at g b |-;unfold xl at b |-;split at b
  ·split at b
   ·rename_i L z' T wr xs S;obtain ⟨M,N,Y⟩:=b;subst M; subst N;exact a1d (ok:=True) (rd':=[]) h j I Z g S Y
   exact b.elim
  exact b.elim
 cases hc
end

end Go.Ev

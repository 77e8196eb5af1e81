import Derived.Maps.RangeRun
import Derived.Test.YtpibfnekkfhkmaaGreatM1
open Bool renaming and_eq_true → zaa
open Option renaming isSome_iff_exists → zab
open Array renaming getElem?_eq_some_iff → zac
namespace Go.Ev
set_option maxHeartbeats 8000000
set_option maxRecDepth 100000
open Go
set_option linter.unusedSectionVars false
set_option linter.unnecessarySimpa false
set_option linter.unusedVariables false
section
variable {P:Program} {X:Cx} {w w':World} {s:St} {ρ ρ':Pl->Option Nat} {a:Act} {o:Oper} {ob ob':Obs} {R R':Nat->Prop}
theorem as3 {ob:Obs} {id ver:Nat} {es:List MapEntry} {c:Nat} (h:ai ob id ver=some (es,c)):ob id=some (ver,.map es c):=by
 unfold ai at h;split at h
 ·rename_i v a c' b;split at h
  ·rename_i hv; cases h; rw [b,hv]
  cases h
 cases h
theorem ap7 {ob:Obs} {id ver:Nat} {m:AV} {a c:Nat} {b:List Nat} (h:gr ob id ver=some (m,a,b,c)):ob id=some (ver,.iter m a b c):=by
 unfold gr at h;split at h
 ·rename_i v m' s' e' e d;split at h
  ·rename_i hv; cases h; rw [d,hv]
  cases h
 cases h
theorem nr {b c:Nat} {es:Array MapEntry} (a:w.heap[b]?=some (.map es c)):(getObj b).run P w=.ok (.map es c) w:=by simp [getObj,Sem.run,a]
theorem ahd {b c:Nat} {es:Array MapEntry} (y:Obj) (a:w.heap[b]?=some (.map es c)):(setObj b y).run P w=.ok () { w with heap:=w.heap.setIfInBounds b y }:=by simp [setObj,Sem.run,a]
theorem ah7 (v:Value):RelV w R (pe v) v:=by
 unfold pe;split
 ·rename_i cs;refine .agg _ _ (by simp) λ i x c hx hc=>?_;rw [List.getElem?_map,Option.map_eq_some_iff] at hx;obtain ⟨y,hy,rfl⟩:=hx;rw [Array.getElem?_toList] at hy;rw [hc] at hy;cases hy;exact .v _
 exact .v _
theorem bci {v:Value} {x:RV} (h:eqr v x=true) (hx:∃y,x=.v y):RelV w R x v:=by
 obtain ⟨y,rfl⟩:=hx
 have:eqv v y=true:=by
  cases v with
  | slice a l c=>rcases a with _ | a<;>rcases l with _ | l<;>rcases c with _ | c<;>exact h
  | _=>exact h
 rw [ath this];exact .v _
theorem a5i {z:RV} {e:TypeId} (h:art P z e=true):∃i v,P.info? e=some i/\i.zero=some v/\∀(w:World) (R:Nat->Prop),RelV w R z v:=by
 unfold art at h;split at h
 ·rename_i i hi;split at h
  ·rename_i v hv;refine ⟨i,v,hi,hv,λ w R=>?_⟩;split at h
   ·rename_i cs d;simp only [zaa] at h;obtain ⟨a,b⟩:=h;refine .agg _ _ (by rw [<- ul a]; simp) λ j x c hx hc=>?_;refine bci (akw a (by simpa using hc) hx) ?_;have:=List.all_eq_true.1 b x (List.mem_of_getElem? hx);cases x<;>simp at this;exact ⟨_,rfl⟩
   ·rw [ath h]; exact .v _
   cases h
  cases h
 cases h
def a5g (P:Program) (k:TypeId) (v:Value):Prop:=(∃q a n,P.underlying k=some (.int q)/\v=.int a n)\/(∃t,P.underlying k=some .string/\v=.string t)
theorem arb {t:TypeId} {str:Bool} {f:TypeId->Bool} (h:ai9 P t str f=true):∃k e,P.underlying t=some (.map k e)/\f e=true/\∀v,sa str v=true->a5g P k v:=by
 unfold ai9 at h;split at h
 ·rename_i k e c;simp only [zaa] at h;refine ⟨k,e,c,h.2,λ v hv=>?_⟩;have a:=h.1;split at a
  ·rename_i q b;cases v<;>simp [sa] at hv
   ·exact .inl ⟨q,_,_,b,rfl⟩
   rw [hv] at a; cases a
  ·rename_i b;cases v<;>simp [sa] at hv
   ·rw [hv] at a; cases a
   exact .inr ⟨_,b,rfl⟩
  cases a
 cases h
theorem aqb {q a:IntKind} {n:Int}:∀(es:List MapEntry) (i:Nat),Instr.findNow (.int a) (.int q n) es i=mt (.int q n) es i
 | [],i=>rfl
 | e::es,i=>by
   have h:Instr.sameNow (.int a) (.int q n) e.key=aew (.int q n) e.key:=by cases e.key<;>rfl
   simp only [Instr.findNow,mt,h];rcases aew (.int q n) e.key with _ | b
   ·rfl
   cases b
   ·exact aqb es (i+1)
   rfl
theorem aqa {t:ByteArray}:∀(es:List MapEntry) (i:Nat),Instr.findNow .string (.string t) es i=mt (.string t) es i
 | [],i=>rfl
 | e::es,i=>by
   have h:Instr.sameNow .string (.string t) e.key=aew (.string t) e.key:=by cases e.key<;>rfl
   simp only [Instr.findNow,mt,h];rcases aew (.string t) e.key with _ | b
   ·rfl
   cases b
   ·exact aqa es (i+1)
   rfl
theorem ug {k:TypeId} {v:Value} {es:List MapEntry} {r:Option (Nat×Value)} (c:a5g P k v) (b:mt v es 0=some r):(Instr.findKey k v es).run P w=.ok r w:=by
 rcases c with ⟨q,d,n,a,rfl⟩ | ⟨t,a,rfl⟩
 ·simp [Instr.findKey,run_underlying a,aqb,b]
 simp [Instr.findKey,run_underlying a,aqa,b]
theorem awt {k:TypeId} {v:Value} {b:Bool} (n:Nat) (c:a5g P k v):(Instr.checkKey b (n+1) k v).run P w=.ok () w:=by
 rcases c with ⟨q,d,n,a,rfl⟩ | ⟨t,a,rfl⟩
 ·simp [Instr.checkKey,run_underlying a]
 simp [Instr.checkKey,run_underlying a]
theorem qk {k:TypeId} {v:Value} {b:Bool} (a:a5g P k v):(Instr.checkKey b 10000 k v).run P w=.ok () w:=awt 9999 a
theorem Gam.mapB (i:Gam X s ρ a w) {id ver:Nat} {es:List MapEntry} {c:Nat} {v:Value} (j:ai s.ob id ver=some (es,c)) (h:RA X s ρ w (.mp id ver) v):∃b,ρ id=some b/\v=.map (some b)/\w.heap[b]?=some (.map es.toArray c):=by
 have d:=as3 j;cases h;rename_i hc h;obtain ⟨b,e,rfl⟩:=h.live d;obtain ⟨k,f,g⟩:=i.obj id ver _ d;rw [e] at f;cases f;exact ⟨b,e,rfl,g⟩
theorem alj {k:Value}:∀{es:List MapEntry} {i j:Nat} {v:Value},mt k es i=some (some (j,v))->i<=j/\∃e,es[j-i]?=some e/\e.val=v/\aew k e.key=some true
 | [],i,j,v,h=>by cases h
 | e::es,i,j,v,h=>by
   simp only [mt] at h;split at h
   ·rename_i a;cases h;exact ⟨Nat.le_refl _,e,by simp,rfl,a⟩
   ·obtain ⟨f,e',b,c,d⟩:=alj h;refine ⟨by omega,e',?_,c,d⟩;rw [show j-i=(j-(i+1))+1 by omega,List.getElem?_cons_succ];exact b
   cases h
theorem bfr {g:Bool} (H:g=true) {str d:Bool} {z:RV} {t:TypeId} {x i:Operand} {u k:AV} (T:Gam X s ρ a w) (N:o.op=.lookup t x i d) (Q:ai9 P t str (art P z)=true) (hx:RA X s ρ w u (a.eval x)) (U:RA X s ρ w k (a.eval i))
 (f:(ab7 g str z d u k s.ob).ok):o8 P X a w s ρ o (ab7 g str z d u k s.ob).v:=by
 obtain ⟨V,e,J,R,p⟩:=arb Q;obtain ⟨inf,K,hi,F,C⟩:=a5i R;unfold ab7 at f |-;split at f
 ·rename_i id ver G;rcases hmp:ai s.ob id ver with _ | ⟨es,c⟩
  ·rw [hmp] at f; exact (f H).elim
  rw [hmp] at f;simp only [yw] at f |-;obtain ⟨M,S⟩:=f H;obtain ⟨b,O,hv,L⟩:=T.mapB hmp hx;have I:=n9 U;have A:=p G M;obtain ⟨r,m⟩:=zab.1 S;have l:(zeroValue e).run P w=.ok K w:=by simp [zeroValue,typeInfo,hi,F]
  have q:∃val ok,(Instr.lookup t (a.eval x) (a.eval i) d).run P w=.ok (if d then .tuple #[val,.bool ok] else val) w/\ok=lkB es G/\RelV w (g9 X.B s.ob ρ w) (lkR es G z) val:=by
   rw [hv,I];rcases r with _ | ⟨j,val⟩
   ·refine ⟨K,false,?_,by simp [lkB,m],by simp only [lkR,m]; exact C _ _⟩;simp [Instr.lookup,run_underlying J,nr L,qk A,ug A m,l]
   refine ⟨val,true,?_,by simp [lkB,m],by simp only [lkR,m]; exact ah7 _⟩;simp [Instr.lookup,run_underlying J,nr L,qk A,ug A m]
  obtain ⟨val,E,n,D,h⟩:=q;refine ⟨if d then .tuple #[val,.bool E] else val,?_,?_⟩
  ·simp only [execOp,N,Sem.run_bind,n,Result.andThen_ok,Sem.run_pure]
  cases d with
  | false=>exact .r h
  | true=>
    subst D;refine .tup _ _ rfl λ i y c hy hc=>?_
    match i with
    | 0=>simp at hy hc; subst hy; subst hc; exact .r h
    | 1=>simp at hy hc; subst hy; subst hc; exact .r (.v _)
    | i+2=>simp at hy
 exact (f.2 H).elim
theorem bar {g:Bool} (h:g=true) {t:TypeId} {x:Operand} {c:Call} {u:AV} {p e:TypeId} (m:Gam X s ρ a w) (i:o.op=.call c) (hc:c.callee=.builtin .len) (l:c.args=#[x]) (f:c.argTypes=#[t]) (k:P.underlying t=some (.map p e))
 (hx:RA X s ρ w u (a.eval x)) (d:(vc g u s.ob).ok):o8 P X a w s ρ o (vc g u s.ob).v:=by
 unfold vc at d |-;split at d
 ·rename_i id ver;rcases hmp:ai s.ob id ver with _ | ⟨es,q⟩
  ·rw [hmp] at d; exact (d h).elim
  obtain ⟨b,j,hv,n⟩:=m.mapB hmp hx;simp only [yw];refine ⟨.int .i64 es.length,?_,.r (.v _)⟩;simp [execOp,i,resolve,hc,l,f,invoke,builtin,Builtin.len_,run_underlying k,hv,nr n,goInt]
 exact (d.2 h).elim
theorem bnz {t:TypeId} (h:a8a P t=true):∃d,P.underlying t=some d/\∀a,d≠.interface a:=by
 unfold a8a at h;split at h
 ·cases h
 ·rename_i d c b;exact ⟨d,b,λ a e=>c a e⟩
 cases h
theorem bfz {g:Bool} (z:g=true) {x:Operand} {u:AV} (O:Gam X s ρ a w) (T:o.op=.entry x) (hx:RA X s ρ w u (a.eval x)) (d:(aaj g u s.ob).ok):o8 P X a w s ρ o (aaj g u s.ob).v:=by
 unfold aaj at d |-;split at d
 ·rename_i id ver;rcases hit:gr s.ob id ver with _ | ⟨m,K,q,st⟩
  ·rw [hit] at d; exact (d z).elim
  rw [hit] at d;have t:=ap7 hit;generalize H:a.eval x=v at hx;cases hx;rename_i R h;obtain ⟨b,E,rfl⟩:=h.live t;obtain ⟨Z,bm,L,Y,S⟩:=O.obj id ver _ t;rw [E] at L; cases L;unfold yz at d |-;split at d
  ·rename_i C p A J W B;cases B;rcases hmp:ai s.ob C p with _ | ⟨es,c⟩
   ·rw [hmp] at d; exact (d z).elim
   rw [hmp] at d;obtain ⟨U,M,G,I⟩:=O.mapB hmp S;cases G;simp only [aai] at d |-;obtain ⟨D,F⟩:=d z;subst D;obtain ⟨e,Q⟩:=zab.1 F;have j:=Q;unfold azp at j;split at j
   ·rename_i N V;have k:q.toArray.back?=some N:=by simpa using V
    have l:es.toArray.find? (λ e=>e.born == N)=some e:=by simpa using j
    have n:(Instr.entry (.pointer (some ⟨b,0,none⟩))).run P w=.ok (.tuple #[e.key,e.val]) w:=by
     simp only [Instr.entry,getObj,Sem.run_bind,Sem.run,Y,I,Result.andThen,k,bne_self_eq_false,Bool.false_eq_true,if_false,l]
     rfl
    refine ⟨.tuple #[e.key,e.val],by simp only [execOp,T,H,Sem.run_bind,n,Result.andThen_ok,Sem.run_pure],?_⟩;rw [Q];refine .tup _ _ rfl λ i y c f hc=>?_
    match i with
    | 0=>simp at f hc; subst f; subst hc; exact .r (ah7 _)
    | 1=>simp at f hc; subst f; subst hc; exact .r (ah7 _)
    | i+2=>simp at f
   cases j
  exact (d z).elim
 exact (d.2 z).elim
theorem axq {R:Nat->Prop}:∀{a:List RV} {l:List Value},ady a=some l->l.length=a.length/\∀(i:Nat) (x:RV) (c:Value),a[i]?=some x->RelV w R x c->l[i]?=some c
 | [],l,h=>by cases h; exact ⟨rfl,λ i x c hx=>by simp at hx⟩
 | .v y::a,l,h=>by
   simp only [ady] at h;split at h
   ·rename_i g d;cases h;obtain ⟨e,f⟩:=axq (R:=R) d;refine ⟨by simp [e],λ i x c hx b=>?_⟩;cases i with
    | zero=>simp at hx; subst hx; cases b; rfl
    | succ i=>simp at hx; simpa using f i x c hx b
   cases h
 | .agg _::_,l,h=>by cases h
 | .sl _ _::_,l,h=>by cases h
theorem axr:∀{b:List AV} {l:List Value},adz b=some l->l.length=b.length/\∀(i:Nat) (x:AV) (c:Value),b[i]?=some x->RelA w R ob ρ x c->l[i]?=some c
 | [],l,h=>by cases h; exact ⟨rfl,λ i x c hx=>by simp at hx⟩
 | y::b,l,h=>by
   unfold adz at h;split at h
   ·rename_i a; cases a
   ·rename_i v j a;cases a;split at h
    ·rename_i k e;cases h;obtain ⟨f,g⟩:=axr e;refine ⟨by simp [f],λ i x c hx d=>?_⟩;cases i with
     | zero=>simp at hx; subst hx; cases d; rename_i d; cases d; rfl
     | succ i=>simp at hx; simpa using g i x c hx d
    cases h
   cases h
theorem a9w {cs:Array Value} {l:List Value} (b:l.length=cs.size) (h:∀(i:Nat) (c:Value),cs[i]?=some c->l[i]?=some c):cs=l.toArray:=by
 apply Array.ext (by simp [b]);intro i d a;have:=h i cs[i] (by simp [d]);simp at a;rw [List.getElem?_eq_getElem a] at this;simpa using (Option.some.inj this).symm
theorem be4 {x:AV} {v c:Value} (h:toV x=some v) (hx:RelA w R ob ρ x c):c=v:=by
 unfold toV at h;split at h
 ·cases h; cases hx; rename_i hx; cases hx; rfl
 ·rename_i b;unfold qh at h;split at h
  ·rename_i l e;cases h;cases hx; rename_i hx; cases hx;rename_i cs d a;obtain ⟨j,g⟩:=axq (w:=w) (R:=R) e;congr 1;refine a9w (by omega) λ i c hc=>?_;have f:=(zac.1 hc).1;exact g i (b[i]'(by omega)) c (by simp [show i<b.length by omega]) (a i _ c (by simp [show i<b.length by omega]) hc)
  cases h
 ·rename_i b;unfold qh at h;split at h
  ·rename_i l e;cases h;cases hx;rename_i cs d a;obtain ⟨j,g⟩:=axr (w:=w) (R:=R) (ob:=ob) (ρ:=ρ) e;congr 1;refine a9w (by omega) λ i c hc=>?_;have f:=(zac.1 hc).1;exact g i (b[i]'(by omega)) c (by simp [show i<b.length by omega]) (a i _ c (by simp [show i<b.length by omega]) hc)
  cases h
 cases h
theorem ayy {b:Nat} {x y:Obj} (h:w.heap[b]?=some x):Mods w { w with heap:=w.heap.setIfInBounds b y } b y:=by
 have a:=(zac.1 h).1;exact ⟨rfl,rfl,rfl,by simp,by simp [a],λ k c=>by simp [Array.getElem?_setIfInBounds_ne (Ne.symm c)]⟩
theorem az9 {id ver:Nat} {es d:List MapEntry} {c c':Nat} {v:Value} {ok:Prop} {nx:Next} (n:Gam X s ρ a w) (m:ai s.ob id ver=some (es,c)) (hx:RA X s ρ w (.mp id ver) v)
 (f:∀b,v=.map (some b)->w.heap[b]?=some (.map es.toArray c)->(execOp a.eval o).run P w=.ok nx { w with heap:=w.heap.setIfInBounds b (.map d.toArray c') })
 (j:(∃u,nx=.value u)\/nx=.skip):qw P X a w s o ⟨ok,.undef,upd id (ver,.map d c') s.ob,[id],[id]⟩:=by
 obtain ⟨b,i,hv,l⟩:=n.mapB m hx;have k:=as3 m;have g:=ayy (y:=.map d.toArray c') l;refine ⟨nx,_,ρ,f b hv l,n.modifyG k rfl i g (λ cs e fr h=>by rw [l] at h; cases h) ver (.inl ⟨rfl,trivial⟩) (.inr ⟨rfl,trivial,λ _=>rfl⟩) ⟨b,i,g.new⟩,?_⟩;rcases j with ⟨u,rfl⟩ | rfl
 ·exact .inl ⟨u,rfl,.undef _⟩
 exact .inr ⟨rfl,rfl⟩
theorem bnt {a b:ByteArray} (h:(a == b)=true):a=b:=by
 cases a; cases b;have:(ByteArray.mk _).beq (ByteArray.mk _)=true:=h;simpa [ByteArray.beq] using this
theorem bh5 (a:ByteArray):(a == a)=true:=by
 show a.beq a=true;simp [ByteArray.beq]
theorem a0i {k c:Value} (n:Nat) (h:aew k c=some true):Instr.sameBits n c k=true:=by
 unfold aew at h;split at h
 ·split at h
  ·rename_i e;simp at h;subst e; subst h;simp [Instr.sameBits]
  cases h
 ·rename_i a b;have d:(a == b)=true:=by simpa using h
  rw [bnt d];simp [Instr.sameBits,bh5]
 cases h
theorem a3r {k a:Value} (h:aew k a=some true):Instr.sameBits 10000 a k=true:=a0i 10000 h
theorem bdb {str:Bool} {t:TypeId} {x i y:Operand} {u k q:AV} (K:Gam X s ρ a w) (H:o.op=.mapUpdate t x i y) (I:ai9 P t str (λ _=>true)=true) (hx:RA X s ρ w u (a.eval x)) (L:RA X s ρ w k (a.eval i)) (hy:RA X s ρ w q (a.eval y))
 (d:(uz str u k q s.ob).ok):qw P X a w s o (uz str u k q s.ob):=by
 obtain ⟨N,e,D,_,h⟩:=arb I;unfold uz at d |-;split at d
 ·rename_i id ver l;unfold zr at d |-;split at d
  ·rename_i v hv;rcases hmp:ai s.ob id ver with _ | ⟨es,c⟩
   ·rw [hmp] at d; exact d.elim
   rw [hmp] at d;simp only [zb] at d |-;obtain ⟨G,J⟩:=d;have n:=h l G;obtain ⟨r,m⟩:=zab.1 J;have B:=n9 L;have A:=be4 hv hy;refine az9 (ok:=_) (nx:=.skip) K hmp hx (λ b z p=>?_) (.inr rfl)
   have g:(Instr.mapUpdate t (a.eval x) (a.eval i) (a.eval y)).run P w=.ok () { w with heap:=w.heap.setIfInBounds b (.map (qc es c l v).toArray (qd es c l)) }:=by
    rw [z,B,A];rcases r with _ | ⟨j,val⟩
    ·simp only [qc,qd,m];simp [Instr.mapUpdate,run_underlying D,nr p,qk n,ug n m,ahd _ p]
    obtain ⟨_,F,C,M,E⟩:=alj m;rw [Nat.sub_zero] at C;simp only [qc,qd,m];have f:(Instr.keyThatStays F.key l).run P w=.ok l w:=by simp [Instr.keyThatStays,a3r E]
    simp [Instr.mapUpdate,run_underlying D,nr p,qk n,ug n m,C,f,ahd _ p,List.modify_toArray]
   simp only [execOp,H,Sem.run_bind,g,Result.andThen_ok,Sem.run_pure]
  exact d.elim
 exact d.elim
theorem bdc {str:Bool} {t B:TypeId} {x i:Operand} {u k:AV} {c:Call} (I:Gam X s ρ a w) (E:o.op=.call c) (hc:c.callee=.builtin .delete) (G:c.args=#[x,i]) (v:c.argTypes=#[t,B]) (F:ai9 P t str (λ _=>true)=true) (hx:RA X s ρ w u (a.eval x)) (J:RA X s ρ w k (a.eval i))
 (d:(va str u k s.ob).ok):qw P X a w s o (va str u k s.ob):=by
 obtain ⟨L,e,z,_,h⟩:=arb F;unfold va at d |-;split at d
 ·rename_i id ver A;rcases hmp:ai s.ob id ver with _ | ⟨es,C⟩
  ·rw [hmp] at d; exact d.elim
  rw [hmp] at d;simp only [zb] at d |-;obtain ⟨D,H⟩:=d;have n:=h A D;obtain ⟨r,l⟩:=zab.1 H;have m:=n9 J;refine az9 (ok:=_) (nx:=.value (.tuple #[])) I hmp hx (λ b g p=>?_) (.inl ⟨_,rfl⟩)
  have f:(Builtin.delete_ c.argTypes o.type (c.args.map a.eval)).run P w=.ok (.tuple #[]) { w with heap:=w.heap.setIfInBounds b (.map (ahf es A).toArray C) }:=by
   rw [G,v];rcases r with _ | ⟨j,val⟩
   ·simp only [ahf,l];simp [Builtin.delete_,run_underlying z,g,m,nr p,qk n,ug n l,ahd _ p]
   obtain ⟨_,K,y,_⟩:=alj l;rw [Nat.sub_zero] at y;have q:=(List.getElem?_eq_some_iff.1 y).1;simp only [ahf,l];simp [Builtin.delete_,run_underlying z,g,m,nr p,qk n,ug n l,ahd _ p,Array.eraseIdxIfInBounds,q]
  simp only [execOp,E,resolve,hc,Sem.run_bind,Sem.run_pure,Result.andThen_ok,invoke,builtin,f]
 exact d.elim
theorem bie {d:Nat} {t:TypeId} {ok:Prop} (c:d<X.n) (e:Gam X s ρ a w) (f:o.op=.makeMap t none):qw P X a w s o (u9 s.ob d (.map [] 0) (λ v=>.mp d v) ok [] []):=by
 have b:(execOp a.eval o).run P w=.ok (.value (.map (some w.heap.size))) (w.alloc (.map #[] 0)):=by
  simp [execOp,f,Instr.makeMap]
 refine aam c e (er _) b ?_ (.mp _ _ _ rfl (qt ⟨_,by simp [u5],rfl⟩));exact ⟨w.heap.size,by simp [u5],(er _).new⟩
theorem bic {d:Nat} {t z e:TypeId} {x:Operand} {u:AV} (l:d<X.n) (m:Gam X s ρ a w) (p:o.op=.range t x) (r:P.underlying t=some (.map z e)) (hx:RA X s ρ w u (a.eval x)) (f:(aaa d u s.ob).ok):qw P X a w s o (aaa d u s.ob):=by
 unfold aaa at f |-;split at f
 ·rename_i i g;rcases hmp:ai s.ob i g with _ | ⟨es,c⟩
  ·rw [hmp] at f; exact f.elim
  obtain ⟨b,q,hv,y⟩:=m.mapB hmp hx;simp only [agc]
  have j:(execOp a.eval o).run P w=.ok (.value (.pointer (some ⟨w.heap.size,0,none⟩))) (w.alloc (.mapIter (some b) c #[] c)):=by
   simp [execOp,p,Instr.range,run_underlying r,hv,nr y]
  have k:=Stays.alloc m (er (.mapIter (some b) c #[] c)) d (nv s.ob d) (λ v o h=>ab2 h) (.iter (.mp i g) c [] c);refine aam (rd:=[i]) l m (er _) j ?_ (.ptr _ _ _ _ rfl (qt ⟨_,by simp [u5],rfl⟩));refine ⟨w.heap.size,b,by simp [u5],(er _).new,?_⟩;rw [<- hv];exact hx.stays k
 exact f.elim
end

section
variable {P:Program} {X:Cx} {w w':World} {s:St} {ρ ρ':Pl->Option Nat} {a:Act} {o:Oper}
theorem jm {t:TypeId} {f:TypeId->TypeInfo->Bool} (h:lu P t f=true):∃e i,P.underlying t=some (.slice e)/\P.info? e=some i/\f e i=true:=by
 unfold lu at h;split at h
 ·rename_i e a;split at h
  ·rename_i i hi;exact ⟨e,i,a,hi,h⟩
  cases h
 cases h
theorem ci {t:TypeId} {f:TypeDesc->Bool} (h:de P t f=true):∃d,P.underlying t=some d/\f d=true:=by
 unfold de at h;split at h
 ·rename_i d a;exact ⟨d,a,h⟩
 cases h
theorem a4q {t:TypeId} {k:Nat} {f:Go.Field->TypeInfo->Bool} (h:au0 P t k f=true):∃b a i,P.underlying t=some (.struct b)/\b[k]?=some a/\P.info? a.type=some i/\f a i=true:=by
 unfold au0 at h;split at h
 ·rename_i b d;split at h
  ·rename_i a c;split at h
   ·rename_i i hi;exact ⟨b,a,i,d,c,hi,h⟩
   cases h
  cases h
 cases h
theorem akm {g:Bool} (b:Gam X s ρ a w) (c:g=true) {x:Option Operand} {y:Option Opd} (h:aqz x y=true) (d:PO.see.mayO g s.e y):RAO X s ρ w a x (PO.see.bareO s.e y):=by
 unfold aqz at h;split at h
 ·trivial
 ·exact i9 b c h d
 cases h
theorem ahx {g:Bool} (f:Gam X s ρ a w) (j:g=true):∀{b:List Operand} {ys:List Opd},bf opd b ys=true->eu g s.e ys->(n7 s.e ys).length=b.length/\∀(i:Nat) (x:AV) (y:Operand),(n7 s.e ys)[i]?=some x->b[i]?=some y->RA X s ρ w x (a.eval y)
 | [],[],_,_=>⟨rfl,by simp [n7]⟩
 | x::b,y::ys,h,hm=>by
   simp [bf] at h;obtain ⟨l,k⟩:=ahx f j h.2 hm.2;refine ⟨by simp [n7,l],λ i p q c d=>?_⟩;cases i with
   | zero=>simp [n7] at c d; subst c; subst d; exact i9 f j h.1 hm.1
   | succ i=>simp [n7] at c d; exact k i p q c d
 | [],_::_,h,_=>by cases h
 | _::_,[],h,_=>by cases h
theorem ig {a:Type} {b:Array a} {l:List a} (h:b.toList=l):b=l.toArray:=by rw [<- h]
theorem bf2 {g:Bool} (h:g=true) {po:PO} (p:Gam X s ρ a w) (hc:azv P o po=true) (b:(po.see g s.e s.ob).ok):o8 P X a w s ρ o (po.see g s.e s.ob).v:=by
 unfold azv at hc;split at hc
 ·rename_i x y l;refine ⟨_,?_,i9 p h hc b.1⟩;simp only [execOp,l,Sem.run_pure]
 ·rename_i x y l;refine ⟨_,?_,i9 p h hc b.1⟩;simp only [execOp,l,Sem.run_pure]
 ·rename_i c x y c' x' T l;simp only [zaa] at hc;exact baq h l (i9 p h hc.1.1 b.1) (ao7 p.env hc.1.2) (ao7 p.env hc.2) b.2
 ·rename_i op t x y ty h8 x' T l;simp only [zaa,beq_iff_eq] at hc;obtain ⟨⟨rfl,j⟩,q⟩:=hc;exact bf0 h l (i9 p h j b.1.1) (i9 p h q b.1.2) b.2
 ·rename_i op t x y ty B x' T l;simp only [zaa] at hc;obtain ⟨⟨⟨O,j⟩,q⟩,A⟩:=hc;obtain ⟨d,E,r⟩:=ci j;have G:op=if B=true then .neq else .eql:=by cases B<;>simpa using O
  have W:d=.bool:=by cases d<;>first | rfl | cases r
  subst W;exact bf1 h l G E (i9 p h q b.1.1) (i9 p h A b.1.2) b.2
 ·rename_i op t x h8 x' l;simp only [zaa,beq_iff_eq] at hc;obtain ⟨rfl,j⟩:=hc;exact bjf h l (i9 p h j b.1) b.2
 ·rename_i t d x k x' l;simp only [zaa] at hc;obtain ⟨⟨j,q⟩,A⟩:=hc;obtain ⟨d1,M,_⟩:=ci j;obtain ⟨Q,N,r⟩:=ci q;have:Q=.int k:=by cases Q<;>first | cases r; done | (simp at r; rw [r])
  subst this;exact bas h l M N (i9 p h A b.1) b.2
 ·rename_i c str x' l;split at hc
  ·rename_i u;split at hc
   ·rename_i x t hx ht;simp only [zaa] at hc;obtain ⟨d,E,r⟩:=ci hc.2;exact bfs h l u (ig hx) (ig ht) E r (i9 p h hc.1 b.1) b.2
   cases hc
  cases hc
 ·rename_i t x i sz z x' U l;simp only [zaa] at hc;obtain ⟨⟨j,q⟩,A⟩:=hc;obtain ⟨e,inf,H,hi,L⟩:=jm j;exact bji h l H hi (by simpa using L) (i9 p h q b.1.1) (i9 p h A b.1.2) b.2
 ·rename_i t x i x' U l;simp only [zaa] at hc;obtain ⟨⟨j,q⟩,A⟩:=hc;obtain ⟨d,E,r⟩:=ci j;have:d=.string:=by cases d<;>first | rfl | cases r
  subst this;exact bft h l E (i9 p h q b.1.1) (i9 p h A b.1.2) b.2
 ·rename_i t x m x' l;simp only [zaa] at hc;exact a6d h p l hc.1 (i9 p h hc.2 b.1) b.2
 ·rename_i x x' l;exact bfq h l (i9 p h hc b.1) b.2
 ·rename_i t x f off x' l;simp only [zaa] at hc;obtain ⟨fs,fd,i,j,q,A,I⟩:=a4q hc.1;simp at I;exact bjj h l j q A I.1 I.2 (i9 p h hc.2 b.1) b.2
 ·rename_i t x lo hi K n x' l;simp only [zaa] at hc;obtain ⟨⟨⟨⟨j,q⟩,A⟩,I⟩,R⟩:=hc;obtain rfl:lo=none:=by simpa using A
  obtain rfl:hi=none:=by simpa using I
  obtain rfl:K=none:=by simpa using R
  split at j
  ·rename_i n' e H;simp only [zaa,beq_iff_eq] at j;obtain ⟨rfl,j⟩:=j;split at j
   ·rename_i inf F;exact bfp h p l H F (by simpa using j) (i9 p h q b.1) b.2
   cases j
  cases j
 ·rename_i t x lo hi K x' h7 ha l;simp only [zaa] at hc;obtain ⟨⟨⟨⟨j,q⟩,A⟩,I⟩,R⟩:=hc;obtain ⟨d,E,r⟩:=ci j;have:d=.string:=by cases d<;>first | rfl | cases r
  subst this;have h9:K=none:=by simpa using q
  subst h9;exact bfn h l E (i9 p h A b.1.1) (akm p h I b.1.2.1) (akm p h R b.1.2.2) b.2
 ·rename_i t x lo hi K sz x' h7 ha hh l;simp only [zaa] at hc;obtain ⟨⟨⟨⟨⟨j,q⟩,A⟩,I⟩,R⟩,h6⟩:=hc;obtain ⟨e,inf,H,hi,L⟩:=jm j;exact bfo h l H hi (by simpa using L) (i9 p h q b.1.1) (akm p h A b.1.2.1) (akm p h I b.1.2.2.1) (akm p h R b.1.2.2.2) (λ hm hn=>by simp [hn] at h6; exact hm h6) b.2
 ·rename_i x i x' U l;simp only [zaa,beq_iff_eq] at hc;obtain ⟨rfl,j⟩:=hc;exact bfv h l (i9 p h j b.1) b.2
 ·rename_i t d x x' l;simp only [zaa] at hc;obtain ⟨⟨j,q⟩,A⟩:=hc;obtain ⟨e,inf,H,hi,he⟩:=jm j;obtain ⟨d1,M,J⟩:=ci he;obtain ⟨Q,N,S⟩:=ci q
  have e1:d1=.int .u8:=by
   split at J
   ·rfl
   cases J
  have e2:Q=.string:=by cases Q<;>first | rfl | cases S
  subst e1; subst e2;have hx:=i9 p h A b.1;have C:=b.2;simp only [PO.see,Rs.and];unfold ni at C |-;split at C
  ·rename_i sz ys rd hs;exact a6b p l H M N hx hs C.1 C.2
  exact C.1.elim
 ·rename_i t ps zs qs l;simp only [zaa] at hc;obtain ⟨⟨j,q⟩,A⟩:=hc;split at j
  ·rename_i i hi;split at j
   ·rename_i z hz;obtain ⟨d,E,r⟩:=ci q;exact a6f h p l hi hz j E r A b.2
   cases j
  cases j
 ·rename_i f first cap f' xs k l
  simp only [zaa,beq_iff_eq] at hc;obtain ⟨⟨rfl,j⟩,q⟩:=hc;obtain ⟨V,Y⟩:=ahx p h q b.1;refine ⟨.func f (first.map a.eval) (cap.map a.eval),?_,.fn _ _ _ _ _ (by simpa using j) (by rw [V]; simp) λ i x c hx hc=>?_⟩
  ·simp [execOp,l,Instr.makeFunc]
  rw [<- Array.map_append,Array.getElem?_map,Option.map_eq_some_iff] at hc;obtain ⟨y,hy,rfl⟩:=hc;exact Y i x y hx (by rw [Array.getElem?_toList]; exact hy)
 ·rename_i c K x' hj l;simp only [zaa] at hc;obtain ⟨j,q⟩:=hc;split at q
  ·rename_i x ys D;simp only [zaa] at q;obtain ⟨V,Y⟩:=ahx p h q.2 b.1.2;refine bjh h l ?_ D (i9 p h q.1 b.1.1) V Y b.2;split at j
   ·rename_i u; cases K<;>first | exact u | cases j
   ·rename_i u; cases K<;>first | exact u | cases j
   cases j
  cases q
 ·rename_i t x i n sz x' U l;simp only [zaa] at hc;obtain ⟨⟨j,q⟩,A⟩:=hc;split at j
  ·rename_i n' e H;simp only [zaa,beq_iff_eq] at j;obtain ⟨rfl,j⟩:=j;split at j
   ·rename_i inf F;exact bfu h l H F (by simpa using j) (i9 p h q b.1.1) (i9 p h A b.1.2) b.2
   cases j
  cases j
 ·rename_i c hb x' T z' l;simp only [zaa] at hc;obtain ⟨j,q⟩:=hc;split at q
  ·rename_i x y z D;simp only [zaa] at q;split at j
   ·rename_i f u;exact a6e h l u j D (i9 p h q.1.1 b.1.1) (i9 p h q.1.2 b.1.2.1) (i9 p h q.2 b.1.2.2) b.2
   cases j
  cases q
 ·rename_i op t x y ty B ks x' T l;simp only [zaa] at hc;obtain ⟨⟨⟨O,j⟩,q⟩,A⟩:=hc;have G:op=if B=true then .neq else .eql:=by cases B<;>simpa using O
  obtain ⟨⟨m1,m2,Z⟩,b⟩:=b;obtain ⟨a1,a2⟩:=Z h;exact bfx h l G j (i9 p h q m1) (i9 p h A m2) a1 a2 b
 ·rename_i t x i cm str z hf x' U l;simp only [zaa,beq_iff_eq] at hc;obtain ⟨⟨⟨j,rfl⟩,q⟩,A⟩:=hc;exact bfr h p l j (i9 p h q b.1.1) (i9 p h A b.1.2) b.2
 ·rename_i c x' l;split at hc
  ·rename_i u;split at hc
   ·rename_i x t hx ht;simp only [zaa] at hc;obtain ⟨d,E,r⟩:=ci hc.2;cases d with
    | map kt e=>exact bar h p l u (ig hx) (ig ht) E (i9 p h hc.1 b.1) b.2
    | _=>cases r
   cases hc
  cases hc
 ·rename_i x x' l;exact bfz h p l (i9 p h hc b.1) b.2
 ·rename_i op t x y ty B x' l;simp only [zaa] at hc;obtain ⟨⟨⟨O,j⟩,q⟩,A⟩:=hc;split at O
  ·obtain ⟨d,E,r⟩:=ci q;have G:op=if B=true then .neq else .eql:=by cases B<;>simpa using j
   split at r
   ·exact bfw h l G E (i9 p h A b.1) b.2
   cases r
  cases O
 cases hc
theorem a9y {m:Nat} {x y:AV} {t:TypeId} {inf:TypeInfo} {u v:Operand} (h:Gam X s ρ a w) (f:o.op=.store t u v) (hi:P.info? t=some inf) (g:inf.size=m) (hx:RA X s ρ w x (a.eval u)) (hy:RA X s ρ w y (a.eval v)) (b:(st2 m x y s.ob).ok) :
 qw P X a w s o (st2 m x y s.ob):=by
 unfold st2 at b |-;split at b
 ·rename_i id ver off;obtain ⟨e,b⟩:=b;unfold stb at b |-;split at b
  ·rename_i c hc;exact bib (ok:=True) h f hi g hx hy hc b.1 b.2.1 b.2.2 e
  exact b.elim
 ·rename_i id ver idx off;split at b
  ·rename_i ys d;obtain ⟨e,b⟩:=b;unfold str at b |-;split at b
   ·rename_i sz z k r q p;obtain ⟨j,l,i,n⟩:=b;subst i;exact bia (ok:=True) h f hi g hx hy p d j l n e
   exact b.elim
  exact b.elim
 exact b.elim
theorem apo {d:Nat} {po:PO} (f:Gam X s ρ a w) (hc:aoi P o po=true) (J:po.nod=true) (b:(po.act d s.e s.ob).ok):qw P X a w s o (po.act d s.e s.ob):=by
 unfold aoi at hc;split at hc<;>try (cases J; done)
 ·rename_i t x y m x' D p;simp only [zaa] at hc;obtain ⟨⟨k,u⟩,n⟩:=hc;split at k
  ·rename_i inf hi;exact a9y f p hi (by simpa using k) (i9 f rfl u b.1.1) (i9 f rfl n b.1.2) b.2
  cases k
 ·rename_i t x i y str x' K D p;simp only [zaa] at hc;obtain ⟨⟨⟨k,u⟩,n⟩,L⟩:=hc;obtain ⟨⟨h,q,B⟩,b⟩:=b;exact bdb f p k (i9 f rfl u h) (i9 f rfl n q) (i9 f rfl L B) b
 ·rename_i c str x' K p;split at hc
  ·rename_i j;split at hc
   ·rename_i x i t N hx A;simp only [zaa] at hc;obtain ⟨⟨k,u⟩,n⟩:=hc;obtain ⟨⟨h,q⟩,b⟩:=b;exact bdc f p j (ig hx) (ig A) k (i9 f rfl u h) (i9 f rfl n q) b
   cases hc
  cases hc
 ·rename_i c sz z x' p;split at hc
  ·rename_i j;split at hc
   ·rename_i x t hx A;simp only [zaa] at hc;obtain ⟨k,n⟩:=hc;obtain ⟨e,inf,F,hi,l⟩:=jm k;simp only [zaa,beq_iff_eq] at l;obtain ⟨l,g⟩:=l;split at g
    ·rename_i v H;simp only [zaa,beq_iff_eq] at g;obtain ⟨h,b⟩:=b;have r:=i9 f rfl n h;simp only [PO.act];generalize (x'.ev s.e).bare=O at r b |-;unfold aep at b |-;split at b
     ·rename_i id ver lo len;split at b
      ·rename_i C Q G S R M;obtain ⟨I,E⟩:=b;subst I; subst E;exact bii (ok:=True) (rd':=[]) f p j (ig hx) (ig A) F hi l H g.1 g.2 r M
      exact b.elim
     exact b.elim
    cases g
   cases hc
  cases hc
 cases hc
theorem bil {d:Nat} {po:PO} (h:Gam X s ρ a w) (hc:aoi P o po=true) (l:d<X.n) (b:(po.act d s.e s.ob).ok):qw P X a w s o (po.act d s.e s.ob):=by
 have H:=hc;unfold aoi at hc;split at hc
 ·rename_i e zs j;split at hc
  ·rename_i i hi;split at hc
   ·rename_i z Q;exact bda l h j hi Q hc
   cases hc
  cases hc
 ·rename_i e x x' j;exact bik l h j (i9 h rfl hc b.1) b.2
 ·rename_i t m ps sz z qs j;simp only [zaa,beq_iff_eq,decide_eq_true_eq] at hc;obtain ⟨⟨⟨⟨⟨A,F⟩,C⟩,U⟩,h5⟩,h6⟩:=hc;obtain ⟨e,inf,E,hi,f⟩:=jm A;simp at f;obtain ⟨zv,Q⟩:=zab.1 f.2;simp only [PO.act] at b |-;split at b
  ·rename_i p ys fz h0;simp only [u9] at b;exact bij l h j E hi Q f.1 F C U h5 h6 h0 b.1 b.2.1 b.2.2
  exact b.elim
 ·rename_i t x y m x' T j;simp only [zaa] at hc;obtain ⟨⟨A,F⟩,C⟩:=hc;split at A
  ·rename_i inf hi;exact a9y h j hi (by simpa using A) (i9 h rfl F b.1.1) (i9 h rfl C b.1.2) b.2
  cases A
 ·rename_i c sz z h7 x' T j;split at hc
  ·rename_i v;split at hc
   ·rename_i x y t u hx Y;simp only [zaa] at hc;obtain ⟨⟨⟨A,F⟩,C⟩,U⟩:=hc;obtain ⟨e,inf,E,hi,f⟩:=jm A;obtain ⟨e2,h8,V,h9,_⟩:=jm F;simp at f;obtain ⟨⟨⟨g1,g2⟩,g3⟩,g4⟩:=f;obtain ⟨⟨M,J⟩,b⟩:=b;have g:=i9 h rfl C M;have B:=i9 h rfl U J;split at g3
    ·rename_i zv Q;have W:zv.cells.size=inf.size:=by rw [g1]; simpa using g3
     simp only [PO.act];generalize (x'.ev s.e).bare=xv at g b |-;generalize (T.ev s.e).bare=yv at B b |-;generalize q:src s.ob yv=so at b |-;unfold za at b |-;split at b
     ·rename_i G zz sy ys rd;simp only [u9] at b;obtain ⟨L,I,K,k4⟩:=b;subst L; subst I;exact a0w (ok:=True) l h j v (ig hx) (ig Y) E V hi Q W g1 g2 g B q K k4
     ·rename_i id ver len sy ys rd;split at b
      ·rename_i G z' R wr xs S;obtain ⟨L,I,K,k4,k5,k6⟩:=b;subst L; subst I; subst k4;exact a0v (ok:=True) (rd':=[]) h j v (ig hx) (ig Y) E V hi Q W g1 g2 g S K B q k5 k6
      exact b.elim
     exact b.elim
    cases g3
   cases hc
  cases hc
 ·rename_i c sz x' T j;split at hc
  ·rename_i v;split at hc
   ·rename_i x y t u hx Y;simp only [zaa] at hc;obtain ⟨⟨⟨A,F⟩,C⟩,U⟩:=hc;obtain ⟨e,inf,E,hi,f⟩:=jm A;simp only [beq_iff_eq] at f;obtain ⟨⟨M,J⟩,b⟩:=b;have g:=i9 h rfl C M;have B:=i9 h rfl U J;simp only [PO.act];generalize (x'.ev s.e).bare=xv at g b |-;generalize (T.ev s.e).bare=yv at B b |-;generalize q:src s.ob yv=so at b |-;unfold aal at b |-;split at b
    ·rename_i id ver lo len sy ys rd;split at b
     ·rename_i G z' R wr xs S;obtain ⟨L,I,K⟩:=b;subst L; subst I; subst K;exact bih (ok:=True) (rd':=[]) h j v (ig hx) (ig Y) E hi f g S B q
     exact b.elim
    exact b.elim
   cases hc
  cases hc
 ·rename_i t d x z x' j;simp only [zaa] at hc;obtain ⟨⟨A,F⟩,C⟩:=hc;obtain ⟨Z,N,D⟩:=ci A;have e1:Z=.string:=by cases Z<;>first | rfl | cases D
  subst e1;obtain ⟨e,inf,E,hi,f⟩:=jm F;simp only [zaa] at f;obtain ⟨d2,O,k⟩:=ci f.2
  have e2:d2=.int .u8:=by
   split at k
   ·rfl
   cases k
  subst e2;obtain ⟨hm,b⟩:=b;have g:=i9 h rfl C hm;simp only [PO.act];generalize (x'.ev s.e).bare=xv at g b |-;unfold ma at b |-;split at b
  ·exact a0u (inf:=inf) (ok:=True) l h j N E O (n9 g) b
  exact b.elim
 ·rename_i t r j;cases r with
  | none=>exact bie l h j
  | some r=>cases hc
 ·rename_i t x i y str x' i' T j;exact apo h H rfl b
 ·rename_i c str x' i' j;exact apo h H rfl b
 ·rename_i t x x' j;simp only [zaa] at hc;obtain ⟨Z,N,D⟩:=ci hc.1;cases Z with
  | map kt e=>exact bic l h j N (i9 h rfl hc.2 b.1) b.2
  | _=>cases D
 ·rename_i c sz z x' j;exact apo h H rfl b
 ·rename_i t u x x' j;simp only [zaa,beq_iff_eq] at hc;obtain ⟨⟨A,rfl⟩,C⟩:=hc;obtain ⟨e,inf,E,hi,f⟩:=jm A;obtain ⟨d2,O,k⟩:=ci f
  have e2:d2=.int .u8:=by
   split at k
   ·rfl
   cases k
  subst e2;obtain ⟨hm,b⟩:=b;have g:=i9 h rfl C hm;simp only [PO.act];generalize (x'.ev s.e).bare=xv at g b |-;unfold aee at b |-;split at b
  ·split at b
   ·rename_i G z' R wr xs S;obtain ⟨L,I,K⟩:=b;subst L; subst I;exact bid (ok:=True) (rd':=[]) h j E O g S K
   exact b.elim
  exact b.elim
 cases hc
end

end Go.Ev

import Derived.WalkKit
import Derived.Test.YtocfnfcflljooaaGreatM6
open Go.Proofs.Tryz renaming prog → P0
open Go.Proofs.Tryz
open List renaming getElem?_eq_some_iff → zaa, getElem?_take → zab, getElem?_append_left → zac, append_assoc → zad, mem_of_getElem? → zah, ext_getElem? → zai, getElem?_toArray → zak, getElem?_append_right → zal, mem_iff_getElem? → zan, take_append_drop → zao
open Nat renaming zero_add → zae
open Array renaming getElem?_eq_some_iff → zaf
open Option renaming getD_some → zag, isSome_none → zaj, map_eq_some_iff → zam
namespace Go.Ev
set_option maxHeartbeats 8000000
set_option maxRecDepth 100000
open Go
set_option linter.unusedSectionVars false
set_option linter.unnecessarySimpa false
set_option linter.unusedSimpArgs false
set_option linter.unusedVariables false
section
variable {P:Program} {w:World} {o:Oper} {a:Act} {K:Act->World->Prop} {Q:Exit->Act->World->Prop}
theorem jc {w:World} {g off size m m' c:Nat} {cs:Array Value} {e:TypeId} {fr:Nat×Nat} {news:List Value} (h:w.heap[g]?=some (.cells cs e fr)) (b:news.length=m*size)
 (a:∀(j:Nat) (u:Value),news[j]?=some u->cs[off+j]?=some u):∀W:World,W.heap=w.heap->(Builtin.firstCells size m (.slice (some ⟨g,off,none⟩) m' c)).run P W=.ok news.toArray W:=λ W d=>by
 refine run_firstCells_some W size m ⟨g,off,none⟩ m' c news b λ j u f=>?_;rw [aw];simp only [World.cell?,d,h,zaj,Bool.false_eq_true,if_false];exact a j u f
theorem ad6 {w:World} {size m' c:Nat} {A:Option Addr}:∀W:World,W.heap=w.heap->(Builtin.firstCells size 0 (.slice A m' c)).run P W=.ok #[] W:=λ W a=>by
 cases A<;>simp [Builtin.firstCells,loadCells,loadCellsFrom]
theorem zi {g:Nat} {a cs:Array Value} {t:TypeId} {fr:Nat×Nat} (c:w.heap[g]?=some (.cells a t fr)):Keeps (· = g) w (w.setRow g cs):=
 have h:=go (cs:=cs) c
 ⟨rfl,rfl,rfl,by simp [World.setRow],λ k d b=>setRow_other w g k cs b⟩
theorem ac5 {w':World} {x:Obj} {I:Nat->Prop} (h:OneMore w w' x):Keeps I w w':=⟨h.os,h.tape,h.output,by rw [h.heap]; simp,λ k a _=>by rw [h.heap]; simp [Array.getElem?_push,Nat.ne_of_lt a]⟩
theorem aad (x v:Operand) (t u:TypeId) (U:o.op=.call { callee:=.builtin .append,args:=#[x,v],argTypes:=#[t,u] }) {e d:TypeId} {inf:TypeInfo} {z:Value} {size i:Nat} (T:P.underlying t=some (.slice e)) (B:P.underlying u=some (.slice d))
 (R:P.info? e=some inf) (X:inf.zero=some z) (N:z.cells.size=inf.size) (Z:inf.size=size) (M:inf.bytes=i) (g len cap:Nat) (hx:a.eval x=.slice (some ⟨g,0,none⟩) len cap) (hc:0<cap) {cs:Array Value} {e':TypeId} (J:w.heap[g]?=some (.cells cs e' (0,0)))
 (n:cap*size<=cs.size) (F:len<=cap) {A2:Option Addr} {m c2:Nat} (S:a.eval v=.slice A2 m c2) (news:List Value) (G:∀W:World,W.heap=w.heap->(Builtin.firstCells size m (.slice A2 m c2)).run P W=.ok news.toArray W)
 (I:news.length=m*size) (Y:∀u∈news,u.oneCell'=true) (C:len+m<=maxLen) (E:cap<=maxLen) (hb:(len+m)*i<=140737488355328)
 (h:∀(L b:Nat) (y:Array Value) (V:TypeId) (w':World),(L=g\/L=w.heap.size)->0<b->len+m<=b->b<=maxLen->w'.heap[L]?=some (.cells y V (0,0))->b*size<=y.size ->
  (∀j,j<(len+m)*size->y[j]?=(cs.toList.take (len*size)++news)[j]?)->Keeps (· = g) w w'->K (a.put o.dst (.slice (some ⟨L,0,none⟩) (len+m) b)) w'):o.wp P a w K Q:=by
 subst Z; subst M;have O:len*inf.size<=cs.size:=Nat.le_trans (Nat.mul_le_mul_right _ F) n;have f:(cs.toList.take (len*inf.size)).length=len*inf.size:=by simp only [List.length_take,Array.length_toList]; exact Nat.min_eq_left O
 have D:=jc (P:=P) (off:=0) (size:=inf.size) (m:=len) (m':=len) (c:=cap) (news:=cs.toList.take (len*inf.size)) J f (λ j u B=>by
  rw [zab] at B;split at B
  ·simpa using B
  cases B)
 have l:∀r,(Builtin.append_ #[t,u] o.type #[.slice (some ⟨g,0,none⟩) len cap,.slice A2 m c2]).run P w=r->(execOp a.eval o).run P w=r.andThen λ q w'=>.ok (.value q) w':=by
  rintro r rfl;simp [execOp,U,resolve,invoke,builtin,hx,S]
 unfold Oper.wp
 rcases adv (P:=P) (w:=w) (ty:=o.type) (A:=some ⟨g,0,none⟩) (A2:=A2) (len:=len) (cap:=cap) (m:=m) (c2:=c2) (g:=g) (cur:=cs) (e':=e') (olds:=cs.toList.take (len*inf.size)) (news:=news) T B R X N F (λ _=>⟨rfl,J,n⟩) (λ _ k _ h=>absurd h.2 (Nat.not_lt_zero k))
  D f G I Y C hb with ⟨hroom,hr⟩ | ⟨hgrow,K',w',rest,hr,hK1,hK2,hom,hlen⟩
 ·rw [l _ hr,if_pos hc]
  have p:len*inf.size+news.length<=cs.toList.length:=by
   rw [I,<- Nat.add_mul]; simp; exact Nat.le_trans (Nat.mul_le_mul_right _ hroom) n
  refine h g cap _ e' _ (.inl rfl) hc hroom E (setRow_heap w g cs _ e' _ J) ?_ (λ j H=>?_) (zi J)
  ·simp only [List.size_toArray,j7 p,Array.length_toList]; exact n
  rw [zak,u4 p,I];rw [Nat.add_mul] at H;by_cases s:len*inf.size<=j
  ·rw [if_pos ⟨s,H⟩,zal (by rw [f]; exact s),f]
  rw [if_neg (λ q=>s q.1),zac (by rw [f]; omega),zab,if_pos (by omega)]
 rw [l _ hr];refine h w.heap.size K' _ e w' (.inr rfl) (by omega) hK1 hK2 hom.new ?_ (λ j H=>?_) (ac5 hom)
 ·simp only [List.size_toArray,hlen]; exact Nat.le_refl _
 rw [zak,zac];simp only [List.length_append,f,I,<- Nat.add_mul];exact H
theorem atj (x v:Operand) (t u:TypeId) (E:o.op=.call { callee:=.builtin .append,args:=#[x,v],argTypes:=#[t,u] }) {e d:TypeId} {inf:TypeInfo} {z:Value} {size c:Nat} (D:P.underlying t=some (.slice e)) (F:P.underlying u=some (.slice d))
 (B:P.info? e=some inf) (G:inf.zero=some z) (n:z.cells.size=inf.size) (J:inf.size=size) (l:inf.bytes=c) {A:Option Addr} (hx:a.eval x=.slice A 0 0)
 {A2:Option Addr} {m c2:Nat} (C:a.eval v=.slice A2 m c2) (N:0<m) (news:List Value) (k:∀W:World,W.heap=w.heap->(Builtin.firstCells size m (.slice A2 m c2)).run P W=.ok news.toArray W)
 (p:news.length=m*size) (H:∀u∈news,u.oneCell'=true) (s:m<=maxLen) (L:m*c<=140737488355328)
 (h:∀(b:Nat) (f:Array Value) (w':World),m<=b->b<=maxLen->w'.heap[w.heap.size]?=some (.cells f e (0,0))->b*size<=f.size ->
  (∀j,j<m*size->f[j]?=news[j]?)->(∀I,Keeps I w w')->K (a.put o.dst (.slice (some ⟨w.heap.size,0,none⟩) m b)) w'):o.wp P a w K Q:=by
 subst J; subst l
 have i:∀r,(Builtin.append_ #[t,u] o.type #[.slice A 0 0,.slice A2 m c2]).run P w=r->(execOp a.eval o).run P w=r.andThen λ q w'=>.ok (.value q) w':=by
  rintro r rfl;simp [execOp,E,resolve,invoke,builtin,hx,C]
 unfold Oper.wp
 rcases adv (P:=P) (w:=w) (ty:=o.type) (fr:=(0,0)) (A:=A) (A2:=A2) (len:=0) (cap:=0) (m:=m) (c2:=c2) (g:=0) (cur:=#[]) (e':=0) (olds:=[]) (news:=news) D F B G n (Nat.le_refl _) (by simp) (λ h=>absurd h (Nat.lt_irrefl 0))
  (λ W M=>ad6 (w:=W) W rfl) (by simp) k p H (by omega) (by rw [zae]; exact L) with ⟨hroom,hr⟩ | ⟨hgrow,K',w',rest,hr,hK1,hK2,hom,hlen⟩
 ·omega
 rw [i _ hr];simp only [zae] at hK1;refine (show K (a.put o.dst (.slice (some ⟨w.heap.size,0,none⟩) (0+m) K')) w' from ?_);rw [zae];refine h K' _ w' hK1 hK2 hom.new ?_ (λ j y=>?_) λ I=>ac5 hom
 ·simp only [List.size_toArray,hlen]; exact Nat.le_refl _
 rw [zak,List.nil_append,zac];rw [p];exact y
theorem ais (x v:Operand) (t u:TypeId) (L:o.op=.call { callee:=.builtin .copy,args:=#[x,v],argTypes:=#[t,u] }) {e:TypeId} {inf:TypeInfo} {size:Nat} (E:P.underlying t=some (.slice e))
 (C:P.info? e=some inf) (N:inf.size=size) (g d s m:Nat) {cs:Array Value} {e':TypeId} (z:w.heap[g]?=some (.cells cs e' (0,0))) {D S:Option Addr} {n A f p:Nat} (hx:a.eval x=.slice D n A) (G:a.eval v=.slice S f p)
 (F:m=Nat.min f n) (k:0<m->D=some ⟨g,d,none⟩/\S=some ⟨g,s,none⟩) (R:d+m*size<=cs.size) (O:s+m*size<=cs.size) (M:∀u∈(cs.toList.drop s).take (m*size),u.oneCell'=true)
 (h:∀w',w'.heap[g]?=some (.cells (b7 cs.toList d ((cs.toList.drop s).take (m*size))).toArray e' (0,0))->Keeps (· = g) w w'->K (a.put o.dst (goInt m)) w'):o.wp P a w K Q:=by
 subst N;unfold Oper.wp
 have b:∀r,(Builtin.copy_ #[t,u] o.type #[.slice D n A,.slice S f p]).run P w=r->(execOp a.eval o).run P w=r.andThen λ q w'=>.ok (.value q) w':=by
  rintro r rfl;simp [execOp,L,resolve,invoke,builtin,hx,G]
 by_cases H:m=0
 ·subst H
  have B:(Builtin.copy_ #[t,u] o.type #[.slice D n A,.slice S f p]).run P w=.ok (goInt 0) w:=by
   have I:∀(x:Addr),(loadCells x 0).run P w=.ok #[] w:=λ x=>by simpa using run_loadCells_list (P:=P) w x [] (by simp)
   cases D<;>cases S<;>simp [Builtin.copy_,run_underlying E,Builtin.lenOf,Builtin.firstCells,sizeOf,typeInfo,C,<- F,storeCells,I]
  rw [b _ B];refine h w ?_ (Keeps.refl _ _);simp [b7,z]
 obtain ⟨rfl,rfl⟩:=k (by omega);have y:((cs.toList.drop s).take (m*inf.size)).length=m*inf.size:=by simp; omega
 have J:=jc (P:=P) (w:=w) (off:=s) (size:=inf.size) (m:=m) (m':=f) (c:=p) (news:=(cs.toList.drop s).take (m*inf.size)) z y (λ j u l=>by
  rw [zab] at l;split at l
  ·rw [List.getElem?_drop] at l; simpa using l
  cases l) w rfl
 have i:=ub (P:=P) g d e' (0,0) ((cs.toList.drop s).take (m*inf.size)) 0 cs w z (by simp) (by rw [y]; omega) M
 have B:(Builtin.copy_ #[t,u] o.type #[.slice (some ⟨g,d,none⟩) n A,.slice (some ⟨g,s,none⟩) f p]).run P w=.ok (goInt m) (w.setRow g (b7 cs.toList d ((cs.toList.drop s).take (m*inf.size))).toArray):=by
  simp only [Nat.add_zero] at i;simp [Builtin.copy_,run_underlying E,Builtin.lenOf,sizeOf,typeInfo,C,<- F,J,i,b7]
 rw [b _ B];exact h _ (setRow_heap w g cs _ e' _ z) (zi z)
end

def kc (k:Ky):List Value:=[.int .u64 k.c,.int .i64 k.v,.int .i64 k.d]
def flat (l:List Ky):List Value:=l.flatMap kc
theorem p5 (l:List Ky):(flat l).length=l.length*3:=by
 induction l with
 | nil=>rfl
 | cons k l ih=>simp only [flat,List.flatMap_cons,List.length_append,List.length_cons] at ih |-; rw [ih]; simp [kc]; omega
variable {l:List Ky} {i j:Nat} {k:Ky}
theorem ar9 (h:l[i]?=some k) (a:j<3):(flat l)[i*3+j]?=(kc k)[j]?:=by
 have:∀(l:List Ky) (i:Nat),l[i]?=some k->(flat l)[i*3+j]?=(kc k)[j]?:=λ l=>by
  induction l with
  | nil=>intro i h; simp at h
  | cons q l ih=>
    intro i h;cases i with
    | zero=>
      simp at h;subst h;simp only [flat,List.flatMap_cons];rw [zac (by simp [kc]; omega)];simp
    | succ i=>
      simp at h;simp only [flat,List.flatMap_cons];rw [zal (by simp [kc]; omega),<- ih i h];congr 1;simp [kc];omega
 exact this l i h
theorem yo:∀u∈flat l,u.oneCell'=true:=λ u b=>by
 simp only [flat,List.mem_flatMap,kc] at b;obtain ⟨k,_,a⟩:=b;simp at a;rcases a with rfl | rfl | rfl<;>rfl
def mg (w:World) (g:Nat) (l:List Ky) (c:Nat):Prop:=∃(cs:Array Value) (e:TypeId),w.heap[g]?=some (.cells cs e (0,0))/\c*3<=cs.size/\(∀(j:Nat) (u:Value),(flat l)[j]?=some u->cs[j]?=some u)/\l.length<=c/\0<c/\c<=maxLen
variable {c:Nat}
theorem mg.loc {w w':World} {g:Nat} (h:mg w g l c) (d:w'.heap[g]?=w.heap[g]?):mg w' g l c:=by
 obtain ⟨cs,e,b,a⟩:=h;exact ⟨cs,e,by rw [d]; exact b,a⟩
theorem mg.lt {w:World} {g:Nat} (h:mg w g l c):g<w.heap.size:=by
 obtain ⟨cs,e,a,b⟩:=h;exact (zaf.1 a).1
variable {R:Nat->Prop}
theorem mg.rel {w:World} {g:Nat} (h:mg w g l c) (t:R g):RelV w R (z6 l) (.slice (some ⟨g,0,none⟩) l.length c):=by
 obtain ⟨cs,e,s,A,o,z,B,r⟩:=h;have n:=RelV.sl (w:=w) (R:=R) 3 (l.map Ky.rv) (some ⟨g,0,none⟩) c (by simpa using z) r g 0 (λ i j=>(cs[i*3+j]?).getD undef) (λ _=>⟨rfl,t⟩)
 have d:∀(i:Nat) (x:RV) (j:Nat) (y:RV),(l.map Ky.rv)[i]?=some x->x.cells[j]?=some y->∃u,y=.v u/\cs[i*3+j]?=some u/\u.oneCell'=true:=λ i x j y b a=>by
  rw [List.getElem?_map,zam] at b;obtain ⟨k,q,rfl⟩:=b;have m:j<3:=by have:=(zaa.1 a).1; simpa [Ky.rv,RV.cells] using this
  have f:=ar9 q m
  match j,m,a,f with
  | 0,_,a,f=>simp [Ky.rv,RV.cells] at a; subst a; exact ⟨_,rfl,o _ _ f,rfl⟩
  | 1,_,a,f=>simp [Ky.rv,RV.cells] at a; subst a; exact ⟨_,rfl,o _ _ f,rfl⟩
  | 2,_,a,f=>simp [Ky.rv,RV.cells] at a; subst a; exact ⟨_,rfl,o _ _ f,rfl⟩
 have:=n (λ i x b=>by
  rw [List.getElem?_map,zam] at b;obtain ⟨k,q,rfl⟩:=b
  rfl) (λ i x j y b a=>by
  obtain ⟨u,rfl,h,p⟩:=d i x j y b a;simp only [World.cell?,s,zaj,Bool.false_eq_true,if_false,zae,h,zag];exact ⟨trivial,p⟩) (λ i x j y b a=>by
  obtain ⟨u,rfl,h,p⟩:=d i x j y b a;simp only [h,zag]
  exact .v u)
 simpa [z6] using this
def adr (a:Option Nat):Option Addr:=a.map λ g=>⟨g,0,none⟩
structure TL (w:World) (b:Nat) (og:Option Nat) (gs:List Nat) (cap:Nat) (ns:List (List Ky)) (n:Int):Prop where
 hd:∃e,w.heap[b]?=some (.cells #[.slice (adr og) ns.length cap,.int .i64 n] e (0,0))
 le:ns.length<=cap
 mx:cap<=maxLen
 no:og=none->cap=0
 out:∀g,og=some g->0<cap/\∃cs e,w.heap[g]?=some (.cells cs e (0,0))/\cap<=cs.size/\∀(i g':Nat) (l:List Ky),gs[i]?=some g'->ns[i]?=some l->∃c,cs[i]?=some (.slice (some ⟨g',0,none⟩) l.length c)/\mg w g' l c
 len:gs.length=ns.length
 nb:(b::(og.toList++gs)).Nodup
def Ft (b:Nat) (c:Option Nat) (a:List Nat) (x:Nat):Prop:=x=b\/c=some x\/x∈a
section
variable {w w':World} {b cap:Nat} {og:Option Nat} {gs:List Nat} {ns:List (List Ky)} {n:Int}
theorem TL.loc (h:TL w b og gs cap ns n) (a:∀x,Ft b og gs x->w'.heap[x]?=w.heap[x]?):TL w' b og gs cap ns n:=by
 refine ⟨?_,h.le,h.mx,h.no,λ g f=>?_,h.len,h.nb⟩
 ·obtain ⟨e,t⟩:=h.hd;exact ⟨e,by rw [a b (.inl rfl)]; exact t⟩
 obtain ⟨k,cs,e,q,p,s⟩:=h.out g f;refine ⟨k,cs,e,by rw [a g (.inr (.inl f))]; exact q,p,λ i j l d m=>?_⟩;obtain ⟨c,r,o⟩:=s i j l d m;exact ⟨c,r,o.loc (a j (.inr (.inr (zah d))))⟩
theorem TL.lt (h:TL w b og gs cap ns n):∀x,Ft b og gs x->x<w.heap.size:=λ x hx=>by
 rcases hx with rfl | hx | hx
 ·obtain ⟨e,k⟩:=h.hd;exact (zaf.1 k).1
 ·obtain ⟨l,cs,e,d,_⟩:=h.out x hx;exact (zaf.1 d).1
 obtain ⟨i,f⟩:=zan.1 hx;have a:=(zaa.1 f).1;rw [h.len] at a;rcases og with _ | g
 ·have:=h.no rfl; have:=h.le; omega
 obtain ⟨l,cs,e,d,o,m⟩:=h.out g rfl;obtain ⟨c,_,j⟩:=m i x ns[i] f (by simp [a]);exact j.lt
theorem TL.rel (h:TL w b og gs cap ns n) (z:∀x,Ft b og gs x->R x):RelV w R (.sl 1 (ns.map z6)) (.slice (adr og) ns.length cap):=by
 rcases og with _ | g
 ·have t:=h.no rfl;have v:=h.le;have u:ns=[]:=List.eq_nil_of_length_eq_zero (by omega);subst u;subst t;exact .sl 1 [] none 0 (by simp) (by simp) 0 0 (λ _ _=>undef) (by simp) (by simp) (by simp) (by simp)
 obtain ⟨t,cs,e,v,u,B⟩:=h.out g rfl
 have a:∀(i:Nat) (x:RV),(ns.map z6)[i]?=some x->∃l f c,ns[i]?=some l/\x=z6 l/\gs[i]?=some f/\cs[i]?=some (.slice (some ⟨f,0,none⟩) l.length c)/\mg w f l c:=λ i x d=>by
  rw [List.getElem?_map,zam] at d;obtain ⟨l,r,rfl⟩:=d;have m:=(zaa.1 r).1;have p:gs[i]?=some (gs[i]'(by rw [h.len]; exact m)):=by simp [h.len,m]
  obtain ⟨c,o,s⟩:=B i _ l p r;exact ⟨l,_,c,r,rfl,p,o,s⟩
 have q:=RelV.sl (w:=w) (R:=R) 1 (ns.map z6) (some ⟨g,0,none⟩) cap (by simpa using h.le) h.mx g 0 (λ i _=>(cs[i]?).getD undef) (λ _=>⟨rfl,z g (.inr (.inl rfl))⟩) (λ i x d=>by
  obtain ⟨l,f,c,_,rfl,_⟩:=a i x d
  rfl) (λ i x j y d k=>by
  obtain ⟨l,f,c,_,rfl,_,o,_⟩:=a i x d;have:j=0:=by have:=(zaa.1 k).1; simp [z6,RV.cells] at this; exact this
  subst this;simp only [World.cell?,v,zaj,Bool.false_eq_true,if_false,zae,Nat.mul_one,Nat.add_zero,o,zag];exact ⟨trivial,rfl⟩) (λ i x j y d k=>by
  obtain ⟨l,f,c,_,rfl,A,o,s⟩:=a i x d;have:j=0:=by have:=(zaa.1 k).1; simp [z6,RV.cells] at this; exact this
  subst this;simp [z6,RV.cells] at k;subst k;simp only [o,zag]
  exact s.rel (z f (.inr (.inr (zah A)))))
 simpa [adr] using q
theorem TL.rp (h:TL w b og gs cap ns n) (d:∀x,Ft b og gs x->R x) :
 ∃g:Nat->Value,∀(j:Nat) (y:RV),(t9 ns n)[j]?=some y->w.cell? ⟨b,0+j,none⟩=some (g j)/\(g j).oneCell'=true/\RelV w R y (g j):=by
 obtain ⟨e,c⟩:=h.hd;refine ⟨λ j=>(#[Value.slice (adr og) ns.length cap,.int .i64 n][j]?).getD undef,λ j y a=>?_⟩
 match j,a with
 | 0,a=>
   simp [t9] at a;subst a;refine ⟨by simp [World.cell?,c],rfl,h.rel d⟩
 | 1,a=>
   simp [t9] at a;subst a;exact ⟨by simp [World.cell?,c],rfl,.v _⟩
 | j+2,a=>simp [t9] at a
def fpt (b:Option Nat) (a:List Nat):Nat->Option Nat
 | 0=>b
 | j+1=>a[j]?
theorem xx {x:Nat}:(∃j,fpt og gs j=some x)↔(og=some x\/x∈gs):=by
 constructor
 ·rintro ⟨j,a⟩;cases j with
  | zero=>exact .inl a
  | succ j=>exact .inr (zah a)
 rintro (h | h)
 ·exact ⟨0,h⟩
 obtain ⟨i,b⟩:=zan.1 h;exact ⟨i+1,b⟩
end
def azd (ns:List (List Ky)) (n:Int):AbsT where
 size:=2
 Q w b i:=∃f d cap,TL w b f d cap ns n/\i=fpt f d
 loc:=by
  rintro w w' b i ⟨f,d,cap,h,rfl⟩ k g;refine ⟨f,d,cap,h.loc λ x hx=>?_,rfl⟩;rcases hx with rfl | hx
  ·exact k
  obtain ⟨j,a⟩:=xx.2 hx;exact g j x a
 root:=by
  rintro w b i ⟨f,d,cap,h,rfl⟩;obtain ⟨e,l⟩:=h.hd;exact ⟨_,e,l,rfl⟩
 lt:=by
  rintro w b i ⟨f,d,cap,h,rfl⟩ j c g;exact h.lt c (.inr (xx.1 ⟨j,g⟩))
 view:=t9 ns n
 rp:=by
  rintro w b i R ⟨f,d,cap,h,rfl⟩ k g;refine h.rp λ x hx=>?_;rcases hx with rfl | hx
  ·exact k
  obtain ⟨j,a⟩:=xx.2 hx;exact g j x a

theorem glT (w:World):Gl P0 w λ _=>False:=gl_none (by kernel_rfl) (λ _=>by kernel_rfl) (λ _=>by kernel_rfl) w
def Ky.val (k:Ky):Value:=.agg #[.int .u64 k.c,.int .i64 k.v,.int .i64 k.d]
theorem Ky.rel {w:World} (k:Ky):RelV w R k.rv k.val:=by
 refine .agg _ _ rfl λ i x c hx hc=>?_
 match i,hx,hc with
 | 0,hx,hc=>simp [Ky.val] at hx hc; subst hx; subst hc; exact .v _
 | 1,hx,hc=>simp [Ky.val] at hx hc; subst hx; subst hc; exact .v _
 | 2,hx,hc=>simp [Ky.val] at hx hc; subst hx; subst hc; exact .v _
 | i+3,hx,hc=>simp at hx
theorem asp {w:World} {x:Nat} (h:x<w.heap.size):akq w x:=⟨h,λ ⟨id,v,o,a,_⟩=>by simp [ob0,obs] at a,trivial⟩
variable {I:Nat->Prop}
theorem aeh {w w':World} (h:Go.RowKit.Below w.heap.size w w'):Keeps I w w':=⟨h.os,h.tape,h.output,h.size,λ b a _=>h.block b a⟩
section
variable {w:World} {b cap:Nat} {og:Option Nat} {gs:List Nat} {ns:List (List Ky)} {n:Int}
theorem aao (h:TL w b og gs cap ns n) (k:Ky) (r:Nat) (d:Nod ns k r):Calls P0 46 #[.pointer (some ⟨b,0,none⟩),k.val] w λ e w'=>e=.returned (.int .i64 ((r-1:Nat):Int))/\∀I,Keeps I w w':=by
 obtain ⟨g,i⟩:=h.rp (R:=akq w) λ x hx=>asp (h.lt x hx);refine (sk (apt ns n k r d) w (glT w) rfl (rel0_cons (.rp _ b 0 g (asp (h.lt b (.inl rfl))) i) (rel0_cons (.r k.rel) rel0_nil))).mono ?_;rintro e w' ⟨c,rfl,a,ρ',f⟩;cases f with
 | r hv=>cases hv; exact ⟨rfl,λ I=>aeh a⟩
theorem aaw {g:Nat} (h:mg w g l c) (k:Ky) (r:Nat) (o:Plc l k r):Calls P0 47 #[.slice (some ⟨g,0,none⟩) l.length c,k.val] w λ e w'=>
 e=.returned (.tuple #[.int .i64 r,.bool (decide (l[r]?=some k))])/\∀I,Keeps I w w':=by
 have a:l.length<=maxLen:=by obtain ⟨_,_,_,_,_,u,_,t⟩:=h; omega
 refine (sk (ayc l k r o a) w (glT w) rfl (rel0_cons (.r (h.rel (asp h.lt))) (rel0_cons (.r k.rel) rel0_nil))).mono ?_;rintro e w' ⟨c,rfl,p,ρ',n⟩;cases n with
 | tup _ cs a h=>
   have j:=h 0 _ (cs[0]'(by rw [a]; simp)) rfl (by simp [a]);have m:=h 1 _ (cs[1]'(by rw [a]; simp)) rfl (by simp [a]);refine ⟨?_,λ I=>aeh p⟩;congr 2;have d:∀{v c:Value},RelA w' (d6 (λ _=>True) (ob0 []) ρ' w') (ob0 []) ρ' (.r (.v v)) c->c=v:=λ h=>by cases h with | r h=>cases h; rfl
   have s:=d j;have q:=d m;apply Array.ext (by simp [a]);intro i b f
   match i,b,f with
   | 0,b,f=>simpa using s
   | 1,b,f=>simpa using q
   | i+2,b,f=>rw [a] at b; exact absurd (show i+2<2 from b) (by omega)
end
theorem afr {f:FuncId} {T D:AbsT} {res:Value} (hs:D.size=T.size) (h:∀(w:World) (b:Nat) (O:Nat->Option Nat),T.Q w b O->Calls P0 f #[.pointer (some ⟨b,0,none⟩),k.val] w λ e w'=>
 e=.returned res/\∃n,D.Q w' b n/\Keeps (λ x=>x=b\/∃j,O j=some x) w w'/\(∀j c,n j=some c->(∃S,O S=some c)\/w.heap.size<=c)) :
 a9 P0 f [.ptr 1000000 0 0,k.av] [.abs T] (.r (.v res)) [.abs D]:=by
 intro w a ρ B X hB W L q;have u:ob0 [Ob.abs T] 1000000=some (0,.abs T):=by simp [ob0,obs,upd]
 obtain ⟨b,t,V⟩:=W.obj 1000000 0 (.abs T) u
 have g:∀(H:AbsT) id x,ob0 [Ob.abs H] id=some x->id=1000000/\x=(0,.abs H):=λ H id x hx=>by
  obtain ⟨m,d,h3⟩:=pw hx
  have:id-1000000=0:=by
   have:=(zaa.1 d).1;simpa using this
  have g:id=1000000:=by omega
  subst g;have J:ob0 [Ob.abs H] 1000000=some (0,.abs H):=by simp [ob0,obs,upd]
  rw [J] at hx;exact ⟨rfl,(Option.some.inj hx).symm⟩
 have l:∀x,ei (ob0 [.abs T]) ρ x↔(x=b\/∃j,ρ (.s 1000000 j)=some x):=λ x=>by
  constructor
  ·rintro ⟨id,y,m,d⟩;obtain ⟨rfl,rfl⟩:=g T id _ m;rcases d with d | ⟨_,j,d⟩
   ·rw [t] at d; cases d; exact .inl rfl
   exact .inr ⟨j,d⟩
  rintro (rfl | ⟨j,d⟩)
  ·exact ⟨1000000,(0,.abs T),u,.inl t⟩
  exact ⟨1000000,(0,.abs T),u,.inr ⟨rfl,j,d⟩⟩
 have hc:a=#[.pointer (some ⟨b,0,none⟩),k.val]:=by
  simp at L;apply Array.ext (by simpa using L);intro i m d
  match i,m,d with
  | 0,m,d=>
    have p:=q 0 _ a[0] rfl (by simp [m]);generalize a[0]=c0 at p;cases p with
    | ptr _ _ _ _ hc1 hat=>
      obtain ⟨b',K,rfl⟩:=hat.live u;rw [t] at K;cases K
      rfl
  | 1,m,d=>
    have p:=q 1 _ a[1] rfl (by simp [m]);generalize a[1]=Y at p;cases p with
    | r p=>
      cases p with
      | agg xs cs hl p=>
        have C:∀{v c:Value},RelV w (d6 B (ob0 [.abs T]) ρ w) (.v v) c->c=v:=λ h=>by cases h; rfl
        simp only [Ky.val,List.getElem_toArray,List.getElem_cons_succ,List.getElem_cons_zero];congr 1;apply Array.ext (by simpa using hl);intro j z E
        match j,z,E with
        | 0,z,E=>exact C (p 0 _ cs[0] rfl (by simp [z]))
        | 1,z,E=>exact C (p 1 _ cs[1] rfl (by simp [z]))
        | 2,z,E=>exact C (p 2 _ cs[2] rfl (by simp [z]))
        | j+3,z,E=>exact absurd (show j+3<3 from E) (by omega)
  | i+2,m,d=>exact absurd (show i+2<2 from d) (by omega)
 subst hc;refine (h w b _ V).mono ?_;rintro e w' ⟨rfl,n,R,G,N⟩;obtain ⟨ρ',m,d⟩:∃ρ':Pl->Option Nat,ρ' (.o 1000000)=some b/\∀j,ρ' (.s 1000000 j)=n j:=⟨fun | .o i=>if i=1000000 then some b else none | .s i j=>if i=1000000 then n j else none,by simp,by simp⟩
 refine ⟨_,ρ',rfl,⟨λ id v o hx=>?_,λ id P x x' c hx I _ _=>?_,⟨G.os,G.tape,G.output,G.size,λ c hc U=>G.block c hc λ hx=>U ((l c).2 hx)⟩,λ id v o c hx A=>?_,λ id c F=>?_⟩,.r (.v _)⟩
 ·obtain ⟨rfl,hx⟩:=g D id _ hx;cases hx;refine ⟨b,m,?_⟩;rw [show (λ j=>ρ' (.s 1000000 j))=n from funext d];exact R
 ·rw [(g D id _ hx).1,(g D P _ I).1]
 ·obtain ⟨rfl,hx⟩:=g D id _ hx;cases hx;rcases A with A | ⟨_,j,A⟩
  ·rw [m] at A; cases A; exact .inl ((l b).2 (.inl rfl))
  rw [d] at A;rcases N j c A with ⟨S,M⟩ | h
  ·exact .inl ((l c).2 (.inr ⟨S,M⟩))
  exact .inr h
 simp only [gt] at F;split at F
 ·rename_i v o hx;split at F
  ·rename_i Z;obtain ⟨rfl,I⟩:=g T id _ hx;refine ⟨?_,_,by simp [ob0,obs,upd]; rfl,rfl,λ h=>by cases h⟩;rw [m,<- F,t]
  cases F
 cases F

open Go Go.RowKit
variable {x:Obj}
theorem me {w:World} {k:Nat} (h:k<w.heap.size):(w.alloc x).heap[k]?=w.heap[k]?:=by
 show (w.heap.push x)[k]? = _;simp [Array.getElem?_push,Nat.ne_of_lt h]
theorem jx {w:World} {k:Nat} (h:k=w.heap.size):(w.alloc x).heap[k]?=some x:=by
 subst h;show (w.heap.push x)[w.heap.size]? = _;simp
theorem m9 {w:World}:Keeps I w (w.alloc x):=ac5 (u6 x)
theorem Keeps.mono {J:Nat->Prop} {w w':World} (h:Keeps I w w') (c:∀x,I x->J x):Keeps J w w':=⟨h.os,h.tape,h.output,h.size,λ b a d=>h.block b a λ hx=>d (c b hx)⟩
theorem axb {w:World} {b cap:Nat} {G:Option Nat} {K:List Nat} {n:Int} (h:TL w b G K cap [] n) (k:Ky):Calls P0 26 #[.pointer (some ⟨b,0,none⟩),k.val] w λ e w'=>e=.returned (.bool true) /\
 ∃E F D,TL w' b E F D [[k]] 1/\Keeps (Ft b G K) w w'/\∀x,Ft b E F x->Ft b G K x\/w.heap.size<=x:=by
 obtain ⟨e,A⟩:=h.hd;have U:=h.lt b (.inl rfl);have hc:w.cell? ⟨b,0,none⟩=some (.slice (adr G) 0 cap):=by simp [World.cell?,A]
 have V:w.cell? ⟨b,1,none⟩=some (.int .i64 n):=by simp [World.cell?,A]
 have P:w.frozen? ⟨b,0,none⟩=false:=by simp [World.frozen?,A]
 have T:w.frozen? ⟨b,1,none⟩=false:=by simp [World.frozen?,A]
 have N:b<w.heap.size+1:=by omega
 have M:b<w.heap.size+1+1:=by omega
 have Q:¬b=w.heap.size:=by omega
 have X:¬b=w.heap.size+1:=by omega
 have S:¬b=w.heap.size+1+1:=by omega
 simp only [Ky.val]
 go_enter func26,Go.Proofs.Tryz.ntmps26
 go_wp2_with fail
 go_ret
 rw [setCell_eq_setRow w b 0 _ _ _ _ A,setCell_eq_setRow _ b 1 _ _ _ _ (setRow_heap w b _ _ _ _ A),setRow_setRow];generalize B:w.setRow b _=H;have W:H.heap[b]?=some (.cells #[.slice (some ⟨w.heap.size+1+1,0,none⟩) 1 1,.int .i64 1] e):=by rw [<- B]; exact setRow_heap w b _ _ _ _ A
 have R:Keeps (· = b) w H:=by rw [<- B]; exact zi A
 have C:H.heap.size=w.heap.size:=by rw [<- B]; simp [World.setRow]
 refine ⟨rfl,some (w.heap.size+1+1),[w.heap.size+1],1,⟨⟨e,?_⟩,by simp,by simp [maxLen],by simp,λ g Y=>?_,rfl,?_⟩,?_,λ x hx=>?_⟩
 ·rw [me (by simp [C]; omega),me (by simp [C]; omega),me (by simp [C]; omega),W]
  rfl
 ·cases Y;refine ⟨by omega,_,_,jx (by simp [C]),by simp,λ i Z l I L=>?_⟩;have J:i=0:=by have:=(zaa.1 I).1; simp at this; exact this
  subst J;simp at I L;subst I; subst L;refine ⟨1,rfl,_,_,by rw [me (by simp [C])]; exact jx (by simp [C]),by simp,?_,by simp,by simp,by simp [maxLen]⟩;intro j u O;simpa [flat,kc] using O
 ·simp;omega
 ·exact (R.mono λ x hx=>.inl hx).trans ((m9.trans m9).trans m9)
 rcases hx with h | h | h
 ·exact .inl (.inl h)
 ·simp at h; omega
 simp at h; omega

open Go Go.RowKit
section
variable {w:World} {b g cap:Nat} {og:Option Nat} {gs:List Nat} {ns:List (List Ky)} {n:Int}
theorem TL.root (h:TL w b (some g) gs cap ns n):w.cell? ⟨b,0,none⟩=some (.slice (some ⟨g,0,none⟩) ns.length cap)/\w.cell? ⟨b,1,none⟩=some (.int .i64 n)/\w.frozen? ⟨b,0,none⟩=false/\w.frozen? ⟨b,1,none⟩=false/\b<w.heap.size:=by
 obtain ⟨e,a⟩:=h.hd;exact ⟨by simp [World.cell?,a,adr],by simp [World.cell?,a],by simp [World.frozen?,a],by simp [World.frozen?,a],h.lt b (.inl rfl)⟩
theorem TL.some_ (h:TL w b og gs cap ns n) (a:ns[i]?=some l):∃g,og=some g:=by
 rcases og with _ | g
 ·have:=h.no rfl;have:=h.le;have:=(zaa.1 a).1;omega
 exact ⟨g,rfl⟩
theorem TL.node (h:TL w b (some g) gs cap ns n) (k:ns[i]?=some l):∃f c,gs[i]?=some f/\mg w f l c/\w.cell? ⟨g,i,none⟩=some (.slice (some ⟨f,0,none⟩) l.length c)/\w.frozen? ⟨g,i,none⟩=false:=by
 obtain ⟨r,cs,e,j,q,p⟩:=h.out g rfl;have a:=(zaa.1 k).1;have d:gs[i]?=some (gs[i]'(by rw [h.len]; exact a)):=by simp [h.len,a]
 obtain ⟨c,o,m⟩:=p i _ l d k;exact ⟨_,c,d,m,by simp [World.cell?,j,o],by simp [World.frozen?,j]⟩
end
def KB (w:World) (B:Nat) (k:Ky):Prop:=w.heap[B]?=some (.cells #[.int .u64 k.c,.int .i64 k.v,.int .i64 k.d] 55 (0,0))
variable {B:Nat}
theorem KB.cells {w:World} (h:KB w B k):w.cell? ⟨B,0,none⟩=some (.int .u64 k.c)/\w.cell? ⟨B,1,none⟩=some (.int .i64 k.v)/\w.cell? ⟨B,2,none⟩=some (.int .i64 k.d):=by
 unfold KB at h;exact ⟨by simp [World.cell?,h],by simp [World.cell?,h],by simp [World.cell?,h]⟩
theorem KB.keeps {w w':World} (h:KB w B k) (b:Keeps I w w') (a:¬I B):KB w' B k:=by
 unfold KB at h |-;rw [b.block B (zaf.1 h).1 a];exact h
theorem TL.keeps {w w':World} {b cap:Nat} {a:Option Nat} {c:List Nat} {ns:List (List Ky)} {n:Int} (h:TL w b a c cap ns n) (e:Keeps I w w') (d:∀x,Ft b a c x->¬I x):TL w' b a c cap ns n:=
 h.loc λ x hx=>e.block x (h.lt x hx) (d x hx)
theorem axa {w:World} {b cap:Nat} {J:Option Nat} {H:List Nat} {ns:List (List Ky)} {n:Int} (h:TL w b J H cap ns n) (k:Ky) (r s:Nat) (l:List Ky) (N:Nod ns k r) (D:ns[r-1]?=some l) (R:Plc l k s) (S:l[s]?=some k):Calls P0 26 #[.pointer (some ⟨b,0,none⟩),k.val] w λ e w'=>e=.returned (.bool false) /\
 TL w' b J H cap ns n/\∀I,Keeps I w w':=by
 obtain ⟨g,rfl⟩:=h.some_ D;have O:r-1<ns.length:=(zaa.1 D).1;generalize P:r-1=i at *;obtain ⟨c0,Y,f0,f1,Q⟩:=h.root;have T:((ns.length:Int) == 0)=false:=by rw [beq_eq_false_iff_ne]; omega
 have E:∀x,Keeps (λ _=>False) w (w.alloc x):=λ x=>m9;have i0:(0:Int)<=(i:Int):=by omega
 have i1:(i:Int)<(ns.length:Int):=by omega
 simp only [Ky.val]
 go_enter func26,Go.Proofs.Tryz.ntmps26
 go_wp2_with fail
 have G:=h.keeps (E (.cells #[.int .u64 k.c,.int .i64 k.v,.int .i64 k.d] 55)) (λ _ _ q=>q);have L:KB (w.alloc (.cells #[.int .u64 k.c,.int .i64 k.v,.int .i64 k.d] 55)) w.heap.size k:=jx rfl;refine (aao G k r N).mono ?_;rintro e V ⟨rfl,A⟩;rw [P];have F:=G.keeps (A λ _=>False) (λ _ _ q=>q);have K:=L.keeps (A λ _=>False) (λ q=>q);obtain ⟨U,d1,f2,f3,_⟩:=F.root;obtain ⟨g',c,M,C,d2,X⟩:=F.node D;obtain ⟨k0,k1,W⟩:=K.cells
 go_wp2_with fail
 refine (aaw C k s R).mono ?_;rintro e Z ⟨rfl,B⟩;rw [decide_eq_true S]
 go_wp2_with fail
 go_ret
 refine ⟨rfl,F.keeps (B λ _=>False) (λ _ _ q=>q),λ I=>(m9.trans (A I)).trans (B I)⟩

open Go Go.RowKit
theorem pg (a b:List Ky):flat (a++b)=flat a++flat b:=by simp [flat]
theorem ap9 (k:Ky) (b:List Ky):flat (k::b)=kc k++flat b:=by simp [flat]
variable {α:Type}
theorem amy (L:List α) (i:Nat) (a b c:α) (h:i+3<=L.length):((L.set i a).set (i+1) b).set (i+2) c=b7 L i [a,b,c]:=by
 apply zai;intro j;rw [u4 (by simpa using h)];simp only [List.getElem?_set,List.length_set,List.length_cons,List.length_nil];by_cases f:j=i
 ·subst f; simp; omega
 by_cases e:j=i+1
 ·subst e; simp; omega
 by_cases d:j=i+2
 ·subst d; simp; omega
 rw [if_neg (by omega),if_neg (by omega),if_neg (by omega),if_neg (by omega)]
theorem zj {cs:List Value} {s:Nat} (m:s<=l.length) (o:(flat l++kc k) <+: cs) :
 flat (l.take s++k::l.drop s) <+: b7 (b7 cs ((s+1)*3) ((cs.drop (s*3)).take ((l.length-s)*3))) (s*3) (kc k):=by
 obtain ⟨t,rfl⟩:=o;obtain ⟨A,a⟩:∃A,A=flat (l.take s):=⟨_,rfl⟩
 obtain ⟨D,b⟩:∃D,D=flat (l.drop s):=⟨_,rfl⟩
 have f:flat l=A++D:=by rw [a,b,<- pg,zao]
 have n:A.length=s*3:=by rw [a,p5,List.length_take,Nat.min_eq_left m]
 have p:D.length=(l.length-s)*3:=by rw [b,p5,List.length_drop]
 have c:(kc k).length=3:=rfl;rw [pg,ap9,<- a,<- b,f,<- n,<- p,show (s+1)*3=A.length+3 by omega];refine ⟨t,?_⟩;obtain ⟨E,d⟩:∃E,E=(D++kc k++t).take 3:=⟨_,rfl⟩
 have g:E.length=3:=by rw [d]; simp; omega
 have q:(A++D++kc k++t).take (A.length+3)=A++E:=by
  rw [d,zad A D,zad A,List.take_length_add_append]
 have h:((A++D++kc k++t).drop A.length).take D.length=D:=by
  rw [zad A D,zad A,List.drop_left,zad D,List.take_left]
 have i:(A++D++kc k++t).drop (A.length+3+D.length)=t:=by
  have:A.length+3+D.length=(A++D++kc k).length:=by simp [c]; omega
  rw [this,List.drop_left]
 have j:b7 (A++D++kc k++t) (A.length+3) D=A++(E++(D++t)):=by
  unfold b7;rw [q,i];simp
 rw [h,j];unfold b7
 have e:(A++(E++(D++t))).drop (A.length+3)=D++t:=by
  have:A.length+3=(A++E).length:=by simp [g]
  rw [this,<- zad,List.drop_left]
 rw [List.take_left,c,e];simp
variable {cs2:Array Value} {X:List Value}
theorem axc (h:∀j,j<X.length->cs2[j]?=X[j]?) (b:X.length<=cs2.size):X <+: cs2.toList:=by
 rw [List.prefix_iff_eq_take];apply zai;intro j;rw [zab];by_cases a:j<X.length
 ·rw [if_pos a,<- h j a];simp
 rw [if_neg a];simp;omega
theorem n6 {w w':World} {x:Nat} (h:w'.heap[x]?=w.heap[x]?) (o:Nat):w'.cell? ⟨x,o,none⟩=w.cell? ⟨x,o,none⟩:=by simp only [World.cell?,h]
theorem z7 {w w':World} {x:Nat} (h:w'.heap[x]?=w.heap[x]?) (o:Nat):w'.frozen? ⟨x,o,none⟩=w.frozen? ⟨x,o,none⟩:=by simp only [World.frozen?,h]
variable {cs:Array Value} {e:TypeId} {fr:Nat×Nat}
theorem oc {w:World} {g o:Nat} (h:w.heap[g]?=some (.cells cs e fr)) (a:o<cs.size):∃v,w.cell? ⟨g,o,none⟩=some v:=⟨cs[o],by simp [World.cell?,h,a]⟩
theorem fo {w:World} {g o:Nat} (h:w.heap[g]?=some (.cells cs e (0,0))):w.frozen? ⟨g,o,none⟩=false:=by simp [World.frozen?,h]
theorem yz {w:World}:(w.alloc x).heap.size=w.heap.size+1:=by simp
variable {v:Value}
theorem o7 {w:World} {g o:Nat} (h:w.heap[g]?=some (.cells cs e fr)):(w.setCell ⟨g,o,none⟩ v).heap[g]?=some (.cells (cs.setIfInBounds o v) e fr):=by
 rw [setCell_eq_setRow w g o cs e fr v h];exact setRow_heap w g _ _ _ _ h
theorem l6 {w:World} {g o x:Nat} (h:w.heap[g]?=some (.cells cs e fr)) (hx:x≠g):(w.setCell ⟨g,o,none⟩ v).heap[x]?=w.heap[x]?:=by
 rw [setCell_eq_setRow w g o cs e fr v h];exact setRow_other w g x _ hx
theorem l7 {w:World} {g o:Nat} (h:w.heap[g]?=some (.cells cs e fr)) (f:I g):Keeps I w (w.setCell ⟨g,o,none⟩ v):=by
 rw [setCell_eq_setRow w g o cs e fr v h];have a:=zi (cs:=cs.setIfInBounds o v) h;exact ⟨a.os,a.tape,a.output,a.size,λ b c d=>a.block b c λ q=>d (q▸f)⟩
theorem fj {w w':World} (h:Keeps (λ x=>I x\/w.heap.size<=x) w w'):Keeps I w w':=⟨h.os,h.tape,h.output,h.size,λ b a c=>h.block b a λ q=>by rcases q with q | q; exact c q; omega⟩
theorem vy {a:Nat} (c:a<=l.length):(flat l)[a*3+j]?=(flat (l.drop a))[j]?:=by
 have:flat l=flat (l.take a)++flat (l.drop a):=by rw [<- pg,zao]
 have b:(flat (l.take a)).length=a*3:=by rw [p5,List.length_take,Nat.min_eq_left c]
 rw [this,zal (by omega),b];congr 1;omega
theorem ab8 {a:Nat} {u:Value} (h:(flat (l.take a))[j]?=some u):(flat l)[j]?=some u:=by
 have:flat l=flat (l.take a)++flat (l.drop a):=by rw [<- pg,zao]
 rw [this,zac (zaa.1 h).1];exact h
variable {A:List Value}
theorem ajc (c:∀(j:Nat) (u:Value),A[j]?=some u->cs[j]?=some u):cs.toList.take A.length=A:=by
 apply zai;intro j;rw [zab];by_cases a:j<A.length
 ·have b:A[j]?=some A[j]:=by simp [a]
  rw [if_pos a,b,<- c j _ b];simp
 rw [if_neg a,eq_comm,List.getElem?_eq_none_iff];omega
theorem alq {B:List Value} {N:Nat} (c:A.length=N) (a:∀(j:Nat) (u:Value),A[j]?=some u->cs[j]?=some u) (h:∀j,j<N+B.length->cs2[j]?=(cs.toList.take N++B)[j]?) (d:N+B.length<=cs2.size):(A++B) <+: cs2.toList:=by
 subst c;rw [ajc a] at h;exact axc (λ j b=>h j (by simpa using b)) (by simpa using d)
theorem ald {L:List Value} (e:X <+: L) (c:∀u∈X,u.oneCell'=true) {a m:Nat} (h:a+m<=X.length):∀u∈(L.drop a).take m,u.oneCell'=true:=λ u d=>by
 obtain ⟨t,rfl⟩:=e;obtain ⟨j,b⟩:=zan.1 d;rw [zab] at b;split at b
 ·rw [List.getElem?_drop,zac (by omega)] at b;exact c u (zah b)
 cases b
theorem ax6 {L:List α} {x y:α} (h:i<L.length) (j:Nat):(L.take i++x::y::L.drop (i+1))[j]?=if j<i then L[j]? else if j=i then some x else if j=i+1 then some y else L[j-1]?:=by
 have d:(L.take i).length=i:=by simp; omega
 rw [List.getElem?_append,d];by_cases a:j<i
 ·rw [if_pos a,if_pos a,zab,if_pos a]
 rw [if_neg a,if_neg a];by_cases b:j=i
 ·subst b; simp
 rw [if_neg b];by_cases c:j=i+1
 ·subst c; simp
 rw [if_neg c];obtain ⟨m,rfl⟩:∃m,j=i+2+m:=⟨j-(i+2),by omega⟩
 rw [show i+2+m-i=m+2 by omega];simp only [List.getElem?_cons_succ,List.getElem?_drop];congr 1;omega
section
variable {w w':World} {b g cap:Nat} {gs:List Nat} {ns:List (List Ky)} {n n':Int}
theorem TL.put (h:TL w b (some g) gs cap ns n) (D:i<ns.length) {k c2:Nat} {s:List Ky} (S:∃e,w'.heap[b]?=some (.cells #[.slice (some ⟨g,0,none⟩) ns.length cap,.int .i64 n'] e (0,0)))
 (G:∃cs e,w.heap[g]?=some (.cells cs e (0,0))/\w'.heap[g]?=some (.cells (cs.setIfInBounds i (.slice (some ⟨k,0,none⟩) s.length c2)) e (0,0))) (r:mg w' k s c2)
 (J:∀(j x:Nat),j≠i->gs[j]?=some x->w'.heap[x]?=w.heap[x]?) (f:gs[i]?=some k\/(k≠b/\k≠g/\k∉gs)):TL w' b (some g) (gs.set i k) cap (ns.set i s) n':=by
 obtain ⟨F,cs,e,O,N,R⟩:=h.out g rfl;obtain ⟨M,e',v,H⟩:=G;rw [O] at v;cases v;refine ⟨?_,by simpa using h.le,h.mx,by simp,λ V u=>?_,by simp [h.len],?_⟩
 ·obtain ⟨e,T⟩:=S;exact ⟨e,by rw [T]; simp [adr]⟩
 ·cases u;refine ⟨F,_,_,H,by simpa using N,λ j x l o p=>?_⟩;rw [List.getElem?_set] at o p;by_cases a:i=j
  ·subst a;simp [h.len,D] at o p;subst o; subst p;refine ⟨c2,?_,r⟩;have:i<cs.size:=by have:=h.le; omega
   simp [this]
  rw [if_neg a] at o p;obtain ⟨c,Q,K⟩:=R j x l o p;refine ⟨c,?_,K.loc (J j x (Ne.symm a) o)⟩;rw [Array.getElem?_setIfInBounds,if_neg a];exact Q
 have m:=h.nb;simp only [Option.toList_some,List.cons_append,List.nil_append] at m |-;rcases f with f | ⟨I,p2,P⟩
 ·have:gs.set i k=gs:=by
   apply zai;intro j;rw [List.getElem?_set];split
   ·rename_i a; subst a; rw [f]; simp; exact (zaa.1 f).1
   rfl
  rw [this];exact m
 simp only [List.nodup_cons,List.mem_cons,not_or] at m |-;obtain ⟨⟨L,E⟩,U,C⟩:=m;refine ⟨⟨L,λ d=>?_⟩,λ d=>?_,?_⟩
 ·rcases List.mem_or_eq_of_mem_set d with d | d
  ·exact E d
  exact I d.symm
 ·rcases List.mem_or_eq_of_mem_set d with d | d
  ·exact U d
  exact p2 d.symm
 rw [List.Nodup,List.pairwise_iff_getElem] at C |-;intro x y hx hy t;rw [List.length_set] at hx hy;simp only [List.getElem_set];have B:∀z (A:z<gs.length),gs[z]≠k:=λ z A q=>P (q▸List.getElem_mem A);split
 ·rw [if_neg (by omega)];exact λ q=>B y hy q.symm
 split
 ·exact B x hx
 exact C x y hx hy t
end

end Go.Ev

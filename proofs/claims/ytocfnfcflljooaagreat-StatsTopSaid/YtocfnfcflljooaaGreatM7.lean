import Derived.WalkKit
import Derived.Test.YtocfnfcflljooaaGreatM6
open Go.Proofs.Tryz renaming prog → P0
open Go.Proofs.Tryz
open List renaming getElem?_eq_some_iff → zaa, getElem?_take → zab, getElem?_append_left → zac, append_assoc → zad, mem_of_getElem? → zah, ext_getElem? → zai, getElem?_toArray → zak, getElem?_append_right → zal, mem_iff_getElem? → zan, take_append_drop → zao
open Nat renaming zero_add → zae
open Array renaming getElem?_eq_some_iff → zaf
open Option renaming getD_some → zag, isSome_none → zaj, map_eq_some_iff → zam
namespace Go.Ev
set_option maxHeartbeats 8000000
set_option maxRecDepth 100000
open Go
set_option linter.unusedSectionVars false
set_option linter.unnecessarySimpa false
set_option linter.unusedSimpArgs false
set_option linter.unusedVariables false
section
variable {P:Program} {w:World} {o:Oper} {a:Act} {K:Act->World->Prop} {Q:Exit->Act->World->Prop}
theorem jf {w:World} {g off size m m' c:Nat} {cs:Array Value} {e:TypeId} {fr:Nat×Nat} {news:List Value} (d:w.heap[g]?=some (.cells cs e fr)) (f:news.length=m*size)
 (b:∀(j:Nat) (u:Value),news[j]?=some u->cs[off+j]?=some u):∀W:World,W.heap=w.heap->(Builtin.firstCells size m (.slice (some ⟨g,off,none⟩) m' c)).run P W=.ok news.toArray W:=λ W a=>by
 refine run_firstCells_some W size m ⟨g,off,none⟩ m' c news f λ j u h=>?_;rw [ba];simp only [World.cell?,a,d,zaj,Bool.false_eq_true,if_false];exact b j u h
theorem aea {w:World} {size m' c:Nat} {A:Option Addr}:∀W:World,W.heap=w.heap->(Builtin.firstCells size 0 (.slice A m' c)).run P W=.ok #[] W:=λ W a=>by
 cases A<;>simp [Builtin.firstCells,loadCells,loadCellsFrom]
theorem zn {g:Nat} {a cs:Array Value} {t:TypeId} {fr:Nat×Nat} (c:w.heap[g]?=some (.cells a t fr)):Keeps (· = g) w (w.setRow g cs):=
 have h:=gt (cs:=cs) c
 ⟨rfl,rfl,rfl,by simp [World.setRow],λ k d b=>setRow_other w g k cs b⟩
theorem ac9 {w':World} {x:Obj} {I:Nat->Prop} (h:OneMore w w' x):Keeps I w w':=⟨h.os,h.tape,h.output,by rw [h.heap]; simp,λ k a _=>by rw [h.heap]; simp [Array.getElem?_push,Nat.ne_of_lt a]⟩
theorem aai (x v:Operand) (t u:TypeId) (X:o.op=.call { callee:=.builtin .append,args:=#[x,v],argTypes:=#[t,u] }) {e d:TypeId} {inf:TypeInfo} {z:Value} {size l:Nat} (ht:P.underlying t=some (.slice e)) (B:P.underlying u=some (.slice d))
 (S:P.info? e=some inf) (Y:inf.zero=some z) (O:z.cells.size=inf.size) (T:inf.size=size) (N:inf.bytes=l) (g len cap:Nat) (hx:a.eval x=.slice (some ⟨g,0,none⟩) len cap) (hc:0<cap) {cs:Array Value} {e':TypeId} (I:w.heap[g]?=some (.cells cs e' (0,0)))
 (n:cap*size<=cs.size) (E:len<=cap) {A2:Option Addr} {m c2:Nat} (R:a.eval v=.slice A2 m c2) (news:List Value) (G:∀W:World,W.heap=w.heap->(Builtin.firstCells size m (.slice A2 m c2)).run P W=.ok news.toArray W)
 (J:news.length=m*size) (U:∀u∈news,u.oneCell'=true) (C:len+m<=maxLen) (F:cap<=maxLen) (Z:(len+m)*l<=140737488355328)
 (h:∀(L b:Nat) (y:Array Value) (V:TypeId) (w':World),(L=g\/L=w.heap.size)->0<b->len+m<=b->b<=maxLen->w'.heap[L]?=some (.cells y V (0,0))->b*size<=y.size ->
  (∀j,j<(len+m)*size->y[j]?=(cs.toList.take (len*size)++news)[j]?)->Keeps (· = g) w w'->K (a.put o.dst (.slice (some ⟨L,0,none⟩) (len+m) b)) w'):o.wp P a w K Q:=by
 subst T; subst N;have M:len*inf.size<=cs.size:=Nat.le_trans (Nat.mul_le_mul_right _ E) n;have f:(cs.toList.take (len*inf.size)).length=len*inf.size:=by simp only [List.length_take,Array.length_toList]; exact Nat.min_eq_left M
 have D:=jf (P:=P) (off:=0) (size:=inf.size) (m:=len) (m':=len) (c:=cap) (news:=cs.toList.take (len*inf.size)) I f (λ j u B=>by
  rw [zab] at B;split at B
  ·simpa using B
  cases B)
 have i:∀r,(Builtin.append_ #[t,u] o.type #[.slice (some ⟨g,0,none⟩) len cap,.slice A2 m c2]).run P w=r->(execOp a.eval o).run P w=r.andThen λ q w'=>.ok (.value q) w':=by
  rintro r rfl;simp [execOp,X,resolve,invoke,builtin,hx,R]
 unfold Oper.wp
 rcases adz (P:=P) (w:=w) (ty:=o.type) (A:=some ⟨g,0,none⟩) (A2:=A2) (len:=len) (cap:=cap) (m:=m) (c2:=c2) (g:=g) (cur:=cs) (e':=e') (olds:=cs.toList.take (len*inf.size)) (news:=news) ht B S Y O E (λ _=>⟨rfl,I,n⟩) (λ _ k _ h=>absurd h.2 (Nat.not_lt_zero k))
  D f G J U C Z with ⟨hroom,hr⟩ | ⟨hgrow,K',w',rest,hr,hK1,hK2,hom,hlen⟩
 ·rw [i _ hr,if_pos hc]
  have p:len*inf.size+news.length<=cs.toList.length:=by
   rw [J,<- Nat.add_mul]; simp; exact Nat.le_trans (Nat.mul_le_mul_right _ hroom) n
  refine h g cap _ e' _ (.inl rfl) hc hroom F (setRow_heap w g cs _ e' _ I) ?_ (λ j H=>?_) (zn I)
  ·simp only [List.size_toArray,j9 p,Array.length_toList]; exact n
  rw [zak,u9 p,J];rw [Nat.add_mul] at H;by_cases s:len*inf.size<=j
  ·rw [if_pos ⟨s,H⟩,zal (by rw [f]; exact s),f]
  rw [if_neg (λ q=>s q.1),zac (by rw [f]; omega),zab,if_pos (by omega)]
 rw [i _ hr];refine h w.heap.size K' _ e w' (.inr rfl) (by omega) hK1 hK2 hom.new ?_ (λ j H=>?_) (ac9 hom)
 ·simp only [List.size_toArray,hlen]; exact Nat.le_refl _
 rw [zak,zac];simp only [List.length_append,f,J,<- Nat.add_mul];exact H
theorem atm (x v:Operand) (t u:TypeId) (G:o.op=.call { callee:=.builtin .append,args:=#[x,v],argTypes:=#[t,u] }) {e d:TypeId} {inf:TypeInfo} {z:Value} {size c:Nat} (L:P.underlying t=some (.slice e)) (E:P.underlying u=some (.slice d))
 (C:P.info? e=some inf) (H:inf.zero=some z) (n:z.cells.size=inf.size) (D:inf.size=size) (l:inf.bytes=c) {A:Option Addr} (hx:a.eval x=.slice A 0 0)
 {A2:Option Addr} {m c2:Nat} (y:a.eval v=.slice A2 m c2) (N:0<m) (news:List Value) (k:∀W:World,W.heap=w.heap->(Builtin.firstCells size m (.slice A2 m c2)).run P W=.ok news.toArray W)
 (p:news.length=m*size) (F:∀u∈news,u.oneCell'=true) (s:m<=maxLen) (J:m*c<=140737488355328)
 (h:∀(b:Nat) (i:Array Value) (w':World),m<=b->b<=maxLen->w'.heap[w.heap.size]?=some (.cells i e (0,0))->b*size<=i.size ->
  (∀j,j<m*size->i[j]?=news[j]?)->(∀I,Keeps I w w')->K (a.put o.dst (.slice (some ⟨w.heap.size,0,none⟩) m b)) w'):o.wp P a w K Q:=by
 subst D; subst l
 have f:∀r,(Builtin.append_ #[t,u] o.type #[.slice A 0 0,.slice A2 m c2]).run P w=r->(execOp a.eval o).run P w=r.andThen λ q w'=>.ok (.value q) w':=by
  rintro r rfl;simp [execOp,G,resolve,invoke,builtin,hx,y]
 unfold Oper.wp
 rcases adz (P:=P) (w:=w) (ty:=o.type) (fr:=(0,0)) (A:=A) (A2:=A2) (len:=0) (cap:=0) (m:=m) (c2:=c2) (g:=0) (cur:=#[]) (e':=0) (olds:=[]) (news:=news) L E C H n (Nat.le_refl _) (by simp) (λ h=>absurd h (Nat.lt_irrefl 0))
  (λ W M=>aea (w:=W) W rfl) (by simp) k p F (by omega) (by rw [zae]; exact J) with ⟨hroom,hr⟩ | ⟨hgrow,K',w',rest,hr,hK1,hK2,hom,hlen⟩
 ·omega
 rw [f _ hr];simp only [zae] at hK1;refine (show K (a.put o.dst (.slice (some ⟨w.heap.size,0,none⟩) (0+m) K')) w' from ?_);rw [zae];refine h K' _ w' hK1 hK2 hom.new ?_ (λ j B=>?_) λ I=>ac9 hom
 ·simp only [List.size_toArray,hlen]; exact Nat.le_refl _
 rw [zak,List.nil_append,zac];rw [p];exact B
theorem aiy (x v:Operand) (t u:TypeId) (O:o.op=.call { callee:=.builtin .copy,args:=#[x,v],argTypes:=#[t,u] }) {e:TypeId} {inf:TypeInfo} {size:Nat} (F:P.underlying t=some (.slice e))
 (C:P.info? e=some inf) (I:inf.size=size) (g d s m:Nat) {cs:Array Value} {e':TypeId} (k:w.heap[g]?=some (.cells cs e' (0,0))) {D S:Option Addr} {z A f y:Nat} (hx:a.eval x=.slice D z A) (G:a.eval v=.slice S f y)
 (E:m=Nat.min f z) (i:0<m->D=some ⟨g,d,none⟩/\S=some ⟨g,s,none⟩) (R:d+m*size<=cs.size) (M:s+m*size<=cs.size) (N:∀u∈(cs.toList.drop s).take (m*size),u.oneCell'=true)
 (h:∀w',w'.heap[g]?=some (.cells (b7 cs.toList d ((cs.toList.drop s).take (m*size))).toArray e' (0,0))->Keeps (· = g) w w'->K (a.put o.dst (goInt m)) w'):o.wp P a w K Q:=by
 subst I;unfold Oper.wp
 have b:∀r,(Builtin.copy_ #[t,u] o.type #[.slice D z A,.slice S f y]).run P w=r->(execOp a.eval o).run P w=r.andThen λ q w'=>.ok (.value q) w':=by
  rintro r rfl;simp [execOp,O,resolve,invoke,builtin,hx,G]
 by_cases H:m=0
 ·subst H
  have B:(Builtin.copy_ #[t,u] o.type #[.slice D z A,.slice S f y]).run P w=.ok (goInt 0) w:=by
   have L:∀(x:Addr),(loadCells x 0).run P w=.ok #[] w:=λ x=>by simpa using run_loadCells_list (P:=P) w x [] (by simp)
   cases D<;>cases S<;>simp [Builtin.copy_,run_underlying F,Builtin.lenOf,Builtin.firstCells,sizeOf,typeInfo,C,<- E,storeCells,L]
  rw [b _ B];refine h w ?_ (Keeps.refl _ _);simp [b7,k]
 obtain ⟨rfl,rfl⟩:=i (by omega);have l:((cs.toList.drop s).take (m*inf.size)).length=m*inf.size:=by simp; omega
 have J:=jf (P:=P) (w:=w) (off:=s) (size:=inf.size) (m:=m) (m':=f) (c:=y) (news:=(cs.toList.drop s).take (m*inf.size)) k l (λ j u n=>by
  rw [zab] at n;split at n
  ·rw [List.getElem?_drop] at n; simpa using n
  cases n) w rfl
 have p:=uf (P:=P) g d e' (0,0) ((cs.toList.drop s).take (m*inf.size)) 0 cs w k (by simp) (by rw [l]; omega) N
 have B:(Builtin.copy_ #[t,u] o.type #[.slice (some ⟨g,d,none⟩) z A,.slice (some ⟨g,s,none⟩) f y]).run P w=.ok (goInt m) (w.setRow g (b7 cs.toList d ((cs.toList.drop s).take (m*inf.size))).toArray):=by
  simp only [Nat.add_zero] at p;simp [Builtin.copy_,run_underlying F,Builtin.lenOf,sizeOf,typeInfo,C,<- E,J,p,b7]
 rw [b _ B];exact h _ (setRow_heap w g cs _ e' _ k) (zn k)
end

def kc (k:Ky):List Value:=[.int .u64 k.c,.int .i64 k.v,.int .i64 k.d]
def flat (l:List Ky):List Value:=l.flatMap kc
theorem q7 (l:List Ky):(flat l).length=l.length*3:=by
 induction l with
 | nil=>rfl
 | cons k l ih=>simp only [flat,List.flatMap_cons,List.length_append,List.length_cons] at ih |-; rw [ih]; simp [kc]; omega
variable {l:List Ky} {i j:Nat} {k:Ky}
theorem asc (h:l[i]?=some k) (a:j<3):(flat l)[i*3+j]?=(kc k)[j]?:=by
 have:∀(l:List Ky) (i:Nat),l[i]?=some k->(flat l)[i*3+j]?=(kc k)[j]?:=λ l=>by
  induction l with
  | nil=>intro i h; simp at h
  | cons q l ih=>
    intro i h;cases i with
    | zero=>
      simp at h;subst h;simp only [flat,List.flatMap_cons];rw [zac (by simp [kc]; omega)];simp
    | succ i=>
      simp at h;simp only [flat,List.flatMap_cons];rw [zal (by simp [kc]; omega),<- ih i h];congr 1;simp [kc];omega
 exact this l i h
theorem yu:∀u∈flat l,u.oneCell'=true:=λ u a=>by
 simp only [flat,List.mem_flatMap,kc] at a;obtain ⟨k,_,b⟩:=a;simp at b;rcases b with rfl | rfl | rfl<;>rfl
def ml (w:World) (g:Nat) (l:List Ky) (c:Nat):Prop:=∃(cs:Array Value) (e:TypeId),w.heap[g]?=some (.cells cs e (0,0))/\c*3<=cs.size/\(∀(j:Nat) (u:Value),(flat l)[j]?=some u->cs[j]?=some u)/\l.length<=c/\0<c/\c<=maxLen
variable {c:Nat}
theorem ml.loc {w w':World} {g:Nat} (h:ml w g l c) (a:w'.heap[g]?=w.heap[g]?):ml w' g l c:=by
 obtain ⟨cs,e,d,b⟩:=h;exact ⟨cs,e,by rw [a]; exact d,b⟩
theorem ml.lt {w:World} {g:Nat} (h:ml w g l c):g<w.heap.size:=by
 obtain ⟨cs,e,a,b⟩:=h;exact (zaf.1 a).1
variable {R:Nat->Prop}
theorem ml.rel {w:World} {g:Nat} (h:ml w g l c) (r:R g):RelV w R (z9 l) (.slice (some ⟨g,0,none⟩) l.length c):=by
 obtain ⟨cs,e,s,A,o,t,B,z⟩:=h;have n:=RelV.sl (w:=w) (R:=R) 3 (l.map Ky.rv) (some ⟨g,0,none⟩) c (by simpa using t) z g 0 (λ i j=>(cs[i*3+j]?).getD undef) (λ _=>⟨rfl,r⟩)
 have d:∀(i:Nat) (x:RV) (j:Nat) (y:RV),(l.map Ky.rv)[i]?=some x->x.cells[j]?=some y->∃u,y=.v u/\cs[i*3+j]?=some u/\u.oneCell'=true:=λ i x j y b a=>by
  rw [List.getElem?_map,zam] at b;obtain ⟨k,q,rfl⟩:=b;have m:j<3:=by have:=(zaa.1 a).1; simpa [Ky.rv,RV.cells] using this
  have f:=asc q m
  match j,m,a,f with
  | 0,_,a,f=>simp [Ky.rv,RV.cells] at a; subst a; exact ⟨_,rfl,o _ _ f,rfl⟩
  | 1,_,a,f=>simp [Ky.rv,RV.cells] at a; subst a; exact ⟨_,rfl,o _ _ f,rfl⟩
  | 2,_,a,f=>simp [Ky.rv,RV.cells] at a; subst a; exact ⟨_,rfl,o _ _ f,rfl⟩
 have:=n (λ i x b=>by
  rw [List.getElem?_map,zam] at b;obtain ⟨k,q,rfl⟩:=b
  rfl) (λ i x j y b a=>by
  obtain ⟨u,rfl,h,p⟩:=d i x j y b a;simp only [World.cell?,s,zaj,Bool.false_eq_true,if_false,zae,h,zag];exact ⟨trivial,p⟩) (λ i x j y b a=>by
  obtain ⟨u,rfl,h,p⟩:=d i x j y b a;simp only [h,zag]
  exact .v u)
 simpa [z9] using this
def adr (a:Option Nat):Option Addr:=a.map λ g=>⟨g,0,none⟩
structure TL (w:World) (b:Nat) (og:Option Nat) (gs:List Nat) (cap:Nat) (ns:List (List Ky)) (n:Int):Prop where
 hd:∃e,w.heap[b]?=some (.cells #[.slice (adr og) ns.length cap,.int .i64 n] e (0,0))
 le:ns.length<=cap
 mx:cap<=maxLen
 no:og=none->cap=0
 out:∀g,og=some g->0<cap/\∃cs e,w.heap[g]?=some (.cells cs e (0,0))/\cap<=cs.size/\∀(i g':Nat) (l:List Ky),gs[i]?=some g'->ns[i]?=some l->∃c,cs[i]?=some (.slice (some ⟨g',0,none⟩) l.length c)/\ml w g' l c
 len:gs.length=ns.length
 nb:(b::(og.toList++gs)).Nodup
def Ft (b:Nat) (a:Option Nat) (c:List Nat) (x:Nat):Prop:=x=b\/a=some x\/x∈c
section
variable {w w':World} {b cap:Nat} {og:Option Nat} {gs:List Nat} {ns:List (List Ky)} {n:Int}
theorem TL.loc (h:TL w b og gs cap ns n) (a:∀x,Ft b og gs x->w'.heap[x]?=w.heap[x]?):TL w' b og gs cap ns n:=by
 refine ⟨?_,h.le,h.mx,h.no,λ g f=>?_,h.len,h.nb⟩
 ·obtain ⟨e,p⟩:=h.hd;exact ⟨e,by rw [a b (.inl rfl)]; exact p⟩
 obtain ⟨k,cs,e,q,m,r⟩:=h.out g f;refine ⟨k,cs,e,by rw [a g (.inr (.inl f))]; exact q,m,λ i j l d o=>?_⟩;obtain ⟨c,s,t⟩:=r i j l d o;exact ⟨c,s,t.loc (a j (.inr (.inr (zah d))))⟩
theorem TL.lt (h:TL w b og gs cap ns n):∀x,Ft b og gs x->x<w.heap.size:=λ x hx=>by
 rcases hx with rfl | hx | hx
 ·obtain ⟨e,j⟩:=h.hd;exact (zaf.1 j).1
 ·obtain ⟨l,cs,e,f,_⟩:=h.out x hx;exact (zaf.1 f).1
 obtain ⟨i,d⟩:=zan.1 hx;have a:=(zaa.1 d).1;rw [h.len] at a;rcases og with _ | g
 ·have:=h.no rfl; have:=h.le; omega
 obtain ⟨l,cs,e,f,o,k⟩:=h.out g rfl;obtain ⟨c,_,m⟩:=k i x ns[i] d (by simp [a]);exact m.lt
theorem TL.rel (h:TL w b og gs cap ns n) (u:∀x,Ft b og gs x->R x):RelV w R (.sl 1 (ns.map z9)) (.slice (adr og) ns.length cap):=by
 rcases og with _ | g
 ·have t:=h.no rfl;have z:=h.le;have v:ns=[]:=List.eq_nil_of_length_eq_zero (by omega);subst v;subst t;exact .sl 1 [] none 0 (by simp) (by simp) 0 0 (λ _ _=>undef) (by simp) (by simp) (by simp) (by simp)
 obtain ⟨t,cs,e,z,v,B⟩:=h.out g rfl
 have a:∀(i:Nat) (x:RV),(ns.map z9)[i]?=some x->∃l f c,ns[i]?=some l/\x=z9 l/\gs[i]?=some f/\cs[i]?=some (.slice (some ⟨f,0,none⟩) l.length c)/\ml w f l c:=λ i x d=>by
  rw [List.getElem?_map,zam] at d;obtain ⟨l,r,rfl⟩:=d;have m:=(zaa.1 r).1;have k:gs[i]?=some (gs[i]'(by rw [h.len]; exact m)):=by simp [h.len,m]
  obtain ⟨c,p,s⟩:=B i _ l k r;exact ⟨l,_,c,r,rfl,k,p,s⟩
 have q:=RelV.sl (w:=w) (R:=R) 1 (ns.map z9) (some ⟨g,0,none⟩) cap (by simpa using h.le) h.mx g 0 (λ i _=>(cs[i]?).getD undef) (λ _=>⟨rfl,u g (.inr (.inl rfl))⟩) (λ i x d=>by
  obtain ⟨l,f,c,_,rfl,_⟩:=a i x d
  rfl) (λ i x j y d o=>by
  obtain ⟨l,f,c,_,rfl,_,p,_⟩:=a i x d;have:j=0:=by have:=(zaa.1 o).1; simp [z9,RV.cells] at this; exact this
  subst this;simp only [World.cell?,z,zaj,Bool.false_eq_true,if_false,zae,Nat.mul_one,Nat.add_zero,p,zag];exact ⟨trivial,rfl⟩) (λ i x j y d o=>by
  obtain ⟨l,f,c,_,rfl,A,p,s⟩:=a i x d;have:j=0:=by have:=(zaa.1 o).1; simp [z9,RV.cells] at this; exact this
  subst this;simp [z9,RV.cells] at o;subst o;simp only [p,zag]
  exact s.rel (u f (.inr (.inr (zah A)))))
 simpa [adr] using q
theorem TL.rp (h:TL w b og gs cap ns n) (d:∀x,Ft b og gs x->R x) :
 ∃g:Nat->Value,∀(j:Nat) (y:RV),(u6 ns n)[j]?=some y->w.cell? ⟨b,0+j,none⟩=some (g j)/\(g j).oneCell'=true/\RelV w R y (g j):=by
 obtain ⟨e,c⟩:=h.hd;refine ⟨λ j=>(#[Value.slice (adr og) ns.length cap,.int .i64 n][j]?).getD undef,λ j y a=>?_⟩
 match j,a with
 | 0,a=>
   simp [u6] at a;subst a;refine ⟨by simp [World.cell?,c],rfl,h.rel d⟩
 | 1,a=>
   simp [u6] at a;subst a;exact ⟨by simp [World.cell?,c],rfl,.v _⟩
 | j+2,a=>simp [u6] at a
def fpt (a:Option Nat) (b:List Nat):Nat->Option Nat
 | 0=>a
 | j+1=>b[j]?
theorem yc {x:Nat}:(∃j,fpt og gs j=some x)↔(og=some x\/x∈gs):=by
 constructor
 ·rintro ⟨j,a⟩;cases j with
  | zero=>exact .inl a
  | succ j=>exact .inr (zah a)
 rintro (h | h)
 ·exact ⟨0,h⟩
 obtain ⟨i,b⟩:=zan.1 h;exact ⟨i+1,b⟩
end
def azg (ns:List (List Ky)) (n:Int):AbsT where
 size:=2
 Q w b i:=∃d a cap,TL w b d a cap ns n/\i=fpt d a
 loc:=by
  rintro w w' b i ⟨d,a,cap,h,rfl⟩ k g;refine ⟨d,a,cap,h.loc λ x hx=>?_,rfl⟩;rcases hx with rfl | hx
  ·exact k
  obtain ⟨j,f⟩:=yc.2 hx;exact g j x f
 root:=by
  rintro w b i ⟨d,a,cap,h,rfl⟩;obtain ⟨e,l⟩:=h.hd;exact ⟨_,e,l,rfl⟩
 lt:=by
  rintro w b i ⟨d,a,cap,h,rfl⟩ j c g;exact h.lt c (.inr (yc.1 ⟨j,g⟩))
 view:=u6 ns n
 rp:=by
  rintro w b i R ⟨d,a,cap,h,rfl⟩ k g;refine h.rp λ x hx=>?_;rcases hx with rfl | hx
  ·exact k
  obtain ⟨j,f⟩:=yc.2 hx;exact g j x f

theorem glT (w:World):Gl P0 w λ _=>False:=gl_none (by kernel_rfl) (λ _=>by kernel_rfl) (λ _=>by kernel_rfl) w
def Ky.val (k:Ky):Value:=.agg #[.int .u64 k.c,.int .i64 k.v,.int .i64 k.d]
theorem Ky.rel {w:World} (k:Ky):RelV w R k.rv k.val:=by
 refine .agg _ _ rfl λ i x c hx hc=>?_
 match i,hx,hc with
 | 0,hx,hc=>simp [Ky.val] at hx hc; subst hx; subst hc; exact .v _
 | 1,hx,hc=>simp [Ky.val] at hx hc; subst hx; subst hc; exact .v _
 | 2,hx,hc=>simp [Ky.val] at hx hc; subst hx; subst hc; exact .v _
 | i+3,hx,hc=>simp at hx
theorem ass {w:World} {x:Nat} (h:x<w.heap.size):akw w x:=⟨h,λ ⟨id,v,o,a,_⟩=>by simp [ob0,obs] at a,trivial⟩
variable {I:Nat->Prop}
theorem ael {w w':World} (h:Go.RowKit.Below w.heap.size w w'):Keeps I w w':=⟨h.os,h.tape,h.output,h.size,λ b a _=>h.block b a⟩
section
variable {w:World} {b cap:Nat} {og:Option Nat} {gs:List Nat} {ns:List (List Ky)} {n:Int}
theorem aat (h:TL w b og gs cap ns n) (k:Ky) (r:Nat) (i:Nod ns k r):Calls P0 46 #[.pointer (some ⟨b,0,none⟩),k.val] w λ e w'=>e=.returned (.int .i64 ((r-1:Nat):Int))/\∀I,Keeps I w w':=by
 obtain ⟨g,a⟩:=h.rp (R:=akw w) λ x hx=>ass (h.lt x hx);refine (sq (apw ns n k r i) w (glT w) rfl (rel0_cons (.rp _ b 0 g (ass (h.lt b (.inl rfl))) a) (rel0_cons (.r k.rel) rel0_nil))).mono ?_;rintro e w' ⟨c,rfl,f,ρ',d⟩;cases d with
 | r hv=>cases hv; exact ⟨rfl,λ I=>ael f⟩
theorem aa1 {g:Nat} (h:ml w g l c) (k:Ky) (r:Nat) (o:Plc l k r):Calls P0 47 #[.slice (some ⟨g,0,none⟩) l.length c,k.val] w λ e w'=>
 e=.returned (.tuple #[.int .i64 r,.bool (decide (l[r]?=some k))])/\∀I,Keeps I w w':=by
 have a:l.length<=maxLen:=by obtain ⟨_,_,_,_,_,t,_,u⟩:=h; omega
 refine (sq (ayg l k r o a) w (glT w) rfl (rel0_cons (.r (h.rel (ass h.lt))) (rel0_cons (.r k.rel) rel0_nil))).mono ?_;rintro e w' ⟨c,rfl,q,ρ',n⟩;cases n with
 | tup _ cs a h=>
   have j:=h 0 _ (cs[0]'(by rw [a]; simp)) rfl (by simp [a]);have p:=h 1 _ (cs[1]'(by rw [a]; simp)) rfl (by simp [a]);refine ⟨?_,λ I=>ael q⟩;congr 2;have d:∀{v c:Value},RelA w' (d7 (λ _=>True) (ob0 []) ρ' w') (ob0 []) ρ' (.r (.v v)) c->c=v:=λ h=>by cases h with | r h=>cases h; rfl
   have m:=d j;have s:=d p;apply Array.ext (by simp [a]);intro i b f
   match i,b,f with
   | 0,b,f=>simpa using m
   | 1,b,f=>simpa using s
   | i+2,b,f=>rw [a] at b; exact absurd (show i+2<2 from b) (by omega)
end
theorem afw {f:FuncId} {T D:AbsT} {res:Value} (Z:D.size=T.size) (h:∀(w:World) (b:Nat) (O:Nat->Option Nat),T.Q w b O->Calls P0 f #[.pointer (some ⟨b,0,none⟩),k.val] w λ e w'=>
 e=.returned res/\∃n,D.Q w' b n/\Keeps (λ x=>x=b\/∃j,O j=some x) w w'/\(∀j c,n j=some c->(∃P,O P=some c)\/w.heap.size<=c)) :
 b5 P0 f [.ptr 1000000 0 0,k.av] [.abs T] (.r (.v res)) [.abs D]:=by
 intro w a ρ B X hB W G q;have t:ob0 [Ob.abs T] 1000000=some (0,.abs T):=by simp [ob0,obs,upd]
 obtain ⟨b,u,U⟩:=W.obj 1000000 0 (.abs T) t
 have g:∀(H:AbsT) id x,ob0 [Ob.abs H] id=some x->id=1000000/\x=(0,.abs H):=λ H id x hx=>by
  obtain ⟨m,d,h3⟩:=qe hx
  have:id-1000000=0:=by
   have:=(zaa.1 d).1;simpa using this
  have g:id=1000000:=by omega
  subst g;have L:ob0 [Ob.abs H] 1000000=some (0,.abs H):=by simp [ob0,obs,upd]
  rw [L] at hx;exact ⟨rfl,(Option.some.inj hx).symm⟩
 have l:∀x,el (ob0 [.abs T]) ρ x↔(x=b\/∃j,ρ (.s 1000000 j)=some x):=λ x=>by
  constructor
  ·rintro ⟨id,y,m,d⟩;obtain ⟨rfl,rfl⟩:=g T id _ m;rcases d with d | ⟨_,j,d⟩
   ·rw [u] at d; cases d; exact .inl rfl
   exact .inr ⟨j,d⟩
  rintro (rfl | ⟨j,d⟩)
  ·exact ⟨1000000,(0,.abs T),t,.inl u⟩
  exact ⟨1000000,(0,.abs T),t,.inr ⟨rfl,j,d⟩⟩
 have hc:a=#[.pointer (some ⟨b,0,none⟩),k.val]:=by
  simp at G;apply Array.ext (by simpa using G);intro i m d
  match i,m,d with
  | 0,m,d=>
    have p:=q 0 _ a[0] rfl (by simp [m]);generalize a[0]=Y at p;cases p with
    | ptr _ _ _ _ hc1 hat=>
      obtain ⟨b',K,rfl⟩:=hat.live t;rw [u] at K;cases K
      rfl
  | 1,m,d=>
    have p:=q 1 _ a[1] rfl (by simp [m]);generalize a[1]=c1 at p;cases p with
    | r p=>
      cases p with
      | agg xs cs hl p=>
        have C:∀{v c:Value},RelV w (d7 B (ob0 [.abs T]) ρ w) (.v v) c->c=v:=λ h=>by cases h; rfl
        simp only [Ky.val,List.getElem_toArray,List.getElem_cons_succ,List.getElem_cons_zero];congr 1;apply Array.ext (by simpa using hl);intro j z E
        match j,z,E with
        | 0,z,E=>exact C (p 0 _ cs[0] rfl (by simp [z]))
        | 1,z,E=>exact C (p 1 _ cs[1] rfl (by simp [z]))
        | 2,z,E=>exact C (p 2 _ cs[2] rfl (by simp [z]))
        | j+3,z,E=>exact absurd (show j+3<3 from E) (by omega)
  | i+2,m,d=>exact absurd (show i+2<2 from d) (by omega)
 subst hc;refine (h w b _ U).mono ?_;rintro e w' ⟨rfl,n,S,I,R⟩;obtain ⟨ρ',m,d⟩:∃ρ':Pl->Option Nat,ρ' (.o 1000000)=some b/\∀j,ρ' (.s 1000000 j)=n j:=⟨fun | .o i=>if i=1000000 then some b else none | .s i j=>if i=1000000 then n j else none,by simp,by simp⟩
 refine ⟨_,ρ',rfl,⟨λ id v o hx=>?_,λ id M x x' c hx J _ _=>?_,⟨I.os,I.tape,I.output,I.size,λ c hc V=>I.block c hc λ hx=>V ((l c).2 hx)⟩,λ id v o c hx A=>?_,λ id c F=>?_⟩,.r (.v _)⟩
 ·obtain ⟨rfl,hx⟩:=g D id _ hx;cases hx;refine ⟨b,m,?_⟩;rw [show (λ j=>ρ' (.s 1000000 j))=n from funext d];exact S
 ·rw [(g D id _ hx).1,(g D M _ J).1]
 ·obtain ⟨rfl,hx⟩:=g D id _ hx;cases hx;rcases A with A | ⟨_,j,A⟩
  ·rw [m] at A; cases A; exact .inl ((l b).2 (.inl rfl))
  rw [d] at A;rcases R j c A with ⟨P,N⟩ | h
  ·exact .inl ((l c).2 (.inr ⟨P,N⟩))
  exact .inr h
 simp only [gx] at F;split at F
 ·rename_i v o hx;split at F
  ·rename_i ho;obtain ⟨rfl,J⟩:=g T id _ hx;refine ⟨?_,_,by simp [ob0,obs,upd]; rfl,rfl,λ h=>by cases h⟩;rw [m,<- F,u]
  cases F
 cases F

open Go Go.RowKit
variable {x:Obj}
theorem mh {w:World} {k:Nat} (h:k<w.heap.size):(w.alloc x).heap[k]?=w.heap[k]?:=by
 show (w.heap.push x)[k]? = _;simp [Array.getElem?_push,Nat.ne_of_lt h]
theorem ke {w:World} {k:Nat} (h:k=w.heap.size):(w.alloc x).heap[k]?=some x:=by
 subst h;show (w.heap.push x)[w.heap.size]? = _;simp
theorem n8 {w:World}:Keeps I w (w.alloc x):=ac9 (v4 x)
theorem Keeps.mono {J:Nat->Prop} {w w':World} (h:Keeps I w w') (a:∀x,I x->J x):Keeps J w w':=⟨h.os,h.tape,h.output,h.size,λ b d c=>h.block b d λ hx=>c (a b hx)⟩
theorem axg {w:World} {b cap:Nat} {G:Option Nat} {I:List Nat} {n:Int} (h:TL w b G I cap [] n) (k:Ky):Calls P0 26 #[.pointer (some ⟨b,0,none⟩),k.val] w λ e w'=>e=.returned (.bool true) /\
 ∃F D E,TL w' b F D E [[k]] 1/\Keeps (Ft b G I) w w'/\∀x,Ft b F D x->Ft b G I x\/w.heap.size<=x:=by
 obtain ⟨e,A⟩:=h.hd;have Q:=h.lt b (.inl rfl);have hc:w.cell? ⟨b,0,none⟩=some (.slice (adr G) 0 cap):=by simp [World.cell?,A]
 have X:w.cell? ⟨b,1,none⟩=some (.int .i64 n):=by simp [World.cell?,A]
 have T:w.frozen? ⟨b,0,none⟩=false:=by simp [World.frozen?,A]
 have Y:w.frozen? ⟨b,1,none⟩=false:=by simp [World.frozen?,A]
 have L:b<w.heap.size+1:=by omega
 have N:b<w.heap.size+1+1:=by omega
 have W:¬b=w.heap.size:=by omega
 have R:¬b=w.heap.size+1:=by omega
 have O:¬b=w.heap.size+1+1:=by omega
 simp only [Ky.val]
 go_enter func26,Go.Proofs.Tryz.ntmps26
 go_wp2_with fail
 go_ret
 rw [setCell_eq_setRow w b 0 _ _ _ _ A,setCell_eq_setRow _ b 1 _ _ _ _ (setRow_heap w b _ _ _ _ A),setRow_setRow];generalize B:w.setRow b _=J;have V:J.heap[b]?=some (.cells #[.slice (some ⟨w.heap.size+1+1,0,none⟩) 1 1,.int .i64 1] e):=by rw [<- B]; exact setRow_heap w b _ _ _ _ A
 have U:Keeps (· = b) w J:=by rw [<- B]; exact zn A
 have C:J.heap.size=w.heap.size:=by rw [<- B]; simp [World.setRow]
 refine ⟨rfl,some (w.heap.size+1+1),[w.heap.size+1],1,⟨⟨e,?_⟩,by simp,by simp [maxLen],by simp,λ g S=>?_,rfl,?_⟩,?_,λ x hx=>?_⟩
 ·rw [mh (by simp [C]; omega),mh (by simp [C]; omega),mh (by simp [C]; omega),V]
  rfl
 ·cases S;refine ⟨by omega,_,_,ke (by simp [C]),by simp,λ i Z l K M=>?_⟩;have H:i=0:=by have:=(zaa.1 K).1; simp at this; exact this
  subst H;simp at K M;subst K; subst M;refine ⟨1,rfl,_,_,by rw [mh (by simp [C])]; exact ke (by simp [C]),by simp,?_,by simp,by simp,by simp [maxLen]⟩;intro j u P;simpa [flat,kc] using P
 ·simp;omega
 ·exact (U.mono λ x hx=>.inl hx).trans ((n8.trans n8).trans n8)
 rcases hx with h | h | h
 ·exact .inl (.inl h)
 ·simp at h; omega
 simp at h; omega

open Go Go.RowKit
section
variable {w:World} {b g cap:Nat} {og:Option Nat} {gs:List Nat} {ns:List (List Ky)} {n:Int}
theorem TL.root (h:TL w b (some g) gs cap ns n):w.cell? ⟨b,0,none⟩=some (.slice (some ⟨g,0,none⟩) ns.length cap)/\w.cell? ⟨b,1,none⟩=some (.int .i64 n)/\w.frozen? ⟨b,0,none⟩=false/\w.frozen? ⟨b,1,none⟩=false/\b<w.heap.size:=by
 obtain ⟨e,a⟩:=h.hd;exact ⟨by simp [World.cell?,a,adr],by simp [World.cell?,a],by simp [World.frozen?,a],by simp [World.frozen?,a],h.lt b (.inl rfl)⟩
theorem TL.some_ (h:TL w b og gs cap ns n) (a:ns[i]?=some l):∃g,og=some g:=by
 rcases og with _ | g
 ·have:=h.no rfl;have:=h.le;have:=(zaa.1 a).1;omega
 exact ⟨g,rfl⟩
theorem TL.node (h:TL w b (some g) gs cap ns n) (j:ns[i]?=some l):∃f c,gs[i]?=some f/\ml w f l c/\w.cell? ⟨g,i,none⟩=some (.slice (some ⟨f,0,none⟩) l.length c)/\w.frozen? ⟨g,i,none⟩=false:=by
 obtain ⟨r,cs,e,k,q,m⟩:=h.out g rfl;have d:=(zaa.1 j).1;have a:gs[i]?=some (gs[i]'(by rw [h.len]; exact d)):=by simp [h.len,d]
 obtain ⟨c,o,p⟩:=m i _ l a j;exact ⟨_,c,a,p,by simp [World.cell?,k,o],by simp [World.frozen?,k]⟩
end
def KB (w:World) (B:Nat) (k:Ky):Prop:=w.heap[B]?=some (.cells #[.int .u64 k.c,.int .i64 k.v,.int .i64 k.d] 55 (0,0))
variable {B:Nat}
theorem KB.cells {w:World} (h:KB w B k):w.cell? ⟨B,0,none⟩=some (.int .u64 k.c)/\w.cell? ⟨B,1,none⟩=some (.int .i64 k.v)/\w.cell? ⟨B,2,none⟩=some (.int .i64 k.d):=by
 unfold KB at h;exact ⟨by simp [World.cell?,h],by simp [World.cell?,h],by simp [World.cell?,h]⟩
theorem KB.keeps {w w':World} (h:KB w B k) (b:Keeps I w w') (a:¬I B):KB w' B k:=by
 unfold KB at h |-;rw [b.block B (zaf.1 h).1 a];exact h
theorem TL.keeps {w w':World} {b cap:Nat} {a:Option Nat} {c:List Nat} {ns:List (List Ky)} {n:Int} (h:TL w b a c cap ns n) (e:Keeps I w w') (d:∀x,Ft b a c x->¬I x):TL w' b a c cap ns n:=
 h.loc λ x hx=>e.block x (h.lt x hx) (d x hx)
theorem axf {w:World} {b cap:Nat} {H:Option Nat} {G:List Nat} {ns:List (List Ky)} {n:Int} (h:TL w b H G cap ns n) (k:Ky) (r s:Nat) (l:List Ky) (Q:Nod ns k r) (F:ns[r-1]?=some l) (S:Plc l k s) (P:l[s]?=some k):Calls P0 26 #[.pointer (some ⟨b,0,none⟩),k.val] w λ e w'=>e=.returned (.bool false) /\
 TL w' b H G cap ns n/\∀I,Keeps I w w':=by
 obtain ⟨g,rfl⟩:=h.some_ F;have R:r-1<ns.length:=(zaa.1 F).1;generalize M:r-1=i at *;obtain ⟨W,c1,Y,f1,N⟩:=h.root;have O:((ns.length:Int) == 0)=false:=by rw [beq_eq_false_iff_ne]; omega
 have D:∀x,Keeps (λ _=>False) w (w.alloc x):=λ x=>n8;have i0:(0:Int)<=(i:Int):=by omega
 have i1:(i:Int)<(ns.length:Int):=by omega
 simp only [Ky.val]
 go_enter func26,Go.Proofs.Tryz.ntmps26
 go_wp2_with fail
 have J:=h.keeps (D (.cells #[.int .u64 k.c,.int .i64 k.v,.int .i64 k.d] 55)) (λ _ _ q=>q);have T:KB (w.alloc (.cells #[.int .u64 k.c,.int .i64 k.v,.int .i64 k.d] 55)) w.heap.size k:=ke rfl;refine (aat J k r Q).mono ?_;rintro e w2 ⟨rfl,A⟩;rw [M];have E:=J.keeps (A λ _=>False) (λ _ _ q=>q);have K:=T.keeps (A λ _=>False) (λ q=>q);obtain ⟨V,d1,f2,Z,_⟩:=E.root;obtain ⟨g',c,L,B,d2,f4⟩:=E.node F;obtain ⟨U,k1,k2⟩:=K.cells
 go_wp2_with fail
 refine (aa1 B k s S).mono ?_;rintro e X ⟨rfl,C⟩;rw [decide_eq_true P]
 go_wp2_with fail
 go_ret
 refine ⟨rfl,E.keeps (C λ _=>False) (λ _ _ q=>q),λ I=>(n8.trans (A I)).trans (C I)⟩

open Go Go.RowKit
theorem pp (a b:List Ky):flat (a++b)=flat a++flat b:=by simp [flat]
theorem aqc (k:Ky) (b:List Ky):flat (k::b)=kc k++flat b:=by simp [flat]
variable {α:Type}
theorem am2 (L:List α) (i:Nat) (a b c:α) (h:i+3<=L.length):((L.set i a).set (i+1) b).set (i+2) c=b7 L i [a,b,c]:=by
 apply zai;intro j;rw [u9 (by simpa using h)];simp only [List.getElem?_set,List.length_set,List.length_cons,List.length_nil];by_cases f:j=i
 ·subst f; simp; omega
 by_cases d:j=i+1
 ·subst d; simp; omega
 by_cases e:j=i+2
 ·subst e; simp; omega
 rw [if_neg (by omega),if_neg (by omega),if_neg (by omega),if_neg (by omega)]
theorem zo {cs:List Value} {s:Nat} (i:s<=l.length) (g:(flat l++kc k) <+: cs) :
 flat (l.take s++k::l.drop s) <+: b7 (b7 cs ((s+1)*3) ((cs.drop (s*3)).take ((l.length-s)*3))) (s*3) (kc k):=by
 obtain ⟨t,rfl⟩:=g;obtain ⟨A,b⟩:∃A,A=flat (l.take s):=⟨_,rfl⟩
 obtain ⟨D,a⟩:∃D,D=flat (l.drop s):=⟨_,rfl⟩
 have m:flat l=A++D:=by rw [b,a,<- pp,zao]
 have j:A.length=s*3:=by rw [b,q7,List.length_take,Nat.min_eq_left i]
 have o:D.length=(l.length-s)*3:=by rw [a,q7,List.length_drop]
 have c:(kc k).length=3:=rfl;rw [pp,aqc,<- b,<- a,m,<- j,<- o,show (s+1)*3=A.length+3 by omega];refine ⟨t,?_⟩;obtain ⟨E,d⟩:∃E,E=(D++kc k++t).take 3:=⟨_,rfl⟩
 have p:E.length=3:=by rw [d]; simp; omega
 have q:(A++D++kc k++t).take (A.length+3)=A++E:=by
  rw [d,zad A D,zad A,List.take_length_add_append]
 have n:((A++D++kc k++t).drop A.length).take D.length=D:=by
  rw [zad A D,zad A,List.drop_left,zad D,List.take_left]
 have e:(A++D++kc k++t).drop (A.length+3+D.length)=t:=by
  have:A.length+3+D.length=(A++D++kc k).length:=by simp [c]; omega
  rw [this,List.drop_left]
 have f:b7 (A++D++kc k++t) (A.length+3) D=A++(E++(D++t)):=by
  unfold b7;rw [q,e];simp
 rw [n,f];unfold b7
 have h:(A++(E++(D++t))).drop (A.length+3)=D++t:=by
  have:A.length+3=(A++E).length:=by simp [p]
  rw [this,<- zad,List.drop_left]
 rw [List.take_left,c,h];simp
variable {cs2:Array Value} {X:List Value}
theorem axh (h:∀j,j<X.length->cs2[j]?=X[j]?) (b:X.length<=cs2.size):X <+: cs2.toList:=by
 rw [List.prefix_iff_eq_take];apply zai;intro j;rw [zab];by_cases a:j<X.length
 ·rw [if_pos a,<- h j a];simp
 rw [if_neg a];simp;omega
theorem n9 {w w':World} {x:Nat} (h:w'.heap[x]?=w.heap[x]?) (o:Nat):w'.cell? ⟨x,o,none⟩=w.cell? ⟨x,o,none⟩:=by simp only [World.cell?,h]
theorem aa {w w':World} {x:Nat} (h:w'.heap[x]?=w.heap[x]?) (o:Nat):w'.frozen? ⟨x,o,none⟩=w.frozen? ⟨x,o,none⟩:=by simp only [World.frozen?,h]
variable {cs:Array Value} {e:TypeId} {fr:Nat×Nat}
theorem oh {w:World} {g o:Nat} (h:w.heap[g]?=some (.cells cs e fr)) (a:o<cs.size):∃v,w.cell? ⟨g,o,none⟩=some v:=⟨cs[o],by simp [World.cell?,h,a]⟩
theorem fu {w:World} {g o:Nat} (h:w.heap[g]?=some (.cells cs e (0,0))):w.frozen? ⟨g,o,none⟩=false:=by simp [World.frozen?,h]
theorem ze {w:World}:(w.alloc x).heap.size=w.heap.size+1:=by simp
variable {v:Value}
theorem o9 {w:World} {g o:Nat} (h:w.heap[g]?=some (.cells cs e fr)):(w.setCell ⟨g,o,none⟩ v).heap[g]?=some (.cells (cs.setIfInBounds o v) e fr):=by
 rw [setCell_eq_setRow w g o cs e fr v h];exact setRow_heap w g _ _ _ _ h
theorem l9 {w:World} {g o x:Nat} (h:w.heap[g]?=some (.cells cs e fr)) (hx:x≠g):(w.setCell ⟨g,o,none⟩ v).heap[x]?=w.heap[x]?:=by
 rw [setCell_eq_setRow w g o cs e fr v h];exact setRow_other w g x _ hx
theorem m0 {w:World} {g o:Nat} (h:w.heap[g]?=some (.cells cs e fr)) (d:I g):Keeps I w (w.setCell ⟨g,o,none⟩ v):=by
 rw [setCell_eq_setRow w g o cs e fr v h];have a:=zn (cs:=cs.setIfInBounds o v) h;exact ⟨a.os,a.tape,a.output,a.size,λ b f c=>a.block b f λ q=>c (q▸d)⟩
theorem fo {w w':World} (h:Keeps (λ x=>I x\/w.heap.size<=x) w w'):Keeps I w w':=⟨h.os,h.tape,h.output,h.size,λ b a c=>h.block b a λ q=>by rcases q with q | q; exact c q; omega⟩
theorem we {a:Nat} (c:a<=l.length):(flat l)[a*3+j]?=(flat (l.drop a))[j]?:=by
 have:flat l=flat (l.take a)++flat (l.drop a):=by rw [<- pp,zao]
 have b:(flat (l.take a)).length=a*3:=by rw [q7,List.length_take,Nat.min_eq_left c]
 rw [this,zal (by omega),b];congr 1;omega
theorem acd {a:Nat} {u:Value} (h:(flat (l.take a))[j]?=some u):(flat l)[j]?=some u:=by
 have:flat l=flat (l.take a)++flat (l.drop a):=by rw [<- pp,zao]
 rw [this,zac (zaa.1 h).1];exact h
variable {A:List Value}
theorem aji (c:∀(j:Nat) (u:Value),A[j]?=some u->cs[j]?=some u):cs.toList.take A.length=A:=by
 apply zai;intro j;rw [zab];by_cases a:j<A.length
 ·have b:A[j]?=some A[j]:=by simp [a]
  rw [if_pos a,b,<- c j _ b];simp
 rw [if_neg a,eq_comm,List.getElem?_eq_none_iff];omega
theorem alv {B:List Value} {N:Nat} (c:A.length=N) (b:∀(j:Nat) (u:Value),A[j]?=some u->cs[j]?=some u) (h:∀j,j<N+B.length->cs2[j]?=(cs.toList.take N++B)[j]?) (a:N+B.length<=cs2.size):(A++B) <+: cs2.toList:=by
 subst c;rw [aji b] at h;exact axh (λ j d=>h j (by simpa using d)) (by simpa using a)
theorem ali {L:List Value} (c:X <+: L) (d:∀u∈X,u.oneCell'=true) {a m:Nat} (h:a+m<=X.length):∀u∈(L.drop a).take m,u.oneCell'=true:=λ u e=>by
 obtain ⟨t,rfl⟩:=c;obtain ⟨j,b⟩:=zan.1 e;rw [zab] at b;split at b
 ·rw [List.getElem?_drop,zac (by omega)] at b;exact d u (zah b)
 cases b
theorem aya {L:List α} {x y:α} (h:i<L.length) (j:Nat):(L.take i++x::y::L.drop (i+1))[j]?=if j<i then L[j]? else if j=i then some x else if j=i+1 then some y else L[j-1]?:=by
 have d:(L.take i).length=i:=by simp; omega
 rw [List.getElem?_append,d];by_cases a:j<i
 ·rw [if_pos a,if_pos a,zab,if_pos a]
 rw [if_neg a,if_neg a];by_cases b:j=i
 ·subst b; simp
 rw [if_neg b];by_cases c:j=i+1
 ·subst c; simp
 rw [if_neg c];obtain ⟨m,rfl⟩:∃m,j=i+2+m:=⟨j-(i+2),by omega⟩
 rw [show i+2+m-i=m+2 by omega];simp only [List.getElem?_cons_succ,List.getElem?_drop];congr 1;omega
section
variable {w w':World} {b g cap:Nat} {gs:List Nat} {ns:List (List Ky)} {n n':Int}
theorem TL.put (h:TL w b (some g) gs cap ns n) (G:i<ns.length) {f c2:Nat} {t:List Ky} (T:∃e,w'.heap[b]?=some (.cells #[.slice (some ⟨g,0,none⟩) ns.length cap,.int .i64 n'] e (0,0)))
 (H:∃cs e,w.heap[g]?=some (.cells cs e (0,0))/\w'.heap[g]?=some (.cells (cs.setIfInBounds i (.slice (some ⟨f,0,none⟩) t.length c2)) e (0,0))) (p:ml w' f t c2)
 (R:∀(j x:Nat),j≠i->gs[j]?=some x->w'.heap[x]?=w.heap[x]?) (m:gs[i]?=some f\/(f≠b/\f≠g/\f∉gs)):TL w' b (some g) (gs.set i f) cap (ns.set i t) n':=by
 obtain ⟨F,cs,e,L,I,M⟩:=h.out g rfl;obtain ⟨S,e',A,P⟩:=H;rw [L] at A;cases A;refine ⟨?_,by simpa using h.le,h.mx,by simp,λ V u=>?_,by simp [h.len],?_⟩
 ·obtain ⟨e,K⟩:=T;exact ⟨e,by rw [K]; simp [adr]⟩
 ·cases u;refine ⟨F,_,_,P,by simpa using I,λ j x l o r=>?_⟩;rw [List.getElem?_set] at o r;by_cases a:i=j
  ·subst a;simp [h.len,G] at o r;subst o; subst r;refine ⟨c2,?_,p⟩;have:i<cs.size:=by have:=h.le; omega
   simp [this]
  rw [if_neg a] at o r;obtain ⟨c,N,O⟩:=M j x l o r;refine ⟨c,?_,O.loc (R j x (Ne.symm a) o)⟩;rw [Array.getElem?_setIfInBounds,if_neg a];exact N
 have k:=h.nb;simp only [Option.toList_some,List.cons_append,List.nil_append] at k |-;rcases m with m | ⟨U,p2,D⟩
 ·have:gs.set i f=gs:=by
   apply zai;intro j;rw [List.getElem?_set];split
   ·rename_i a; subst a; rw [m]; simp; exact (zaa.1 m).1
   rfl
  rw [this];exact k
 simp only [List.nodup_cons,List.mem_cons,not_or] at k |-;obtain ⟨⟨E,Q⟩,J,v⟩:=k;refine ⟨⟨E,λ d=>?_⟩,λ d=>?_,?_⟩
 ·rcases List.mem_or_eq_of_mem_set d with d | d
  ·exact Q d
  exact U d.symm
 ·rcases List.mem_or_eq_of_mem_set d with d | d
  ·exact J d
  exact p2 d.symm
 rw [List.Nodup,List.pairwise_iff_getElem] at v |-;intro x y hx hy s;rw [List.length_set] at hx hy;simp only [List.getElem_set];have B:∀z (C:z<gs.length),gs[z]≠f:=λ z C q=>D (q▸List.getElem_mem C);split
 ·rw [if_neg (by omega)];exact λ q=>B y hy q.symm
 split
 ·exact B x hx
 exact v x y hx hy s
end

end Go.Ev

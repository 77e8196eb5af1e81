import Derived.Test.YtocfnfcflljooaaGreatChecked
import Derived.WalkKit
import Derived.Test.YtocfnfcflljooaaGreatM6
open Nat renaming reduceBEq → zB, reduceEqDiff → zE, reduceAdd → zA, reduceSub → zS, reduceLT → zL, reduceLeDiff → zD, reduceMul → zM
open Go.Proofs.Tryz renaming prog → P0
open Go.Proofs.Tryz
open List renaming getElem?_eq_some_iff → zaa, getElem?_take → zab, getElem?_append_left → zac, append_assoc → zad, length_nil → zae, length_map → zaf, mem_of_getElem? → zaj, ext_getElem? → zak, getElem?_toArray → zam, getElem?_append_right → zan, mem_iff_getElem? → zap, take_append_drop → zaq
open Nat renaming zero_add → zag
open Array renaming getElem?_eq_some_iff → zah
open Option renaming getD_some → zai, isSome_none → zal, map_eq_some_iff → zao
namespace Go.Ev
set_option maxHeartbeats 8000000
set_option maxRecDepth 100000
noncomputable section
open Go
set_option linter.unusedSectionVars false
set_option linter.unnecessarySimpa false
set_option linter.unusedSimpArgs false
set_option linter.unusedVariables false
def ae3:Mk P0 f75:={ x:=_ }
def acr:Mk P0 f73:={ x:=_ }
def aco:Mk P0 f76:={ x:=_ }
def ae2:Mk P0 f47:={ x:=_ }
structure Ky where
 c:Int
 v:Int
 d:Int
deriving DecidableEq
def Ky.rv (k:Ky):RV:=.agg [.v (.int .u64 k.c),.v (.int .i64 k.v),.v (.int .i64 k.d)]
def Ky.av (k:Ky):AV:=.r k.rv
def kl (a b:Ky):Bool:=if a.c≠b.c then decide (a.c<b.c) else if a.v≠b.v then decide (a.v<b.v) else decide (a.d<b.d)
theorem aba (a b:Ky):a9 P0 75 [a.av,b.av] [] (bl (kl a b)) []:=by
 refine ae3.t func75 ?_
 push_cast [ae3,Ky.av,Ky.rv,kl,zae]
 refine b9 (λ c=>?_) (λ c=>?_)
 ·push_cast
  simp at c;refine sa ?_;simp [c]
 push_cast
 simp at c;refine b9 (λ d=>?_) (λ d=>?_)
 ·push_cast
  simp at d;refine sa ?_;simp [c,d]
 push_cast
 simp at d;refine sa ?_;simp [c,d]

theorem ami (F:FuncId) (A B:List AV) (j:o4 A=[]) (g:o4 B=[]) (f:zl P0 F=true) (p:Nat->Bool) (n r:Nat) (K:n<=maxLen) (O:r<=n)
 (J:∀i,i<r->p i=false) (I:∀i,r<=i->i<n->p i=true)
 (L:∀i:Nat,i<n->a9 P0 F [int .i64 i,.ptr 1000000 0 0,.ptr 1000001 0 0] [.box A,.box B] (bl (p i)) [.box A,.box B]) :
 a9 P0 73 [int .i64 n,.fn (.func F) [.ptr 1000000 0 0,.ptr 1000001 0 0] 0] [.box A,.box B] (int .i64 r) [.box A,.box B]:=by
 refine acr.t func73 ?_;simp only [acr,push_cast,↓reduceIte,reduceCtorEq,zB,zE,zA,zS,zL,zD,zM];have D:=o9;have k:∀F,imL F A=A:=λ F=>ol F A j;have m:∀F,imL F B=B:=λ F=>ol F B g
 refine c7 [(1,false),(5,false),(6,false)] (λ vs pos s=>∃(c d:Int),0<=c/\c<=r/\(r:Int)<=d/\d<=n /\
  vs=[.fn (.func F) [.ptr 1000000 0 0,.ptr 1000001 0 0] 0,int .i64 c,int .i64 d]/\pos=[.box A,.box B]/\s=[])
  (λ vs _ _=>match vs with | [_,.r (.v (.int _ a)),.r (.v (.int _ b))]=>(b-a).toNat | _=>0) rfl ?_ ?_
 ·simp only [j,g,k,m,f,push_cast,↓reduceIte,reduceCtorEq,zB,zE,zA,zS,zL,zD,zM];refine ⟨0,n,by omega,by omega,by omega,by omega,?_⟩;simp
 rintro vs pos s ⟨c,d,N,P,Q,H,rfl,rfl,rfl⟩;simp only [j,g,k,m,f,push_cast,↓reduceIte,reduceCtorEq,zB,zE,zA,zS,zL,zD,zM];refine b9 (λ h=>?_) (λ h=>?_)
 ·simp only [j,g,k,m,f,push_cast,↓reduceIte,reduceCtorEq,zB,zE,zA,zS,zL,zD,zM];have l:c<d:=by simpa using h
  have E:(n:Int)<=9223372036854775807:=by have:=K; simp only [maxLen] at this; omega
  have x:IntKind.u64.wrap (IntKind.i64.wrap (c+d))=c+d:=by rw [IntKind.wrap_i64,IntKind.wrap_u64]; omega
  have G:(c+d).fdiv (2^min (Int.toNat 1) IntKind.u64.bits)=(c+d)/2:=a4s (c+d) 1 (by decide);have o:IntKind.i64.wrap ((c+d)/2)=(c+d)/2:=a6 ⟨by omega,by omega⟩;obtain ⟨M,C⟩:∃M:Nat,(c+d)/2=M:=⟨((c+d)/2).toNat,by omega⟩
  rw [C] at o;simp only [x,G,C,o];refine ⟨by decide,a7 (L M (by omega)) rfl ⟨rfl,rfl,trivial⟩ ?_⟩;simp only [j,g,k,m,f,push_cast,↓reduceIte,reduceCtorEq,zB,zE,zA,zS,zL,zD,zM];have w:IntKind.i64.wrap ((M:Int)+1)=M+1:=a6 ⟨by omega,by omega⟩;refine b9 (λ y=>?_) (λ y=>?_)
  ·simp only [j,g,k,m,f,w,push_cast,↓reduceIte,reduceCtorEq,zB,zE,zA,zS,zL,zD,zM];have q:p M=false:=by simpa using y
   have z:M<r:=Nat.lt_of_not_le λ u=>by rw [I M u (by omega)] at q; cases q
   refine ⟨⟨M+1,d,by omega,by omega,by omega,by omega,?_⟩,by omega⟩;simp
  simp only [j,g,k,m,f,push_cast,↓reduceIte,reduceCtorEq,zB,zE,zA,zS,zL,zD,zM];have q:p M=true:=by simpa using y
  have z:r<=M:=Nat.le_of_not_lt λ l=>by rw [J M l] at q; cases q
  refine ⟨⟨c,M,by omega,by omega,by omega,by omega,?_⟩,by omega⟩;simp
 simp only [j,g,k,m,f,push_cast,↓reduceIte,reduceCtorEq,zB,zE,zA,zS,zL,zD,zM];have l:¬c<d:=by simpa using h
 have e:c=r:=by omega
 rw [e]

def n7 (l:List Ky):RV:=.sl 3 (l.map Ky.rv)
def Ky.cs (k:Ky):List AV:=[int .u64 k.c,int .i64 k.v,int .i64 k.d]
theorem a0n (l:List Ky) (k q:Ky) (i:Nat) (e:i<l.length) (b:l[i]?=some q) (f:l.length<=maxLen):a9 P0 76 [int .i64 i,.ptr 1000000 0 0,.ptr 1000001 0 0] [.box [.r (n7 l)],.box k.cs]
 (bl (!kl q k)) [.box [.r (n7 l)],.box k.cs]:=by
 refine aco.t func76 ?_
 have a:(l.map Ky.rv).getD ((i:Int)).toNat (.agg [.v (.int .u64 0),.v (.int .i64 0),.v (.int .i64 0)])=.agg [.v (.int .u64 q.c),.v (.int .i64 q.v),.v (.int .i64 q.d)]:=by
  simp [List.getD,b,Ky.rv]
 push_cast [aco,n7,Ky.cs,zae,zaf,a]
 refine And.intro ⟨by omega,by omega⟩ ?_;refine g9 (aba q k) rfl trivial ?_
 push_cast
 kernel_rfl
structure Plc (l:List Ky) (k:Ky) (r:Nat):Prop where
 le:r<=l.length
 lo:∀(i:Nat) (q:Ky),i<r->l[i]?=some q->kl q k=true
 hi:∀(i:Nat) (q:Ky),r<=i->l[i]?=some q->kl q k=false
theorem a3o (l:List Ky) (k:Ky) (r:Nat) (f:Plc l k r) (j:l.length<=maxLen):a9 P0 47 [.r (n7 l),k.av] []
 (.tup [int .i64 r,bl (decide (l[r]?=some k))]) []:=by
 refine ae2.t func47 ?_
 have p:∀i:Nat,i<l.length->a9 P0 76 [int .i64 i,.ptr 1000000 0 0,.ptr 1000001 0 0] [.box [.r (n7 l)],.box k.cs] (bl ((λ i=>match l[i]? with | some q=>!kl q k | none=>true) i)) [.box [.r (n7 l)],.box k.cs]:=λ i b=>by
  have a:l[i]?=some l[i]:=by simp [b]
  simp only [a];exact a0n l k _ i b a j
 have s:=ami 76 [.r (n7 l)] k.cs rfl rfl rfl (λ i=>match l[i]? with | some q=>!kl q k | none=>true) l.length r j f.le (λ i b=>by
  have a:l[i]?=some (l[i]'(by have:=f.le; omega)):=by simp [show i<l.length by have:=f.le; omega]
  simp only [a,f.lo i _ b a]; rfl) (λ i b m=>by
  have a:l[i]?=some l[i]:=by simp [m]
  simp only [a,f.hi i _ b a]; rfl) p
 push_cast [ae2,n7,Ky.av,Ky.rv,zae,zaf]
 refine a7 s rfl ⟨rfl,rfl,trivial⟩ ?_;obtain ⟨q,e⟩:∃q:Ky,q=(l[r]?).getD ⟨0,0,0⟩:=⟨_,rfl⟩
 have o:(l.map Ky.rv).getD ((r:Int)).toNat (.agg [.v (.int .u64 0),.v (.int .i64 0),.v (.int .i64 0)])=.agg [.v (.int .u64 q.c),.v (.int .i64 q.v),.v (.int .i64 q.d)]:=by
  rw [e];rcases hr:l[r]? with _ | g<;>simp [List.getD,hr,Ky.rv]
 push_cast [n7,Ky.cs,zaf,o]
 refine ⟨λ h=>⟨by omega,by simpa using h⟩,by kernel_rfl,?_⟩;congr 4;rcases hr:l[r]? with _ | g
 ·have:¬r<l.length:=λ h=>by simp [h] at hr
  simp [this]
 have n:=(zaa.1 hr).1;have u:q=g:=by rw [e,hr]; rfl
 subst u;simp [n];cases q; cases k;simp
 rfl

def vw:Mk P0 f74:={ x:=_ }
def zq:Mk P0 f46:={ x:=_ }
def l4 (ns:List (List Ky)) (n:Int):List RV:=[.sl 1 (ns.map n7),.v (.int .i64 n)]
theorem az5 (ns:List (List Ky)) (n:Int) (k q:Ky) (x:List Ky) (i:Nat) (f:i<ns.length) (hx:ns[i]?=some (q::x)) (g:ns.length<=maxLen) (e:(q::x).length<=maxLen) :
 a9 P0 74 [int .i64 i,.ptr 1000000 0 0,.ptr 1000001 0 0] [.box k.cs,.box [.rp (l4 ns n)]] (bl (kl k q)) [.box k.cs,.box [.rp (l4 ns n)]]:=by
 refine vw.t func74 ?_
 have b:(ns.map n7).getD ((i:Int)).toNat (.sl 3 [])=.sl 3 (q.rv::x.map Ky.rv):=by
  simp [List.getD,hx,n7]
 have a:(q.rv::x.map Ky.rv).getD (Int.toNat 0) (.agg [.v (.int .u64 0),.v (.int .i64 0),.v (.int .i64 0)])=.agg [.v (.int .u64 q.c),.v (.int .i64 q.v),.v (.int .i64 q.d)]:=rfl;simp only [vw,l4,Ky.cs,b,a,push_cast,↓reduceIte,reduceCtorEq,zB,zE,zA,zS,zL,zD,zM];refine And.intro ⟨by omega,by omega⟩ (And.intro ⟨by omega,by omega⟩ ?_);refine g9 (aba k q) rfl trivial ?_;simp only [push_cast,↓reduceIte,reduceCtorEq,zB,zE,zA,zS,zL,zD,zM];kernel_rfl
structure Nod (ns:List (List Ky)) (k:Ky) (r:Nat):Prop where
 le:r<=ns.length
 len:ns.length<=maxLen
 ne:∀(i:Nat) (l:List Ky),ns[i]?=some l->l≠[]/\l.length<=maxLen
 lo:∀(i:Nat) (q:Ky) (x:List Ky),i<r->ns[i]?=some (q::x)->kl k q=false
 hi:∀(i:Nat) (q:Ky) (x:List Ky),r<=i->ns[i]?=some (q::x)->kl k q=true
def aq8 (ns:List (List Ky)) (k:Ky) (i:Nat):Bool:=match ns[i]? with
 | some (q::_)=>kl k q
 | _=>true
variable {k:Ky} {i:Nat}
theorem Nod.at_ {ns:List (List Ky)} {r:Nat} (h:Nod ns k r) (d:i<ns.length):∃q x,ns[i]?=some (q::x)/\(q::x).length<=maxLen:=by
 have a:ns[i]?=some ns[i]:=by simp [d]
 obtain ⟨c,b⟩:=h.ne i _ a;rcases hx:ns[i] with _ | ⟨q,x⟩
 ·exact absurd hx c
 rw [hx] at a b;exact ⟨q,x,a,b⟩
theorem am7 (ns:List (List Ky)) (n:Int) (k:Ky) (r:Nat) (h:Nod ns k r):a9 P0 46 [.rp (l4 ns n),k.av] [] (int .i64 ((r-1:Nat):Int)) []:=by
 refine zq.t func46 ?_
 have e:=ami 74 k.cs [.rp (l4 ns n)] rfl rfl rfl (aq8 ns k) ns.length r h.len h.le (λ i c=>by
  obtain ⟨q,x,a,_⟩:=h.at_ (i:=i) (by have:=h.le; omega);simp only [aq8,a,h.lo i q x c a]) (λ i c b=>by
  obtain ⟨q,x,a,_⟩:=h.at_ b;simp only [aq8,a,h.hi i q x c a]) (λ i b=>by
  obtain ⟨q,x,a,f⟩:=h.at_ b;simp only [aq8,a]
  exact az5 ns n k q x i b a h.len f)
 push_cast [zq,l4,Ky.av,Ky.rv,zae,zaf]
 refine a7 e rfl ⟨rfl,rfl,trivial⟩ ?_
 push_cast [l4,Ky.cs,zaf]
 have g:(ns.length:Int)<=9223372036854775807:=by have:=h.len; simp only [maxLen] at this; omega
 have d:=h.le;rw [a6 ⟨by omega,by omega⟩,show max ((r:Int)-1) 0=((r-1:Nat):Int) by omega]


section
variable {P:Program} {w:World} {o:Oper} {a:Act} {K:Act->World->Prop} {Q:Exit->Act->World->Prop}
theorem lq {w:World} {g off size m m' c:Nat} {cs:Array Value} {e:TypeId} {fr:Nat×Nat} {news:List Value} (h:w.heap[g]?=some (.cells cs e fr)) (f:news.length=m*size)
 (d:∀(j:Nat) (u:Value),news[j]?=some u->cs[off+j]?=some u):∀W:World,W.heap=w.heap->(Builtin.firstCells size m (.slice (some ⟨g,off,none⟩) m' c)).run P W=.ok news.toArray W:=λ W a=>by
 refine run_firstCells_some W size m ⟨g,off,none⟩ m' c news f λ j u b=>?_;rw [ci];simp only [World.cell?,a,h,zal,Bool.false_eq_true,if_false];exact d j u b
theorem ag2 {w:World} {size m' c:Nat} {A:Option Addr}:∀W:World,W.heap=w.heap->(Builtin.firstCells size 0 (.slice A m' c)).run P W=.ok #[] W:=λ W a=>by
 cases A<;>simp [Builtin.firstCells,loadCells,loadCellsFrom]
theorem ab1 {g:Nat} {a cs:Array Value} {t:TypeId} {fr:Nat×Nat} (c:w.heap[g]?=some (.cells a t fr)):Keeps (· = g) w (w.setRow g cs):=
 have h:=jt (cs:=cs) c
 ⟨rfl,rfl,rfl,by simp [World.setRow],λ k d b=>setRow_other w g k cs b⟩
theorem afp {w':World} {x:Obj} {I:Nat->Prop} (h:OneMore w w' x):Keeps I w w':=⟨h.os,h.tape,h.output,by rw [h.heap]; simp,λ k a _=>by rw [h.heap]; simp [Array.getElem?_push,Nat.ne_of_lt a]⟩
theorem acn (x v:Operand) (t u:TypeId) (U:o.op=.call { callee:=.builtin .append,args:=#[x,v],argTypes:=#[t,u] }) {e d:TypeId} {inf:TypeInfo} {z:Value} {size i:Nat} (R:P.underlying t=some (.slice e)) (B:P.underlying u=some (.slice d))
 (S:P.info? e=some inf) (Z:inf.zero=some z) (N:z.cells.size=inf.size) (T:inf.size=size) (O:inf.bytes=i) (g len cap:Nat) (hx:a.eval x=.slice (some ⟨g,0,none⟩) len cap) (hc:0<cap) {cs:Array Value} {e':TypeId} (L:w.heap[g]?=some (.cells cs e' (0,0)))
 (n:cap*size<=cs.size) (F:len<=cap) {A2:Option Addr} {m c2:Nat} (X:a.eval v=.slice A2 m c2) (news:List Value) (E:∀W:World,W.heap=w.heap->(Builtin.firstCells size m (.slice A2 m c2)).run P W=.ok news.toArray W)
 (J:news.length=m*size) (Y:∀u∈news,u.oneCell'=true) (G:len+m<=maxLen) (D:cap<=maxLen) (hb:(len+m)*i<=140737488355328)
 (h:∀(H b:Nat) (y:Array Value) (V:TypeId) (w':World),(H=g\/H=w.heap.size)->0<b->len+m<=b->b<=maxLen->w'.heap[H]?=some (.cells y V (0,0))->b*size<=y.size ->
  (∀j,j<(len+m)*size->y[j]?=(cs.toList.take (len*size)++news)[j]?)->Keeps (· = g) w w'->K (a.put o.dst (.slice (some ⟨H,0,none⟩) (len+m) b)) w'):o.wp P a w K Q:=by
 subst T; subst O;have M:len*inf.size<=cs.size:=Nat.le_trans (Nat.mul_le_mul_right _ F) n;have f:(cs.toList.take (len*inf.size)).length=len*inf.size:=by simp only [List.length_take,Array.length_toList]; exact Nat.min_eq_left M
 have C:=lq (P:=P) (off:=0) (size:=inf.size) (m:=len) (m':=len) (c:=cap) (news:=cs.toList.take (len*inf.size)) L f (λ j u B=>by
  rw [zab] at B;split at B
  ·simpa using B
  cases B)
 have l:∀r,(Builtin.append_ #[t,u] o.type #[.slice (some ⟨g,0,none⟩) len cap,.slice A2 m c2]).run P w=r->(execOp a.eval o).run P w=r.andThen λ q w'=>.ok (.value q) w':=by
  rintro r rfl;simp [execOp,U,resolve,invoke,builtin,hx,X]
 unfold Oper.wp
 rcases agn (P:=P) (w:=w) (ty:=o.type) (A:=some ⟨g,0,none⟩) (A2:=A2) (len:=len) (cap:=cap) (m:=m) (c2:=c2) (g:=g) (cur:=cs) (e':=e') (olds:=cs.toList.take (len*inf.size)) (news:=news) R B S Z N F (λ _=>⟨rfl,L,n⟩) (λ _ k _ h=>absurd h.2 (Nat.not_lt_zero k))
  C f E J Y G hb with ⟨hroom,hr⟩ | ⟨hgrow,K',w',rest,hr,hK1,hK2,hom,hlen⟩
 ·rw [l _ hr,if_pos hc]
  have p:len*inf.size+news.length<=cs.toList.length:=by
   rw [J,<- Nat.add_mul]; simp; exact Nat.le_trans (Nat.mul_le_mul_right _ hroom) n
  refine h g cap _ e' _ (.inl rfl) hc hroom D (setRow_heap w g cs _ e' _ L) ?_ (λ j I=>?_) (ab1 L)
  ·simp only [List.size_toArray,l7 p,Array.length_toList]; exact n
  rw [zam,y6 p,J];rw [Nat.add_mul] at I;by_cases s:len*inf.size<=j
  ·rw [if_pos ⟨s,I⟩,zan (by rw [f]; exact s),f]
  rw [if_neg (λ q=>s q.1),zac (by rw [f]; omega),zab,if_pos (by omega)]
 rw [l _ hr];refine h w.heap.size K' _ e w' (.inr rfl) (by omega) hK1 hK2 hom.new ?_ (λ j I=>?_) (afp hom)
 ·simp only [List.size_toArray,hlen]; exact Nat.le_refl _
 rw [zam,zac];simp only [List.length_append,f,J,<- Nat.add_mul];exact I
theorem aya (x v:Operand) (t u:TypeId) (D:o.op=.call { callee:=.builtin .append,args:=#[x,v],argTypes:=#[t,u] }) {e d:TypeId} {inf:TypeInfo} {z:Value} {size c:Nat} (y:P.underlying t=some (.slice e)) (F:P.underlying u=some (.slice d))
 (B:P.info? e=some inf) (H:inf.zero=some z) (l:z.cells.size=inf.size) (C:inf.size=size) (n:inf.bytes=c) {A:Option Addr} (hx:a.eval x=.slice A 0 0)
 {A2:Option Addr} {m c2:Nat} (E:a.eval v=.slice A2 m c2) (M:0<m) (news:List Value) (k:∀W:World,W.heap=w.heap->(Builtin.firstCells size m (.slice A2 m c2)).run P W=.ok news.toArray W)
 (s:news.length=m*size) (G:∀u∈news,u.oneCell'=true) (p:m<=maxLen) (L:m*c<=140737488355328)
 (h:∀(b:Nat) (i:Array Value) (w':World),m<=b->b<=maxLen->w'.heap[w.heap.size]?=some (.cells i e (0,0))->b*size<=i.size ->
  (∀j,j<m*size->i[j]?=news[j]?)->(∀I,Keeps I w w')->K (a.put o.dst (.slice (some ⟨w.heap.size,0,none⟩) m b)) w'):o.wp P a w K Q:=by
 subst C; subst n
 have f:∀r,(Builtin.append_ #[t,u] o.type #[.slice A 0 0,.slice A2 m c2]).run P w=r->(execOp a.eval o).run P w=r.andThen λ q w'=>.ok (.value q) w':=by
  rintro r rfl;simp [execOp,D,resolve,invoke,builtin,hx,E]
 unfold Oper.wp
 rcases agn (P:=P) (w:=w) (ty:=o.type) (fr:=(0,0)) (A:=A) (A2:=A2) (len:=0) (cap:=0) (m:=m) (c2:=c2) (g:=0) (cur:=#[]) (e':=0) (olds:=[]) (news:=news) y F B H l (Nat.le_refl _) (by simp) (λ h=>absurd h (Nat.lt_irrefl 0))
  (λ W N=>ag2 (w:=W) W rfl) (by simp) k s G (by omega) (by rw [zag]; exact L) with ⟨hroom,hr⟩ | ⟨hgrow,K',w',rest,hr,hK1,hK2,hom,hlen⟩
 ·omega
 rw [f _ hr];simp only [zag] at hK1;refine (show K (a.put o.dst (.slice (some ⟨w.heap.size,0,none⟩) (0+m) K')) w' from ?_);rw [zag];refine h K' _ w' hK1 hK2 hom.new ?_ (λ j J=>?_) λ I=>afp hom
 ·simp only [List.size_toArray,hlen]; exact Nat.le_refl _
 rw [zam,List.nil_append,zac];rw [s];exact J
theorem al6 (x v:Operand) (t u:TypeId) (I:o.op=.call { callee:=.builtin .copy,args:=#[x,v],argTypes:=#[t,u] }) {e:TypeId} {inf:TypeInfo} {size:Nat} (C:P.underlying t=some (.slice e))
 (F:P.info? e=some inf) (H:inf.size=size) (g d s m:Nat) {cs:Array Value} {e':TypeId} (z:w.heap[g]?=some (.cells cs e' (0,0))) {D S:Option Addr} {i A f k:Nat} (hx:a.eval x=.slice D i A) (J:a.eval v=.slice S f k)
 (E:m=Nat.min f i) (l:0<m->D=some ⟨g,d,none⟩/\S=some ⟨g,s,none⟩) (R:d+m*size<=cs.size) (N:s+m*size<=cs.size) (L:∀u∈(cs.toList.drop s).take (m*size),u.oneCell'=true)
 (h:∀w',w'.heap[g]?=some (.cells (c8 cs.toList d ((cs.toList.drop s).take (m*size))).toArray e' (0,0))->Keeps (· = g) w w'->K (a.put o.dst (goInt m)) w'):o.wp P a w K Q:=by
 subst H;unfold Oper.wp
 have b:∀r,(Builtin.copy_ #[t,u] o.type #[.slice D i A,.slice S f k]).run P w=r->(execOp a.eval o).run P w=r.andThen λ q w'=>.ok (.value q) w':=by
  rintro r rfl;simp [execOp,I,resolve,invoke,builtin,hx,J]
 by_cases M:m=0
 ·subst M
  have B:(Builtin.copy_ #[t,u] o.type #[.slice D i A,.slice S f k]).run P w=.ok (goInt 0) w:=by
   have O:∀(x:Addr),(loadCells x 0).run P w=.ok #[] w:=λ x=>by simpa using run_loadCells_list (P:=P) w x [] (by simp)
   cases D<;>cases S<;>simp [Builtin.copy_,run_underlying C,Builtin.lenOf,Builtin.firstCells,sizeOf,typeInfo,F,<- E,storeCells,O]
  rw [b _ B];refine h w ?_ (Keeps.refl _ _);simp [c8,z]
 obtain ⟨rfl,rfl⟩:=l (by omega);have n:((cs.toList.drop s).take (m*inf.size)).length=m*inf.size:=by simp; omega
 have G:=lq (P:=P) (w:=w) (off:=s) (size:=inf.size) (m:=m) (m':=f) (c:=k) (news:=(cs.toList.drop s).take (m*inf.size)) z n (λ j u y=>by
  rw [zab] at y;split at y
  ·rw [List.getElem?_drop] at y; simpa using y
  cases y) w rfl
 have p:=xi (P:=P) g d e' (0,0) ((cs.toList.drop s).take (m*inf.size)) 0 cs w z (by simp) (by rw [n]; omega) L
 have B:(Builtin.copy_ #[t,u] o.type #[.slice (some ⟨g,d,none⟩) i A,.slice (some ⟨g,s,none⟩) f k]).run P w=.ok (goInt m) (w.setRow g (c8 cs.toList d ((cs.toList.drop s).take (m*inf.size))).toArray):=by
  simp only [Nat.add_zero] at p;simp [Builtin.copy_,run_underlying C,Builtin.lenOf,sizeOf,typeInfo,F,<- E,G,p,c8]
 rw [b _ B];exact h _ (setRow_heap w g cs _ e' _ z) (ab1 z)
end

def kc (k:Ky):List Value:=[.int .u64 k.c,.int .i64 k.v,.int .i64 k.d]
def flat (l:List Ky):List Value:=l.flatMap kc
theorem v6 (l:List Ky):(flat l).length=l.length*3:=by
 induction l with
 | nil=>rfl
 | cons k l ih=>simp only [flat,List.flatMap_cons,List.length_append,List.length_cons] at ih |-; rw [ih]; simp [kc]; omega
variable {l:List Ky} {j:Nat}
theorem awu (h:l[i]?=some k) (a:j<3):(flat l)[i*3+j]?=(kc k)[j]?:=by
 have:∀(l:List Ky) (i:Nat),l[i]?=some k->(flat l)[i*3+j]?=(kc k)[j]?:=λ l=>by
  induction l with
  | nil=>intro i h; simp at h
  | cons q l ih=>
    intro i h;cases i with
    | zero=>
      simp at h;subst h;simp only [flat,List.flatMap_cons];rw [zac (by simp [kc]; omega)];simp
    | succ i=>
      simp at h;simp only [flat,List.flatMap_cons];rw [zan (by simp [kc]; omega),<- ih i h];congr 1;simp [kc];omega
 exact this l i h
theorem abg:∀u∈flat l,u.oneCell'=true:=λ u b=>by
 simp only [flat,List.mem_flatMap,kc] at b;obtain ⟨k,_,a⟩:=b;simp at a;rcases a with rfl | rfl | rfl<;>rfl
def ow (w:World) (g:Nat) (l:List Ky) (c:Nat):Prop:=∃(cs:Array Value) (e:TypeId),w.heap[g]?=some (.cells cs e (0,0))/\c*3<=cs.size/\(∀(j:Nat) (u:Value),(flat l)[j]?=some u->cs[j]?=some u)/\l.length<=c/\0<c/\c<=maxLen
variable {c:Nat}
theorem ow.loc {w w':World} {g:Nat} (h:ow w g l c) (d:w'.heap[g]?=w.heap[g]?):ow w' g l c:=by
 obtain ⟨cs,e,b,a⟩:=h;exact ⟨cs,e,by rw [d]; exact b,a⟩
theorem ow.lt {w:World} {g:Nat} (h:ow w g l c):g<w.heap.size:=by
 obtain ⟨cs,e,a,b⟩:=h;exact (zah.1 a).1
variable {R:Nat->Prop}
theorem ow.rel {w:World} {g:Nat} (h:ow w g l c) (r:R g):RelV w R (n7 l) (.slice (some ⟨g,0,none⟩) l.length c):=by
 obtain ⟨cs,e,t,B,n,z,A,s⟩:=h;have o:=RelV.sl (w:=w) (R:=R) 3 (l.map Ky.rv) (some ⟨g,0,none⟩) c (by simpa using z) s g 0 (λ i j=>(cs[i*3+j]?).getD undef) (λ _=>⟨rfl,r⟩)
 have d:∀(i:Nat) (x:RV) (j:Nat) (y:RV),(l.map Ky.rv)[i]?=some x->x.cells[j]?=some y->∃u,y=.v u/\cs[i*3+j]?=some u/\u.oneCell'=true:=λ i x j y b a=>by
  rw [List.getElem?_map,zao] at b;obtain ⟨k,q,rfl⟩:=b;have m:j<3:=by have:=(zaa.1 a).1; simpa [Ky.rv,RV.cells] using this
  have f:=awu q m
  match j,m,a,f with
  | 0,_,a,f=>simp [Ky.rv,RV.cells] at a; subst a; exact ⟨_,rfl,n _ _ f,rfl⟩
  | 1,_,a,f=>simp [Ky.rv,RV.cells] at a; subst a; exact ⟨_,rfl,n _ _ f,rfl⟩
  | 2,_,a,f=>simp [Ky.rv,RV.cells] at a; subst a; exact ⟨_,rfl,n _ _ f,rfl⟩
 have:=o (λ i x b=>by
  rw [List.getElem?_map,zao] at b;obtain ⟨k,q,rfl⟩:=b
  rfl) (λ i x j y b a=>by
  obtain ⟨u,rfl,h,p⟩:=d i x j y b a;simp only [World.cell?,t,zal,Bool.false_eq_true,if_false,zag,h,zai];exact ⟨trivial,p⟩) (λ i x j y b a=>by
  obtain ⟨u,rfl,h,p⟩:=d i x j y b a;simp only [h,zai]
  exact .v u)
 simpa [n7] using this
def adr (a:Option Nat):Option Addr:=a.map λ g=>⟨g,0,none⟩
structure TL (w:World) (b:Nat) (og:Option Nat) (gs:List Nat) (cap:Nat) (ns:List (List Ky)) (n:Int):Prop where
 hd:∃e,w.heap[b]?=some (.cells #[.slice (adr og) ns.length cap,.int .i64 n] e (0,0))
 le:ns.length<=cap
 mx:cap<=maxLen
 no:og=none->cap=0
 out:∀g,og=some g->0<cap/\∃cs e,w.heap[g]?=some (.cells cs e (0,0))/\cap<=cs.size/\∀(i g':Nat) (l:List Ky),gs[i]?=some g'->ns[i]?=some l->∃c,cs[i]?=some (.slice (some ⟨g',0,none⟩) l.length c)/\ow w g' l c
 len:gs.length=ns.length
 nb:(b::(og.toList++gs)).Nodup
def Ft (b:Nat) (c:Option Nat) (a:List Nat) (x:Nat):Prop:=x=b\/c=some x\/x∈a
section
variable {w w':World} {b cap:Nat} {og:Option Nat} {gs:List Nat} {ns:List (List Ky)} {n:Int}
theorem TL.loc (h:TL w b og gs cap ns n) (a:∀x,Ft b og gs x->w'.heap[x]?=w.heap[x]?):TL w' b og gs cap ns n:=by
 refine ⟨?_,h.le,h.mx,h.no,λ g j=>?_,h.len,h.nb⟩
 ·obtain ⟨e,k⟩:=h.hd;exact ⟨e,by rw [a b (.inl rfl)]; exact k⟩
 obtain ⟨r,cs,e,o,s,p⟩:=h.out g j;refine ⟨r,cs,e,by rw [a g (.inr (.inl j))]; exact o,s,λ i d l f t=>?_⟩;obtain ⟨c,q,m⟩:=p i d l f t;exact ⟨c,q,m.loc (a d (.inr (.inr (zaj f))))⟩
theorem TL.lt (h:TL w b og gs cap ns n):∀x,Ft b og gs x->x<w.heap.size:=λ x hx=>by
 rcases hx with rfl | hx | hx
 ·obtain ⟨e,k⟩:=h.hd;exact (zah.1 k).1
 ·obtain ⟨m,cs,e,d,_⟩:=h.out x hx;exact (zah.1 d).1
 obtain ⟨i,f⟩:=zap.1 hx;have a:=(zaa.1 f).1;rw [h.len] at a;rcases og with _ | g
 ·have:=h.no rfl; have:=h.le; omega
 obtain ⟨m,cs,e,d,o,l⟩:=h.out g rfl;obtain ⟨c,_,j⟩:=l i x ns[i] f (by simp [a]);exact j.lt
theorem TL.rel (h:TL w b og gs cap ns n) (t:∀x,Ft b og gs x->R x):RelV w R (.sl 1 (ns.map n7)) (.slice (adr og) ns.length cap):=by
 rcases og with _ | g
 ·have v:=h.no rfl;have u:=h.le;have z:ns=[]:=List.eq_nil_of_length_eq_zero (by omega);subst z;subst v;exact .sl 1 [] none 0 (by simp) (by simp) 0 0 (λ _ _=>undef) (by simp) (by simp) (by simp) (by simp)
 obtain ⟨v,cs,e,u,z,A⟩:=h.out g rfl
 have a:∀(i:Nat) (x:RV),(ns.map n7)[i]?=some x->∃l f c,ns[i]?=some l/\x=n7 l/\gs[i]?=some f/\cs[i]?=some (.slice (some ⟨f,0,none⟩) l.length c)/\ow w f l c:=λ i x d=>by
  rw [List.getElem?_map,zao] at d;obtain ⟨l,s,rfl⟩:=d;have k:=(zaa.1 s).1;have m:gs[i]?=some (gs[i]'(by rw [h.len]; exact k)):=by simp [h.len,k]
  obtain ⟨c,o,q⟩:=A i _ l m s;exact ⟨l,_,c,s,rfl,m,o,q⟩
 have r:=RelV.sl (w:=w) (R:=R) 1 (ns.map n7) (some ⟨g,0,none⟩) cap (by simpa using h.le) h.mx g 0 (λ i _=>(cs[i]?).getD undef) (λ _=>⟨rfl,t g (.inr (.inl rfl))⟩) (λ i x d=>by
  obtain ⟨l,f,c,_,rfl,_⟩:=a i x d
  rfl) (λ i x j y d p=>by
  obtain ⟨l,f,c,_,rfl,_,o,_⟩:=a i x d;have:j=0:=by have:=(zaa.1 p).1; simp [n7,RV.cells] at this; exact this
  subst this;simp only [World.cell?,u,zal,Bool.false_eq_true,if_false,zag,Nat.mul_one,Nat.add_zero,o,zai];exact ⟨trivial,rfl⟩) (λ i x j y d p=>by
  obtain ⟨l,f,c,_,rfl,B,o,q⟩:=a i x d;have:j=0:=by have:=(zaa.1 p).1; simp [n7,RV.cells] at this; exact this
  subst this;simp [n7,RV.cells] at p;subst p;simp only [o,zai]
  exact q.rel (t f (.inr (.inr (zaj B)))))
 simpa [adr] using r
theorem TL.rp (h:TL w b og gs cap ns n) (d:∀x,Ft b og gs x->R x) :
 ∃g:Nat->Value,∀(j:Nat) (y:RV),(l4 ns n)[j]?=some y->w.cell? ⟨b,0+j,none⟩=some (g j)/\(g j).oneCell'=true/\RelV w R y (g j):=by
 obtain ⟨e,c⟩:=h.hd;refine ⟨λ j=>(#[Value.slice (adr og) ns.length cap,.int .i64 n][j]?).getD undef,λ j y a=>?_⟩
 match j,a with
 | 0,a=>
   simp [l4] at a;subst a;refine ⟨by simp [World.cell?,c],rfl,h.rel d⟩
 | 1,a=>
   simp [l4] at a;subst a;exact ⟨by simp [World.cell?,c],rfl,.v _⟩
 | j+2,a=>simp [l4] at a
def fpt (b:Option Nat) (a:List Nat):Nat->Option Nat
 | 0=>b
 | j+1=>a[j]?
theorem aaw {x:Nat}:(∃j,fpt og gs j=some x)↔(og=some x\/x∈gs):=by
 constructor
 ·rintro ⟨j,a⟩;cases j with
  | zero=>exact .inl a
  | succ j=>exact .inr (zaj a)
 rintro (h | h)
 ·exact ⟨0,h⟩
 obtain ⟨i,b⟩:=zap.1 h;exact ⟨i+1,b⟩
end
def a4q (ns:List (List Ky)) (n:Int):AbsT where
 size:=2
 Q w b i:=∃d a cap,TL w b d a cap ns n/\i=fpt d a
 loc:=by
  rintro w w' b i ⟨d,a,cap,h,rfl⟩ k g;refine ⟨d,a,cap,h.loc λ x hx=>?_,rfl⟩;rcases hx with rfl | hx
  ·exact k
  obtain ⟨j,f⟩:=aaw.2 hx;exact g j x f
 root:=by
  rintro w b i ⟨d,a,cap,h,rfl⟩;obtain ⟨e,l⟩:=h.hd;exact ⟨_,e,l,rfl⟩
 lt:=by
  rintro w b i ⟨d,a,cap,h,rfl⟩ j c g;exact h.lt c (.inr (aaw.1 ⟨j,g⟩))
 view:=l4 ns n
 rp:=by
  rintro w b i R ⟨d,a,cap,h,rfl⟩ k g;refine h.rp λ x hx=>?_;rcases hx with rfl | hx
  ·exact k
  obtain ⟨j,f⟩:=aaw.2 hx;exact g j x f

theorem glT (w:World):Gl P0 w λ _=>False:=gl_none (by kernel_rfl) (λ _=>by kernel_rfl) (λ _=>by kernel_rfl) w
def Ky.val (k:Ky):Value:=.agg #[.int .u64 k.c,.int .i64 k.v,.int .i64 k.d]
theorem Ky.rel {w:World} (k:Ky):RelV w R k.rv k.val:=by
 refine .agg _ _ rfl λ i x c hx hc=>?_
 match i,hx,hc with
 | 0,hx,hc=>simp [Ky.val] at hx hc; subst hx; subst hc; exact .v _
 | 1,hx,hc=>simp [Ky.val] at hx hc; subst hx; subst hc; exact .v _
 | 2,hx,hc=>simp [Ky.val] at hx hc; subst hx; subst hc; exact .v _
 | i+3,hx,hc=>simp at hx
theorem axb {w:World} {x:Nat} (h:x<w.heap.size):aok w x:=⟨h,λ ⟨id,v,o,a,_⟩=>by simp [ob0,obs] at a,trivial⟩
variable {I:Nat->Prop}
theorem ahg {w w':World} (h:Go.RowKit.Below w.heap.size w w'):Keeps I w w':=⟨h.os,h.tape,h.output,h.size,λ b a _=>h.block b a⟩
section
variable {w:World} {b cap:Nat} {og:Option Nat} {gs:List Nat} {ns:List (List Ky)} {n:Int}
theorem ac1 (h:TL w b og gs cap ns n) (k:Ky) (r:Nat) (a:Nod ns k r):Calls P0 46 #[.pointer (some ⟨b,0,none⟩),k.val] w λ e w'=>e=.returned (.int .i64 ((r-1:Nat):Int))/\∀I,Keeps I w w':=by
 obtain ⟨g,d⟩:=h.rp (R:=aok w) λ x hx=>axb (h.lt x hx);refine (vi (am7 ns n k r a) w (glT w) rfl (rel0_cons (.rp _ b 0 g (axb (h.lt b (.inl rfl))) d) (rel0_cons (.r k.rel) rel0_nil))).mono ?_;rintro e w' ⟨c,rfl,f,ρ',i⟩;cases i with
 | r hv=>cases hv; exact ⟨rfl,λ I=>ahg f⟩
theorem ac8 {g:Nat} (h:ow w g l c) (k:Ky) (r:Nat) (q:Plc l k r):Calls P0 47 #[.slice (some ⟨g,0,none⟩) l.length c,k.val] w λ e w'=>
 e=.returned (.tuple #[.int .i64 r,.bool (decide (l[r]?=some k))])/\∀I,Keeps I w w':=by
 have a:l.length<=maxLen:=by obtain ⟨_,_,_,_,_,u,_,t⟩:=h; omega
 refine (vi (a3o l k r q a) w (glT w) rfl (rel0_cons (.r (h.rel (axb h.lt))) (rel0_cons (.r k.rel) rel0_nil))).mono ?_;rintro e w' ⟨c,rfl,s,ρ',j⟩;cases j with
 | tup _ cs a h=>
   have p:=h 0 _ (cs[0]'(by rw [a]; simp)) rfl (by simp [a]);have m:=h 1 _ (cs[1]'(by rw [a]; simp)) rfl (by simp [a]);refine ⟨?_,λ I=>ahg s⟩;congr 2;have d:∀{v c:Value},RelA w' (j8 (λ _=>True) (ob0 []) ρ' w') (ob0 []) ρ' (.r (.v v)) c->c=v:=λ h=>by cases h with | r h=>cases h; rfl
   have o:=d p;have n:=d m;apply Array.ext (by simp [a]);intro i b f
   match i,b,f with
   | 0,b,f=>simpa using o
   | 1,b,f=>simpa using n
   | i+2,b,f=>rw [a] at b; exact absurd (show i+2<2 from b) (by omega)
end
theorem aix {f:FuncId} {T D:AbsT} {res:Value} (hs:D.size=T.size) (h:∀(w:World) (b:Nat) (S:Nat->Option Nat),T.Q w b S->Calls P0 f #[.pointer (some ⟨b,0,none⟩),k.val] w λ e w'=>
 e=.returned res/\∃m,D.Q w' b m/\Keeps (λ x=>x=b\/∃j,S j=some x) w w'/\(∀j c,m j=some c->(∃R,S R=some c)\/w.heap.size<=c)) :
 a9 P0 f [.ptr 1000000 0 0,k.av] [.abs T] (.r (.v res)) [.abs D]:=by
 intro w a ρ B W hB V L p;have u:ob0 [Ob.abs T] 1000000=some (0,.abs T):=by simp [ob0,obs,upd]
 obtain ⟨b,t,U⟩:=V.obj 1000000 0 (.abs T) u
 have g:∀(G:AbsT) id x,ob0 [Ob.abs G] id=some x->id=1000000/\x=(0,.abs G):=λ G id x hx=>by
  obtain ⟨n,d,Z⟩:=sj hx
  have:id-1000000=0:=by
   have:=(zaa.1 d).1;simpa using this
  have g:id=1000000:=by omega
  subst g;have H:ob0 [Ob.abs G] 1000000=some (0,.abs G):=by simp [ob0,obs,upd]
  rw [H] at hx;exact ⟨rfl,(Option.some.inj hx).symm⟩
 have l:∀x,ic (ob0 [.abs T]) ρ x↔(x=b\/∃j,ρ (.s 1000000 j)=some x):=λ x=>by
  constructor
  ·rintro ⟨id,y,n,d⟩;obtain ⟨rfl,rfl⟩:=g T id _ n;rcases d with d | ⟨_,j,d⟩
   ·rw [t] at d; cases d; exact .inl rfl
   exact .inr ⟨j,d⟩
  rintro (rfl | ⟨j,d⟩)
  ·exact ⟨1000000,(0,.abs T),u,.inl t⟩
  exact ⟨1000000,(0,.abs T),u,.inr ⟨rfl,j,d⟩⟩
 have hc:a=#[.pointer (some ⟨b,0,none⟩),k.val]:=by
  simp at L;apply Array.ext (by simpa using L);intro i n d
  match i,n,d with
  | 0,n,d=>
    have q:=p 0 _ a[0] rfl (by simp [n]);generalize a[0]=c0 at q;cases q with
    | ptr _ _ _ _ hc1 hat=>
      obtain ⟨b',J,rfl⟩:=hat.live u;rw [t] at J;cases J
      rfl
  | 1,n,d=>
    have q:=p 1 _ a[1] rfl (by simp [n]);generalize a[1]=Y at q;cases q with
    | r q=>
      cases q with
      | agg xs cs hl q=>
        have A:∀{v c:Value},RelV w (j8 B (ob0 [.abs T]) ρ w) (.v v) c->c=v:=λ h=>by cases h; rfl
        simp only [Ky.val,List.getElem_toArray,List.getElem_cons_succ,List.getElem_cons_zero];congr 1;apply Array.ext (by simpa using hl);intro j z F
        match j,z,F with
        | 0,z,F=>exact A (q 0 _ cs[0] rfl (by simp [z]))
        | 1,z,F=>exact A (q 1 _ cs[1] rfl (by simp [z]))
        | 2,z,F=>exact A (q 2 _ cs[2] rfl (by simp [z]))
        | j+3,z,F=>exact absurd (show j+3<3 from F) (by omega)
  | i+2,n,d=>exact absurd (show i+2<2 from d) (by omega)
 subst hc;refine (h w b _ U).mono ?_;rintro e w' ⟨rfl,m,O,I,N⟩;obtain ⟨ρ',n,d⟩:∃ρ':Pl->Option Nat,ρ' (.o 1000000)=some b/\∀j,ρ' (.s 1000000 j)=m j:=⟨fun | .o i=>if i=1000000 then some b else none | .s i j=>if i=1000000 then m j else none,by simp,by simp⟩
 refine ⟨_,ρ',rfl,⟨λ id v o hx=>?_,λ id M x x' c hx K _ _=>?_,⟨I.os,I.tape,I.output,I.size,λ c hc X=>I.block c hc λ hx=>X ((l c).2 hx)⟩,λ id v o c hx C=>?_,λ id c E=>?_⟩,.r (.v _)⟩
 ·obtain ⟨rfl,hx⟩:=g D id _ hx;cases hx;refine ⟨b,n,?_⟩;rw [show (λ j=>ρ' (.s 1000000 j))=m from funext d];exact O
 ·rw [(g D id _ hx).1,(g D M _ K).1]
 ·obtain ⟨rfl,hx⟩:=g D id _ hx;cases hx;rcases C with C | ⟨_,j,C⟩
  ·rw [n] at C; cases C; exact .inl ((l b).2 (.inl rfl))
  rw [d] at C;rcases N j c C with ⟨R,P⟩ | h
  ·exact .inl ((l c).2 (.inr ⟨R,P⟩))
  exact .inr h
 simp only [ke] at E;split at E
 ·rename_i v o hx;split at E
  ·rename_i ho;obtain ⟨rfl,K⟩:=g T id _ hx;refine ⟨?_,_,by simp [ob0,obs,upd]; rfl,rfl,λ h=>by cases h⟩;rw [n,<- E,t]
  cases E
 cases E

open Go Go.RowKit
variable {x:Obj}
theorem ou {w:World} {k:Nat} (h:k<w.heap.size):(w.alloc x).heap[k]?=w.heap[k]?:=by
 show (w.heap.push x)[k]? = _;simp [Array.getElem?_push,Nat.ne_of_lt h]
theorem mq {w:World} {k:Nat} (h:k=w.heap.size):(w.alloc x).heap[k]?=some x:=by
 subst h;show (w.heap.push x)[w.heap.size]? = _;simp
theorem t6 {w:World}:Keeps I w (w.alloc x):=afp (ae x)
theorem Keeps.mono {J:Nat->Prop} {w w':World} (h:Keeps I w w') (c:∀x,I x->J x):Keeps J w w':=⟨h.os,h.tape,h.output,h.size,λ b d a=>h.block b d λ hx=>a (c b hx)⟩
theorem a2l {w:World} {b cap:Nat} {G:Option Nat} {H:List Nat} {n:Int} (h:TL w b G H cap [] n) (k:Ky):Calls P0 26 #[.pointer (some ⟨b,0,none⟩),k.val] w λ e w'=>e=.returned (.bool true) /\
 ∃E F D,TL w' b E F D [[k]] 1/\Keeps (Ft b G H) w w'/\∀x,Ft b E F x->Ft b G H x\/w.heap.size<=x:=by
 obtain ⟨e,A⟩:=h.hd;have Q:=h.lt b (.inl rfl);have hc:w.cell? ⟨b,0,none⟩=some (.slice (adr G) 0 cap):=by simp [World.cell?,A]
 have R:w.cell? ⟨b,1,none⟩=some (.int .i64 n):=by simp [World.cell?,A]
 have S:w.frozen? ⟨b,0,none⟩=false:=by simp [World.frozen?,A]
 have U:w.frozen? ⟨b,1,none⟩=false:=by simp [World.frozen?,A]
 have M:b<w.heap.size+1:=by omega
 have L:b<w.heap.size+1+1:=by omega
 have T:¬b=w.heap.size:=by omega
 have O:¬b=w.heap.size+1:=by omega
 have X:¬b=w.heap.size+1+1:=by omega
 simp only [Ky.val]
 go_enter func26,Go.Proofs.Tryz.ntmps26
 go_wp2_with fail
 go_ret
 rw [setCell_eq_setRow w b 0 _ _ _ _ A,setCell_eq_setRow _ b 1 _ _ _ _ (setRow_heap w b _ _ _ _ A),setRow_setRow];generalize B:w.setRow b _=I;have P:I.heap[b]?=some (.cells #[.slice (some ⟨w.heap.size+1+1,0,none⟩) 1 1,.int .i64 1] e):=by rw [<- B]; exact setRow_heap w b _ _ _ _ A
 have Y:Keeps (· = b) w I:=by rw [<- B]; exact ab1 A
 have C:I.heap.size=w.heap.size:=by rw [<- B]; simp [World.setRow]
 refine ⟨rfl,some (w.heap.size+1+1),[w.heap.size+1],1,⟨⟨e,?_⟩,by simp,by simp [maxLen],by simp,λ g W=>?_,rfl,?_⟩,?_,λ x hx=>?_⟩
 ·rw [ou (by simp [C]; omega),ou (by simp [C]; omega),ou (by simp [C]; omega),P]
  rfl
 ·cases W;refine ⟨by omega,_,_,mq (by simp [C]),by simp,λ i Z l J N=>?_⟩;have K:i=0:=by have:=(zaa.1 J).1; simp at this; exact this
  subst K;simp at J N;subst J; subst N;refine ⟨1,rfl,_,_,by rw [ou (by simp [C])]; exact mq (by simp [C]),by simp,?_,by simp,by simp,by simp [maxLen]⟩;intro j u V;simpa [flat,kc] using V
 ·simp;omega
 ·exact (Y.mono λ x hx=>.inl hx).trans ((t6.trans t6).trans t6)
 rcases hx with h | h | h
 ·exact .inl (.inl h)
 ·simp at h; omega
 simp at h; omega

open Go Go.RowKit
section
variable {w:World} {b g cap:Nat} {og:Option Nat} {gs:List Nat} {ns:List (List Ky)} {n:Int}
theorem TL.root (h:TL w b (some g) gs cap ns n):w.cell? ⟨b,0,none⟩=some (.slice (some ⟨g,0,none⟩) ns.length cap)/\w.cell? ⟨b,1,none⟩=some (.int .i64 n)/\w.frozen? ⟨b,0,none⟩=false/\w.frozen? ⟨b,1,none⟩=false/\b<w.heap.size:=by
 obtain ⟨e,a⟩:=h.hd;exact ⟨by simp [World.cell?,a,adr],by simp [World.cell?,a],by simp [World.frozen?,a],by simp [World.frozen?,a],h.lt b (.inl rfl)⟩
theorem TL.some_ (h:TL w b og gs cap ns n) (a:ns[i]?=some l):∃g,og=some g:=by
 rcases og with _ | g
 ·have:=h.no rfl;have:=h.le;have:=(zaa.1 a).1;omega
 exact ⟨g,rfl⟩
theorem TL.node (h:TL w b (some g) gs cap ns n) (k:ns[i]?=some l):∃f c,gs[i]?=some f/\ow w f l c/\w.cell? ⟨g,i,none⟩=some (.slice (some ⟨f,0,none⟩) l.length c)/\w.frozen? ⟨g,i,none⟩=false:=by
 obtain ⟨q,cs,e,j,r,o⟩:=h.out g rfl;have d:=(zaa.1 k).1;have a:gs[i]?=some (gs[i]'(by rw [h.len]; exact d)):=by simp [h.len,d]
 obtain ⟨c,p,m⟩:=o i _ l a k;exact ⟨_,c,a,m,by simp [World.cell?,j,p],by simp [World.frozen?,j]⟩
end
def KB (w:World) (B:Nat) (k:Ky):Prop:=w.heap[B]?=some (.cells #[.int .u64 k.c,.int .i64 k.v,.int .i64 k.d] 55 (0,0))
variable {B:Nat}
theorem KB.cells {w:World} (h:KB w B k):w.cell? ⟨B,0,none⟩=some (.int .u64 k.c)/\w.cell? ⟨B,1,none⟩=some (.int .i64 k.v)/\w.cell? ⟨B,2,none⟩=some (.int .i64 k.d):=by
 unfold KB at h;exact ⟨by simp [World.cell?,h],by simp [World.cell?,h],by simp [World.cell?,h]⟩
theorem KB.keeps {w w':World} (h:KB w B k) (b:Keeps I w w') (a:¬I B):KB w' B k:=by
 unfold KB at h |-;rw [b.block B (zah.1 h).1 a];exact h
theorem TL.keeps {w w':World} {b cap:Nat} {c:Option Nat} {a:List Nat} {ns:List (List Ky)} {n:Int} (h:TL w b c a cap ns n) (e:Keeps I w w') (d:∀x,Ft b c a x->¬I x):TL w' b c a cap ns n:=
 h.loc λ x hx=>e.block x (h.lt x hx) (d x hx)
theorem a2k {w:World} {b cap:Nat} {H:Option Nat} {G:List Nat} {ns:List (List Ky)} {n:Int} (h:TL w b H G cap ns n) (k:Ky) (r s:Nat) (l:List Ky) (K:Nod ns k r) (F:ns[r-1]?=some l) (S:Plc l k s) (Q:l[s]?=some k):Calls P0 26 #[.pointer (some ⟨b,0,none⟩),k.val] w λ e w'=>e=.returned (.bool false) /\
 TL w' b H G cap ns n/\∀I,Keeps I w w':=by
 obtain ⟨g,rfl⟩:=h.some_ F;have R:r-1<ns.length:=(zaa.1 F).1;generalize P:r-1=i at *;obtain ⟨X,V,U,Z,N⟩:=h.root;have L:((ns.length:Int) == 0)=false:=by rw [beq_eq_false_iff_ne]; omega
 have E:∀x,Keeps (λ _=>False) w (w.alloc x):=λ x=>t6;have i0:(0:Int)<=(i:Int):=by omega
 have i1:(i:Int)<(ns.length:Int):=by omega
 simp only [Ky.val]
 go_enter func26,Go.Proofs.Tryz.ntmps26
 go_wp2_with fail
 have J:=h.keeps (E (.cells #[.int .u64 k.c,.int .i64 k.v,.int .i64 k.d] 55)) (λ _ _ q=>q);have M:KB (w.alloc (.cells #[.int .u64 k.c,.int .i64 k.v,.int .i64 k.d] 55)) w.heap.size k:=mq rfl;refine (ac1 J k r K).mono ?_;rintro e w2 ⟨rfl,A⟩;rw [P];have D:=J.keeps (A λ _=>False) (λ _ _ q=>q);have T:=M.keeps (A λ _=>False) (λ q=>q);obtain ⟨d0,d1,f2,f3,_⟩:=D.root;obtain ⟨W,c,O,C,Y,f4⟩:=D.node F;obtain ⟨k0,k1,k2⟩:=T.cells
 go_wp2_with fail
 refine (ac8 C k s S).mono ?_;rintro e w3 ⟨rfl,B⟩;rw [decide_eq_true Q]
 go_wp2_with fail
 go_ret
 refine ⟨rfl,D.keeps (B λ _=>False) (λ _ _ q=>q),λ I=>(t6.trans (A I)).trans (B I)⟩

open Go Go.RowKit
theorem ry (a b:List Ky):flat (a++b)=flat a++flat b:=by simp [flat]
theorem auh (k:Ky) (b:List Ky):flat (k::b)=kc k++flat b:=by simp [flat]
variable {α:Type}
theorem aq0 (L:List α) (i:Nat) (a b c:α) (h:i+3<=L.length):((L.set i a).set (i+1) b).set (i+2) c=c8 L i [a,b,c]:=by
 apply zak;intro j;rw [y6 (by simpa using h)];simp only [List.getElem?_set,List.length_set,List.length_cons,zae];by_cases e:j=i
 ·subst e; simp; omega
 by_cases d:j=i+1
 ·subst d; simp; omega
 by_cases f:j=i+2
 ·subst f; simp; omega
 rw [if_neg (by omega),if_neg (by omega),if_neg (by omega),if_neg (by omega)]
theorem ab2 {cs:List Value} {s:Nat} (g:s<=l.length) (f:(flat l++kc k) <+: cs) :
 flat (l.take s++k::l.drop s) <+: c8 (c8 cs ((s+1)*3) ((cs.drop (s*3)).take ((l.length-s)*3))) (s*3) (kc k):=by
 obtain ⟨t,rfl⟩:=f;obtain ⟨A,b⟩:∃A,A=flat (l.take s):=⟨_,rfl⟩
 obtain ⟨D,a⟩:∃D,D=flat (l.drop s):=⟨_,rfl⟩
 have q:flat l=A++D:=by rw [b,a,<- ry,zaq]
 have o:A.length=s*3:=by rw [b,v6,List.length_take,Nat.min_eq_left g]
 have j:D.length=(l.length-s)*3:=by rw [a,v6,List.length_drop]
 have d:(kc k).length=3:=rfl;rw [ry,auh,<- b,<- a,q,<- o,<- j,show (s+1)*3=A.length+3 by omega];refine ⟨t,?_⟩;obtain ⟨E,c⟩:∃E,E=(D++kc k++t).take 3:=⟨_,rfl⟩
 have e:E.length=3:=by rw [c]; simp; omega
 have i:(A++D++kc k++t).take (A.length+3)=A++E:=by
  rw [c,zad A D,zad A,List.take_length_add_append]
 have h:((A++D++kc k++t).drop A.length).take D.length=D:=by
  rw [zad A D,zad A,List.drop_left,zad D,List.take_left]
 have m:(A++D++kc k++t).drop (A.length+3+D.length)=t:=by
  have:A.length+3+D.length=(A++D++kc k).length:=by simp [d]; omega
  rw [this,List.drop_left]
 have n:c8 (A++D++kc k++t) (A.length+3) D=A++(E++(D++t)):=by
  unfold c8;rw [i,m];simp
 rw [h,n];unfold c8
 have p:(A++(E++(D++t))).drop (A.length+3)=D++t:=by
  have:A.length+3=(A++E).length:=by simp [e]
  rw [this,<- zad,List.drop_left]
 rw [List.take_left,d,p];simp
variable {cs2:Array Value} {X:List Value}
theorem a2m (h:∀j,j<X.length->cs2[j]?=X[j]?) (b:X.length<=cs2.size):X <+: cs2.toList:=by
 rw [List.prefix_iff_eq_take];apply zak;intro j;rw [zab];by_cases a:j<X.length
 ·rw [if_pos a,<- h j a];simp
 rw [if_neg a];simp;omega
theorem t7 {w w':World} {x:Nat} (h:w'.heap[x]?=w.heap[x]?) (o:Nat):w'.cell? ⟨x,o,none⟩=w.cell? ⟨x,o,none⟩:=by simp only [World.cell?,h]
theorem ba {w w':World} {x:Nat} (h:w'.heap[x]?=w.heap[x]?) (o:Nat):w'.frozen? ⟨x,o,none⟩=w.frozen? ⟨x,o,none⟩:=by simp only [World.frozen?,h]
variable {cs:Array Value} {e:TypeId} {fr:Nat×Nat}
theorem qr {w:World} {g o:Nat} (h:w.heap[g]?=some (.cells cs e fr)) (a:o<cs.size):∃v,w.cell? ⟨g,o,none⟩=some v:=⟨cs[o],by simp [World.cell?,h,a]⟩
theorem jd {w:World} {g o:Nat} (h:w.heap[g]?=some (.cells cs e (0,0))):w.frozen? ⟨g,o,none⟩=false:=by simp [World.frozen?,h]
theorem abp {w:World}:(w.alloc x).heap.size=w.heap.size+1:=by simp
variable {v:Value}
theorem u9 {w:World} {g o:Nat} (h:w.heap[g]?=some (.cells cs e fr)):(w.setCell ⟨g,o,none⟩ v).heap[g]?=some (.cells (cs.setIfInBounds o v) e fr):=by
 rw [setCell_eq_setRow w g o cs e fr v h];exact setRow_heap w g _ _ _ _ h
theorem p5 {w:World} {g o x:Nat} (h:w.heap[g]?=some (.cells cs e fr)) (hx:x≠g):(w.setCell ⟨g,o,none⟩ v).heap[x]?=w.heap[x]?:=by
 rw [setCell_eq_setRow w g o cs e fr v h];exact setRow_other w g x _ hx
theorem p6 {w:World} {g o:Nat} (h:w.heap[g]?=some (.cells cs e fr)) (f:I g):Keeps I w (w.setCell ⟨g,o,none⟩ v):=by
 rw [setCell_eq_setRow w g o cs e fr v h];have a:=ab1 (cs:=cs.setIfInBounds o v) h;exact ⟨a.os,a.tape,a.output,a.size,λ b d c=>a.block b d λ q=>c (q▸f)⟩
theorem jb {w w':World} (h:Keeps (λ x=>I x\/w.heap.size<=x) w w'):Keeps I w w':=⟨h.os,h.tape,h.output,h.size,λ b c a=>h.block b c λ q=>by rcases q with q | q; exact a q; omega⟩
theorem zn {a:Nat} (b:a<=l.length):(flat l)[a*3+j]?=(flat (l.drop a))[j]?:=by
 have:flat l=flat (l.take a)++flat (l.drop a):=by rw [<- ry,zaq]
 have c:(flat (l.take a)).length=a*3:=by rw [v6,List.length_take,Nat.min_eq_left b]
 rw [this,zan (by omega),c];congr 1;omega
theorem aep {a:Nat} {u:Value} (h:(flat (l.take a))[j]?=some u):(flat l)[j]?=some u:=by
 have:flat l=flat (l.take a)++flat (l.drop a):=by rw [<- ry,zaq]
 rw [this,zac (zaa.1 h).1];exact h
variable {A:List Value}
theorem amw (c:∀(j:Nat) (u:Value),A[j]?=some u->cs[j]?=some u):cs.toList.take A.length=A:=by
 apply zak;intro j;rw [zab];by_cases a:j<A.length
 ·have b:A[j]?=some A[j]:=by simp [a]
  rw [if_pos a,b,<- c j _ b];simp
 rw [if_neg a,eq_comm,List.getElem?_eq_none_iff];omega
theorem apk {B:List Value} {N:Nat} (b:A.length=N) (a:∀(j:Nat) (u:Value),A[j]?=some u->cs[j]?=some u) (h:∀j,j<N+B.length->cs2[j]?=(cs.toList.take N++B)[j]?) (c:N+B.length<=cs2.size):(A++B) <+: cs2.toList:=by
 subst b;rw [amw a] at h;exact a2m (λ j d=>h j (by simpa using d)) (by simpa using c)
theorem ao8 {L:List Value} (e:X <+: L) (d:∀u∈X,u.oneCell'=true) {a m:Nat} (h:a+m<=X.length):∀u∈(L.drop a).take m,u.oneCell'=true:=λ u c=>by
 obtain ⟨t,rfl⟩:=e;obtain ⟨j,b⟩:=zap.1 c;rw [zab] at b;split at b
 ·rw [List.getElem?_drop,zac (by omega)] at b;exact d u (zaj b)
 cases b
theorem a3g {L:List α} {x y:α} (h:i<L.length) (j:Nat):(L.take i++x::y::L.drop (i+1))[j]?=if j<i then L[j]? else if j=i then some x else if j=i+1 then some y else L[j-1]?:=by
 have d:(L.take i).length=i:=by simp; omega
 rw [List.getElem?_append,d];by_cases a:j<i
 ·rw [if_pos a,if_pos a,zab,if_pos a]
 rw [if_neg a,if_neg a];by_cases c:j=i
 ·subst c; simp
 rw [if_neg c];by_cases b:j=i+1
 ·subst b; simp
 rw [if_neg b];obtain ⟨m,rfl⟩:∃m,j=i+2+m:=⟨j-(i+2),by omega⟩
 rw [show i+2+m-i=m+2 by omega];simp only [List.getElem?_cons_succ,List.getElem?_drop];congr 1;omega
section
variable {w w':World} {b g cap:Nat} {gs:List Nat} {ns:List (List Ky)} {n n':Int}
theorem TL.put (h:TL w b (some g) gs cap ns n) (H:i<ns.length) {k c2:Nat} {s:List Ky} (S:∃e,w'.heap[b]?=some (.cells #[.slice (some ⟨g,0,none⟩) ns.length cap,.int .i64 n'] e (0,0)))
 (R:∃cs e,w.heap[g]?=some (.cells cs e (0,0))/\w'.heap[g]?=some (.cells (cs.setIfInBounds i (.slice (some ⟨k,0,none⟩) s.length c2)) e (0,0))) (p:ow w' k s c2)
 (K:∀(j x:Nat),j≠i->gs[j]?=some x->w'.heap[x]?=w.heap[x]?) (f:gs[i]?=some k\/(k≠b/\k≠g/\k∉gs)):TL w' b (some g) (gs.set i k) cap (ns.set i s) n':=by
 obtain ⟨P,cs,e,M,Q,N⟩:=h.out g rfl;obtain ⟨U,e',B,F⟩:=R;rw [M] at B;cases B;refine ⟨?_,by simpa using h.le,h.mx,by simp,λ V t=>?_,by simp [h.len],?_⟩
 ·obtain ⟨e,D⟩:=S;exact ⟨e,by rw [D]; simp [adr]⟩
 ·cases t;refine ⟨P,_,_,F,by simpa using Q,λ j x l o r=>?_⟩;rw [List.getElem?_set] at o r;by_cases a:i=j
  ·subst a;simp [h.len,H] at o r;subst o; subst r;refine ⟨c2,?_,p⟩;have:i<cs.size:=by have:=h.le; omega
   simp [this]
  rw [if_neg a] at o r;obtain ⟨c,O,G⟩:=N j x l o r;refine ⟨c,?_,G.loc (K j x (Ne.symm a) o)⟩;rw [Array.getElem?_setIfInBounds,if_neg a];exact O
 have m:=h.nb;simp only [Option.toList_some,List.cons_append,List.nil_append] at m |-;rcases f with f | ⟨E,p2,I⟩
 ·have:gs.set i k=gs:=by
   apply zak;intro j;rw [List.getElem?_set];split
   ·rename_i a; subst a; rw [f]; simp; exact (zaa.1 f).1
   rfl
  rw [this];exact m
 simp only [List.nodup_cons,List.mem_cons,not_or] at m |-;obtain ⟨⟨L,T⟩,J,C⟩:=m;refine ⟨⟨L,λ d=>?_⟩,λ d=>?_,?_⟩
 ·rcases List.mem_or_eq_of_mem_set d with d | d
  ·exact T d
  exact E d.symm
 ·rcases List.mem_or_eq_of_mem_set d with d | d
  ·exact J d
  exact p2 d.symm
 rw [List.Nodup,List.pairwise_iff_getElem] at C |-;intro x y hx hy u;rw [List.length_set] at hx hy;simp only [List.getElem_set];have v:∀z (A:z<gs.length),gs[z]≠k:=λ z A q=>I (q▸List.getElem_mem A);split
 ·rw [if_neg (by omega)];exact λ q=>v y hy q.symm
 split
 ·exact v x hx
 exact C x y hx hy u
end

end
end Go.Ev

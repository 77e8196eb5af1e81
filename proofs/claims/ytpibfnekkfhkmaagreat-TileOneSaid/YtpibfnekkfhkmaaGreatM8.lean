import Derived.WalkKit
import Derived.Test.YtpibfnekkfhkmaaGreatM7
open Nat renaming reduceBEq → zB, reduceEqDiff → zE, reduceAdd → zA, reduceSub → zS, reduceLT → zL, reduceLeDiff → zD, reduceMul → zM
open Go.Proofs.Tryz renaming prog → P0
open Go.Proofs.Tryz
open List renaming getElem?_eq_some_iff → zaa, getElem?_take → zab, getElem?_append_left → zac, append_assoc → zad, mem_of_getElem? → zai, ext_getElem? → zaj, getElem?_toArray → zal, getElem?_append_right → zam, mem_iff_getElem? → zao, take_append_drop → zap
open Nat renaming zero_add → zae
open Array renaming getElem?_eq_some_iff → zaf
open Option renaming getD_some → zah, isSome_none → zak, map_eq_some_iff → zan
namespace Go.Ev
set_option maxRecDepth 100000
noncomputable section
open Go
set_option linter.unusedSectionVars false
set_option linter.unnecessarySimpa false
set_option linter.unusedSimpArgs false
set_option linter.unusedVariables false
def aau:Mk P0 f158:={ x:=_ }
theorem afg:d5 158 3 aau:=c8 func158
def adg:Mk P0 f111:={ x:=_ }
theorem ahg:d5 111 2 adg:=c8 func111
def i7 (ns:List (List Ky)) (n:Int):List RV:=[.sl 1 (ns.map l9),.v (.int .i64 n)]
theorem bcv (ns:List (List Ky)) (n:Int) (k q:Ky) (x:List Ky) (i:Nat) (hi:i<ns.length) (hx:ns[i]?=some (q::x)) (hl:ns.length≤maxLen) (hl2:(q::x).length≤maxLen) :
  a8 P0 158 [int .i64 i,.ptr 1000000 0 0,.ptr 1000001 0 0] [.box k.cs,.box [.rp (i7 ns n)]] (bl (kl k q)) [.box k.cs,.box [.rp (i7 ns n)]]:=by
 refine afg rfl (by simp) ?_
 have hg:(ns.map l9).getD ((i:Int)).toNat (.sl 3 [])=.sl 3 (q.rv::x.map Ky.rv):=by
  simp [List.getD,hx,l9]
 have hg2:(q.rv::x.map Ky.rv).getD (Int.toNat 0) (.agg [.v (.int .u64 0),.v (.int .i64 0),.v (.int .i64 0)])=.agg [.v (.int .u64 q.c),.v (.int .i64 q.v),.v (.int .i64 q.d)]:=rfl;simp only [aau,i7,Ky.cs,hg,hg2,push_cast,↓reduceIte,reduceCtorEq,zB,zE,zA,zS,zL,zD,zM];refine And.intro ⟨by omega,by omega⟩ (And.intro ⟨by omega,by omega⟩ ?_);refine d9 (aez k q) rfl trivial ?_;simp only [push_cast,↓reduceIte,reduceCtorEq,zB,zE,zA,zS,zL,zD,zM];kernel_rfl
structure Nod (ns:List (List Ky)) (k:Ky) (r:Nat):Prop where
 le:r≤ns.length
 len:ns.length≤maxLen
 ne:∀(i:Nat) (l:List Ky),ns[i]?=some l→l≠[]∧l.length≤maxLen
 lo:∀(i:Nat) (q:Ky) (x:List Ky),i<r→ns[i]?=some (q::x)→kl k q=false
 hi:∀(i:Nat) (q:Ky) (x:List Ky),r≤i→ns[i]?=some (q::x)→kl k q=true
def a1q (ns:List (List Ky)) (k:Ky) (i:Nat):Bool:=match ns[i]? with
 | some (q::_)=>kl k q
 | _=>true
theorem Nod.at_ {ns:List (List Ky)} {k:Ky} {r:Nat} (h:Nod ns k r) {i:Nat} (hi:i<ns.length):∃q x,ns[i]?=some (q::x)∧(q::x).length≤maxLen:=by
 have hq:ns[i]?=some ns[i]:=by simp [hi]
 obtain ⟨h1,h2⟩:=h.ne i _ hq;rcases hx:ns[i] with _ | ⟨q,x⟩
 ·exact absurd hx h1
 ·rw [hx] at hq h2;exact ⟨q,x,hq,h2⟩
theorem awk (ns:List (List Ky)) (n:Int) (k:Ky) (r:Nat) (h:Nod ns k r):a8 P0 111 [.rp (i7 ns n),k.av] [] (int .i64 ((r-1:Nat):Int)) []:=by
 refine ahg rfl (by decide) ?_
 have hS:=avv 158 k.cs [.rp (i7 ns n)] rfl rfl rfl (a1q ns k) ns.length r h.len h.le (fun i hi=>by
  obtain ⟨q,x,h1,_⟩:=h.at_ (i:=i) (by have:=h.le; omega);simp only [a1q,h1,h.lo i q x hi h1]) (fun i hi hn=>by
  obtain ⟨q,x,h1,_⟩:=h.at_ hn;simp only [a1q,h1,h.hi i q x hi h1]) (fun i hn=>by
  obtain ⟨q,x,h1,h2⟩:=h.at_ hn;simp only [a1q,h1]
  exact bcv ns n k q x i hn h1 h.len h2)
 push_cast [adg,i7,Ky.av,Ky.rv,List.length_nil,List.length_map]
 refine a5 hS rfl ⟨rfl,rfl,trivial⟩ ?_
 push_cast [i7,Ky.cs,List.length_map]
 have hm:(ns.length:Int)≤9223372036854775807:=by have:=h.len; simp only [maxLen] at this; omega
 have hle:=h.le;rw [a7 ⟨by omega,by omega⟩,show max ((r:Int)-1) 0=((r-1:Nat):Int) by omega]


section
variable {P:Program} {w:World} {o:Oper} {a:Act} {K:Act→World→Prop} {Q:Exit→Act→World→Prop}
theorem abo {w:World} {g off size m m' c:Nat} {cs:Array Value} {e:TypeId} {fr:Nat×Nat} {news:List Value} (hg:w.heap[g]?=some (.cells cs e fr)) (hn:news.length=m*size)
  (hj:∀(j:Nat) (u:Value),news[j]?=some u→cs[off+j]?=some u):∀W:World,W.heap=w.heap→(Builtin.firstCells size m (.slice (some ⟨g,off,none⟩) m' c)).run P W=.ok news.toArray W:=fun W hW=>by
 refine run_firstCells_some W size m ⟨g,off,none⟩ m' c news hn fun j u hu=>?_;rw [dm];simp only [World.cell?,hW,hg,zak,Bool.false_eq_true,if_false];exact hj j u hu
theorem bdk {w:World} {size m' c:Nat} {A:Option Addr}:∀W:World,W.heap=w.heap→(Builtin.firstCells size 0 (.slice A m' c)).run P W=.ok #[] W:=fun W hW=>by
 cases A<;>simp [Builtin.firstCells,loadCells,loadCellsFrom]
theorem af6 {g:Nat} {old cs:Array Value} {t:TypeId} {fr:Nat×Nat} (hg:w.heap[g]?=some (.cells old t fr)):Keeps (· = g) w (w.setRow g cs):=
  have h:=ln (cs:=cs) hg
  ⟨rfl,rfl,rfl,by simp [World.setRow],fun k hk hn=>setRow_other w g k cs hn⟩
theorem ala {w':World} {x:Obj} {I:Nat→Prop} (h:OneMore w w' x):Keeps I w w':=⟨h.os,h.tape,h.output,by rw [h.heap]; simp,fun k hk _=>by rw [h.heap]; simp [Array.getElem?_push,Nat.ne_of_lt hk]⟩
theorem wp_app (x v : Operand) (t u : TypeId) (ho : o.op = .call { callee := .builtin .append, args := #[x, v], argTypes := #[t, u] }) {e d : TypeId} {inf : TypeInfo} {z : Value} {size bytes : Nat} (ht : P.underlying t = some (.slice e)) (hu : P.underlying u = some (.slice d))
    (hi:P.info? e=some inf) (hz:inf.zero=some z) (hzs:z.cells.size=inf.size) (hs:inf.size=size) (hby:inf.bytes=bytes) (g len cap:Nat) (hx:a.eval x=.slice (some ⟨g,0,none⟩) len cap) (hc:0<cap) {cs:Array Value} {e':TypeId} (hg:w.heap[g]?=some (.cells cs e' (0,0)))
    (hsz:cap*size≤cs.size) (hlc:len≤cap) {A2:Option Addr} {m c2:Nat} (hv:a.eval v=.slice A2 m c2) (news:List Value) (hnew:∀W:World,W.heap=w.heap→(Builtin.firstCells size m (.slice A2 m c2)).run P W=.ok news.toArray W)
    (hn:news.length=m*size) (h1:∀u∈news,u.oneCell'=true) (hmax:len+m≤maxLen) (hcap:cap≤maxLen) (hb:(len+m)*bytes≤140737488355328)
    (h:∀(g' cap':Nat) (cs':Array Value) (e2:TypeId) (w':World),(g'=g∨g'=w.heap.size)→0<cap'→len+m≤cap'→cap'≤maxLen→w'.heap[g']?=some (.cells cs' e2 (0,0))→cap'*size≤cs'.size →
      (∀j,j<(len+m)*size→cs'[j]?=(cs.toList.take (len*size)++news)[j]?)→Keeps (· = g) w w'→K (a.put o.dst (.slice (some ⟨g',0,none⟩) (len+m) cap')) w'):o.wp P a w K Q:=by
  subst hs; subst hby;have hlt:len*inf.size≤cs.size:=Nat.le_trans (Nat.mul_le_mul_right _ hlc) hsz;have hol:(cs.toList.take (len*inf.size)).length=len*inf.size:=by simp only [List.length_take,Array.length_toList]; exact Nat.min_eq_left hlt
  have hold:=abo (P:=P) (off:=0) (size:=inf.size) (m:=len) (m':=len) (c:=cap) (news:=cs.toList.take (len*inf.size)) hg hol (fun j u hu=>by
    rw [zab] at hu;split at hu
    · simpa using hu
    · cases hu)
  have hrun0:∀r,(Builtin.append_ #[t,u] o.type #[.slice (some ⟨g,0,none⟩) len cap,.slice A2 m c2]).run P w=r→(execOp a.eval o).run P w=r.andThen fun q w'=>.ok (.value q) w':=by
    rintro r rfl;simp [execOp,ho,resolve,invoke,builtin,hx,hv]
  unfold Oper.wp
  rcases run_app (P := P) (w := w) (ty := o.type) (A := some ⟨g, 0, none⟩) (A2 := A2) (len := len) (cap := cap) (m := m) (c2 := c2) (g := g) (cur := cs) (e' := e') (olds := cs.toList.take (len * inf.size)) (news := news) ht hu hi hz hzs hlc (fun _ => ⟨rfl, hg, hsz⟩) (fun _ k _ h => absurd h.2 (Nat.not_lt_zero k))
      hold hol hnew hn h1 hmax hb with ⟨hroom,hr⟩ | ⟨hgrow,K',w',rest,hr,hK1,hK2,hom,hlen⟩
  · rw [hrun0 _ hr,if_pos hc]
    have hfit:len*inf.size+news.length≤cs.toList.length:=by
      rw [hn,← Nat.add_mul]; simp; exact Nat.le_trans (Nat.mul_le_mul_right _ hroom) hsz
    refine h g cap _ e' _ (.inl rfl) hc hroom hcap (setRow_heap w g cs _ e' _ hg) ?_ (fun j hj=>?_) (af6 hg)
    · simp only [List.size_toArray,k7 hfit,Array.length_toList]; exact hsz
    · rw [zal,z5 hfit,hn];rw [Nat.add_mul] at hj;by_cases hj1:len*inf.size≤j
      · rw [if_pos ⟨hj1,hj⟩,zam (by rw [hol]; exact hj1),hol]
      · rw [if_neg (fun q=>hj1 q.1),zac (by rw [hol]; omega),zab,if_pos (by omega)]
  · rw [hrun0 _ hr];refine h w.heap.size K' _ e w' (.inr rfl) (by omega) hK1 hK2 hom.new ?_ (fun j hj=>?_) (ala hom)
    · simp only [List.size_toArray,hlen]; exact Nat.le_refl _
    · rw [zal,zac];simp only [List.length_append,hol,hn,← Nat.add_mul];exact hj
theorem ba1 (x v:Operand) (t u:TypeId) (ho:o.op=.call { callee:=.builtin .append,args:=#[x,v],argTypes:=#[t,u] }) {e d:TypeId} {inf:TypeInfo} {z:Value} {size bytes:Nat} (ht:P.underlying t=some (.slice e)) (hu:P.underlying u=some (.slice d))
  (hi:P.info? e=some inf) (hz:inf.zero=some z) (hzs:z.cells.size=inf.size) (hs:inf.size=size) (hby:inf.bytes=bytes) {A:Option Addr} (hx:a.eval x=.slice A 0 0)
  {A2:Option Addr} {m c2:Nat} (hv:a.eval v=.slice A2 m c2) (hm:0<m) (news:List Value) (hnew:∀W:World,W.heap=w.heap→(Builtin.firstCells size m (.slice A2 m c2)).run P W=.ok news.toArray W)
  (hn:news.length=m*size) (h1:∀u∈news,u.oneCell'=true) (hmax:m≤maxLen) (hb:m*bytes≤140737488355328)
  (h:∀(cap':Nat) (cs':Array Value) (w':World),m≤cap'→cap'≤maxLen→w'.heap[w.heap.size]?=some (.cells cs' e (0,0))→cap'*size≤cs'.size →
   (∀j,j<m*size→cs'[j]?=news[j]?)→(∀I,Keeps I w w')→K (a.put o.dst (.slice (some ⟨w.heap.size,0,none⟩) m cap')) w'):o.wp P a w K Q:=by
 subst hs; subst hby
 have hrun0:∀r,(Builtin.append_ #[t,u] o.type #[.slice A 0 0,.slice A2 m c2]).run P w=r→(execOp a.eval o).run P w=r.andThen fun q w'=>.ok (.value q) w':=by
  rintro r rfl;simp [execOp,ho,resolve,invoke,builtin,hx,hv]
 unfold Oper.wp
 rcases run_app (P:=P) (w:=w) (ty:=o.type) (fr:=(0,0)) (A:=A) (A2:=A2) (len:=0) (cap:=0) (m:=m) (c2:=c2) (g:=0) (cur:=#[]) (e':=0) (olds:=[]) (news:=news) ht hu hi hz hzs (Nat.le_refl _) (by simp) (fun h=>absurd h (Nat.lt_irrefl 0))
   (fun W hW=>bdk (w:=W) W rfl) (by simp) hnew hn h1 (by omega) (by rw [zae]; exact hb) with ⟨hroom,hr⟩ | ⟨hgrow,K',w',rest,hr,hK1,hK2,hom,hlen⟩
 ·omega
 ·rw [hrun0 _ hr];simp only [zae] at hK1;refine (show K (a.put o.dst (.slice (some ⟨w.heap.size,0,none⟩) (0+m) K')) w' from ?_);rw [zae];refine h K' _ w' hK1 hK2 hom.new ?_ (fun j hj=>?_) fun I=>ala hom
  ·simp only [List.size_toArray,hlen]; exact Nat.le_refl _
  ·rw [zal,List.nil_append,zac];rw [hn];exact hj
theorem wp_cpy (x v : Operand) (t u : TypeId) (ho : o.op = .call { callee := .builtin .copy, args := #[x, v], argTypes := #[t, u] }) {e : TypeId} {inf : TypeInfo} {size : Nat} (ht : P.underlying t = some (.slice e))
    (hi:P.info? e=some inf) (hs:inf.size=size) (g d s m:Nat) {cs:Array Value} {e':TypeId} (hg:w.heap[g]?=some (.cells cs e' (0,0))) {D S:Option Addr} {dl dc sl sc:Nat} (hx:a.eval x=.slice D dl dc) (hv:a.eval v=.slice S sl sc)
    (hm:m=Nat.min sl dl) (hpos:0<m→D=some ⟨g,d,none⟩∧S=some ⟨g,s,none⟩) (hd:d+m*size≤cs.size) (hsr:s+m*size≤cs.size) (h1:∀u∈(cs.toList.drop s).take (m*size),u.oneCell'=true)
    (h:∀w',w'.heap[g]?=some (.cells (d7 cs.toList d ((cs.toList.drop s).take (m*size))).toArray e' (0,0))→Keeps (· = g) w w'→K (a.put o.dst (goInt m)) w'):o.wp P a w K Q:=by
  subst hs;unfold Oper.wp
  have hrun0:∀r,(Builtin.copy_ #[t,u] o.type #[.slice D dl dc,.slice S sl sc]).run P w=r→(execOp a.eval o).run P w=r.andThen fun q w'=>.ok (.value q) w':=by
    rintro r rfl;simp [execOp,ho,resolve,invoke,builtin,hx,hv]
  by_cases h0:m=0
  · subst h0
    have hr:(Builtin.copy_ #[t,u] o.type #[.slice D dl dc,.slice S sl sc]).run P w=.ok (goInt 0) w:=by
      have hl:∀(x:Addr),(loadCells x 0).run P w=.ok #[] w:=fun x=>by simpa using run_loadCells_list (P:=P) w x [] (by simp)
      cases D<;>cases S<;>simp [Builtin.copy_,run_underlying ht,Builtin.lenOf,Builtin.firstCells,sizeOf,typeInfo,hi,← hm,storeCells,hl]
    rw [hrun0 _ hr];refine h w ?_ (Keeps.refl _ _);simp [d7,hg]
  · obtain ⟨rfl,rfl⟩:=hpos (by omega);have hln:((cs.toList.drop s).take (m*inf.size)).length=m*inf.size:=by simp; omega
    have hf:=abo (P:=P) (w:=w) (off:=s) (size:=inf.size) (m:=m) (m':=sl) (c:=sc) (news:=(cs.toList.drop s).take (m*inf.size)) hg hln (fun j u hu=>by
      rw [zab] at hu;split at hu
      · rw [List.getElem?_drop] at hu; simpa using hu
      · cases hu) w rfl
    have hst:=abd (P:=P) g d e' (0,0) ((cs.toList.drop s).take (m*inf.size)) 0 cs w hg (by simp) (by rw [hln]; omega) h1
    have hr:(Builtin.copy_ #[t,u] o.type #[.slice (some ⟨g,d,none⟩) dl dc,.slice (some ⟨g,s,none⟩) sl sc]).run P w=.ok (goInt m) (w.setRow g (d7 cs.toList d ((cs.toList.drop s).take (m*inf.size))).toArray):=by
      simp only [Nat.add_zero] at hst;simp [Builtin.copy_,run_underlying ht,Builtin.lenOf,sizeOf,typeInfo,hi,← hm,hf,hst,d7]
    rw [hrun0 _ hr];exact h _ (setRow_heap w g cs _ e' _ hg) (af6 hg)
end

def kc (k:Ky):List Value:=[.int .u64 k.c,.int .i64 k.v,.int .i64 k.d]
def flat (l:List Ky):List Value:=l.flatMap kc
theorem cp (l:List Ky):(flat l).length=l.length*3:=by
 induction l with
 | nil=>rfl
 | cons k l ih=>simp only [flat,List.flatMap_cons,List.length_append,List.length_cons] at ih ⊢; rw [ih]; simp [kc]; omega
theorem a87 {l:List Ky} {i j:Nat} {k:Ky} (h:l[i]?=some k) (hj:j<3):(flat l)[i*3+j]?=(kc k)[j]?:=by
 have:∀(l:List Ky) (i:Nat),l[i]?=some k→(flat l)[i*3+j]?=(kc k)[j]?:=fun l=>by
  induction l with
  | nil=>intro i h; simp at h
  | cons q l ih=>
   intro i h;cases i with
   | zero=>
    simp at h;subst h;simp only [flat,List.flatMap_cons];rw [zac (by simp [kc]; omega)];simp
   | succ i=>
    simp at h;simp only [flat,List.flatMap_cons];rw [zam (by simp [kc]; omega),← ih i h];congr 1;simp [kc];omega
 exact this l i h
theorem apg {l:List Ky}:∀u∈flat l,u.oneCell'=true:=fun u hu=>by
 simp only [flat,List.mem_flatMap,kc] at hu;obtain ⟨k,_,hk⟩:=hu;simp at hk;rcases hk with rfl | rfl | rfl<;>rfl
def xx (w:World) (g:Nat) (l:List Ky) (c:Nat):Prop:=∃(cs:Array Value) (e:TypeId),w.heap[g]?=some (.cells cs e (0,0))∧c*3≤cs.size∧(∀(j:Nat) (u:Value),(flat l)[j]?=some u→cs[j]?=some u)∧l.length≤c∧0<c∧c≤maxLen
theorem xx.loc {w w':World} {g c:Nat} {l:List Ky} (h:xx w g l c) (hw:w'.heap[g]?=w.heap[g]?):xx w' g l c:=by
 obtain ⟨cs,e,h1,h2⟩:=h;exact ⟨cs,e,by rw [hw]; exact h1,h2⟩
theorem xx.lt {w:World} {g c:Nat} {l:List Ky} (h:xx w g l c):g<w.heap.size:=by
 obtain ⟨cs,e,h1,h2⟩:=h;exact (zaf.1 h1).1
theorem xx.rel {w:World} {g c:Nat} {l:List Ky} (h:xx w g l c) {R:Nat→Prop} (hR:R g):RelV w R (l9 l) (.slice (some ⟨g,0,none⟩) l.length c):=by
 obtain ⟨cs,e,h1,h2,h3,h4,h5,h6⟩:=h;have key:=RelV.sl (w:=w) (R:=R) 3 (l.map Ky.rv) (some ⟨g,0,none⟩) c (by simpa using h4) h6 g 0 (fun i j=>(cs[i*3+j]?).getD undef) (fun _=>⟨rfl,hR⟩)
 have cell:∀(i:Nat) (x:RV) (j:Nat) (y:RV),(l.map Ky.rv)[i]?=some x→x.cells[j]?=some y→∃u,y=.v u∧cs[i*3+j]?=some u∧u.oneCell'=true:=fun i x j y hi hj=>by
  rw [List.getElem?_map,zan] at hi;obtain ⟨k,hk,rfl⟩:=hi;have hj3:j<3:=by have:=(zaa.1 hj).1; simpa [Ky.rv,RV.cells] using this
  have hf:=a87 hk hj3
  match j,hj3,hj,hf with
  | 0,_,hj,hf=>simp [Ky.rv,RV.cells] at hj; subst hj; exact ⟨_,rfl,h3 _ _ hf,rfl⟩
  | 1,_,hj,hf=>simp [Ky.rv,RV.cells] at hj; subst hj; exact ⟨_,rfl,h3 _ _ hf,rfl⟩
  | 2,_,hj,hf=>simp [Ky.rv,RV.cells] at hj; subst hj; exact ⟨_,rfl,h3 _ _ hf,rfl⟩
 have:=key (fun i x hi=>by
   rw [List.getElem?_map,zan] at hi;obtain ⟨k,hk,rfl⟩:=hi
   rfl) (fun i x j y hi hj=>by
   obtain ⟨u,rfl,h,h'⟩:=cell i x j y hi hj;simp only [World.cell?,h1,zak,Bool.false_eq_true,if_false,zae,h,zah];exact ⟨trivial,h'⟩) (fun i x j y hi hj=>by
   obtain ⟨u,rfl,h,h'⟩:=cell i x j y hi hj;simp only [h,zah]
   exact .v u)
 simpa [l9] using this
def adr (og:Option Nat):Option Addr:=og.map fun g=>⟨g,0,none⟩
structure TL (w:World) (b:Nat) (og:Option Nat) (gs:List Nat) (cap:Nat) (ns:List (List Ky)) (n:Int):Prop where
 hd:∃e,w.heap[b]?=some (.cells #[.slice (adr og) ns.length cap,.int .i64 n] e (0,0))
 le:ns.length≤cap
 mx:cap≤maxLen
 no:og=none→cap=0
 out:∀g,og=some g→0<cap∧∃cs e,w.heap[g]?=some (.cells cs e (0,0))∧cap≤cs.size∧∀(i g':Nat) (l:List Ky),gs[i]?=some g'→ns[i]?=some l→∃c,cs[i]?=some (.slice (some ⟨g',0,none⟩) l.length c)∧xx w g' l c
 len:gs.length=ns.length
 nb:(b::(og.toList++gs)).Nodup
def Ft (b:Nat) (og:Option Nat) (gs:List Nat) (x:Nat):Prop:=x=b∨og=some x∨x∈gs
section
variable {w w':World} {b cap:Nat} {og:Option Nat} {gs:List Nat} {ns:List (List Ky)} {n:Int}
theorem TL.loc (h:TL w b og gs cap ns n) (hw:∀x,Ft b og gs x→w'.heap[x]?=w.heap[x]?):TL w' b og gs cap ns n:=by
 refine ⟨?_,h.le,h.mx,h.no,fun g hg=>?_,h.len,h.nb⟩
 ·obtain ⟨e,he⟩:=h.hd;exact ⟨e,by rw [hw b (.inl rfl)]; exact he⟩
 ·obtain ⟨h0,cs,e,h1,h2,h4⟩:=h.out g hg;refine ⟨h0,cs,e,by rw [hw g (.inr (.inl hg))]; exact h1,h2,fun i g' l hi hl=>?_⟩;obtain ⟨c,h5,h6⟩:=h4 i g' l hi hl;exact ⟨c,h5,h6.loc (hw g' (.inr (.inr (zai hi))))⟩
theorem TL.lt (h:TL w b og gs cap ns n):∀x,Ft b og gs x→x<w.heap.size:=fun x hx=>by
 rcases hx with rfl | hx | hx
 ·obtain ⟨e,he⟩:=h.hd;exact (zaf.1 he).1
 ·obtain ⟨h0,cs,e,h1,_⟩:=h.out x hx;exact (zaf.1 h1).1
 ·obtain ⟨i,hi⟩:=zao.1 hx;have hin:=(zaa.1 hi).1;rw [h.len] at hin;rcases og with _ | g
  ·have:=h.no rfl; have:=h.le; omega
  ·obtain ⟨h0,cs,e,h1,h2,h4⟩:=h.out g rfl;obtain ⟨c,_,h6⟩:=h4 i x ns[i] hi (by simp [hin]);exact h6.lt
theorem TL.rel (h:TL w b og gs cap ns n) {R:Nat→Prop} (hR:∀x,Ft b og gs x→R x):RelV w R (.sl 1 (ns.map l9)) (.slice (adr og) ns.length cap):=by
 rcases og with _ | g
 ·have h0:=h.no rfl;have h1:=h.le;have h2:ns=[]:=List.eq_nil_of_length_eq_zero (by omega);subst h2;subst h0;exact .sl 1 [] none 0 (by simp) (by simp) 0 0 (fun _ _=>undef) (by simp) (by simp) (by simp) (by simp)
 ·obtain ⟨h0,cs,e,h1,h2,h4⟩:=h.out g rfl
  have node:∀(i:Nat) (x:RV),(ns.map l9)[i]?=some x→∃l g' c,ns[i]?=some l∧x=l9 l∧gs[i]?=some g'∧cs[i]?=some (.slice (some ⟨g',0,none⟩) l.length c)∧xx w g' l c:=fun i x hi=>by
   rw [List.getElem?_map,zan] at hi;obtain ⟨l,hl,rfl⟩:=hi;have hlt:=(zaa.1 hl).1;have hg':gs[i]?=some (gs[i]'(by rw [h.len]; exact hlt)):=by simp [h.len,hlt]
   obtain ⟨c,h5,h6⟩:=h4 i _ l hg' hl;exact ⟨l,_,c,hl,rfl,hg',h5,h6⟩
  have key:=RelV.sl (w:=w) (R:=R) 1 (ns.map l9) (some ⟨g,0,none⟩) cap (by simpa using h.le) h.mx g 0 (fun i _=>(cs[i]?).getD undef) (fun _=>⟨rfl,hR g (.inr (.inl rfl))⟩) (fun i x hi=>by
    obtain ⟨l,g',c,_,rfl,_⟩:=node i x hi
    rfl) (fun i x j y hi hj=>by
    obtain ⟨l,g',c,_,rfl,_,h5,_⟩:=node i x hi;have:j=0:=by have:=(zaa.1 hj).1; simp [l9,RV.cells] at this; exact this
    subst this;simp only [World.cell?,h1,zak,Bool.false_eq_true,if_false,zae,Nat.mul_one,Nat.add_zero,h5,zah];exact ⟨trivial,rfl⟩) (fun i x j y hi hj=>by
    obtain ⟨l,g',c,_,rfl,h7,h5,h6⟩:=node i x hi;have:j=0:=by have:=(zaa.1 hj).1; simp [l9,RV.cells] at this; exact this
    subst this;simp [l9,RV.cells] at hj;subst hj;simp only [h5,zah]
    exact h6.rel (hR g' (.inr (.inr (zai h7)))))
  simpa [adr] using key
theorem TL.rp (h:TL w b og gs cap ns n) {R:Nat→Prop} (hR:∀x,Ft b og gs x→R x) :
  ∃g:Nat→Value,∀(j:Nat) (y:RV),(i7 ns n)[j]?=some y→w.cell? ⟨b,0+j,none⟩=some (g j)∧(g j).oneCell'=true∧RelV w R y (g j):=by
 obtain ⟨e,he⟩:=h.hd;refine ⟨fun j=>(#[Value.slice (adr og) ns.length cap,.int .i64 n][j]?).getD undef,fun j y hj=>?_⟩
 match j,hj with
 | 0,hj=>
  simp [i7] at hj;subst hj;refine ⟨by simp [World.cell?,he],rfl,h.rel hR⟩
 | 1,hj=>
  simp [i7] at hj;subst hj;exact ⟨by simp [World.cell?,he],rfl,.v _⟩
 | j+2,hj=>simp [i7] at hj
def fpt (og:Option Nat) (gs:List Nat):Nat→Option Nat
 | 0=>og
 | j+1=>gs[j]?
theorem aem {x:Nat}:(∃j,fpt og gs j=some x)↔(og=some x∨x∈gs):=by
 constructor
 ·rintro ⟨j,hj⟩;cases j with
  | zero=>exact .inl hj
  | succ j=>exact .inr (zai hj)
 ·rintro (h | h)
  ·exact ⟨0,h⟩
  ·obtain ⟨i,hi⟩:=zao.1 h;exact ⟨i+1,hi⟩
end
def bia (ns:List (List Ky)) (n:Int):AbsT where
 size:=2
 Q w b φ:=∃og gs cap,TL w b og gs cap ns n∧φ=fpt og gs
 loc:=by
  rintro w w' b φ ⟨og,gs,cap,h,rfl⟩ hb hj;refine ⟨og,gs,cap,h.loc fun x hx=>?_,rfl⟩;rcases hx with rfl | hx
  ·exact hb
  ·obtain ⟨j,hj'⟩:=aem.2 hx;exact hj j x hj'
 root:=by
  rintro w b φ ⟨og,gs,cap,h,rfl⟩;obtain ⟨e,he⟩:=h.hd;exact ⟨_,e,he,rfl⟩
 lt:=by
  rintro w b φ ⟨og,gs,cap,h,rfl⟩ j c hj;exact h.lt c (.inr (aem.1 ⟨j,hj⟩))
 view:=i7 ns n
 rp:=by
  rintro w b φ R ⟨og,gs,cap,h,rfl⟩ hb hj;refine h.rp fun x hx=>?_;rcases hx with rfl | hx
  ·exact hb
  ·obtain ⟨j,hj'⟩:=aem.2 hx;exact hj j x hj'

theorem glT (w:World):Gl P0 w fun _=>False:=gl_none (by kernel_rfl) (fun _=>by kernel_rfl) (fun _=>by kernel_rfl) w
def Ky.val (k:Ky):Value:=.agg #[.int .u64 k.c,.int .i64 k.v,.int .i64 k.d]
theorem Ky.rel {w:World} {R:Nat→Prop} (k:Ky):RelV w R k.rv k.val:=by
 refine .agg _ _ rfl fun i x c hx hc=>?_
 match i,hx,hc with
 | 0,hx,hc=>simp [Ky.val] at hx hc; subst hx; subst hc; exact .v _
 | 1,hx,hc=>simp [Ky.val] at hx hc; subst hx; subst hc; exact .v _
 | 2,hx,hc=>simp [Ky.val] at hx hc; subst hx; subst hc; exact .v _
 | i+3,hx,hc=>simp at hx
theorem a9z {w:World} {x:Nat} (h:x<w.heap.size):ax6 w x:=⟨h,fun ⟨id,v,o,h1,_⟩=>by simp [ob0,obs] at h1,trivial⟩
theorem anw {w w':World} {I:Nat→Prop} (h:Go.RowKit.Below w.heap.size w w'):Keeps I w w':=⟨h.os,h.tape,h.output,h.size,fun b hb _=>h.block b hb⟩
section
variable {w:World} {b cap:Nat} {og:Option Nat} {gs:List Nat} {ns:List (List Ky)} {n:Int}
theorem awj (h:TL w b og gs cap ns n) (k:Ky) (r:Nat) (hN:Nod ns k r):Calls P0 111 #[.pointer (some ⟨b,0,none⟩),k.val] w fun e w'=>e=.returned (.int .i64 ((r-1:Nat):Int))∧∀I,Keeps I w w':=by
 obtain ⟨g,hg⟩:=h.rp (R:=ax6 w) fun x hx=>a9z (h.lt x hx);refine (aao (awk ns n k r hN) w (glT w) rfl (rel0_cons (.rp _ b 0 g (a9z (h.lt b (.inl rfl))) hg) (rel0_cons (.r k.rel) rel0_nil))).mono ?_;rintro e w' ⟨c,rfl,hb,ρ',hR⟩;cases hR with
 | r hv=>cases hv; exact ⟨rfl,fun I=>anw hb⟩
theorem axf {g c:Nat} {l:List Ky} (h:xx w g l c) (k:Ky) (r:Nat) (hP:Plc l k r):Calls P0 112 #[.slice (some ⟨g,0,none⟩) l.length c,k.val] w fun e w'=>
  e=.returned (.tuple #[.int .i64 r,.bool (decide (l[r]?=some k))])∧∀I,Keeps I w w':=by
 have hl:l.length≤maxLen:=by obtain ⟨_,_,_,_,_,h4,_,h6⟩:=h; omega
 refine (aao (bg0 l k r hP hl) w (glT w) rfl (rel0_cons (.r (h.rel (a9z h.lt))) (rel0_cons (.r k.rel) rel0_nil))).mono ?_;rintro e w' ⟨c,rfl,hb,ρ',hR⟩;cases hR with
 | tup _ cs hl h=>
  have h0:=h 0 _ (cs[0]'(by rw [hl]; simp)) rfl (by simp [hl]);have h1:=h 1 _ (cs[1]'(by rw [hl]; simp)) rfl (by simp [hl]);refine ⟨?_,fun I=>anw hb⟩;congr 2;have inv:∀{v c:Value},RelA w' (g8 (fun _=>True) (ob0 []) ρ' w') (ob0 []) ρ' (.r (.v v)) c→c=v:=fun h=>by cases h with | r h=>cases h; rfl
  have e0:=inv h0;have e1:=inv h1;apply Array.ext (by simp [hl]);intro i h2 h3
  match i,h2,h3 with
  | 0,h2,h3=>simpa using e0
  | 1,h2,h3=>simpa using e1
  | i+2,h2,h3=>rw [hl] at h2; exact absurd (show i+2<2 from h2) (by omega)
end
theorem a0y {f:FuncId} {T T':AbsT} {k:Ky} {res:Value} (hs:T'.size=T.size) (h:∀(w:World) (b:Nat) (φ:Nat→Option Nat),T.Q w b φ→Calls P0 f #[.pointer (some ⟨b,0,none⟩),k.val] w fun e w'=>
  e=.returned res∧∃φ',T'.Q w' b φ'∧Keeps (fun x=>x=b∨∃j,φ j=some x) w w'∧(∀j c,φ' j=some c→(∃j',φ j'=some c)∨w.heap.size≤c)) :
  a8 P0 f [.ptr 1000000 0 0,k.av] [.abs T] (.r (.v res)) [.abs T']:=by
 intro w cargs ρ B hgl hB hM hcs hargs;have hob:ob0 [Ob.abs T] 1000000=some (0,.abs T):=by simp [ob0,obs,upd]
 obtain ⟨b,hρ,hQ⟩:=hM.obj 1000000 0 (.abs T) hob
 have hid:∀(T0:AbsT) id x,ob0 [Ob.abs T0] id=some x→id=1000000∧x=(0,.abs T0):=fun T0 id x hx=>by
  obtain ⟨h1,h2,h3⟩:=xg hx
  have:id-1000000=0:=by
   have:=(zaa.1 h2).1;simpa using this
  have hid:id=1000000:=by omega
  subst hid;have hob0:ob0 [Ob.abs T0] 1000000=some (0,.abs T0):=by simp [ob0,obs,upd]
  rw [hob0] at hx;exact ⟨rfl,(Option.some.inj hx).symm⟩
 have hheld:∀x,jn (ob0 [.abs T]) ρ x↔(x=b∨∃j,ρ (.s 1000000 j)=some x):=fun x=>by
  constructor
  ·rintro ⟨id,y,h1,h2⟩;obtain ⟨rfl,rfl⟩:=hid T id _ h1;rcases h2 with h2 | ⟨_,j,h2⟩
   ·rw [hρ] at h2; cases h2; exact .inl rfl
   ·exact .inr ⟨j,h2⟩
  ·rintro (rfl | ⟨j,h2⟩)
   ·exact ⟨1000000,(0,.abs T),hob,.inl hρ⟩
   ·exact ⟨1000000,(0,.abs T),hob,.inr ⟨rfl,j,h2⟩⟩
 have hc:cargs=#[.pointer (some ⟨b,0,none⟩),k.val]:=by
  simp at hcs;apply Array.ext (by simpa using hcs);intro i h1 h2
  match i,h1,h2 with
  | 0,h1,h2=>
   have h0:=hargs 0 _ cargs[0] rfl (by simp [h1]);generalize cargs[0]=c0 at h0;cases h0 with
   | ptr _ _ _ _ hc1 hat=>
    obtain ⟨b',hb',rfl⟩:=hat.live hob;rw [hρ] at hb';cases hb'
    rfl
  | 1,h1,h2=>
   have h0:=hargs 1 _ cargs[1] rfl (by simp [h1]);generalize cargs[1]=c1 at h0;cases h0 with
   | r h0=>
    cases h0 with
    | agg xs cs hl h0=>
     have inv:∀{v c:Value},RelV w (g8 B (ob0 [.abs T]) ρ w) (.v v) c→c=v:=fun h=>by cases h; rfl
     simp only [Ky.val,List.getElem_toArray,List.getElem_cons_succ,List.getElem_cons_zero];congr 1;apply Array.ext (by simpa using hl);intro j g1 g2
     match j,g1,g2 with
     | 0,g1,g2=>exact inv (h0 0 _ cs[0] rfl (by simp [g1]))
     | 1,g1,g2=>exact inv (h0 1 _ cs[1] rfl (by simp [g1]))
     | 2,g1,g2=>exact inv (h0 2 _ cs[2] rfl (by simp [g1]))
     | j+3,g1,g2=>exact absurd (show j+3<3 from g2) (by omega)
  | i+2,h1,h2=>exact absurd (show i+2<2 from h2) (by omega)
 subst hc;refine (h w b _ hQ).mono ?_;rintro e w' ⟨rfl,φ',hQ',hK,hφ⟩;obtain ⟨ρ',h1,h2⟩:∃ρ':Pl→Option Nat,ρ' (.o 1000000)=some b∧∀j,ρ' (.s 1000000 j)=φ' j:=⟨fun | .o i=>if i=1000000 then some b else none | .s i j=>if i=1000000 then φ' j else none,by simp,by simp⟩
 refine ⟨_,ρ',rfl,⟨fun id v o hx=>?_,fun id id' x x' c hx hx' _ _=>?_,⟨hK.os,hK.tape,hK.output,hK.size,fun c hc hn=>hK.block c hc fun hx=>hn ((hheld c).2 hx)⟩,fun id v o c hx hf=>?_,fun id c hp=>?_⟩,.r (.v _)⟩
 ·obtain ⟨rfl,hx⟩:=hid T' id _ hx;cases hx;refine ⟨b,h1,?_⟩;rw [show (fun j=>ρ' (.s 1000000 j))=φ' from funext h2];exact hQ'
 ·rw [(hid T' id _ hx).1,(hid T' id' _ hx').1]
 ·obtain ⟨rfl,hx⟩:=hid T' id _ hx;cases hx;rcases hf with hf | ⟨_,j,hf⟩
  ·rw [h1] at hf; cases hf; exact .inl ((hheld b).2 (.inl rfl))
  ·rw [h2] at hf;rcases hφ j c hf with ⟨j',hj'⟩ | h
   ·exact .inl ((hheld c).2 (.inr ⟨j',hj'⟩))
   ·exact .inr h
 ·simp only [me] at hp;split at hp
  ·rename_i v o hx;split at hp
   ·rename_i ho;obtain ⟨rfl,hx'⟩:=hid T id _ hx;refine ⟨?_,_,by simp [ob0,obs,upd]; rfl,rfl,fun h=>by cases h⟩;rw [h1,← hp,hρ]
   ·cases hp
  ·cases hp

open Go Go.RowKit
theorem sj {w:World} {x:Obj} {k:Nat} (h:k<w.heap.size):(w.alloc x).heap[k]?=w.heap[k]?:=by
 show (w.heap.push x)[k]? = _;simp [Array.getElem?_push,Nat.ne_of_lt h]
theorem aar {w:World} {x:Obj} {k:Nat} (h:k=w.heap.size):(w.alloc x).heap[k]?=some x:=by
 subst h;show (w.heap.push x)[w.heap.size]? = _;simp
theorem z9 {w:World} {x:Obj} {I:Nat→Prop}:Keeps I w (w.alloc x):=ala (z8 x)
theorem Keeps.mono {I J:Nat→Prop} {w w':World} (h:Keeps I w w') (hi:∀x,I x→J x):Keeps J w w':=⟨h.os,h.tape,h.output,h.size,fun b hb hn=>h.block b hb fun hx=>hn (hi b hx)⟩
theorem put0_w {w : World} {b cap : Nat} {og : Option Nat} {gs : List Nat} {n : Int} (h : TL w b og gs cap [] n) (k : Ky) : Calls P0 64 #[.pointer (some ⟨b, 0, none⟩), k.val] w fun e w' => e = .returned (.bool true) ∧
    ∃og' gs' cap',TL w' b og' gs' cap' [[k]] 1∧Keeps (Ft b og gs) w w'∧∀x,Ft b og' gs' x→Ft b og gs x∨w.heap.size≤x:=by
  obtain ⟨e,he⟩:=h.hd;have hlt:=h.lt b (.inl rfl);have hc:w.cell? ⟨b,0,none⟩=some (.slice (adr og) 0 cap):=by simp [World.cell?,he]
  have hc1:w.cell? ⟨b,1,none⟩=some (.int .i64 n):=by simp [World.cell?,he]
  have hf0:w.frozen? ⟨b,0,none⟩=false:=by simp [World.frozen?,he]
  have hf1:w.frozen? ⟨b,1,none⟩=false:=by simp [World.frozen?,he]
  have hb01:b<w.heap.size+1:=by omega
  have hb02:b<w.heap.size+1+1:=by omega
  have hb0:¬b=w.heap.size:=by omega
  have hb1:¬b=w.heap.size+1:=by omega
  have hb2:¬b=w.heap.size+1+1:=by omega
  simp only [Ky.val]
  go_enter func64,Go.Proofs.Tryz.ntmps64
  go_wp2_with fail
  go_ret
  rw [setCell_eq_setRow w b 0 _ _ _ _ he,setCell_eq_setRow _ b 1 _ _ _ _ (setRow_heap w b _ _ _ _ he),setRow_setRow];generalize hw1:w.setRow b _=w1;have hh:w1.heap[b]?=some (.cells #[.slice (some ⟨w.heap.size+1+1,0,none⟩) 1 1,.int .i64 1] e):=by rw [← hw1]; exact setRow_heap w b _ _ _ _ he
  have hk:Keeps (· = b) w w1:=by rw [← hw1]; exact af6 he
  have hs:w1.heap.size=w.heap.size:=by rw [← hw1]; simp [World.setRow]
  refine ⟨rfl,some (w.heap.size+1+1),[w.heap.size+1],1,⟨⟨e,?_⟩,by simp,by simp [maxLen],by simp,fun g hg=>?_,rfl,?_⟩,?_,fun x hx=>?_⟩
  · rw [sj (by simp [hs]; omega),sj (by simp [hs]; omega),sj (by simp [hs]; omega),hh]
    rfl
  · cases hg;refine ⟨by omega,_,_,aar (by simp [hs]),by simp,fun i g' l hi hl=>?_⟩;have hi0:i=0:=by have:=(zaa.1 hi).1; simp at this; exact this
    subst hi0;simp at hi hl;subst hi; subst hl;refine ⟨1,rfl,_,_,by rw [sj (by simp [hs])]; exact aar (by simp [hs]),by simp,?_,by simp,by simp,by simp [maxLen]⟩;intro j u hj;simpa [flat,kc] using hj
  · simp;omega
  · exact (hk.mono fun x hx=>.inl hx).trans ((z9.trans z9).trans z9)
  · rcases hx with h | h | h
    · exact .inl (.inl h)
    · simp at h; omega
    · simp at h; omega

open Go Go.RowKit
section
variable {w:World} {b g cap:Nat} {og:Option Nat} {gs:List Nat} {ns:List (List Ky)} {n:Int}
theorem TL.root (h:TL w b (some g) gs cap ns n):w.cell? ⟨b,0,none⟩=some (.slice (some ⟨g,0,none⟩) ns.length cap)∧w.cell? ⟨b,1,none⟩=some (.int .i64 n)∧w.frozen? ⟨b,0,none⟩=false∧w.frozen? ⟨b,1,none⟩=false∧b<w.heap.size:=by
 obtain ⟨e,he⟩:=h.hd;exact ⟨by simp [World.cell?,he,adr],by simp [World.cell?,he],by simp [World.frozen?,he],by simp [World.frozen?,he],h.lt b (.inl rfl)⟩
theorem TL.some_ (h:TL w b og gs cap ns n) {i:Nat} {l:List Ky} (hl:ns[i]?=some l):∃g,og=some g:=by
 rcases og with _ | g
 ·have:=h.no rfl;have:=h.le;have:=(zaa.1 hl).1;omega
 ·exact ⟨g,rfl⟩
theorem TL.node (h:TL w b (some g) gs cap ns n) {i:Nat} {l:List Ky} (hl:ns[i]?=some l):∃g' c,gs[i]?=some g'∧xx w g' l c∧w.cell? ⟨g,i,none⟩=some (.slice (some ⟨g',0,none⟩) l.length c)∧w.frozen? ⟨g,i,none⟩=false:=by
 obtain ⟨h0,cs,e,h1,h2,h4⟩:=h.out g rfl;have hlt:=(zaa.1 hl).1;have hg':gs[i]?=some (gs[i]'(by rw [h.len]; exact hlt)):=by simp [h.len,hlt]
 obtain ⟨c,h5,h6⟩:=h4 i _ l hg' hl;exact ⟨_,c,hg',h6,by simp [World.cell?,h1,h5],by simp [World.frozen?,h1]⟩
end
def KB (w:World) (B:Nat) (k:Ky):Prop:=w.heap[B]?=some (.cells #[.int .u64 k.c,.int .i64 k.v,.int .i64 k.d] 120 (0,0))
theorem KB.cells {w:World} {B:Nat} {k:Ky} (h:KB w B k):w.cell? ⟨B,0,none⟩=some (.int .u64 k.c)∧w.cell? ⟨B,1,none⟩=some (.int .i64 k.v)∧w.cell? ⟨B,2,none⟩=some (.int .i64 k.d):=by
 unfold KB at h;exact ⟨by simp [World.cell?,h],by simp [World.cell?,h],by simp [World.cell?,h]⟩
theorem KB.keeps {w w':World} {B:Nat} {k:Ky} {I:Nat→Prop} (h:KB w B k) (hk:Keeps I w w') (hn:¬I B):KB w' B k:=by
 unfold KB at h ⊢;rw [hk.block B (zaf.1 h).1 hn];exact h
theorem TL.keeps {w w':World} {b cap:Nat} {og:Option Nat} {gs:List Nat} {ns:List (List Ky)} {n:Int} {I:Nat→Prop} (h:TL w b og gs cap ns n) (hk:Keeps I w w') (hn:∀x,Ft b og gs x→¬I x):TL w' b og gs cap ns n:=
 h.loc fun x hx=>hk.block x (h.lt x hx) (hn x hx)
theorem bff {w:World} {b cap:Nat} {og:Option Nat} {gs:List Nat} {ns:List (List Ky)} {n:Int} (h:TL w b og gs cap ns n) (k:Ky) (r s:Nat) (l:List Ky) (hN:Nod ns k r) (hl:ns[r-1]?=some l) (hP:Plc l k s) (hs:l[s]?=some k):Calls P0 64 #[.pointer (some ⟨b,0,none⟩),k.val] w fun e w'=>e=.returned (.bool false) ∧
  TL w' b og gs cap ns n∧∀I,Keeps I w w':=by
 obtain ⟨g,rfl⟩:=h.some_ hl;have hat:r-1<ns.length:=(zaa.1 hl).1;generalize hr:r-1=i at *;obtain ⟨c0,c1,f0,f1,hlt⟩:=h.root;have hne:((ns.length:Int) == 0)=false:=by rw [beq_eq_false_iff_ne]; omega
 have hk0:∀x,Keeps (fun _=>False) w (w.alloc x):=fun x=>z9;have i0:(0:Int)≤(i:Int):=by omega
 have i1:(i:Int)<(ns.length:Int):=by omega
 simp only [Ky.val]
 go_enter func64,Go.Proofs.Tryz.ntmps64
 go_wp2_with fail
 have h1:=h.keeps (hk0 (.cells #[.int .u64 k.c,.int .i64 k.v,.int .i64 k.d] 120)) (fun _ _ q=>q);have b1:KB (w.alloc (.cells #[.int .u64 k.c,.int .i64 k.v,.int .i64 k.d] 120)) w.heap.size k:=aar rfl;refine (awj h1 k r hN).mono ?_;rintro e w2 ⟨rfl,hK2⟩;rw [hr];have h2:=h1.keeps (hK2 fun _=>False) (fun _ _ q=>q);have b2:=b1.keeps (hK2 fun _=>False) (fun q=>q);obtain ⟨d0,d1,f2,f3,_⟩:=h2.root;obtain ⟨g',c,hg',hrow,d2,f4⟩:=h2.node hl;obtain ⟨k0,k1,k2⟩:=b2.cells
 go_wp2_with fail
 refine (axf hrow k s hP).mono ?_;rintro e w3 ⟨rfl,hK3⟩;rw [decide_eq_true hs]
 go_wp2_with fail
 go_ret
 refine ⟨rfl,h2.keeps (hK3 fun _=>False) (fun _ _ q=>q),fun I=>(z9.trans (hK2 I)).trans (hK3 I)⟩

open Go Go.RowKit
theorem ab5 (a b:List Ky):flat (a++b)=flat a++flat b:=by simp [flat]
theorem a5v (k:Ky) (b:List Ky):flat (k::b)=kc k++flat b:=by simp [flat]
theorem a06 {α:Type} (L:List α) (i:Nat) (a b c:α) (h:i+3≤L.length):((L.set i a).set (i+1) b).set (i+2) c=d7 L i [a,b,c]:=by
 apply zaj;intro j;rw [z5 (by simpa using h)];simp only [List.getElem?_set,List.length_set,List.length_cons,List.length_nil];by_cases h0:j=i
 ·subst h0; simp; omega
 by_cases h1:j=i+1
 ·subst h1; simp; omega
 by_cases h2:j=i+2
 ·subst h2; simp; omega
 rw [if_neg (by omega),if_neg (by omega),if_neg (by omega),if_neg (by omega)]
theorem af8 {cs:List Value} {l:List Ky} {k:Ky} {s:Nat} (hs:s≤l.length) (hp:(flat l++kc k) <+: cs) :
  flat (l.take s++k::l.drop s) <+: d7 (d7 cs ((s+1)*3) ((cs.drop (s*3)).take ((l.length-s)*3))) (s*3) (kc k):=by
 obtain ⟨t,rfl⟩:=hp;obtain ⟨A,hA⟩:∃A,A=flat (l.take s):=⟨_,rfl⟩
 obtain ⟨D,hD⟩:∃D,D=flat (l.drop s):=⟨_,rfl⟩
 have hl:flat l=A++D:=by rw [hA,hD,← ab5,zap]
 have lA:A.length=s*3:=by rw [hA,cp,List.length_take,Nat.min_eq_left hs]
 have lD:D.length=(l.length-s)*3:=by rw [hD,cp,List.length_drop]
 have lk:(kc k).length=3:=rfl;rw [ab5,a5v,← hA,← hD,hl,← lA,← lD,show (s+1)*3=A.length+3 by omega];refine ⟨t,?_⟩;obtain ⟨E,hE⟩:∃E,E=(D++kc k++t).take 3:=⟨_,rfl⟩
 have lE:E.length=3:=by rw [hE]; simp; omega
 have e1:(A++D++kc k++t).take (A.length+3)=A++E:=by
  rw [hE,zad A D,zad A,List.take_length_add_append]
 have e2:((A++D++kc k++t).drop A.length).take D.length=D:=by
  rw [zad A D,zad A,List.drop_left,zad D,List.take_left]
 have e3:(A++D++kc k++t).drop (A.length+3+D.length)=t:=by
  have:A.length+3+D.length=(A++D++kc k).length:=by simp [lk]; omega
  rw [this,List.drop_left]
 have e4:d7 (A++D++kc k++t) (A.length+3) D=A++(E++(D++t)):=by
  unfold d7;rw [e1,e3];simp
 rw [e2,e4];unfold d7
 have e5:(A++(E++(D++t))).drop (A.length+3)=D++t:=by
  have:A.length+3=(A++E).length:=by simp [lE]
  rw [this,← zad,List.drop_left]
 rw [List.take_left,lk,e5];simp
theorem bfg {cs2:Array Value} {X:List Value} (h:∀j,j<X.length→cs2[j]?=X[j]?) (hl:X.length≤cs2.size):X <+: cs2.toList:=by
 rw [List.prefix_iff_eq_take];apply zaj;intro j;rw [zab];by_cases hj:j<X.length
 ·rw [if_pos hj,← h j hj];simp
 ·rw [if_neg hj];simp;omega
theorem bg {w w':World} {x:Nat} (h:w'.heap[x]?=w.heap[x]?) (o:Nat):w'.cell? ⟨x,o,none⟩=w.cell? ⟨x,o,none⟩:=by simp only [World.cell?,h]
theorem qc {w w':World} {x:Nat} (h:w'.heap[x]?=w.heap[x]?) (o:Nat):w'.frozen? ⟨x,o,none⟩=w.frozen? ⟨x,o,none⟩:=by simp only [World.frozen?,h]
theorem uq {w:World} {g o:Nat} {cs:Array Value} {e:TypeId} {fr:Nat×Nat} (h:w.heap[g]?=some (.cells cs e fr)) (ho:o<cs.size):∃v,w.cell? ⟨g,o,none⟩=some v:=⟨cs[o],by simp [World.cell?,h,ho]⟩
theorem kn {w:World} {g o:Nat} {cs:Array Value} {e:TypeId} (h:w.heap[g]?=some (.cells cs e (0,0))):w.frozen? ⟨g,o,none⟩=false:=by simp [World.frozen?,h]
theorem amd {w:World} {x:Obj}:(w.alloc x).heap.size=w.heap.size+1:=by simp
theorem v7 {w:World} {g o:Nat} {cs:Array Value} {e:TypeId} {fr:Nat×Nat} {v:Value} (h:w.heap[g]?=some (.cells cs e fr)):(w.setCell ⟨g,o,none⟩ v).heap[g]?=some (.cells (cs.setIfInBounds o v) e fr):=by
 rw [setCell_eq_setRow w g o cs e fr v h];exact setRow_heap w g _ _ _ _ h
theorem s8 {w:World} {g o x:Nat} {cs:Array Value} {e:TypeId} {fr:Nat×Nat} {v:Value} (h:w.heap[g]?=some (.cells cs e fr)) (hx:x≠g):(w.setCell ⟨g,o,none⟩ v).heap[x]?=w.heap[x]?:=by
 rw [setCell_eq_setRow w g o cs e fr v h];exact setRow_other w g x _ hx
theorem s9 {w:World} {g o:Nat} {cs:Array Value} {e:TypeId} {fr:Nat×Nat} {v:Value} {I:Nat→Prop} (h:w.heap[g]?=some (.cells cs e fr)) (hI:I g):Keeps I w (w.setCell ⟨g,o,none⟩ v):=by
 rw [setCell_eq_setRow w g o cs e fr v h];have hk:=af6 (cs:=cs.setIfInBounds o v) h;exact ⟨hk.os,hk.tape,hk.output,hk.size,fun b hb hn=>hk.block b hb fun q=>hn (q▸hI)⟩
theorem rm {w w':World} {I:Nat→Prop} (h:Keeps (fun x=>I x∨w.heap.size≤x) w w'):Keeps I w w':=⟨h.os,h.tape,h.output,h.size,fun b hb hn=>h.block b hb fun q=>by rcases q with q | q; exact hn q; omega⟩
theorem au1 {l:List Ky} {a j:Nat} (ha:a≤l.length):(flat l)[a*3+j]?=(flat (l.drop a))[j]?:=by
 have:flat l=flat (l.take a)++flat (l.drop a):=by rw [← ab5,zap]
 have hl:(flat (l.take a)).length=a*3:=by rw [cp,List.length_take,Nat.min_eq_left ha]
 rw [this,zam (by omega),hl];congr 1;omega
theorem au0 {l:List Ky} {a j:Nat} {u:Value} (h:(flat (l.take a))[j]?=some u):(flat l)[j]?=some u:=by
 have:flat l=flat (l.take a)++flat (l.drop a):=by rw [← ab5,zap]
 rw [this,zac (zaa.1 h).1];exact h
theorem a74 {cs:Array Value} {A:List Value} (hf:∀(j:Nat) (u:Value),A[j]?=some u→cs[j]?=some u):cs.toList.take A.length=A:=by
 apply zaj;intro j;rw [zab];by_cases hj:j<A.length
 ·have hq:A[j]?=some A[j]:=by simp [hj]
  rw [if_pos hj,hq,← hf j _ hq];simp
 ·rw [if_neg hj,eq_comm,List.getElem?_eq_none_iff];omega
theorem aze {cs cs2:Array Value} {A B:List Value} {N:Nat} (hN:A.length=N) (hf:∀(j:Nat) (u:Value),A[j]?=some u→cs[j]?=some u) (h:∀j,j<N+B.length→cs2[j]?=(cs.toList.take N++B)[j]?) (hl:N+B.length≤cs2.size):(A++B) <+: cs2.toList:=by
 subst hN;rw [a74 hf] at h;exact bfg (fun j hj=>h j (by simpa using hj)) (by simpa using hl)
theorem ay5 {L X:List Value} (hp:X <+: L) (h1:∀u∈X,u.oneCell'=true) {a m:Nat} (h:a+m≤X.length):∀u∈(L.drop a).take m,u.oneCell'=true:=fun u hu=>by
 obtain ⟨t,rfl⟩:=hp;obtain ⟨j,hj⟩:=zao.1 hu;rw [zab] at hj;split at hj
 ·rw [List.getElem?_drop,zac (by omega)] at hj;exact h1 u (zai hj)
 ·cases hj
theorem bgl {α:Type} {L:List α} {i:Nat} {x y:α} (h:i<L.length) (j:Nat):(L.take i++x::y::L.drop (i+1))[j]?=if j<i then L[j]? else if j=i then some x else if j=i+1 then some y else L[j-1]?:=by
 have hl:(L.take i).length=i:=by simp; omega
 rw [List.getElem?_append,hl];by_cases h1:j<i
 ·rw [if_pos h1,if_pos h1,zab,if_pos h1]
 ·rw [if_neg h1,if_neg h1];by_cases h2:j=i
  ·subst h2; simp
  ·rw [if_neg h2];by_cases h3:j=i+1
   ·subst h3; simp
   ·rw [if_neg h3];obtain ⟨m,rfl⟩:∃m,j=i+2+m:=⟨j-(i+2),by omega⟩
    rw [show i+2+m-i=m+2 by omega];simp only [List.getElem?_cons_succ,List.getElem?_drop];congr 1;omega
section
variable {w w':World} {b g cap:Nat} {gs:List Nat} {ns:List (List Ky)} {n n':Int}
theorem TL.put (h:TL w b (some g) gs cap ns n) {i:Nat} (hi:i<ns.length) {g2 c2:Nat} {l':List Ky} (hb:∃e,w'.heap[b]?=some (.cells #[.slice (some ⟨g,0,none⟩) ns.length cap,.int .i64 n'] e (0,0)))
  (hg:∃cs e,w.heap[g]?=some (.cells cs e (0,0))∧w'.heap[g]?=some (.cells (cs.setIfInBounds i (.slice (some ⟨g2,0,none⟩) l'.length c2)) e (0,0))) (hrow:xx w' g2 l' c2)
  (ho:∀(j x:Nat),j≠i→gs[j]?=some x→w'.heap[x]?=w.heap[x]?) (hg2:gs[i]?=some g2∨(g2≠b∧g2≠g∧g2∉gs)):TL w' b (some g) (gs.set i g2) cap (ns.set i l') n':=by
 obtain ⟨h0,cs,e,h1,h2,h4⟩:=h.out g rfl;obtain ⟨cs',e',q1,q2⟩:=hg;rw [h1] at q1;cases q1;refine ⟨?_,by simpa using h.le,h.mx,by simp,fun g0 hg0=>?_,by simp [h.len],?_⟩
 ·obtain ⟨e,he⟩:=hb;exact ⟨e,by rw [he]; simp [adr]⟩
 ·cases hg0;refine ⟨h0,_,_,q2,by simpa using h2,fun j x l hj hl=>?_⟩
  ·rw [List.getElem?_set] at hj hl;by_cases hij:i=j
   ·subst hij;simp [h.len,hi] at hj hl;subst hj; subst hl;refine ⟨c2,?_,hrow⟩;have:i<cs.size:=by have:=h.le; omega
    simp [this]
   ·rw [if_neg hij] at hj hl;obtain ⟨c,h5,h6⟩:=h4 j x l hj hl;refine ⟨c,?_,h6.loc (ho j x (Ne.symm hij) hj)⟩;rw [Array.getElem?_setIfInBounds,if_neg hij];exact h5
 ·have hnd:=h.nb;simp only [Option.toList_some,List.cons_append,List.nil_append] at hnd ⊢;rcases hg2 with hg2 | ⟨p1,p2,p3⟩
  ·have:gs.set i g2=gs:=by
    apply zaj;intro j;rw [List.getElem?_set];split
    ·rename_i hij; subst hij; rw [hg2]; simp; exact (zaa.1 hg2).1
    ·rfl
   rw [this];exact hnd
  ·simp only [List.nodup_cons,List.mem_cons,not_or] at hnd ⊢;obtain ⟨⟨a1,a2⟩,a3,a4⟩:=hnd;refine ⟨⟨a1,fun hm=>?_⟩,fun hm=>?_,?_⟩
   ·rcases List.mem_or_eq_of_mem_set hm with hm | hm
    ·exact a2 hm
    ·exact p1 hm.symm
   ·rcases List.mem_or_eq_of_mem_set hm with hm | hm
    ·exact a3 hm
    ·exact p2 hm.symm
   ·rw [List.Nodup,List.pairwise_iff_getElem] at a4 ⊢;intro x y hx hy hxy;rw [List.length_set] at hx hy;simp only [List.getElem_set];have nm:∀z (hz:z<gs.length),gs[z]≠g2:=fun z hz q=>p3 (q▸List.getElem_mem hz);split
    ·rw [if_neg (by omega)];exact fun q=>nm y hy q.symm
    ·split
     ·exact nm x hx
     ·exact a4 x y hx hy hxy
end

end
end Go.Ev

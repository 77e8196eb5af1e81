import Derived.Test.YtocfnfcflljooaaGreatM0
open Nat renaming add_mul → zaa, mul_le_mul_right → zac, le_refl → zad, min_eq_left → zae, one_mul → zaf, add_zero → zai, zero_add → zak, le_trans → zap, mul_comm → zaq, lt_or_ge → zas, lt_succ_self → zav, eq_zero_or_pos → zbf
open List renaming getElem?_eq_some_iff → zab, getElem?_toArray → zag, length_take → zaj, mem_of_getElem? → zal, getElem?_map → zam, getElem?_take → zan, all_eq_true → zao, take_of_length_le → zar, length_append → zat, size_toArray → zau, replicate → zaw, getElem_mem → zay, eq_nil_of_length_eq_zero → zaz, length_cons → zba, append_assoc → zbc, getElem?_append → zbd, mem_iff_getElem? → zbe, getElem?_append_left → zbg, flatMap_cons → zbh, length_replicate → zbj
open Array renaming length_toList → zah, getElem?_toList → zbb
open Option renaming map_eq_some_iff → zax
open Bool renaming and_eq_true → zbi
namespace Go.Ev
set_option maxHeartbeats 8000000
set_option maxRecDepth 100000
open Go
set_option linter.unusedSectionVars false
set_option linter.unnecessarySimpa false
set_option linter.unusedSimpArgs false
set_option linter.unusedVariables false
section
variable {P:Program} {X:Cx} {w w':World} {s:St} {ρ ρ':Pl->Option Nat} {a:Act} {o:Oper} {ob ob':Obs} {R R':Nat->Prop}
def fw (P:Program) (X:Cx) (a:Act) (w:World) (s:St) (o:Oper) (r:Rs):Prop:=
 ∃nx w' ρ',(execOp a.eval o).run P w=.ok nx w'/\Gam X ⟨s.e,r.ob⟩ ρ' a w'/\((∃c,nx=.value c/\RA X ⟨s.e,r.ob⟩ ρ' w' r.v c)\/(nx=.skip/\r.v=.undef))
theorem jx {a b:Type} {f:a->b->Bool}:∀{xs:List a} {ys:List b},x7 f xs ys=true->xs.length=ys.length
 | [],[],_=>rfl
 | x::xs,y::ys,h=>by simp [x7] at h; simp [jx h.2]
 | [],_::_,h=>by cases h
 | _::_,[],h=>by cases h
theorem aay {a b:Type} {f:a->b->Bool}:∀{xs:List a} {ys:List b},x7 f xs ys=true->∀{i:Nat} {x:a} {y:b},xs[i]?=some x->ys[i]?=some y->f x y=true
 | [],[],_,i,x,y,hx,_=>by simp at hx
 | x::xs,y::ys,h,0,x',y',hx,hy=>by simp [x7] at h; simp at hx hy; subst hx; subst hy; exact h.1
 | x::xs,y::ys,h,i+1,x',y',hx,hy=>by simp [x7] at h; simp at hx hy; exact aay h.2 hx hy
 | [],_::_,h,_,_,_,_,_=>by cases h
 | _::_,[],h,_,_,_,_,_=>by cases h
theorem ov {x:Obj} {x':Ob} {y:Nat->AV} {ok:Prop} {rd k:List Nat} {d:Nat} {c:Value} {ob:Obs} (l:d<X.n) (g:Gam X ⟨s.e,ob⟩ ρ a w) (j:OneMore w w' x) (b:(execOp a.eval o).run P w=.ok (.value c) w')
 (i:cj w' (j8 X.B (upd d (nv ob d,x') ob) (s6 ρ d (some w.heap.size)) w') (upd d (nv ob d,x') ob) (s6 ρ d (some w.heap.size)) d x')
 (hy:RelA w' (j8 X.B (upd d (nv ob d,x') ob) (s6 ρ d (some w.heap.size)) w') (upd d (nv ob d,x') ob) (s6 ρ d (some w.heap.size)) (y (nv ob d)) c) (f:x'.isAbs=false:=by rfl) :
 fw P X a w s o (q9 ob d x' y ok rd k):=
 ⟨_,w',s6 ρ d (some w.heap.size),b,g.alloc (s:=⟨s.e,ob⟩) j d (nv ob d) (g.pnn d (ai8 (by have:=g.small; omega))) (λ v o h=>ut h) x' i f,.inl ⟨c,rfl,hy⟩⟩
theorem jk {id v:Nat} {x:Ob} {X:Ob->Prop} (h:X x):At (upd id (v,x) ob) id v X:=⟨v,x,by simp [upd],zad _,λ _=>h⟩
theorem ae (x:Obj):OneMore w (w.alloc x) x:=⟨rfl,rfl,rfl,rfl⟩
theorem mo (x:Obj):OneMore w (w.drew.alloc x) x:=⟨rfl,rfl,rfl,rfl⟩
theorem als {c:Value} (h:c.oneCell'=true):c.cells=#[c]:=by cases c<;>first | rfl | cases h
theorem amk {x:RV} {c:Value} (h:RelV w R x c) (hx:x.one=true):c.oneCell'=true:=by
 cases h<;>first | exact hx | rfl | cases hx
theorem au1 {x:AV} {c:Value} (h:RelA w R ob ρ x c) (hx:x.one=true):c.oneCell'=true:=by
 cases h<;>first | rfl | cases hx; done | assumption | skip
 rename_i h;exact amk h hx
theorem au2 {x:AV} (hx:x.one=true):x.cells=[x]:=by
 unfold AV.cells;split<;>first | rfl | cases hx
theorem al2 {x:AV} {c:Value} (h:RelA w R ob ρ x c) (hx:x.boxable=true):c.cells.size=x.cells.length/\∀(i:Nat) (y:AV) (v:Value),x.cells[i]?=some y->c.cells[i]?=some v->RelA w R ob ρ y v:=by
 by_cases b:x.one=true
 ·rw [als (au1 h b),au2 b];refine ⟨rfl,λ i y v hy a=>?_⟩;cases i with
  | zero=>simp at hy a; subst hy; subst a; exact h
  | succ i=>simp at hy
 unfold AV.boxable at hx;split at hx
 ·cases h;rename_i cs d h;exact ⟨d,h⟩
 ·cases h;rename_i h;cases h;rename_i cs d h;refine ⟨by simp [Value.cells,AV.cells,d],λ i y v hy a=>?_⟩;simp only [AV.cells,zam,zax] at hy;obtain ⟨z,e,rfl⟩:=hy;exact .r (h i z v e a)
 exact absurd hx b
theorem a1l {d:Nat} {x:AV} {e:TypeId} {y:Operand} {ok:Prop} (g:d<X.n) (j:Gam X s ρ a w) (l:o.op=.box e y) (hx:RA X s ρ w x (a.eval y)) (q:x.boxable=true) :
 fw P X a w s o (q9 s.ob d (.box x.cells) (λ v=>.ptr d v 0) ok [] []):=by
 have b:(execOp a.eval o).run P w=.ok (.value (.pointer (some ⟨w.heap.size,0,none⟩))) (w.alloc (.cells (a.eval y).cells e)):=by
  simp only [execOp,l,Instr.box,newVar,newRow,Sem.run_bind,run_newObj,Result.andThen_ok,Sem.run_pure]; rfl
 have f:=Stays.alloc j (ae (.cells (a.eval y).cells e)) d (nv s.ob d) (λ v o h=>ut h) (.box x.cells);obtain ⟨m,p⟩:=al2 hx q;refine ov g j (ae _) b ?_ (.ptr _ _ _ _ rfl (jk ⟨_,by simp [s6],rfl⟩));exact ⟨w.heap.size,(a.eval y).cells,e,by simp [s6],(ae _).new,m,λ i z c k hc=>(p i z c k hc).stays f⟩
theorem axd {d:Nat} {j:List AV} {e:TypeId} {i:TypeInfo} {z:Value} {ok:Prop} (h:d<X.n) (l:Gam X s ρ a w) (m:o.op=.alloc e) (g:P.info? e=some i) (k:i.zero=some z) (f:x7 eqz z.cells.toList j=true) :
 fw P X a w s o (q9 s.ob d (.box j) (λ v=>.ptr d v 0) ok [] []):=by
 have b:(execOp a.eval o).run P w=.ok (.value (.pointer (some ⟨w.heap.size,0,none⟩))) (w.alloc (.cells z.cells e)):=by
  simp only [execOp,m,Instr.alloc,zeroValue,typeInfo,newVar,newRow,Sem.run_bind,run_program,g,k,run_newObj,Result.andThen_ok,Sem.run_pure]; rfl
 refine ov h l (ae _) b ?_ (.ptr _ _ _ _ rfl (jk ⟨_,by simp [s6],rfl⟩));refine ⟨w.heap.size,z.cells,e,by simp [s6],(ae _).new,by rw [<- jx f]; simp,λ i x c g hc=>?_⟩;exact akw (aay f (by simpa using hc) g)
theorem Mods.same {b:Nat} {y:Obj} (h:w.heap[b]?=some y):Mods w w b y:=⟨rfl,rfl,rfl,rfl,h,λ _ _=>rfl⟩
theorem jt {g:Nat} {a cs:Array Value} {t:TypeId} {fr:Nat×Nat} (b:w.heap[g]?=some (.cells a t fr)):Mods w (w.setRow g cs) g (.cells cs t fr):=
 ⟨rfl,rfl,rfl,by simp [World.setRow],setRow_heap w g a cs t fr b,λ k c=>setRow_other w g k cs c⟩
theorem xi (g o:Nat) (t:TypeId) (fr:Nat×Nat):∀(vs:List Value) (i:Nat) (cur:Array Value) (w:World),w.heap[g]?=some (.cells cur t fr)->(∀k,k<cur.size->¬(fr.1<=k/\k<fr.2))->o+i+vs.length<=cur.size->(∀v∈vs,v.oneCell'=true) ->
 (storeCells ⟨g,o,none⟩ vs i).run P w=.ok () (w.setRow g (cur.toList.take (o+i)++vs++cur.toList.drop (o+i+vs.length)).toArray)
 | [],i,cur,w,hg,_,_,_=>by
   simp only [storeCells,List.append_nil,List.length_nil,zai,List.take_append_drop,Array.toArray_toList];rw [setRow_self w g cur t fr hg]
   rfl
 | v::rest,i,cur,w,hg,hf,hl,h1=>by
   have f:o+i<cur.size:=by simp at hl; omega
   have c:(⟨g,o,none⟩:Addr).add i=⟨g,o+i,none⟩:=ci g o i;have a:w.cell? ⟨g,o+i,none⟩=some cur[o+i]:=by simp [World.cell?,hg,f]
   have b:w.frozen? ⟨g,o+i,none⟩=false:=by
    have:=hf (o+i) f;simp only [World.frozen?,hg];simpa using this
   have d:(store ((⟨g,o,none⟩:Addr).add i) v).run P w=.ok () (w.setRow g (cur.setIfInBounds (o+i) v)):=by
    rw [c,run_store P w _ v _ (h1 v (by simp)),a];simp [b,setCell_eq_setRow w g (o+i) cur t fr v hg]
   have h:=xi g o t fr rest (i+1) (cur.setIfInBounds (o+i) v) (w.setRow g (cur.setIfInBounds (o+i) v)) (setRow_heap w g cur _ t _ hg) (by simpa using hf) (by simp at hl |-; omega) (λ x hx=>h1 x (by simp [hx]));simp only [storeCells,Sem.run_bind,d,Result.andThen_ok,h,setRow_setRow];congr 3;have e:=list_seg_step cur.toList (o+i) v rest (by simp at hl |-; omega);simpa [Array.toList_setIfInBounds,Nat.add_assoc] using e
theorem aha {t:TypeId} {inf:TypeInfo} {g o':Nat} {e:TypeId} {fr:Nat×Nat} {cur:Array Value} {c:Value} (f:P.info? t=some inf) (a:c.cells.size=inf.size) (d:w.heap[g]?=some (.cells cur e fr))
 (b:∀k,k<cur.size->¬(fr.1<=k/\k<fr.2)) (i:o'+c.cells.size<=cur.size) (h:∀v∈c.cells.toList,v.oneCell'=true) :
 (Instr.storeAt t (.pointer (some ⟨g,o',none⟩)) c).run P w=.ok () (w.setRow g (c8 cur.toList o' c.cells.toList).toArray):=by
 have:=xi (P:=P) g o' e fr c.cells.toList 0 cur w d b (by simpa using i) h;simp only [zai] at this;simp [Instr.storeAt,Instr.sureAddr,storeVar,sizeOf,typeInfo,f,a,this,c8]
theorem l7 {a:Type} {l m:List a} {i:Nat} (h:i+m.length<=l.length):(c8 l i m).length=l.length:=by
 simp [c8]; omega
theorem y6 {c:Type} {l m:List c} {i:Nat} (h:i+m.length<=l.length) (j:Nat):(c8 l i m)[j]?=if i<=j/\j<i+m.length then m[j-i]? else l[j]?:=by
 unfold c8;rw [zbc,zbd,zaj,zae (by omega)];by_cases a:j<i
 ·rw [if_pos a,zan,if_pos a,if_neg (by omega)]
 rw [if_neg a,zbd];by_cases b:j-i<m.length
 ·rw [if_pos b,if_pos (by omega)]
 rw [if_neg b,if_neg (by omega),List.getElem?_drop];congr 1;omega
theorem a1b {m off id ver:Nat} {y:AV} {d:List AV} {t:TypeId} {inf:TypeInfo} {x v:Operand} {ok:Prop} (K:Gam X s ρ a w) (O:o.op=.store t x v) (G:P.info? t=some inf) (U:inf.size=m)
 (hx:RA X s ρ w (.ptr id ver off) (a.eval x)) (hy:RA X s ρ w y (a.eval v)) (T:t5 s.ob id ver=some d) (W:y.cells.length=m) (Y:off+m<=d.length) (N:y.cells.all (·.one)=true) (L:y.boxable=true) :
 fw P X a w s o ⟨ok,.undef,upd id (ver,.box (c8 d off y.cells)) s.ob,[id],[id]⟩:=by
 have k:=fv T;cases hx;rename_i Q h;obtain ⟨b,j,hc⟩:=h.live k;obtain ⟨V,cs,e,n,F,H,D⟩:=K.obj id ver _ k;rw [j] at n;cases n;obtain ⟨S,M⟩:=al2 hy L
 have E:∀u∈(a.eval v).cells.toList,u.oneCell'=true:=λ u R=>by
  obtain ⟨i,G⟩:=zbe.1 R
  have A:i<y.cells.length:=by
   have:=(zab.1 G).1;simp at this;omega
  have r:y.cells[i]?=some y.cells[i]:=by simp [A]
  exact au1 (M i _ u r (by simpa using G)) (zao.1 N _ (zay A))
 have C:=aha (P:=P) (w:=w) (o':=off) (c:=a.eval v) G (by omega) F (by simp) (by omega) E;have p:=jt (w:=w) (cs:=(c8 cs.toList off (a.eval v).cells.toList).toArray) F;have g:(c8 cs.toList off (a.eval v).cells.toList).length=cs.size:=by rw [l7 (by simp; omega)]; simp
 have B:=Stays.modify (x':=.box (c8 d off y.cells)) K k rfl j F p (by simpa using g) ver (.inl ⟨rfl,trivial⟩);refine ⟨.skip,_,ρ,?_,K.modify k rfl j F p (by simpa using g) ver (.inl ⟨rfl,trivial⟩) (.inr ⟨rfl,trivial,λ _=>rfl⟩) ?_,.inr ⟨rfl,rfl⟩⟩
 ·simp only [execOp,O,hc,Sem.run_bind,C,Result.andThen_ok,Sem.run_pure]
 refine ⟨b,_,e,j,p.new,?_,λ i z c r f=>?_⟩
 ·rw [l7 (by omega)];simpa [H] using g
 have I:=y6 (l:=d) (m:=y.cells) (i:=off) (by omega) i;rw [I] at r;have J:=y6 (l:=cs.toList) (m:=(a.eval v).cells.toList) (i:=off) (by simp; omega) i;rw [zag,J] at f;simp only [zah,S] at f;split at r
 ·rename_i q;rw [if_pos q] at f;exact (M _ z c r (by simpa using f)).stays B
 rename_i q;rw [if_neg q] at f;exact (D i z c r (by simpa using f)).stays B
theorem mt {ob:Obs}:∀{xs:List AV} {ys:List RV} {a:List Nat},rvs ob xs=some (ys,a)->ys.length=xs.length
 | [],ys,a,h=>by simp [rvs] at h; simp [h.1]
 | x::xs,ys,a,h=>by
   simp only [rvs] at h;split at h
   ·rename_i y i d j c b;cases h;simp [mt b]
   cases h
theorem acs (f:Gam X s ρ a w) {ob:Obs} {l:List Nat} (b:s.ob=Ev.freeze ob l):∀{xs:List AV} {ys:List RV} {d:List Nat},rvs ob xs=some (ys,d)->(∀i∈d,i∈l) ->
 ∀(i:Nat) (x:AV) (y:RV) (c:Value),xs[i]?=some x->ys[i]?=some y->RA X s ρ w x c->RelV w (j8 X.B s.ob ρ w) y c
 | [],ys,d,h,hs,i,x,y,c,hx,hy,hr=>by simp at hx
 | z::xs,ys,d,h,hs,i,x,y,c,hx,hy,hr=>by
   simp only [rvs] at h;split at h
   ·rename_i n k o j g m;cases h;cases i with
    | zero=>
      simp at hx hy;subst hx; subst hy;exact ai0 f g (λ p e=>hs p (by simp [e])) b hr
    | succ i=>
      simp at hx hy;exact acs f b m (λ p e=>hs p (by simp [e])) i x y c hx hy hr
   cases h
theorem as1 {x:RV} (h:x.one=true):x.cells=[x]:=by cases x<;>first | rfl | cases h
theorem arp {q E:RV} {off:Nat} {ys:List RV} (a:(match q with | .agg cs=>RV.agg (c8 cs off ys) | q=>ys.getD 0 q)=E) (h:off+ys.length<=q.cells.length) (c:ys.all (·.one)=true):E.cells=c8 q.cells off ys:=by
 have b:∀q:RV,q.cells=[q]->ys.getD 0 q=E->off+ys.length<=1->E.cells=c8 q.cells off ys:=by
  intro q d a h;rw [d]
  match ys,c,a,h with
  | [],_,a,h=>
    simp at a; subst a;rw [d];simp [c8]
  | [y0],c,a,h=>
    simp at a c h; subst a; subst h;rw [as1 c];simp [c8]
  | _::_::_,_,_,h=>simp at h; omega
 cases q with
 | agg cs=>simp only at a; subst a; rfl
 | v x=>exact b _ rfl a h
 | sl k xs=>exact b _ rfl a h
theorem a1a {m idx off id ver sz:Nat} {z:RV} {I:Bool} {xs ys:List RV} {y:AV} {t:TypeId} {inf:TypeInfo} {x v:Operand} {ok:Prop} (hG:Gam X s ρ a w) (ho:o.op=.store t x v) (Z:P.info? t=some inf) (hm:inf.size=m)
 (hx:RA X s ρ w (.oel id ver idx off) (a.eval x)) (hy:RA X s ρ w y (a.eval v)) (hb:l9 s.ob id ver=some (sz,z,I,true,xs)) (L:rvs s.ob y.cells=some (ys,[])) (h1:ys.length=m) (h2:off+m<=sz) (h3:ys.all (·.one)=true) (h0:y.boxable=true) :
 fw P X a w s o ⟨ok,.undef,upd id (ver,.row sz z I true (xs.set idx (match xs.getD idx z with | .agg cs=>.agg (c8 cs off ys) | q=>ys.getD 0 q))) s.ob,[id],[id]⟩:=by
 have k:=u4 hb;simp only at k;cases hx;rename_i ha h;obtain ⟨f,h8,b,n,hc⟩:=h.live k;rcases hG.obj id ver _ k with ⟨T,_⟩ | ⟨b',cs,e,fr,F,Y,K,Q,M,V⟩
 ·rw [T] at f; simp at f
 rw [n] at F;cases F;obtain ⟨k1,k2⟩:=al2 hy h0;have hl:=mt L
 have D:∀(i:Nat) (q:RV) (u:Value),ys[i]?=some q->(a.eval v).cells[i]?=some u->RelV w (j8 X.B s.ob ρ w) q u/\u.oneCell'=true:=λ i q u A hu=>by
  have d:=(zab.1 A).1;have hz:y.cells[i]?=some (y.cells[i]'(by omega)):=by simp [show i<y.cells.length by omega]
  have:=acs hG (ob:=s.ob) (l:=[]) rfl L (by simp) i _ q u hz A (k2 i _ u hz hu);refine ⟨this,amk this ?_⟩;have h4:=(zab.1 A).2;rw [<- h4];exact zao.1 h3 _ (zay d)
 have h6:xs[idx]?=some (xs.getD idx z):=by simp [f]
 obtain ⟨N,h7⟩:=V idx _ h6;have O:(idx+1)*sz<=cs.size:=zap (zac _ f) M;rw [zaa,zaf] at O
 have W:∀u∈(a.eval v).cells.toList,u.oneCell'=true:=λ u hu=>by
  obtain ⟨i,Z⟩:=zbe.1 hu;have d:=(zab.1 Z).1;simp at d;exact (D i (ys[i]'(by omega)) u (by simp [show i<ys.length by omega]) (by simpa using Z)).2
 have U:=aha (P:=P) (w:=w) (o':=idx*sz+off) (c:=a.eval v) Z (by omega) Y K (by omega) W;have H:=jt (w:=w) (cs:=(c8 cs.toList (idx*sz+off) (a.eval v).cells.toList).toArray) Y;have g:(c8 cs.toList (idx*sz+off) (a.eval v).cells.toList).length=cs.size:=by rw [l7 (by simp; omega)]; simp
 generalize hE:(match xs.getD idx z with | .agg cs=>RV.agg (c8 cs off ys) | q=>ys.getD 0 q)=E;have h5:E.cells=c8 (xs.getD idx z).cells off ys:=arp hE (by rw [N]; omega) h3;have J:=Stays.modify (x':=.row sz z I true (xs.set idx E)) hG k rfl n Y H (by simpa using g) ver (.inl ⟨rfl,rfl,by simp⟩);refine ⟨.skip,_,ρ,?_,hG.modify k rfl n Y H (by simpa using g) ver (.inl ⟨rfl,rfl,by simp⟩) (.inr ⟨rfl,⟨rfl,by simp⟩,λ h=>h⟩) ?_,.inr ⟨rfl,rfl⟩⟩
 ·simp only [execOp,ho,hc,Sem.run_bind,U,Result.andThen_ok,Sem.run_pure]
 refine .inr ⟨b,_,e,fr,n,H.new,by simpa [g] using K,Q,by simpa [g] using M,λ i q A=>?_⟩;have S:=λ p=>y6 (l:=cs.toList) (m:=(a.eval v).cells.toList) (i:=idx*sz+off) (by simp; omega) p;rw [List.getElem?_set] at A;by_cases G:idx=i
 ·subst G;rw [if_pos rfl,if_pos f] at A;cases A;rw [h5];refine ⟨by rw [l7 (by omega)]; exact N,λ j r C=>?_⟩;rw [y6 (by omega)] at C;rw [zag,S];simp only [zah];by_cases R:off<=j/\j<off+ys.length
  ·rw [if_pos R] at C;rw [if_pos (by omega)];have d:j-off<(a.eval v).cells.size:=by omega
   refine ⟨(a.eval v).cells[j-off],by rw [show idx*sz+j-(idx*sz+off)=j-off by omega]; simp [d],?_⟩;have:=D (j-off) r (a.eval v).cells[j-off] C (by simp [d]);exact ⟨this.2,this.1.mono J.free⟩
  rw [if_neg R] at C;rw [if_neg (by omega)];obtain ⟨c,g1,g2,g3⟩:=h7 j r C;exact ⟨c,by simpa using g1,g2,g3.mono J.free⟩
 rw [if_neg G] at A;obtain ⟨g1,g2⟩:=V i q A;refine ⟨g1,λ j r C=>?_⟩;obtain ⟨c,f1,f2,f3⟩:=g2 j r C;have h9:j<sz:=by have:=(zab.1 C).1; omega
 refine ⟨c,?_,f2,f3.mono J.free⟩;rw [zag,S];simp only [zah];rw [if_neg]
 ·simpa using f1
 rintro ⟨p1,p2⟩;rcases Nat.lt_or_gt_of_ne G with d | d
 ·have:(idx+1)*sz<=i*sz:=zac _ d;rw [zaa,zaf] at this;omega
 have:(i+1)*sz<=idx*sz:=zac _ d;rw [zaa,zaf] at this;omega
theorem ae6 {a:Type} {l:List a} {n i:Nat} {x:a} (h:(l.take n)[i]?=some x):l[i]?=some x:=by
 rw [zan] at h;split at h
 ·exact h
 cases h
theorem aiy (hG:Gam X s ρ a w) {y:AV} {c:Value} {sz:Nat} {ys:List RV} {rd:List Nat} (v:src s.ob y=some (sz,ys,rd)) (hy:RA X s ρ w y c) :
 ∃(A:Option Addr) (cap:Nat) (news:List Value),c=.slice A ys.length cap/\(∀m,m<=ys.length->∀W:World,W.heap=w.heap->(Builtin.firstCells sz m c).run P W=.ok (news.take (m*sz)).toArray W)/\news.length=ys.length*sz/\(∀u∈news,u.oneCell'=true) /\
  (∀(i:Nat) (x:RV),ys[i]?=some x->x.cells.length=sz/\∀(j:Nat) (q:RV),x.cells[j]?=some q->∃u,news[i*sz+j]?=some u/\RelV w (j8 X.B s.ob ρ w) q u):=by
 have l:∀(A:Option Addr) (cap b o':Nat) (g:Nat->Nat->Value),c=.slice A ys.length cap->(0<ys.length->A=some ⟨b,o',none⟩)->(∀(i:Nat) (x:RV),ys[i]?=some x->x.cells.length=sz) ->
  (∀(i:Nat) (x:RV) (j:Nat) (q:RV),ys[i]?=some x->x.cells[j]?=some q->w.cell? ⟨b,o'+i*sz+j,none⟩=some (g i j)/\(g i j).oneCell'=true/\RelV w (j8 X.B s.ob ρ w) q (g i j)) ->
  ∃(A:Option Addr) (cap:Nat) (news:List Value),c=.slice A ys.length cap/\(∀m,m<=ys.length->∀W:World,W.heap=w.heap->(Builtin.firstCells sz m c).run P W=.ok (news.take (m*sz)).toArray W)/\news.length=ys.length*sz/\(∀u∈news,u.oneCell'=true) /\
  (∀(i:Nat) (x:RV),ys[i]?=some x->x.cells.length=sz/\∀(j:Nat) (q:RV),x.cells[j]?=some q->∃u,news[i*sz+j]?=some u/\RelV w (j8 X.B s.ob ρ w) q u):=by
  intro A cap b o' g hc T F G;rcases zbf ys.length with J | J
  ·have Q:ys=[]:=zaz J;subst Q;refine ⟨A,cap,[],hc,λ m D W Y=>?_,by simp,by simp,by simp⟩;have Z:m=0:=by simpa using D
   subst Z;rw [hc];cases A<;>simp [Builtin.firstCells,loadCells,loadCellsFrom]
  have U:=T J;subst U;rcases zbf sz with k | k
  ·subst k;refine ⟨_,cap,[],hc,λ m D W Y=>?_,by simp,by simp,λ i x hx=>⟨F i x hx,λ j q d=>?_⟩⟩
   ·rw [hc];simp [Builtin.firstCells,loadCells,loadCellsFrom]
   have:=F i x hx;have:=(zab.1 d).1;omega
  have o:∀p,p<ys.length*sz->∃x q,ys[p/sz]?=some x/\x.cells[p%sz]?=some q:=λ p I=>by
   have E:p/sz<ys.length:=Nat.div_lt_of_lt_mul (by rw [zaq]; exact I);have O:p%sz<sz:=Nat.mod_lt _ k;have hx:ys[p/sz]?=some ys[p/sz]:=by simp [E]
   have hl:=F _ _ hx;exact ⟨_,ys[p/sz].cells[p%sz]'(by omega),hx,by simp [show p%sz<ys[p/sz].cells.length by omega]⟩
  have f:∀p u,((List.range (ys.length*sz)).map λ p=>g (p/sz) (p%sz))[p]?=some u->u=g (p/sz) (p%sz)/\p<ys.length*sz:=λ p u C=>by
   rw [zam,zax] at C;obtain ⟨q,d,rfl⟩:=C;obtain ⟨L,K⟩:=zab.1 d;rw [List.getElem_range] at K;subst K;rw [List.length_range] at L;exact ⟨rfl,L⟩
  refine ⟨_,cap,(List.range (ys.length*sz)).map λ p=>g (p/sz) (p%sz),hc,λ m D W Y=>?_,by simp,λ u C=>?_,λ i x hx=>⟨F i x hx,λ j q d=>⟨g i j,?_,(G i x j q hx d).2.2⟩⟩⟩
  ·rw [hc];refine run_firstCells_some W sz m ⟨b,o',none⟩ ys.length cap _ (by simp [zae D]) λ p u C=>?_;have C:=ae6 C;rw [show W.cell?=w.cell? from by funext x; simp only [World.cell?,Y]];obtain ⟨rfl,I⟩:=f p u C;obtain ⟨x,q,hx,d⟩:=o p I;rw [ci,<- (G _ x _ q hx d).1];congr 2;have:=Nat.div_add_mod p sz;rw [zaq] at this;omega
  ·obtain ⟨p,I⟩:=zbe.1 C;obtain ⟨rfl,S⟩:=f p u I;obtain ⟨x,q,hx,d⟩:=o p S;exact (G _ x _ q hx d).2.1
  have E:=(zab.1 hx).1;have O:=(zab.1 d).1;have h3:=F i x hx
  have R:i*sz+j<ys.length*sz:=by
   have:(i+1)*sz<=ys.length*sz:=zac _ E;rw [zaa,zaf] at this;omega
  have hd:(i*sz+j)/sz=i:=by
   rw [zaq,Nat.mul_add_div k,Nat.div_eq_of_lt (by omega),zai]
  have D:(i*sz+j)%sz=j:=by
   rw [zaq,Nat.mul_add_mod,Nat.mod_eq_of_lt (by omega)]
  simp [R,hd,D]
 unfold src at v;split at v
 ·cases v;cases hy;rename_i hy;cases hy;rename_i A cap D b o' g h7 T N F G;exact l A cap b o' g rfl (λ h=>(T h).1) F λ i x j q hx d=>⟨(G i x j q hx d).1,(G i x j q hx d).2,N i x j q hx d⟩
 ·cases v;cases hy;exact l none 0 0 0 (λ _ _=>undef) rfl (by simp) (by simp) (by simp)
 ·split at v
  ·rename_i id ver H len _ sz z h8 wr xs N;cases v;have M:=u4 N;simp only at M;obtain ⟨A,cap,e1,e2,e3,e4,e5⟩:=mu hy N;simp only at e4;have n:((xs.drop H).take len).length=len:=by simp; omega
   have r:∀(i:Nat) (x:RV),((xs.drop H).take len)[i]?=some x->xs[H+i]?=some x:=λ i x t=>by
    rw [zan] at t;split at t
    ·rwa [List.getElem?_drop] at t
    cases t
   rcases hG.obj id ver _ M with ⟨E,O,_⟩ | ⟨b,cs,e,fr,E,O,h3,h4,h5,h6⟩
   ·subst E;have V:len=0:=by simp at e4; omega
    subst V;exact l A cap 0 0 (λ _ _=>undef) (by rw [e1]; simp) (by simp) (by simp) (by simp)
   refine l A cap b (H*sz) (λ i j=>(cs[(H+i)*sz+j]?).getD undef) (by rw [e1,n]) (λ J=>?_) (λ i x t=>(h6 _ x (r i x t)).1) (λ i x j q t hj=>?_)
   ·rw [n] at J;obtain ⟨b',h9,e',ha,f1,f2,f3,f4⟩:=e5 (by omega);rw [E] at f1;cases f1;exact f2
   obtain ⟨u,g1,g2,g3⟩:=(h6 _ x (r i x t)).2 j q hj;rw [g1];refine ⟨?_,g2,g3⟩;simp only [World.cell?,O,Option.isSome_none,Bool.false_eq_true,if_false,Option.getD_some];rw [<- g1,zaa]
  cases v
 cases v
theorem ae9 (l:Gam X s ρ a w) {y:AV} {c:Value} {sz:Nat} {ys:List RV} {rd:List Nat} (d:src s.ob y=some (sz,ys,rd)) (hy:RA X s ρ w y c) :
 ∃(A:Option Addr) (cap:Nat) (news:List Value),c=.slice A ys.length cap/\(∀W:World,W.heap=w.heap->(Builtin.firstCells sz ys.length c).run P W=.ok news.toArray W)/\news.length=ys.length*sz/\(∀u∈news,u.oneCell'=true) /\
  (∀(i:Nat) (x:RV),ys[i]?=some x->x.cells.length=sz/\∀(j:Nat) (q:RV),x.cells[j]?=some q->∃u,news[i*sz+j]?=some u/\RelV w (j8 X.B s.ob ρ w) q u):=by
 obtain ⟨A,cap,news,f,k,b,g,h⟩:=aiy (P:=P) l d hy;refine ⟨A,cap,news,f,λ W e=>?_,b,g,h⟩;rw [k ys.length (zad _) W e,zar (by omega)]
theorem a1h {sz id ver d n:Nat} {z':RV} {F:Bool} {xs:List RV} {y:AV} {ys:List RV} {rd rd':List Nat} {t u e:TypeId} {inf:TypeInfo} {c:Call} {x v:Operand} {ok:Prop} (hG:Gam X s ρ a w) (ho:o.op=.call c) (hc:c.callee=.builtin .copy)
 (L:c.args=#[x,v]) (h2:c.argTypes=#[t,u]) (ht:P.underlying t=some (.slice e)) (hi:P.info? e=some inf) (h8:inf.size=sz)
 (hx:RA X s ρ w (.own id ver d n) (a.eval x)) (hr:l9 s.ob id ver=some (sz,z',F,true,xs)) (hy:RA X s ρ w y (a.eval v)) (hs:src s.ob y=some (sz,ys,rd)) :
 fw P X a w s o ⟨ok,int .i64 ((Nat.min ys.length n:Nat):Int),upd id (ver,.row sz z' F true (spl xs d (ys.take n))) s.ob,rd',[id]⟩:=by
 unfold spl;subst h8;have D:=u4 hr;simp only at D;obtain ⟨A2,c2,news,h4,h5,h9,S,N⟩:=aiy (P:=P) hG hs hy;obtain ⟨A,cap,he,e2,e3,e4,e5⟩:=mu hx hr;simp only at e4;obtain ⟨m,Q⟩:∃m,m=Nat.min ys.length n:=⟨_,rfl⟩
 have G:m<=ys.length:=by rw [Q]; exact Nat.min_le_left _ _
 have hv:m<=n:=by rw [Q]; exact Nat.min_le_right _ _
 have hd:ys.take n=ys.take m:=by
  rw [Q];rcases Nat.le_total ys.length n with h | h
  ·rw [zar h,zar (by rw [show Nat.min ys.length n=ys.length from zae h]; exact zad _)]
  rw [show Nat.min ys.length n=n from Nat.min_eq_right h]
 rw [<- Q,hd];have hf:=h5 m G;rw [h4] at hf
 have C:∀r,(Builtin.copy_ #[t,u] o.type #[.slice A n cap,.slice A2 ys.length c2]).run P w=r->(execOp a.eval o).run P w=r.andThen λ q w'=>.ok (.value q) w':=by
  rintro r rfl;simp [execOp,ho,resolve,hc,L,h2,invoke,builtin,he,h4]
 by_cases h0:m=0
 ·subst h0;have h7:=hf w rfl;simp only [Nat.zero_mul,List.take_zero] at h7
  have O:(Builtin.copy_ #[t,u] o.type #[.slice A n cap,.slice A2 ys.length c2]).run P w=.ok (goInt 0) w:=by
   cases A<;>simp [Builtin.copy_,run_underlying ht,Builtin.lenOf,sizeOf,typeInfo,hi,<- Q,h7,storeCells]
  have f:=C _ O;simp only [Result.andThen_ok] at f;refine ⟨_,w,ρ,f,?_,.inl ⟨_,rfl,.r (.v _)⟩⟩;have e:c8 xs d (ys.take 0)=xs:=by simp [c8]
  rw [e]
  rw [show upd id (ver,Ob.row inf.size z' F true xs) s.ob=s.ob from by
   funext i;unfold upd;split
   ·rename_i h; rw [h,D]
   rfl]
  exact hG
 have hg:0<cap:=by omega
 obtain ⟨b,hp,ee,hn,R,f2,f3,f4⟩:=e5 hg;rcases hG.obj id ver _ D with ⟨q1,q2,_⟩ | ⟨b',cs,e',fr,V,hh,T,W,H,M⟩
 ·rw [R] at q2; cases q2
 rw [R] at V;cases V
 have I:(news.take (m*inf.size)).length=m*inf.size:=by
  rw [zaj,h9];exact zae (zac _ G)
 have J:(d+m)*inf.size<=cs.size:=zap (zac _ (by omega)) H
 have B:d*inf.size+(news.take (m*inf.size)).length<=cs.toList.length:=by
  rw [I,<- zaa];simpa using J
 have h6:∀u∈news.take (m*inf.size),u.oneCell'=true:=λ u hu=>S u (List.mem_of_mem_take hu);have h3:=xi (P:=P) b (d*inf.size) e' fr (news.take (m*inf.size)) 0 cs w hh T (by simpa using B) h6;have hb:=hf w rfl
 have O:(Builtin.copy_ #[t,u] o.type #[.slice A n cap,.slice A2 ys.length c2]).run P w=.ok (goInt m) (w.setRow b (c8 cs.toList (d*inf.size) (news.take (m*inf.size))).toArray):=by
  simp only [zai] at h3;simp [Builtin.copy_,run_underlying ht,Builtin.lenOf,sizeOf,typeInfo,hi,<- Q,hb,f2,h3,c8]
 have f:=C _ O;simp only [Result.andThen_ok] at f;have K:=jt (w:=w) (cs:=(c8 cs.toList (d*inf.size) (news.take (m*inf.size))).toArray) hh;have g:(c8 cs.toList (d*inf.size) (news.take (m*inf.size))).length=cs.size:=by rw [l7 B]; simp
 have Z:d+(ys.take m).length<=xs.length:=by rw [zaj,zae G]; omega
 have k:(c8 xs d (ys.take m)).length=xs.length:=l7 Z;have z:=Stays.modify (x':=.row inf.size z' F true (c8 xs d (ys.take m))) hG D rfl R hh K (by simpa using g) ver (.inl ⟨rfl,rfl,by rw [k]; exact zad _⟩);refine ⟨_,_,ρ,f,hG.modify D rfl R hh K (by simpa using g) ver (.inl ⟨rfl,rfl,by rw [k]; exact zad _⟩) (.inr ⟨rfl,⟨rfl,by rw [k]; exact zad _⟩,λ h=>h⟩) ?_,.inl ⟨_,rfl,.r (.v _)⟩⟩;refine .inr ⟨b,_,e',fr,R,K.new,by simpa [g] using T,W,by simpa [g,k] using H,λ i q E=>?_⟩;have Y:=λ p=>y6 (l:=cs.toList) (m:=news.take (m*inf.size)) (i:=d*inf.size) B p;rw [y6 Z,zaj,zae G] at E;split at E
 ·rename_i h1;have E:=ae6 E;refine ⟨(N _ q E).1,λ j r U=>?_⟩;obtain ⟨c,g1,g2⟩:=(N _ q E).2 j r U;have ha:j<inf.size:=by have:=(zab.1 U).1; have:=(N _ q E).1; omega
  have hl:(i-d)*inf.size+j<m*inf.size:=by
   have:(i-d+1)*inf.size<=m*inf.size:=zac _ (by omega);rw [zaa,zaf] at this;omega
  have hk:i*inf.size=d*inf.size+(i-d)*inf.size:=by rw [<- zaa,show d+(i-d)=i by omega]
  refine ⟨c,?_,S c (zal g1),g2.mono z.free⟩;rw [zag,Y,I,if_pos (by omega),zan,if_pos (by omega),show i*inf.size+j-d*inf.size=(i-d)*inf.size+j by omega,g1]
 rename_i h1;refine ⟨(M i q E).1,λ j r U=>?_⟩;obtain ⟨c,g1,g2,g3⟩:=(M i q E).2 j r U;have ha:j<inf.size:=by have:=(zab.1 U).1; have:=(M i q E).1; omega
 refine ⟨c,?_,g2,g3.mono z.free⟩;rw [zag,Y,I,if_neg]
 ·simpa using g1
 rintro ⟨p1,p2⟩;apply h1;constructor
 ·rcases zas i d with h | h
  ·have:(i+1)*inf.size<=d*inf.size:=zac _ h;rw [zaa,zaf] at this;omega
  exact h
 rcases zas i (d+m) with h | h
 ·exact h
 have:(d+m)*inf.size<=i*inf.size:=zac _ h;rw [zaa] at this;omega
theorem a1i {sz id ver d n:Nat} {z':RV} {G:Bool} {xs:List RV} {I:ByteArray} {ys:List RV} {rd':List Nat} {t u e:TypeId} {inf:TypeInfo} {c:Call} {x v:Operand} {ok:Prop} (hG:Gam X s ρ a w) (ho:o.op=.call c) (hc:c.callee=.builtin .copy)
 (Q:c.args=#[x,v]) (h6:c.argTypes=#[t,u]) (ht:P.underlying t=some (.slice e)) (hi:P.info? e=some inf) (hd:inf.size=sz)
 (hx:RA X s ρ w (.own id ver d n) (a.eval x)) (hr:l9 s.ob id ver=some (sz,z',G,true,xs)) (hy:a.eval v=.string I) (O:sz=1) (L:ys=I.data.toList.map λ b=>RV.v (.int .u8 b.toNat)) :
 fw P X a w s o ⟨ok,int .i64 ((Nat.min ys.length n:Nat):Int),upd id (ver,.row sz z' G true (spl xs d (ys.take n))) s.ob,rd',[id]⟩:=by
 unfold spl;subst hd;have E:=u4 hr;simp only at E;have hl:a.eval v=.string I:=hy;have h9:I.size=ys.length:=by rw [L,List.length_map,zah]; rfl
 obtain ⟨news,F⟩:∃news:List Value,news=I.data.toList.map λ b=>Value.int .u8 b.toNat:=⟨_,rfl⟩
 have h8:∀m,m<=ys.length->∀W:World,W.heap=w.heap->(Builtin.firstCells inf.size m (.string I)).run P W=.ok (news.take (m*inf.size)).toArray W:=λ m R W _=>by
  rw [O,F];simp [Builtin.firstCells];apply Array.ext';simp [List.map_take]
 have he:news.length=ys.length*inf.size:=by rw [O,F,L]; simp
 have Y:∀u∈news,u.oneCell'=true:=by
  rw [F];intro u hu;obtain ⟨c,_,rfl⟩:=List.mem_map.1 hu
  rfl
 have T:∀(i:Nat) (x:RV),ys[i]?=some x->x.cells.length=inf.size/\∀(j:Nat) (q:RV),x.cells[j]?=some q->∃u,news[i*inf.size+j]?=some u/\RelV w (j8 X.B s.ob ρ w) q u:=by
  rw [O,F,L];intro i x hx;rw [zam,zax] at hx;obtain ⟨c,hc,rfl⟩:=hx;refine ⟨rfl,λ j q y=>?_⟩;cases j with
  | succ j=>simp [RV.cells] at y
  | zero=>
    simp [RV.cells] at y;subst y;refine ⟨_,?_,.v _⟩;rw [Nat.mul_one,zai,zam,hc]
    rfl
 obtain ⟨A,cap,hp,e2,e3,e4,e5⟩:=mu hx hr;simp only at e4;obtain ⟨m,R⟩:∃m,m=Nat.min ys.length n:=⟨_,rfl⟩
 have H:m<=ys.length:=by rw [R]; exact Nat.min_le_left _ _
 have g4:m<=n:=by rw [R]; exact Nat.min_le_right _ _
 have hn:ys.take n=ys.take m:=by
  rw [R];rcases Nat.le_total ys.length n with h | h
  ·rw [zar h,zar (by rw [show Nat.min ys.length n=ys.length from zae h]; exact zad _)]
  rw [show Nat.min ys.length n=n from Nat.min_eq_right h]
 rw [<- R,hn];have hf:=h8 m H
 have D:∀r,(Builtin.copy_ #[t,u] o.type #[.slice A n cap,.string I]).run P w=r->(execOp a.eval o).run P w=r.andThen λ q w'=>.ok (.value q) w':=by
  rintro r rfl;simp [execOp,ho,resolve,hc,Q,h6,invoke,builtin,hp,hl]
 by_cases h0:m=0
 ·subst h0;have hb:=hf w rfl;simp only [Nat.zero_mul,List.take_zero] at hb
  have U:(Builtin.copy_ #[t,u] o.type #[.slice A n cap,.string I]).run P w=.ok (goInt 0) w:=by
   cases A<;>simp [Builtin.copy_,run_underlying ht,Builtin.lenOf,h9,sizeOf,typeInfo,hi,<- R,hb,storeCells]
  have f:=D _ U;simp only [Result.andThen_ok] at f;refine ⟨_,w,ρ,f,?_,.inl ⟨_,rfl,.r (.v _)⟩⟩;have e:c8 xs d (ys.take 0)=xs:=by simp [c8]
  rw [e]
  rw [show upd id (ver,Ob.row inf.size z' G true xs) s.ob=s.ob from by
   funext i;unfold upd;split
   ·rename_i h; rw [h,E]
   rfl]
  exact hG
 have hs:0<cap:=by omega
 obtain ⟨b,g0,ee,hz,V,f2,f3,f4⟩:=e5 hs;rcases hG.obj id ver _ E with ⟨q1,q2,_⟩ | ⟨b',cs,e',fr,h1,hh,Z,h2,J,S⟩
 ·rw [V] at q2; cases q2
 rw [V] at h1;cases h1
 have K:(news.take (m*inf.size)).length=m*inf.size:=by
  rw [zaj,he];exact zae (zac _ H)
 have M:(d+m)*inf.size<=cs.size:=zap (zac _ (by omega)) J
 have C:d*inf.size+(news.take (m*inf.size)).length<=cs.toList.length:=by
  rw [K,<- zaa];simpa using M
 have ha:∀u∈news.take (m*inf.size),u.oneCell'=true:=λ u hu=>Y u (List.mem_of_mem_take hu);have h7:=xi (P:=P) b (d*inf.size) e' fr (news.take (m*inf.size)) 0 cs w hh Z (by simpa using C) ha;have hk:=hf w rfl
 have U:(Builtin.copy_ #[t,u] o.type #[.slice A n cap,.string I]).run P w=.ok (goInt m) (w.setRow b (c8 cs.toList (d*inf.size) (news.take (m*inf.size))).toArray):=by
  simp only [zai] at h7;simp [Builtin.copy_,run_underlying ht,Builtin.lenOf,h9,sizeOf,typeInfo,hi,<- R,hk,f2,h7,c8]
 have f:=D _ U;simp only [Result.andThen_ok] at f;have N:=jt (w:=w) (cs:=(c8 cs.toList (d*inf.size) (news.take (m*inf.size))).toArray) hh;have g:(c8 cs.toList (d*inf.size) (news.take (m*inf.size))).length=cs.size:=by rw [l7 C]; simp
 have h4:d+(ys.take m).length<=xs.length:=by rw [zaj,zae H]; omega
 have k:(c8 xs d (ys.take m)).length=xs.length:=l7 h4;have z:=Stays.modify (x':=.row inf.size z' G true (c8 xs d (ys.take m))) hG E rfl V hh N (by simpa using g) ver (.inl ⟨rfl,rfl,by rw [k]; exact zad _⟩);refine ⟨_,_,ρ,f,hG.modify E rfl V hh N (by simpa using g) ver (.inl ⟨rfl,rfl,by rw [k]; exact zad _⟩) (.inr ⟨rfl,⟨rfl,by rw [k]; exact zad _⟩,λ h=>h⟩) ?_,.inl ⟨_,rfl,.r (.v _)⟩⟩;refine .inr ⟨b,_,e',fr,V,N.new,by simpa [g] using Z,h2,by simpa [g,k] using J,λ i q y=>?_⟩;have h3:=λ p=>y6 (l:=cs.toList) (m:=news.take (m*inf.size)) (i:=d*inf.size) C p;rw [y6 h4,zaj,zae H] at y;split at y
 ·rename_i h5;have y:=ae6 y;refine ⟨(T _ q y).1,λ j r hj=>?_⟩;obtain ⟨c,g1,g2⟩:=(T _ q y).2 j r hj;have hg:j<inf.size:=by have:=(zab.1 hj).1; have:=(T _ q y).1; omega
  have hw:(i-d)*inf.size+j<m*inf.size:=by
   have:(i-d+1)*inf.size<=m*inf.size:=zac _ (by omega);rw [zaa,zaf] at this;omega
  have hv:i*inf.size=d*inf.size+(i-d)*inf.size:=by rw [<- zaa,show d+(i-d)=i by omega]
  refine ⟨c,?_,Y c (zal g1),g2.mono z.free⟩;rw [zag,h3,K,if_pos (by omega),zan,if_pos (by omega),show i*inf.size+j-d*inf.size=(i-d)*inf.size+j by omega,g1]
 rename_i h5;refine ⟨(S i q y).1,λ j r hj=>?_⟩;obtain ⟨c,g1,g2,g3⟩:=(S i q y).2 j r hj;have hg:j<inf.size:=by have:=(zab.1 hj).1; have:=(S i q y).1; omega
 refine ⟨c,?_,g2,g3.mono z.free⟩;rw [zag,h3,K,if_neg]
 ·simpa using g1
 rintro ⟨p1,p2⟩;apply h5;constructor
 ·rcases zas i d with h | h
  ·have:(i+1)*inf.size<=d*inf.size:=zac _ h;rw [zaa,zaf] at this;omega
  exact h
 rcases zas i (d+m) with h | h
 ·exact h
 have:(d+m)*inf.size<=i*inf.size:=zac _ h;rw [zaa] at this;omega
theorem agn {t u ty e:TypeId} {inf:TypeInfo} {z:Value} {d:TypeId} (q:P.underlying t=some (.slice e)) (y:P.underlying u=some (.slice d)) (v:P.info? e=some inf) (J:inf.zero=some z) (x:z.cells.size=inf.size)
 {A A2:Option Addr} {len cap m c2 g:Nat} {cur:Array Value} {e':TypeId} {olds news:List Value} (L:len<=cap) {fr:Nat×Nat} (N:0<cap->A=some ⟨g,0,none⟩/\w.heap[g]?=some (.cells cur e' fr)/\cap*inf.size<=cur.size) (B:0<cap->∀k,k<cur.size->¬(fr.1<=k/\k<fr.2))
 (j:∀W:World,W.heap=w.heap->(Builtin.firstCells inf.size len (.slice A len cap)).run P W=.ok olds.toArray W) (H:olds.length=len*inf.size)
 (b:∀W:World,W.heap=w.heap->(Builtin.firstCells inf.size m (.slice A2 m c2)).run P W=.ok news.toArray W) (E:news.length=m*inf.size) (I:∀u∈news,u.oneCell'=true)
 (h:len+m<=maxLen) (Q:(len+m)*inf.bytes<=140737488355328) :
 (len+m<=cap/\(Builtin.append_ #[t,u] ty #[.slice A len cap,.slice A2 m c2]).run P w=.ok (.slice A (len+m) cap) (if 0<cap then w.setRow g (c8 cur.toList (len*inf.size) news).toArray else w)) \/
 (cap<len+m/\∃K w' f,(Builtin.append_ #[t,u] ty #[.slice A len cap,.slice A2 m c2]).run P w=.ok (.slice (some ⟨w.heap.size,0,none⟩) (len+m) K) w'/\len+m<=K/\K<=maxLen /\
  OneMore w w' (.cells (olds++news++f).toArray e)/\(olds++news++f).length=K*inf.size):=by
 have p:len+m<=9223372036854775807:=by simp only [maxLen] at h; omega
 by_cases a:len+m<=cap
 ·refine .inl ⟨a,?_⟩;by_cases hc:0<cap
  ·obtain ⟨rfl,O,r⟩:=N hc
   have c:len*inf.size+news.length<=cur.size:=by
    rw [E,<- zaa]; exact zap (zac _ a) r
   have l:=xi (P:=P) g (len*inf.size) e' fr news 0 cur w O (B hc) (by simpa using c) I;simp only [zai] at l;simp [Builtin.append_,run_underlying q,run_underlying y,sizeOf,typeInfo,v,Builtin.lenOf,a,b w rfl,ci,l,hc,c8]
  have M:cap=0:=by omega
  subst M;have R:len=0:=by omega
  have G:m=0:=by omega
  subst R; subst G;have o:news=[]:=zaz (by simpa using E);subst o;cases A<;>simp [Builtin.append_,run_underlying q,run_underlying y,sizeOf,typeInfo,v,Builtin.lenOf,b w rfl,storeCells]
 refine .inr ⟨by omega,?_⟩;have c:Builtin.nextslicecap (len+m) cap*inf.bytes<=281474976710656:=growslice_fits (by omega) Q;have D:=grownCap_ge w (len+m) cap e;have C:grownCap w (len+m) cap e<=maxLen:=grownCap_le_maxLen w (len+m) cap e h;refine ⟨grownCap w (len+m) cap e,w.drew.alloc (.cells (olds++news++(Builtin.zeroCells z.cells (grownCap w (len+m) cap e-(len+m))).toList).toArray e),(Builtin.zeroCells z.cells (grownCap w (len+m) cap e-(len+m))).toList,?_,D,C,mo _,?_⟩
 ·have n:¬(9223372036854775807<((len:Int)+(m:Int))):=by omega
  have i:¬(281474976710656<Builtin.nextslicecap (len+m) cap*inf.bytes):=by omega
  have F:=b w.drew rfl;have s:=j w.drew rfl;simp [Builtin.append_,run_underlying q,run_underlying y,sizeOf,typeInfo,zeroValue,v,J,Builtin.lenOf,a,n,i,Question.forced,F,s,newRow,grownCap];congr 2;apply Array.ext';simp
 simp only [zat,H,E,zah,size_zeroCells,x,<- zaa];congr 1;omega
theorem aoy {d sz k:Nat} {T:RV} {J:Nat} {Y:RV} {y:AV} {ys:List RV} {rd:List Nat} {t u e f:TypeId} {inf:TypeInfo} {z:Value} {c:Call} {x v:Operand} {ok:Prop} (O:d<X.n) (D:Gam X s ρ a w) (ho:o.op=.call c) (hc:c.callee=.builtin .append)
 (B:c.args=#[x,v]) (E:c.argTypes=#[t,u]) (V:P.underlying t=some (.slice e)) (hu:P.underlying u=some (.slice f)) (Z:P.info? e=some inf) (hz:inf.zero=some z) (M:z.cells.size=inf.size) (I:inf.size=sz) (Q:inf.bytes=k)
 (hx:RA X s ρ w (.nils J Y) (a.eval x)) (hy:RA X s ρ w y (a.eval v)) (hs:src s.ob y=some (sz,ys,rd)) (hb:ys.length*k<=140737488355328) (hm:ys.length<=maxLen) :
 fw P X a w s o (q9 s.ob d (.row sz T true true ys) (λ v=>.own d v 0 ys.length) ok rd []):=by
 subst I; subst Q;obtain ⟨A2,c2,news,G,p,S,F,H⟩:=ae9 (P:=P) D hs hy;have R:a.eval x=.slice none 0 0:=by generalize a.eval x=c at hx; cases hx; rfl
 rw [G] at p
 have l:∀r,(Builtin.append_ #[t,u] o.type #[.slice none 0 0,.slice A2 ys.length c2]).run P w=r->(execOp a.eval o).run P w=r.andThen λ q w'=>.ok (.value q) w':=by
  rintro r rfl;simp [execOp,ho,resolve,hc,B,E,invoke,builtin,R,G]
 rcases agn (P:=P) (w:=w) (ty:=o.type) (A:=none) (A2:=A2) (len:=0) (cap:=0) (m:=ys.length) (c2:=c2) (g:=0) (cur:=#[]) (e':=0) (fr:=(0,0)) (olds:=[]) (news:=news) V hu Z hz M (zad _) (by simp) (by simp)
  (λ W _=>by simp [Builtin.firstCells]) (by simp) p S F (by omega) (by rw [zak]; exact hb) with ⟨hroom,hr⟩ | ⟨hgrow,K,w',rest,hr,hK1,hK2,hom,hlen⟩
 ·have h0:ys=[]:=zaz (by omega);subst h0;have b:=l _ hr;simp only [List.length_nil,zai,Nat.lt_irrefl,if_false,Result.andThen_ok] at b;exact ⟨_,w,s6 ρ d none,b,D.nil d _ (D.pnn d (ai8 (by have:=D.small; omega))) (λ v o h=>ut h) _ _ _,.inl ⟨_,rfl,.own _ _ _ _ _ rfl (jk ⟨none,0,rfl,zad _,by simp,by simp,by simp⟩)⟩⟩
 have b:=l _ hr;simp only [Result.andThen_ok,zak] at b hK1 hK2;have L:=Stays.alloc D hom d (nv s.ob d) (λ v o h=>ut h) (.row inf.size T true true ys);refine ov O D hom b (.inr ⟨w.heap.size,_,e,(0,0),by simp [s6],hom.new,by simp,λ _=>rfl,?_,λ i q U=>⟨(H i q U).1,λ j r hj=>?_⟩⟩) (.own _ _ _ _ _ rfl (jk ⟨_,K,rfl,hK1,hK2,by simp,λ _=>?_⟩))
 ·simp only [zau,hlen];exact zac _ hK1
 ·obtain ⟨u,C,N⟩:=(H i q U).2 j r hj;refine ⟨u,?_,F u (zal C),N.mono L.free⟩;have:=(zab.1 C).1;simp only [zag,List.nil_append];rw [zbg this,C]
 exact ⟨w.heap.size,_,e,(0,0),by simp [s6],by simp,hom.new,by simp only [zau,hlen,zak]; exact zad _⟩
theorem aox {sz M id ver len:Nat} {z':RV} {D:Bool} {xs:List RV} {y:AV} {ys:List RV} {rd rd':List Nat} {t u e f:TypeId} {inf:TypeInfo} {z:Value} {c:Call} {x v:Operand} {ok:Prop} (H:Gam X s ρ a w) (ho:o.op=.call c) (hc:c.callee=.builtin .append)
 (h6:c.args=#[x,v]) (hp:c.argTypes=#[t,u]) (ht:P.underlying t=some (.slice e)) (hu:P.underlying u=some (.slice f)) (hi:P.info? e=some inf) (hz:inf.zero=some z) (gs:z.cells.size=inf.size) (gd:inf.size=sz) (gw:inf.bytes=M)
 (hx:RA X s ρ w (.own id ver 0 len) (a.eval x)) (hr:l9 s.ob id ver=some (sz,z',D,true,xs)) (E:(D || !par id)=true) (hy:RA X s ρ w y (a.eval v)) (hs:src s.ob y=some (sz,ys,rd)) (hb:(len+ys.length)*M<=140737488355328) (hm:len+ys.length<=maxLen) :
 fw P X a w s o ⟨ok,.own id (ver+1) 0 (len+ys.length),upd id (ver+1,.row sz z' D true (xs.take len++ys)) s.ob,rd',[id]⟩:=by
 subst gd; subst gw;have d:=u4 hr;simp only at d;obtain ⟨A2,c2,news,hw,V,hk,W,S⟩:=ae9 (P:=P) H hs hy;obtain ⟨A1,e1,olds,h8,O,hd,gq,h7⟩:=ae9 (P:=P) (y:=.own id ver 0 len) (ys:=(xs.drop 0).take len) (rd:=[id]) (sz:=inf.size) H (by simp [src,hr]) hx;obtain ⟨A,cap,g0,e2,e3,e4,e5⟩:=mu hx hr;simp only [zak] at e4;have he:((xs.drop 0).take len).length=len:=by simp; omega
 rw [he] at h8 O hd;rw [g0] at h8 O;simp only [List.drop_zero] at h7
 injection h8 with q1 _ q3
 subst q1; subst q3;rw [hw] at V
 have N:∀r,(Builtin.append_ #[t,u] o.type #[.slice A len cap,.slice A2 ys.length c2]).run P w=r->(execOp a.eval o).run P w=r.andThen λ q w'=>.ok (.value q) w':=by
  rintro r rfl;simp [execOp,ho,resolve,hc,h6,hp,invoke,builtin,g0,hw]
 have hn:0<cap->∃b cs e fr,ρ id=some b/\A=some ⟨b,0,none⟩/\w.heap[b]?=some (.cells cs e fr)/\(∀k,k<cs.size->¬(fr.1<=k/\k<fr.2))/\(D=true->fr=(0,0))/\cap*inf.size<=cs.size/\∀(i:Nat) (x:RV),xs[i]?=some x->x.cells.length=inf.size/\∀(j:Nat) (y:RV),x.cells[j]?=some y->∃c,cs[i*inf.size+j]?=some c/\c.oneCell'=true/\RelV w (j8 X.B s.ob ρ w) y c:=λ Z=>by
  obtain ⟨b,cs,ee,fr,f1,f2,f3,f4⟩:=e5 Z;rcases H.obj id ver _ d with ⟨h1,h2,_⟩ | ⟨b',hl,e',g7,C,G,g3,g4,g5,g6⟩
  ·rw [f1] at h2; cases h2
  rw [f1] at C; cases C;rw [f3] at G; cases G;exact ⟨b,cs,ee,fr,f1,by simpa using f2,f3,g3,g4,by simpa using f4,g6⟩
 obtain ⟨g,cur,e',fr,hA⟩:∃g cur e' fr,(0<cap->A=some ⟨g,0,none⟩/\w.heap[g]?=some (.cells cur e' fr)/\cap*inf.size<=cur.size/\(∀k,k<cur.size->¬(fr.1<=k/\k<fr.2))/\(D=true->fr=(0,0))/\ρ id=some g/\∀(i:Nat) (x:RV),xs[i]?=some x->x.cells.length=inf.size/\∀(j:Nat) (y:RV),x.cells[j]?=some y->∃c,cur[i*inf.size+j]?=some c/\c.oneCell'=true/\RelV w (j8 X.B s.ob ρ w) y c):=by
  by_cases Z:0<cap
  ·obtain ⟨b,cs,e,fr,h1,h2,h3,hf,Y,h4,h5⟩:=hn Z;exact ⟨b,cs,e,fr,λ _=>⟨h2,h3,h4,hf,Y,h1,h5⟩⟩
  exact ⟨0,#[],0,(0,0),λ h=>absurd h Z⟩
 rcases agn (P:=P) (w:=w) (ty:=o.type) (A:=A) (A2:=A2) (len:=len) (cap:=cap) (m:=ys.length) (c2:=c2) (g:=g) (cur:=cur) (e':=e') (olds:=olds) (news:=news) (fr:=fr) ht hu hi hz gs e2 (λ h=>⟨(hA h).1,(hA h).2.1,(hA h).2.2.1⟩) (λ h=>(hA h).2.2.2.1)
  O hd V hk W hm hb with ⟨hroom,hrn⟩ | ⟨hgrow,K,w',rest,hrn,hK1,hK2,hom,hlenK⟩
 ·have n:=N _ hrn;by_cases Z:0<cap
  ·obtain ⟨e0,hg,h9,hf,Y,R,ha⟩:=hA Z;simp only [Z,if_true,Result.andThen_ok] at n
   have U:len*inf.size+news.length<=cur.toList.length:=by
    rw [hk,<- zaa]; simp only [zah]; exact zap (zac _ hroom) h9
   have Q:=jt (w:=w) (cs:=(c8 cur.toList (len*inf.size) news).toArray) hg;have I:(c8 cur.toList (len*inf.size) news).length=cur.size:=by rw [l7 U]; simp
   have L:=Stays.modify (x':=.row inf.size z' D true (xs.take len++ys)) H d rfl R hg Q (by simpa using I) (ver+1) (.inr (zav _));refine ⟨_,_,ρ,n,H.modify d rfl R hg Q (by simpa using I) (ver+1) (.inr (zav _)) (.inl (H.unpinned d E)) ?_,.inl ⟨_,rfl,.own _ _ _ _ _ rfl (jk ?_)⟩⟩
   ·refine .inr ⟨g,_,e',fr,R,Q.new,by simpa [I] using hf,Y,?_,λ i q F=>?_⟩
    ·simp only [zau,I,zat,zaj,zae e4];exact zap (zac _ hroom) h9
    have hh:=λ p=>y6 (l:=cur.toList) (m:=news) (i:=len*inf.size) U p;rw [zbd,zaj,zae e4] at F;split at F
    ·rename_i J;rw [zan,if_pos J] at F;refine ⟨(ha i q F).1,λ j r T=>?_⟩;obtain ⟨c,C,G,g3⟩:=(ha i q F).2 j r T;refine ⟨c,?_,G,g3.mono L.free⟩;have e6:j<inf.size:=by have:=(zab.1 T).1; have:=(ha i q F).1; omega
     rw [zag,hh,if_neg]
     ·simpa using C
     have:(i+1)*inf.size<=len*inf.size:=zac _ J;rw [zaa,zaf] at this;omega
    rename_i J;refine ⟨(S _ q F).1,λ j r T=>?_⟩;obtain ⟨c,C,G⟩:=(S _ q F).2 j r T;refine ⟨c,?_,W c (zal C),G.mono L.free⟩;have gl:=(zab.1 C).1
    have hv:len*inf.size+((i-len)*inf.size+j)=i*inf.size+j:=by
     rw [<- Nat.add_assoc,<- zaa,show len+(i-len)=i by omega]
    rw [zag,hh,if_pos (by omega),show i*inf.size+j-len*inf.size=(i-len)*inf.size+j by omega,C]
   refine ⟨A,cap,rfl,hroom,e3,by simp [zae e4],λ _=>⟨g,_,e',fr,R,by simpa using e0,Q.new,?_⟩⟩;simp only [zau,I,zak];exact h9
  have gg:cap=0:=by omega
  subst gg;have gc:len=0:=by omega
  have gb:ys=[]:=zaz (by omega);subst gc; subst gb;simp only [Nat.lt_irrefl,if_false,Result.andThen_ok] at n;cases D with
  | true=>exact ⟨_,w,s6 ρ id none,n,H.nil id (ver+1) (H.unpinned d E) (λ v o h=>by rw [d] at h; cases h; exact zav _) _ _ _,.inl ⟨_,rfl,.own _ _ _ _ _ rfl (jk ⟨A,0,rfl,zad _,by simp,by simp,by simp⟩)⟩⟩
  | false=>
    rcases H.obj id ver _ d with ⟨_,_,q3⟩ | ⟨b',hl,e2,g7,C,G,g3,g4,g5,g6⟩
    ·cases q3
    refine ⟨_,w,ρ,n,H.modify (x':=.row inf.size z' false true []) d rfl C G (Mods.same G) rfl (ver+1) (.inr (zav _)) (.inl (H.unpinned d E)) (.inr ⟨b',hl,e2,g7,C,G,g3,(λ h=>by cases h),by simp,by simp⟩),.inl ⟨_,rfl,.own _ _ _ _ _ rfl (jk ⟨A,0,rfl,zad _,by simp,by simp,by simp⟩)⟩⟩
 have n:=N _ hrn;simp only [Result.andThen_ok] at n;have L:=Stays.alloc H hom id (ver+1) (λ v o h=>by rw [d] at h; cases h; exact zav _) (.row inf.size z' D true (xs.take len++ys));refine ⟨_,w',s6 ρ id (some w.heap.size),n,H.alloc hom id (ver+1) (H.unpinned d E) (λ v o h=>by rw [d] at h; cases h; exact zav _) _ (.inr ⟨w.heap.size,_,e,(0,0),by simp [s6],hom.new,by simp,λ _=>rfl,?_,λ i q F=>?_⟩),.inl ⟨_,rfl,.own _ _ _ _ _ rfl (jk ⟨_,K,rfl,hK1,hK2,by simp [zae e4],λ _=>⟨w.heap.size,_,e,(0,0),by simp [s6],by simp,hom.new,?_⟩⟩)⟩⟩
 ·simp only [zau,hlenK,zat,zaj,zae e4];exact zac _ hK1
 ·rw [zbd,zaj,zae e4] at F;split at F
  ·rename_i J;have ga:((xs.take len))[i]?=some q:=F;refine ⟨(h7 i q ga).1,λ j r T=>?_⟩;obtain ⟨c,C,G⟩:=(h7 i q ga).2 j r T;refine ⟨c,?_,gq c (zal C),G.mono L.free⟩;have:=(zab.1 C).1;rw [zag,zbc,zbg this,C]
  rename_i J;refine ⟨(S _ q F).1,λ j r T=>?_⟩;obtain ⟨c,C,G⟩:=(S _ q F).2 j r T;refine ⟨c,?_,W c (zal C),G.mono L.free⟩;have gl:=(zab.1 C).1
  have hv:len*inf.size+((i-len)*inf.size+j)=i*inf.size+j:=by
   rw [<- Nat.add_assoc,<- zaa,show len+(i-len)=i by omega]
  rw [zag,zbc,List.getElem?_append_right (by omega),hd,zbg (by omega),show i*inf.size+j-len*inf.size=(i-len)*inf.size+j by omega,C]
 simp only [zau,hlenK,zak];exact zad _
theorem aij:∀(l:List Value) (j off:Nat) (a:Array Value),off+j+l.length<=a.size ->
 ((l.zipIdx j).foldl (λ cs (p:Value×Nat)=>cs.setIfInBounds (off+p.2) p.1) a).toList=c8 a.toList (off+j) l
 | [],j,off,a,h=>by simp [c8]
 | v::l,j,off,a,h=>by
   simp only [zba] at h;rw [List.zipIdx_cons,List.foldl_cons,aij l (j+1) off _ (by simp; omega)];have e:=list_seg_step a.toList (off+j) v l (by simp; omega);simpa [c8,Array.toList_setIfInBounds,Nat.add_assoc] using e
theorem anx {sz:Nat}:∀(vs:List Value) (k:Nat) (a:Array Value),(∀v∈vs,v.cells.size=sz)->a.size=(k+vs.length)*sz ->
 ∃r,Instr.fill (λ i=>some (i*sz,sz)) a ((List.range' k vs.length).zip vs)=some r/\r.toList=a.toList.take (k*sz)++vs.flatMap (λ v=>v.cells.toList)
 | [],k,a,h,hs=>by
   refine ⟨a,by simp [Instr.fill],?_⟩;simp only [List.flatMap_nil,List.append_nil];rw [zar];simp [hs]
 | v::vs,k,a,h,hs=>by
   have d:=h v (by simp)
   have b:k*sz+v.cells.size<=a.size:=by
    rw [hs,d];simp only [zba]
    calc k*sz+sz=(k+1)*sz:=by rw [zaa,zaf]
     _<=(k+(vs.length+1))*sz:=zac _ (by omega)
   have f:=aij v.cells.toList 0 (k*sz) a (by simpa using b);simp only [zai] at f
   have c:(v.cells.zipIdx.foldl (λ cs (p:Value×Nat)=>cs.setIfInBounds (k*sz+p.2) p.1) a).toList=c8 a.toList (k*sz) v.cells.toList:=by
    rw [<- f,<- Array.foldl_toList,Array.toList_zipIdx]
   have e:(c8 a.toList (k*sz) v.cells.toList).length=a.size:=by rw [l7 (by simpa using b)]; simp
   obtain ⟨r,j,l⟩:=anx vs (k+1) (v.cells.zipIdx.foldl (λ cs (p:Value×Nat)=>cs.setIfInBounds (k*sz+p.2) p.1) a) (λ u g=>h u (by simp [g])) (by
    rw [<- zah,c,e,hs];simp only [zba];congr 1
    omega)
   refine ⟨r,?_,?_⟩
   ·simp only [zba,List.range'_succ,List.zip_cons_cons,Instr.fill];rw [if_neg (by simp [d]; omega)];exact j
   rw [l,c];simp only [zbh,<- zbc];congr 1
   have m:(a.toList.take (k*sz)++v.cells.toList).length=(k+1)*sz:=by
    rw [zat,zaj,zae (by simp; omega),zah,d,zaa,zaf]
   exact List.take_left' m
theorem ap9 {sz:Nat} (f:Value->List Value):∀(vs:List Value) (i j:Nat) (v:Value),(∀v∈vs,(f v).length=sz)->vs[i]?=some v->j<sz->(vs.flatMap f)[i*sz+j]?=(f v)[j]?
 | [],i,j,v,h,hi,hj=>by simp at hi
 | u::vs,0,j,v,h,hi,hj=>by
   simp at hi; subst hi;have:=h u (by simp);rw [Nat.zero_mul,zak,zbh,zbg (by omega)]
 | u::vs,i+1,j,v,h,hi,hj=>by
   simp at hi;have a:=h u (by simp);rw [zbh,List.getElem?_append_right (by rw [a,zaa]; omega),a,show (i+1)*sz+j-sz=i*sz+j by rw [zaa]; omega];exact ap9 f vs i j v (λ v b=>h v (by simp [b])) hi hj
theorem ant {sz:Nat} (f:Value->List Value):∀(vs:List Value),(∀v∈vs,(f v).length=sz)->(vs.flatMap f).length=vs.length*sz
 | [],_=>by simp
 | u::vs,h=>by
   rw [zbh,zat,h u (by simp),ant f vs (λ v a=>h v (by simp [a])),zba,zaa];omega
theorem an2 (v:Gam X s ρ a w) {e:Env} {ob:Obs} {l:List Nat} (C:e=s.e) (f:s.ob=Ev.freeze ob l):∀{r:List (Nat×Operand)} {z:List Opd} {p:Prop} {ys:List RV} {t:List Nat},x7 (λ p q=>opd p.2 q) r z=true->am e ob true z=some (p,ys,t)->p ->
 (∀i∈t,i∈l)->ys.length=r.length/\∀(i:Nat) (y:RV) (q:Nat×Operand),ys[i]?=some y->r[i]?=some q->RelV w (j8 X.B s.ob ρ w) y (a.eval q.2)
 | [],[],p,ys,t,_,h,_,_=>by simp [am] at h; simp [h.2.1.symm]
 | q::r,o::z,p,ys,t,hall,h,hp,hs=>by
   simp [x7] at hall;simp only [am] at h;split at h
   ·rename_i y k M L j b G;cases h;obtain ⟨E,J⟩:=an2 v C f hall.2 G hp.2 (λ i g=>hs i (by simp [g]));refine ⟨by simp [E],λ i D I hy u=>?_⟩;cases i with
    | succ i=>
      simp at hy u;exact J i D I hy u
    | zero=>
      simp at hy u;subst hy; subst u; subst C;have hx:=j7 v rfl hall.1 hp.1;generalize (o.ev s.e).bare=x at hx b;unfold AV.elt at b;split at b
      ·rename_i xs;split at b
       ·rename_i F H d;cases b;generalize a.eval q.2=c at hx;cases hx;rename_i cs K m;refine .agg _ _ (by rw [mt d]; exact K) λ i y c hy hc=>?_;have A:i<xs.length:=by have:=(zab.1 hy).1; have:=mt d; omega
        have n:xs[i]?=some xs[i]:=by simp [A]
        exact acs v f d (λ i g=>hs i (by simp [g])) i _ y c n hy (m i _ c n hc)
       cases b
      exact ai0 v b (λ i g=>hs i (by simp [g])) f hx
   cases h
 | [],_::_,_,_,_,h,_,_,_=>by cases h
 | _::_,[],_,_,_,h,_,_,_=>by cases h
theorem ajs {R:Nat->Prop} {y:RV} {c:Value} {sz:Nat} (h:RelV w R y c) (i:y.good sz=true):c.cells.size=sz/\∀(j:Nat) (q:RV),y.cells[j]?=some q->∃u,c.cells[j]?=some u/\u.oneCell'=true/\RelV w R q u:=by
 simp only [RV.good,zbi,beq_iff_eq] at i;obtain ⟨d,e⟩:=i;cases h with
 | v x=>
   simp only [RV.cells,List.all_cons,List.all_nil,Bool.and_true,List.length_singleton] at d e;rw [als e];refine ⟨by simpa using d,λ j q a=>?_⟩;cases j with
   | zero=>simp [RV.cells] at a; subst a; exact ⟨_,rfl,e,.v _⟩
   | succ j=>simp [RV.cells] at a
 | agg xs cs hl h=>
   simp only [RV.cells] at d e;refine ⟨by simp [Value.cells,hl,d],λ j q a=>?_⟩;have f:=(zab.1 a).1;simp only [RV.cells] at f a;have hc:cs[j]?=some cs[j]:=by simp [show j<cs.size by omega]
   have:=h j q _ a hc;refine ⟨_,hc,amk this ?_,this⟩;have:=(zab.1 a).2;rw [<- this];exact zao.1 e _ (zay _)
 | sl k xs A cap hc hm b o g hA hz hg' hr=>
   simp only [RV.cells,List.length_singleton] at d;refine ⟨by simpa [Value.cells] using d,λ j q a=>?_⟩;cases j with
   | zero=>simp [RV.cells] at a; subst a; exact ⟨_,rfl,rfl,.sl k xs A cap hc hm b o g hA hz hg' hr⟩
   | succ j=>simp [RV.cells] at a
theorem a1k {d sz m:Nat} {z:RV} {t e:TypeId} {inf:TypeInfo} {Z:Value} {g:Array (Nat×Operand)} {O:List Opd} {p:Prop} {ys:List RV} {A:List Nat} {ok:Prop} (V:d<X.n) (hG:Gam X s ρ a w) (ho:o.op=.buildSlice t m g) (ht:P.underlying t=some (.slice e)) (H:P.info? e=some inf)
 (hz:inf.zero=some Z) (N:inf.size=sz) (hm:m=O.length) (B:x7 (λ p q=>opd p.2 q) g.toList O=true) (R:g.toList.map (·.1)=List.range m) (h4:m*sz<=16777216) (h1:m<=16777216)
 (W:am s.e s.ob true O=some (p,ys,A)) (hp:p) (b:ys.all (·.good sz)=true) (hd:d∉A) :
 fw P X a w s o (q9 (Ev.freeze s.ob A) d (.row sz z true true ys) (λ v=>.own d v 0 ys.length) ok A A):=by
 have E:=Gam.freeze (s:=s) A (ob:=s.ob) hG;obtain ⟨h3,C⟩:=an2 (s:=⟨s.e,Ev.freeze s.ob A⟩) (ob:=s.ob) (l:=A) E rfl rfl B W hp (λ _ h=>h);subst N;have D:g.toList.length=m:=by rw [jx B,hm]
 have c:∀v∈g.toList.map (λ q=>a.eval q.2),v.cells.size=inf.size:=λ v J=>by
  obtain ⟨i,H⟩:=zbe.1 J;rw [zam,zax] at H;obtain ⟨q,L,rfl⟩:=H;have Q:=(zab.1 L).1;have hy:ys[i]?=some (ys[i]'(by omega)):=by simp [show i<ys.length by omega]
  exact (ajs (C i _ q hy L) (zao.1 b _ (zay _))).1
 have f:(g.map λ (i,x)=>(i,a.eval x)).toList=(List.range' 0 m).zip (g.toList.map λ q=>a.eval q.2):=by
  rw [<- List.range_eq_range',<- R];simp only [Array.toList_map];generalize g.toList=l
  induction l with
  | nil=>rfl
  | cons q l ih=>simp [ih]
 obtain ⟨r,k,F⟩:=anx (sz:=inf.size) (g.toList.map λ q=>a.eval q.2) 0 ((Array.range (m*inf.size)).map (λ i=>(if m*inf.size=0 then (#[]:Array Value) else Z.cells)[i%(if m*inf.size=0 then (#[]:Array Value) else Z.cells).size]!)) c (by simp [D])
 have K:(execOp a.eval o).run P w=.ok (.value (.slice (some ⟨w.heap.size,0,none⟩) m m)) (w.alloc (.cells r e)):=by
  rw [List.length_map,D] at k;simp only [execOp,ho,Instr.buildSlice,Sem.run_bind,run_underlying ht,Result.andThen_ok,sizeOf,typeInfo,run_program,H,Sem.run_pure,if_neg (show ¬(m*inf.size>2^24) by omega)];by_cases h0:m*inf.size=0
  ·simp only [h0,if_true,Sem.run_pure,Result.andThen_ok,f] at k |-;simp only [k,newRow,Sem.run_bind,run_newObj,Result.andThen_ok,Sem.run_pure]
   rfl
  simp only [h0,if_false,zeroValue,typeInfo,Sem.run_bind,run_program,H,hz,Result.andThen_ok,Sem.run_pure,f] at k |-;simp only [k,newRow,Sem.run_bind,run_newObj,Result.andThen_ok,Sem.run_pure]
  rfl
 have M:ys.length=m:=by omega
 have G:r.size=m*inf.size:=by
  rw [<- zah,F,zat,ant (sz:=inf.size) _ _ (λ v J=>by simpa using c v J)];simp [D]
 have S:=Stays.alloc E (ae (.cells r e)) d (nv (Ev.freeze s.ob A) d) (λ v o h=>ut h) (.row inf.size z true true ys)
 refine ov (s:=s) V E (ae _) K (.inr ⟨w.heap.size,r,e,(0,0),by simp [s6],(ae _).new,by simp,λ _=>rfl,by rw [M,G]; exact zad _,λ i y hy=>⟨?_,λ j q hj=>?_⟩⟩)
  (.own _ _ _ _ _ rfl (jk ⟨_,m,by rw [M],by omega,?_,by simp,λ _=>⟨w.heap.size,r,e,(0,0),by simp [s6],by simp,(ae _).new,by rw [zak,G]; exact zad _⟩⟩))
 ·have:=zao.1 b y (zal hy);simp only [RV.good,zbi,beq_iff_eq] at this;exact this.1
 ·have Q:=(zab.1 hy).1;have L:g.toList[i]?=some (g.toList[i]'(by omega)):=by simp [show i<g.size by rw [<- zah]; omega]
  have U:=zao.1 b y (zal hy);obtain ⟨g1,g2⟩:=ajs (C i y _ hy L) U;obtain ⟨u,I,T,Y⟩:=g2 j q hj;have h2:=(Array.getElem?_eq_some_iff.1 I).1;refine ⟨u,?_,T,Y.mono S.free⟩;rw [<- zbb,F];simp only [Nat.zero_mul,List.take_zero,List.nil_append];rw [ap9 (sz:=inf.size) _ _ i j (a.eval (g.toList[i]'(by omega)).2) (λ v J=>by simpa using c v J) (by rw [zam,L]; rfl) (by omega)];simpa using I
 simp only [maxLen]; omega
theorem a1d {sz id ver J n:Nat} {E:RV} {xs:List RV} {t e:TypeId} {x:Operand} {ok:Prop} {rd':List Nat} (D:Gam X s ρ a w) (R:o.op=.convert t t x) (M:P.underlying t=some (.slice e)) (L:P.underlying e=some (.int .u8))
 (hx:RA X s ρ w (.own id ver J n) (a.eval x)) (I:l9 s.ob id ver=some (sz,E,true,true,xs)) (hn:0<n) :
 fw P X a w s o ⟨ok,.own id ver J n,upd id (ver,.row sz E false true xs) s.ob,rd',[id]⟩:=by
 have f:=u4 I;simp only at f;obtain ⟨A,cap,G,e2,e3,W,e5⟩:=mu hx I;simp only at W;obtain ⟨b,O,ee,U,p,Y,f3,f4⟩:=e5 (by omega);rcases D.obj id ver _ f with ⟨q1,H,_⟩ | ⟨b',cs,e',fr,r,l,T,z,C,B⟩
 ·rw [p] at H; cases H
 rw [p] at r;cases r;obtain rfl:fr=(0,0):=z rfl
 have F:w.shape? b=some (e',cs.size):=by
  unfold World.shape?;rw [l]
 have N:b<w.heap.size:=(Array.getElem?_eq_some_iff.1 l).1;obtain ⟨w',m⟩:∃w',w.freeze ⟨b,cs.size,none⟩ 1=w':=⟨_,rfl⟩
 have d:Mods w w' b (.cells cs e' (cs.size,cs.size+1)):=by
  rw [<- m];unfold World.freeze;rw [if_neg (by decide)];refine ⟨rfl,rfl,rfl,by simp,?_,λ k K=>?_⟩
  ·simp only [Array.getElem?_modify,if_true,l,Option.map_some]
   rfl
  simp only [Array.getElem?_modify];rw [if_neg (λ e=>K e.symm)]
 have g:(convert t t (a.eval x)).run P w=.ok (a.eval x) w':=by
  rw [G,Y];simp [convert,run_underlying M,run_underlying L,markStringish,F];exact m
 have v:(execOp a.eval o).run P w=.ok (.value (a.eval x)) w':=by
  simp only [execOp,R,Sem.run_bind,g,Result.andThen_ok,Sem.run_pure]
 have u:=Stays.modify (x':=.row sz E false true xs) D f rfl p l d rfl ver (.inl ⟨rfl,rfl,zad _⟩);refine ⟨_,w',ρ,v,D.modify f rfl p l d rfl ver (.inl ⟨rfl,rfl,zad _⟩) (.inl (D.unpinned f rfl)) ?_,.inl ⟨_,rfl,hx.stays u⟩⟩;refine .inr ⟨b,cs,e',_,p,d.new,λ k K=>(by simp; omega),λ h=>(by cases h),C,λ i y hy=>⟨(B i y hy).1,λ j q V=>?_⟩⟩;obtain ⟨c,Q,Z,S⟩:=(B i y hy).2 j q V;exact ⟨c,Q,Z,S.mono u.free⟩
theorem aow {d:Nat} {z:RV} {t u e:TypeId} {inf:TypeInfo} {x:Operand} {b:ByteArray} {ok:Prop} (C:d<X.n) (E:Gam X s ρ a w) (H:o.op=.convert t u x) (G:P.underlying t=some .string) (J:P.underlying u=some (.slice e)) (F:P.underlying e=some (.int .u8))
 (hx:a.eval x=.string b) (K:b.size<=maxLen):fw P X a w s o (q9 s.ob d (.row 1 z false true (b.data.toList.map λ b=>.v (.int .u8 b.toNat))) (λ v=>.own d v 0 b.size) ok [] []):=by
 have p:=grownCap_ge w b.size 0 e;have B:=grownCap_le_maxLen w b.size 0 e K;have l:b.data.size=b.size:=rfl;generalize g:bytesRow b (grownCap w b.size 0 e)=f;have r:f.size=grownCap w b.size 0 e:=by rw [<- g]; simp [bytesRow,l]; omega
 have m:(execOp a.eval o).run P w=.ok (.value (.slice (some ⟨w.heap.size,0,none⟩) b.size (grownCap w b.size 0 e))) (w.drew.alloc (.cells f e (f.size,f.size+1))):=by
  have:=run_bytes_of_string (P:=P) w t u e b G J F;rw [g] at this;simp only [execOp,H,hx,Sem.run_bind,this,Result.andThen_ok,Sem.run_pure]
 have I:=Stays.alloc E (mo (.cells f e (f.size,f.size+1))) d (nv s.ob d) (λ v o h=>ut h) (.row 1 z false true (b.data.toList.map λ b=>.v (.int .u8 b.toNat)))
 refine ov C E (mo _) m (.inr ⟨w.heap.size,f,e,_,by simp [s6],(mo _).new,λ k L=>by simp; omega,by simp,by simp [l,r,p],λ i y hy=>?_⟩)
  (.own _ _ _ _ _ rfl (jk ⟨_,_,rfl,p,B,by simp [l],λ _=>⟨w.heap.size,f,e,_,by simp [s6],by simp,(mo _).new,by simp [r]⟩⟩))
 rw [zam,zax] at hy;obtain ⟨c,hc,rfl⟩:=hy;refine ⟨rfl,λ j q D=>?_⟩;cases j with
 | succ j=>simp [RV.cells] at D
 | zero=>
   simp [RV.cells] at D;subst D;refine ⟨_,?_,rfl,.v _⟩;have A:=(zab.1 hc).1;simp only [zah] at A;rw [<- g];unfold bytesRow;rw [Array.getElem?_append_left (by simp; omega)];simp at hc |-;exact ⟨c,by simpa using hc,rfl⟩
theorem a0o {a b:Value} (h:eqv a b=true):a.oneCell'=true:=by
 unfold eqv at h;split at h<;>first | rfl | cases h
theorem akx {R:Nat->Prop} {v:Value} {q:RV} (h:eqr v q=true):v.oneCell'=true/\RelV w R q v:=by
 unfold eqr at h;split at h
 ·exact ⟨rfl,.sl _ [] none 0 (by simp) (by simp) 0 0 (λ _ _=>undef) (by simp) (by simp) (by simp) (by simp)⟩
 ·refine ⟨a0o h,?_⟩;rw [aju h];exact .v _
 cases h
theorem a1e {d sz b:Nat} {z:RV} {t e:TypeId} {inf:TypeInfo} {v:Value} {x y:Operand} {k J:IntKind} {l c:Int} {ok:Prop} (G:d<X.n) (U:Gam X s ρ a w) (Q:o.op=.makeSlice t x y) (M:P.underlying t=some (.slice e)) (O:P.info? e=some inf) (R:inf.zero=some v)
 (B:inf.size=sz) (I:inf.bytes=b) (r:x7 eqr v.cells.toList z.cells=true) (u:v.cells.size=sz) (hx:a.eval x=.int k l) (hy:a.eval y=.int J c) (S:0<=l) (H:l<=c) (hc:c<=maxLen) (V:c*b<=281474976710656) :
 fw P X a w s o (q9 s.ob d (.row sz z true true (acm l z)) (λ v=>.own d v 0 l.toNat) ok [] []):=by
 subst B; subst I;have D:(c:Int)<=9223372036854775807:=by simp only [maxLen] at hc; omega
 have g:=run_make (P:=P) w t e inf v M O R k J l c S H (by rw [Int.mul_comm]; exact V) D
 have p:(execOp a.eval o).run P w=.ok (.value (.slice (some ⟨w.heap.size,0,none⟩) l.toNat c.toNat)) (w.alloc (.cells (madeCells v.cells (c.toNat*inf.size)) e)):=by
  simp only [execOp,Q,hx,hy,Sem.run_bind,g,Result.andThen_ok,Sem.run_pure]
 have f:=size_madeCells v.cells (c.toNat*inf.size)
 refine ov G U (ae _) p (.inr ⟨w.heap.size,_,e,(0,0),by simp [s6],(ae _).new,by simp,λ _=>rfl,?_,λ i q A=>?_⟩)
  (.own _ _ _ _ _ rfl (jk ⟨_,_,rfl,by omega,by simp only [maxLen] at hc |-; omega,by simp [acm],λ _=>⟨w.heap.size,_,e,(0,0),by simp [s6],by simp,(ae _).new,by rw [f,zak]; exact zad _⟩⟩))
 ·rw [f];simp only [acm,zbj];exact zac _ (by omega)
 simp only [acm,List.getElem?_replicate] at A;split at A
 ·rename_i T;cases A;have F:z.cells.length=inf.size:=by rw [<- jx r]; simpa using u
  refine ⟨F,λ j q K=>?_⟩;have N:=(zab.1 K).1;have E:v.cells[j]?=some (v.cells[j]'(by omega)):=by simp [show j<v.cells.size by omega]
  have L:=aay r (i:=j) (by rw [zbb]; exact E) K
  have h:(madeCells v.cells (c.toNat*inf.size))[i*inf.size+j]?=some (v.cells[j]'(by omega)):=by
   have C:i*inf.size+j<c.toNat*inf.size:=by
    have:(i+1)*inf.size<=c.toNat*inf.size:=zac _ (by omega);rw [zaa,zaf] at this;omega
   have m:(i*inf.size+j)%v.cells.size=j:=by
    rw [u,zaq,Nat.mul_add_mod,Nat.mod_eq_of_lt (by omega)]
   simp [madeCells,C,m,show j<v.cells.size by omega]
  exact ⟨_,h,akx L⟩
 cases A
theorem ax9 {z:Array Value} {n sz i j:Nat} (c:z.size=sz) (d:i<n) (e:j<sz):(Builtin.zeroCells z n).toList[i*sz+j]?=z[j]?:=by
 have b:i*sz+j<n*z.size:=by
  have:(i+1)*sz<=n*sz:=zac _ (by omega);rw [zaa,zaf] at this;rw [c];omega
 have a:(i*sz+j)%z.size=j:=by
  rw [c,zaq,Nat.mul_add_mod,Nat.mod_eq_of_lt (by omega)]
 rw [zbb];simp [Builtin.zeroCells,b,a,show j<z.size by omega]
theorem a1j {sz id ver d n:Nat} {z z':RV} {F:Bool} {xs:List RV} {rd':List Nat} {t e:TypeId} {inf:TypeInfo} {v:Value} {c:Call} {x:Operand} {ok:Prop} (hG:Gam X s ρ a w) (ho:o.op=.call c) (hc:c.callee=.builtin .clear)
 (S:c.args=#[x]) (h6:c.argTypes=#[t]) (ht:P.underlying t=some (.slice e)) (hi:P.info? e=some inf) (he:inf.size=sz) (hz:inf.zero=some v) (Y:x7 eqr v.cells.toList z.cells=true) (M:v.cells.size=sz)
 (hx:RA X s ρ w (.own id ver d n) (a.eval x)) (hr:l9 s.ob id ver=some (sz,z',F,true,xs)) :
 fw P X a w s o ⟨ok,.undef,upd id (ver,.row sz z' F true (spl xs d (zaw n z))) s.ob,rd',[id]⟩:=by
 unfold spl;subst he;have H:=u4 hr;simp only at H;obtain ⟨A,cap,hk,e2,e3,e4,e5⟩:=mu hx hr;simp only at e4
 have G:∀r,(Builtin.clear_ #[t] o.type #[.slice A n cap]).run P w=r->(execOp a.eval o).run P w=r.andThen λ q w'=>.ok (.value q) w':=by
  rintro r rfl;simp [execOp,ho,resolve,hc,S,h6,invoke,builtin,hk]
 by_cases h0:n=0
 ·subst h0
  have U:(Builtin.clear_ #[t] o.type #[.slice A 0 cap]).run P w=.ok (.tuple #[]) w:=by
   cases A<;>simp [Builtin.clear_,run_underlying ht]
  have g:=G _ U;simp only [Result.andThen_ok] at g;refine ⟨_,w,ρ,g,?_,.inl ⟨_,rfl,.undef _⟩⟩;have e:c8 xs d (zaw 0 z)=xs:=by simp [c8]
  rw [e]
  rw [show upd id (ver,Ob.row inf.size z' F true xs) s.ob=s.ob from by
   funext i;unfold upd;split
   ·rename_i h; rw [h,H]
   rfl]
  exact hG
 have hl:0<cap:=by omega
 obtain ⟨b,hw,ee,hs,V,f2,f3,f4⟩:=e5 hl;rcases hG.obj id ver _ H with ⟨q1,q2,_⟩ | ⟨b',cs,e',fr,h1,hh,Z,h2,J,T⟩
 ·rw [V] at q2; cases q2
 rw [V] at h1;cases h1;have W:(Builtin.zeroCells v.cells n).toList.length=n*inf.size:=by rw [zah,size_zeroCells,M]
 have L:(d+n)*inf.size<=cs.size:=zap (zac _ (by omega)) J
 have E:d*inf.size+(Builtin.zeroCells v.cells n).toList.length<=cs.toList.length:=by
  rw [W,<- zaa];simpa using L
 have hf:z.cells.length=inf.size:=by rw [<- jx Y]; simpa using M
 have ha:∀j y,z.cells[j]?=some y->∃u,v.cells[j]?=some u/\eqr u y=true:=λ j y I=>by
  have h7:=(zab.1 I).1;have hv:v.cells[j]?=some (v.cells[j]'(by omega)):=by simp [show j<v.cells.size by omega]
  exact ⟨_,hv,aay Y (i:=j) (by rw [zbb]; exact hv) I⟩
 have hb:∀u∈(Builtin.zeroCells v.cells n).toList,u.oneCell'=true:=λ u hu=>by
  simp only [Builtin.zeroCells,Array.toList_map,List.mem_map] at hu;obtain ⟨i,hi,rfl⟩:=hu;have hg:i<n*v.cells.size:=by simpa using hi
  have hd:0<v.cells.size:=by
   rcases zbf v.cells.size with h | h
   ·rw [h] at hg; omega
   exact h
  have hm:=Nat.mod_lt i hd;have hy:z.cells[i%v.cells.size]?=some (z.cells[i%v.cells.size]'(by omega)):=by simp [show i%v.cells.size<z.cells.length by omega]
  obtain ⟨u,g1,g2⟩:=ha _ _ hy
  have:v.cells[i%v.cells.size]! = u:=by
   rw [Array.getElem!_eq_getD,Array.getD_eq_getD_getElem?,g1]
   rfl
  rw [this];exact (akx (w:=w) (R:=λ _=>True) g2).1
 have h8:=xi (P:=P) b (d*inf.size) e' fr (Builtin.zeroCells v.cells n).toList 0 cs w hh Z (by simpa using E) hb
 have U:(Builtin.clear_ #[t] o.type #[.slice A n cap]).run P w=.ok (.tuple #[]) (w.setRow b (c8 cs.toList (d*inf.size) (Builtin.zeroCells v.cells n).toList).toArray):=by
  simp only [zai] at h8;rw [f2];obtain ⟨k,rfl⟩:∃k,n=k+1:=⟨n-1,by omega⟩
  simp [Builtin.clear_,run_underlying ht,zeroValue,typeInfo,hi,hz,h8,c8]
 have g:=G _ U;simp only [Result.andThen_ok] at g;generalize Q:(Builtin.zeroCells v.cells n).toList=f at *;have N:=jt (w:=w) (cs:=(c8 cs.toList (d*inf.size) f).toArray) hh;have C:(c8 cs.toList (d*inf.size) f).length=cs.size:=by rw [l7 E]; simp
 have h3:d+(zaw n z).length<=xs.length:=by rw [zbj]; omega
 have D:(c8 xs d (zaw n z)).length=xs.length:=l7 h3;have K:=Stays.modify (x':=.row inf.size z' F true (c8 xs d (zaw n z))) hG H rfl V hh N (by simpa using C) ver (.inl ⟨rfl,rfl,by rw [D]; exact zad _⟩);refine ⟨_,_,ρ,g,hG.modify H rfl V hh N (by simpa using C) ver (.inl ⟨rfl,rfl,by rw [D]; exact zad _⟩) (.inr ⟨rfl,⟨rfl,by rw [D]; exact zad _⟩,λ h=>h⟩) ?_,.inl ⟨_,rfl,.undef _⟩⟩;refine .inr ⟨b,_,e',fr,V,N.new,by simpa [C] using Z,h2,by simpa [C,D] using J,λ i q O=>?_⟩;have h4:=λ p=>y6 (l:=cs.toList) (m:=f) (i:=d*inf.size) E p;rw [y6 h3,zbj] at O;split at O
 ·rename_i h5;rw [List.getElem?_replicate,if_pos (by omega)] at O;cases O;refine ⟨hf,λ j r I=>?_⟩;have h7:=(zab.1 I).1;obtain ⟨u,g1,g2⟩:=ha j r I
  have hp:(i-d)*inf.size+j<n*inf.size:=by
   have:(i-d+1)*inf.size<=n*inf.size:=zac _ (by omega);rw [zaa,zaf] at this;omega
  have hn:i*inf.size=d*inf.size+(i-d)*inf.size:=by rw [<- zaa,show d+(i-d)=i by omega]
  have h9:=akx (w:=w.setRow b (c8 cs.toList (d*inf.size) f).toArray) (R:=j8 X.B (upd id (ver,.row inf.size z' F true (c8 xs d (zaw n z))) s.ob) ρ (w.setRow b (c8 cs.toList (d*inf.size) f).toArray)) g2;refine ⟨u,?_,h9.1,h9.2⟩;rw [zag,h4,if_pos (by omega),show i*inf.size+j-d*inf.size=(i-d)*inf.size+j by omega,<- Q,ax9 M (by omega) (by omega)];exact g1
 rename_i h5;refine ⟨(T i q O).1,λ j r I=>?_⟩;obtain ⟨c,g1,g2,g3⟩:=(T i q O).2 j r I;have h7:j<inf.size:=by have:=(zab.1 I).1; have:=(T i q O).1; omega
 refine ⟨c,?_,g2,g3.mono K.free⟩;rw [zag,h4,W,if_neg]
 ·simpa using g1
 rintro ⟨p1,p2⟩;apply h5;constructor
 ·rcases zas i d with h | h
  ·have:(i+1)*inf.size<=d*inf.size:=zac _ h;rw [zaa,zaf] at this;omega
  exact h
 rcases zas i (d+n) with h | h
 ·exact h
 have:(d+n)*inf.size<=i*inf.size:=zac _ h;rw [zaa] at this;omega
theorem ayx {g:Bool} (i:g=true) {t e:TypeId} {inf:TypeInfo} {n:Nat} {x:Operand} {u:AV} (z:Gam X s ρ a w) (r:o.op=.slice t x none none none) (l:P.underlying t=some (.array n e)) (q:P.info? e=some inf)
 (C:inf.size=1) (y:RA X s ρ w u (a.eval x)) (c:(sh g n u s.ob).ok):o7 P X a w s ρ o (sh g n u s.ob).v:=by
 unfold sh at c |-;split at c
 ·rename_i id ver off;rcases hr:t5 s.ob id ver with _ | j
  ·rw [hr] at c; exact (c i).elim
  rw [hr] at c;obtain ⟨D,A⟩:=c i;have k:=fv hr;cases y;rename_i h;obtain ⟨b,f,hc⟩:=h.live k;obtain ⟨B,cs,e',d,p,m,_⟩:=z.obj id ver _ k;rw [f] at d;cases d
  skip
  refine ⟨.slice (some ⟨b,off,none⟩) n n,?_,.own _ _ _ _ _ rfl ⟨_,_,k,zad _,λ _=>⟨_,n,rfl,zad _,A,λ _=>⟨b,cs,e',(0,0),f,rfl,p,by omega⟩⟩⟩⟩;simp [execOp,r,Instr.sliceAt,run_underlying l,hc,Instr.sureAddr,Instr.sliceBounds,sizeOf,typeInfo,q,ci]
 first | exact (c i).elim | exact (c.2 i).elim | exact c.2.elim
theorem ayn (G:Gam X s ρ a w) {y:AV} {c:Value} {sz:Nat} {ys:List RV} {rd:List Nat} (g:src s.ob y=some (sz,ys,rd)) (hy:RA X s ρ w y c):RelV w (λ _=>True) (.sl sz ys) c:=by
 unfold src at g;split at g
 ·cases g;cases hy;rename_i hy;exact hy.mono λ b _=>⟨trivial,rfl⟩
 ·cases g;cases hy;exact .sl _ [] none 0 (by simp) (by simp) 0 0 (λ _ _=>undef) (by simp) (by simp) (by simp) (by simp)
 ·split at g
  ·rename_i id ver k len _ sz z E T xs t;cases g;have m:=u4 t;simp only at m;obtain ⟨A,cap,rfl,L,F,C,v⟩:=mu hy t;simp only at C v;have l:((xs.drop k).take len).length=len:=by simp; omega
   have h:=RelV.sl (w:=w) (R:=λ _=>True) sz ((xs.drop k).take len) A cap (by omega) F;rw [l] at h
   have d:∀(i:Nat) (x:RV),((xs.drop k).take len)[i]?=some x->xs[k+i]?=some x:=λ i x f=>by
    rw [zan] at f;split at f
    ·rwa [List.getElem?_drop] at f
    cases f
   rcases G.obj id ver _ m with ⟨p,B,_⟩ | ⟨b,cs,e,fr,p,B,K,P,Q,o⟩
   ·subst p;have:len=0:=by simp at C; omega
    subst this;exact h 0 0 (λ _ _=>undef) (by simp) (by simp) (by simp) (by simp)
   refine h b (k*sz) (λ i j=>(cs[(k+i)*sz+j]?).getD undef) (λ S=>?_) (λ i x f=>(o _ x (d i x f)).1) (λ i x j y f q=>?_) (λ i x j y f q=>?_)
   ·obtain ⟨M,I,e',J,r,H,O,N⟩:=v (by omega);rw [p] at r;cases r;exact ⟨H,trivial⟩
   ·obtain ⟨c,n,D,u⟩:=(o _ x (d i x f)).2 j y q;rw [n];refine ⟨?_,D⟩;simp only [World.cell?,B,Option.isSome_none,Bool.false_eq_true,if_false,Option.getD_some];rw [<- n,zaa]
   obtain ⟨c,n,D,u⟩:=(o _ x (d i x f)).2 j y q;rw [n];exact u.mono λ b _=>⟨trivial,rfl⟩
  cases g
 cases g
theorem ast {t d e:TypeId} {x:Operand} {u:AV} {sz:Nat} {ys:List RV} {rd:List Nat} (H:Gam X s ρ a w) (D:o.op=.convert t d x) (p:P.underlying t=some (.slice e)) (l:P.underlying e=some (.int .u8)) (y:P.underlying d=some .string)
 (E:RA X s ρ w u (a.eval x)) (C:src s.ob u=some (sz,ys,rd)) (i:sz=1) (I:ys.all anl=true):o7 P X a w s ρ o (aqx ⟨(ys.map agc).toArray⟩):=by
 have k:=ayn H C E;subst i;generalize hc:a.eval x=c at k;cases k;rename_i A cap J b o' g z F k K G;simp only [o7,execOp,D,hc];refine ⟨_,?_,cr _⟩
 have h:(convert t d (.slice A ys.length cap)).run P w=.ok (.string ⟨(ys.map agc).toArray⟩) w:=by
  rcases zbf ys.length with r | r
  ·have n:ys=[]:=zaz r;subst n;cases A with
   | none=>
     rw [run_convert_bytes_string w t d e none _ cap p l y];simp [Conv.bytesToString]
     rfl
   | some ad=>exact run_convert_bytes_back w t d e ad cap [] p l y (by simp)
  obtain ⟨rfl,_⟩:=F r
  have:=run_convert_bytes_back (P:=P) w t d e ⟨b,o',none⟩ cap (ys.map agc) p l y λ j v=>by
   simp only [List.length_map] at v;have hy:ys[j]?=some ys[j]:=by simp [v]
   have f:=zao.1 I ys[j] (zay v);simp only [List.getElem_map];generalize ys[j]=q at hy f;unfold anl at f;split at f
   ·rename_i m;have i:=(G j _ 0 _ hy rfl).1;have B:=k j _ 0 _ hy rfl;cases hgj:g j 0<;>rw [hgj] at B<;>cases B;rw [ci];rw [hgj] at i;simp only [Nat.mul_one,zai] at i;rw [i];simp only [decide_eq_true_eq] at f;simp only [agc,UInt8.toNat_ofNat'];congr 2;omega
   cases f
  simpa using this
 simp only [Sem.run_bind,h,Result.andThen_ok,Sem.run_pure]
theorem ay6 {g:Bool} (j:g=true) {d:Bool} {op:BinOp} {t ty e:TypeId} {x:Operand} {u:AV} (l:o.op=.binOp op t x (.const (.pointer none)) ty) (i:op=if d then .neq else .eql) (n:P.underlying t=some (.pointer e))
 (m:RA X s ρ w u (a.eval x)) (c:(vd g d u s.ob).ok):o7 P X a w s ρ o (vd g d u s.ob).v:=by
 have f:P.underlying t=some (.pointer (P.pointee t)):=by simp [Program.pointee,n]
 unfold vd at c |-;split at c
 ·split at c
  ·rename_i r p;cases m;rename_i hc h;obtain ⟨o',k⟩:=ai5 p;obtain ⟨b,_,hc⟩:=h.live k;simp only [o7,execOp,l,hc];refine ⟨_,?_,cr _⟩;subst i;cases d<;>simp [eqGuard,binOp,Act.eval,run_equal_pointer_nil w t _ f]
  first | exact (c j).elim | exact (c.2 j).elim
 ·have q:=m7 m;simp only [o7,execOp,l,q];refine ⟨_,?_,cr _⟩;subst i;cases d<;>simp [eqGuard,binOp,Act.eval,run_equal_pointer_nil w t _ f]
 first | exact (c j).elim | exact (c.2 j).elim
theorem anw {t:TypeId} {g:Bool} (C:g=true) (E:Gam X s ρ a w) {z5:Nat->Option (Nat×Nat)} (l:∀(p:Nat×Operand) (q:Nat×Nat×Opd),tl P t p q=true->z5 p.1=some (q.1,q.2.1)) :
 ∀(z:List (Nat×Operand)) (n:List (Nat×Nat×Opd)) (j:List AV) (b:Array Value),x7 (tl P t) z n=true->(dt g s.e j n).1->b.size=j.length ->
  (∀(i:Nat) (x:AV) (c:Value),j[i]?=some x->b[i]?=some c->RA X s ρ w x c) ->
  ∃r ys,Instr.fill z5 b (z.map λ p=>(p.1,a.eval p.2))=some r/\(dt g s.e j n).2=.agg ys/\r.size=ys.length/\∀(i:Nat) (x:AV) (c:Value),ys[i]?=some x->r[i]?=some c->RA X s ρ w x c
 | [],[],j,b,_,_,hs,hr=>⟨b,j,by simp [Instr.fill],rfl,hs,hr⟩
 | p::z,(off,m,y)::n,j,b,d,hok,hs,hr=>by
   simp [x7] at d;obtain ⟨A,d⟩:=d;simp only [dt] at hok |-;obtain ⟨I,o,J⟩:=hok;obtain ⟨L,O,Q⟩:=o C;have f:=l p _ A;have v:opd p.2 y=true:=by simp [tl] at A; exact A.1
   have hx:=j7 E C v I;obtain ⟨K,M⟩:=al2 hx L;generalize (y.ev s.e).bare.cells=xs at *;have D:=aij (a.eval p.2).cells.toList 0 off b (by simp; omega);simp only [zai] at D
   have u:((a.eval p.2).cells.zipIdx.foldl (λ cs (q:Value×Nat)=>cs.setIfInBounds (off+q.2) q.1) b).toList=c8 b.toList off (a.eval p.2).cells.toList:=by
    rw [<- D,<- Array.foldl_toList,Array.toList_zipIdx]
   have B:(c8 b.toList off (a.eval p.2).cells.toList).length=b.size:=by rw [l7 (by simp; omega)]; simp
   obtain ⟨r,ys,F,N,H,G⟩:=anw C E l z n (c8 j off xs) ((a.eval p.2).cells.zipIdx.foldl (λ cs (q:Value×Nat)=>cs.setIfInBounds (off+q.2) q.1) b) d J
    (by rw [<- zah,u,B,l7 (by omega),hs]) (λ i x c hx hc=>by
     rw [y6 (by omega)] at hx;rw [<- zbb,u,y6 (by simp; omega)] at hc;simp only [zah,K] at hc;split at hx
     ·rename_i k;rw [if_pos k] at hc;exact M _ x c hx (by simpa using hc)
     rename_i k;rw [if_neg k] at hc
     exact hr i x c hx (by simpa using hc))
   refine ⟨r,ys,?_,N,H,G⟩;simp only [List.map_cons,Instr.fill,f];rw [if_neg (by simp; omega)];exact F
 | [],_::_,_,_,h,_,_,_=>by cases h
 | _::_,[],_,_,h,_,_,_=>by cases h
theorem ang {a b:Type} (f:a->Option b) (d:b):∀(l:List a),(l.all λ x=>(f x).isSome)=true->l.mapM f=some (l.map λ x=>(f x).getD d)
 | [],_=>rfl
 | x::l,h=>by
   simp at h;obtain ⟨y,hy⟩:=Option.isSome_iff_exists.1 h.1;have:=ang f d l (by simpa using h.2);simp [List.mapM_cons,hy,this]
theorem asx {g:Bool} (S:g=true) {t:TypeId} {inf:TypeInfo} {z:Value} {d:TypeDesc} {l:List AV} {j:Array (Nat×Operand)} {u:List (Nat×Nat×Opd)} (T:Gam X s ρ a w) (N:o.op=.build t j) (I:P.info? t=some inf) (J:inf.zero=some z)
 (A:x7 eqz z.cells.toList l=true) (C:P.underlying t=some d) (n:ak1 P d=true) (y:x7 (tl P t) j.toList u=true) (G:(dt g s.e l u).1) :
 o7 P X a w s ρ o (dt g s.e l u).2:=by
 have h:(j.map λ (i,x)=>(i,a.eval x)).toList=j.toList.map λ p=>(p.1,a.eval p.2):=by simp
 have m:∀(i:Nat) (x:AV) (c:Value),l[i]?=some x->z.cells[i]?=some c->RA X s ρ w x c:=λ i x c hx hc=>akw (aay A (by simpa using hc) hx);have F:z.cells.size=l.length:=by rw [<- jx A]; simp
 have v:∀(z5:Nat->Option (Nat×Nat)),(∀(p:Nat×Operand) (q:Nat×Nat×Opd),tl P t p q=true->z5 p.1=some (q.1,q.2.1)) ->
  (∀r,Instr.fill z5 z.cells (j.toList.map λ p=>(p.1,a.eval p.2))=some r->P.built t (j.toList.map λ p=>(p.1,a.eval p.2))=some r)->o7 P X a w s ρ o (dt g s.e l u).2:=by
  intro z5 D U;obtain ⟨r,ys,L,Q,R,O⟩:=anw (P:=P) (t:=t) S T D j.toList u l z.cells y G F m;rw [Q];have B:=run_build (P:=P) w t (j.map λ (i,x)=>(i,a.eval x)) r (by rw [h]; exact U r L);refine ⟨.agg r,?_,.agg _ _ R O⟩;simp only [execOp,N,Sem.run_bind,B,Result.andThen_ok,Sem.run_pure]
 cases d with
 | struct fs=>
   have M:=ang (λ f=>(P.info? f.type).map λ i=>(f.offset,i.size)) (0,0) fs.toList (by
    simp only [Option.isSome_map];rw [Array.all_toList]
    exact n)
   refine v (λ i=>(fs.toList.map λ x=>((P.info? x.type).map λ i=>(x.offset,i.size)).getD (0,0)).toArray[i]?) (λ p q b=>?_) (λ r E=>?_)
   ·simp only [tl,C,zbi] at b;obtain ⟨_,b⟩:=b;split at b
    ·rename_i f K;split at b
     ·rename_i V H;simp at b;simp [K,H,b.1,b.2]
     cases b
    cases b
   unfold Program.built;simp only [I,C,J,M];exact E
 | array k e=>
   cases hie:P.info? e with
   | none=>simp [ak1,hie] at n
   | some ie=>
     refine v (λ i=>some (i*ie.size,ie.size)) (λ p q b=>?_) (λ r E=>?_)
     ·simp only [tl,C,hie,zbi,beq_iff_eq] at b;rw [b.2.1,b.2.2]
     unfold Program.built;simp only [I,C,J,hie];exact E
 | _=>cases n
end

end Go.Ev

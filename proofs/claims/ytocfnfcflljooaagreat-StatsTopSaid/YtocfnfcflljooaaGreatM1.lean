import Derived.Test.YtocfnfcflljooaaGreatM0
open Nat renaming add_mul → zaa, mul_le_mul_right → zac, le_refl → zad, min_eq_left → zae, one_mul → zaf, add_zero → zai, zero_add → zak, le_trans → zap, mul_comm → zaq, lt_or_ge → zas, lt_succ_self → zav, eq_zero_or_pos → zbf
open List renaming getElem?_eq_some_iff → zab, getElem?_toArray → zag, length_take → zaj, mem_of_getElem? → zal, getElem?_map → zam, getElem?_take → zan, all_eq_true → zao, take_of_length_le → zar, length_append → zat, size_toArray → zau, replicate → zaw, getElem_mem → zay, eq_nil_of_length_eq_zero → zaz, length_cons → zba, append_assoc → zbc, getElem?_append → zbd, mem_iff_getElem? → zbe, getElem?_append_left → zbg, flatMap_cons → zbh, length_replicate → zbj
open Array renaming length_toList → zah, getElem?_toList → zbb
open Option renaming map_eq_some_iff → zax
open Bool renaming and_eq_true → zbi
namespace Go.Ev
set_option maxHeartbeats 8000000
set_option maxRecDepth 100000
open Go
set_option linter.unusedSectionVars false
set_option linter.unnecessarySimpa false
set_option linter.unusedSimpArgs false
set_option linter.unusedVariables false
section
variable {P:Program} {X:Cx} {w w':World} {s:St} {ρ ρ':Pl->Option Nat} {a:Act} {o:Oper} {ob ob':Obs} {R R':Nat->Prop}
def dk (P:Program) (X:Cx) (a:Act) (w:World) (s:St) (o:Oper) (r:Rs):Prop:=
 ∃nx w' ρ',(execOp a.eval o).run P w=.ok nx w'/\Gam X ⟨s.e,r.ob⟩ ρ' a w'/\((∃c,nx=.value c/\RA X ⟨s.e,r.ob⟩ ρ' w' r.v c)\/(nx=.skip/\r.v=.undef))
theorem gr {a b:Type} {f:a->b->Bool}:∀{xs:List a} {ys:List b},q9 f xs ys=true->xs.length=ys.length
 | [],[],_=>rfl
 | x::xs,y::ys,h=>by simp [q9] at h; simp [gr h.2]
 | [],_::_,h=>by cases h
 | _::_,[],h=>by cases h
theorem xz {a b:Type} {f:a->b->Bool}:∀{xs:List a} {ys:List b},q9 f xs ys=true->∀{i:Nat} {x:a} {y:b},xs[i]?=some x->ys[i]?=some y->f x y=true
 | [],[],_,i,x,y,hx,_=>by simp at hx
 | x::xs,y::ys,h,0,x',y',hx,hy=>by simp [q9] at h; simp at hx hy; subst hx; subst hy; exact h.1
 | x::xs,y::ys,h,i+1,x',y',hx,hy=>by simp [q9] at h; simp at hx hy; exact xz h.2 hx hy
 | [],_::_,h,_,_,_,_,_=>by cases h
 | _::_,[],h,_,_,_,_,_=>by cases h
theorem mf {x:Obj} {x':Ob} {y:Nat->AV} {ok:Prop} {rd k:List Nat} {d:Nat} {c:Value} {ob:Obs} (l:d<X.n) (f:Gam X ⟨s.e,ob⟩ ρ a w) (j:OneMore w w' x) (b:(execOp a.eval o).run P w=.ok (.value c) w')
 (g:ay w' (d6 X.B (upd d (nv ob d,x') ob) (m5 ρ d (some w.heap.size)) w') (upd d (nv ob d,x') ob) (m5 ρ d (some w.heap.size)) d x')
 (hy:RelA w' (d6 X.B (upd d (nv ob d,x') ob) (m5 ρ d (some w.heap.size)) w') (upd d (nv ob d,x') ob) (m5 ρ d (some w.heap.size)) (y (nv ob d)) c) (i:x'.isAbs=false:=by rfl) :
 dk P X a w s o (m0 ob d x' y ok rd k):=
 ⟨_,w',m5 ρ d (some w.heap.size),b,f.alloc (s:=⟨s.e,ob⟩) j d (nv ob d) (f.pnn d (af3 (by have:=f.small; omega))) (λ v o h=>rn h) x' g i,.inl ⟨c,rfl,hy⟩⟩
theorem gc {id v:Nat} {x:Ob} {X:Ob->Prop} (h:X x):At (upd id (v,x) ob) id v X:=⟨v,x,by simp [upd],zad _,λ _=>h⟩
theorem u6 (x:Obj):OneMore w (w.alloc x) x:=⟨rfl,rfl,rfl,rfl⟩
theorem jv (x:Obj):OneMore w (w.drew.alloc x) x:=⟨rfl,rfl,rfl,rfl⟩
theorem aih {c:Value} (h:c.oneCell'=true):c.cells=#[c]:=by cases c<;>first | rfl | cases h
theorem ai2 {x:RV} {c:Value} (h:RelV w R x c) (hx:x.one=true):c.oneCell'=true:=by
 cases h<;>first | exact hx | rfl | cases hx
theorem aqr {x:AV} {c:Value} (h:RelA w R ob ρ x c) (hx:x.one=true):c.oneCell'=true:=by
 cases h<;>first | rfl | cases hx; done | assumption | skip
 rename_i h;exact ai2 h hx
theorem aqs {x:AV} (hx:x.one=true):x.cells=[x]:=by
 unfold AV.cells;split<;>first | rfl | cases hx
theorem aio {x:AV} {c:Value} (h:RelA w R ob ρ x c) (hx:x.boxable=true):c.cells.size=x.cells.length/\∀(i:Nat) (y:AV) (v:Value),x.cells[i]?=some y->c.cells[i]?=some v->RelA w R ob ρ y v:=by
 by_cases b:x.one=true
 ·rw [aih (aqr h b),aqs b];refine ⟨rfl,λ i y v hy a=>?_⟩;cases i with
  | zero=>simp at hy a; subst hy; subst a; exact h
  | succ i=>simp at hy
 unfold AV.boxable at hx;split at hx
 ·cases h;rename_i cs d h;exact ⟨d,h⟩
 ·cases h;rename_i h;cases h;rename_i cs d h;refine ⟨by simp [Value.cells,AV.cells,d],λ i y v hy a=>?_⟩;simp only [AV.cells,zam,zax] at hy;obtain ⟨z,e,rfl⟩:=hy;exact .r (h i z v e a)
 exact absurd hx b
theorem awh {d:Nat} {x:AV} {e:TypeId} {y:Operand} {ok:Prop} (f:d<X.n) (j:Gam X s ρ a w) (l:o.op=.box e y) (hx:RA X s ρ w x (a.eval y)) (q:x.boxable=true) :
 dk P X a w s o (m0 s.ob d (.box x.cells) (λ v=>.ptr d v 0) ok [] []):=by
 have b:(execOp a.eval o).run P w=.ok (.value (.pointer (some ⟨w.heap.size,0,none⟩))) (w.alloc (.cells (a.eval y).cells e)):=by
  simp only [execOp,l,Instr.box,newVar,newRow,Sem.run_bind,run_newObj,Result.andThen_ok,Sem.run_pure]; rfl
 have g:=Stays.alloc j (u6 (.cells (a.eval y).cells e)) d (nv s.ob d) (λ v o h=>rn h) (.box x.cells);obtain ⟨p,m⟩:=aio hx q;refine mf f j (u6 _) b ?_ (.ptr _ _ _ _ rfl (gc ⟨_,by simp [m5],rfl⟩));exact ⟨w.heap.size,(a.eval y).cells,e,by simp [m5],(u6 _).new,p,λ i z c k hc=>(m i z c k hc).stays g⟩
theorem asr {d:Nat} {j:List AV} {e:TypeId} {i:TypeInfo} {z:Value} {ok:Prop} (h:d<X.n) (l:Gam X s ρ a w) (k:o.op=.alloc e) (g:P.info? e=some i) (m:i.zero=some z) (b:q9 eqz z.cells.toList j=true) :
 dk P X a w s o (m0 s.ob d (.box j) (λ v=>.ptr d v 0) ok [] []):=by
 have f:(execOp a.eval o).run P w=.ok (.value (.pointer (some ⟨w.heap.size,0,none⟩))) (w.alloc (.cells z.cells e)):=by
  simp only [execOp,k,Instr.alloc,zeroValue,typeInfo,newVar,newRow,Sem.run_bind,run_program,g,m,run_newObj,Result.andThen_ok,Sem.run_pure]; rfl
 refine mf h l (u6 _) f ?_ (.ptr _ _ _ _ rfl (gc ⟨_,by simp [m5],rfl⟩));refine ⟨w.heap.size,z.cells,e,by simp [m5],(u6 _).new,by rw [<- gr b]; simp,λ i x c g hc=>?_⟩;exact ahp (xz b (by simpa using hc) g)
theorem Mods.same {b:Nat} {y:Obj} (h:w.heap[b]?=some y):Mods w w b y:=⟨rfl,rfl,rfl,rfl,h,λ _ _=>rfl⟩
theorem go {g:Nat} {a cs:Array Value} {t:TypeId} {fr:Nat×Nat} (c:w.heap[g]?=some (.cells a t fr)):Mods w (w.setRow g cs) g (.cells cs t fr):=
 ⟨rfl,rfl,rfl,by simp [World.setRow],setRow_heap w g a cs t fr c,λ k b=>setRow_other w g k cs b⟩
theorem ub (g o:Nat) (t:TypeId) (fr:Nat×Nat):∀(vs:List Value) (i:Nat) (cur:Array Value) (w:World),w.heap[g]?=some (.cells cur t fr)->(∀k,k<cur.size->¬(fr.1<=k/\k<fr.2))->o+i+vs.length<=cur.size->(∀v∈vs,v.oneCell'=true) ->
 (storeCells ⟨g,o,none⟩ vs i).run P w=.ok () (w.setRow g (cur.toList.take (o+i)++vs++cur.toList.drop (o+i+vs.length)).toArray)
 | [],i,cur,w,hg,_,_,_=>by
   simp only [storeCells,List.append_nil,List.length_nil,zai,List.take_append_drop,Array.toArray_toList];rw [setRow_self w g cur t fr hg]
   rfl
 | v::rest,i,cur,w,hg,hf,hl,h1=>by
   have f:o+i<cur.size:=by simp at hl; omega
   have c:(⟨g,o,none⟩:Addr).add i=⟨g,o+i,none⟩:=aw g o i;have a:w.cell? ⟨g,o+i,none⟩=some cur[o+i]:=by simp [World.cell?,hg,f]
   have b:w.frozen? ⟨g,o+i,none⟩=false:=by
    have:=hf (o+i) f;simp only [World.frozen?,hg];simpa using this
   have d:(store ((⟨g,o,none⟩:Addr).add i) v).run P w=.ok () (w.setRow g (cur.setIfInBounds (o+i) v)):=by
    rw [c,run_store P w _ v _ (h1 v (by simp)),a];simp [b,setCell_eq_setRow w g (o+i) cur t fr v hg]
   have h:=ub g o t fr rest (i+1) (cur.setIfInBounds (o+i) v) (w.setRow g (cur.setIfInBounds (o+i) v)) (setRow_heap w g cur _ t _ hg) (by simpa using hf) (by simp at hl |-; omega) (λ x hx=>h1 x (by simp [hx]));simp only [storeCells,Sem.run_bind,d,Result.andThen_ok,h,setRow_setRow];congr 3;have e:=list_seg_step cur.toList (o+i) v rest (by simp at hl |-; omega);simpa [Array.toList_setIfInBounds,Nat.add_assoc] using e
theorem aed {t:TypeId} {inf:TypeInfo} {g o':Nat} {e:TypeId} {fr:Nat×Nat} {cur:Array Value} {c:Value} (f:P.info? t=some inf) (a:c.cells.size=inf.size) (i:w.heap[g]?=some (.cells cur e fr))
 (b:∀k,k<cur.size->¬(fr.1<=k/\k<fr.2)) (h:o'+c.cells.size<=cur.size) (d:∀v∈c.cells.toList,v.oneCell'=true) :
 (Instr.storeAt t (.pointer (some ⟨g,o',none⟩)) c).run P w=.ok () (w.setRow g (b7 cur.toList o' c.cells.toList).toArray):=by
 have:=ub (P:=P) g o' e fr c.cells.toList 0 cur w i b (by simpa using h) d;simp only [zai] at this;simp [Instr.storeAt,Instr.sureAddr,storeVar,sizeOf,typeInfo,f,a,this,b7]
theorem j7 {a:Type} {l m:List a} {i:Nat} (h:i+m.length<=l.length):(b7 l i m).length=l.length:=by
 simp [b7]; omega
theorem u4 {c:Type} {l m:List c} {i:Nat} (h:i+m.length<=l.length) (j:Nat):(b7 l i m)[j]?=if i<=j/\j<i+m.length then m[j-i]? else l[j]?:=by
 unfold b7;rw [zbc,zbd,zaj,zae (by omega)];by_cases a:j<i
 ·rw [if_pos a,zan,if_pos a,if_neg (by omega)]
 rw [if_neg a,zbd];by_cases b:j-i<m.length
 ·rw [if_pos b,if_pos (by omega)]
 rw [if_neg b,if_neg (by omega),List.getElem?_drop];congr 1;omega
theorem av7 {m off id ver:Nat} {y:AV} {d:List AV} {t:TypeId} {inf:TypeInfo} {x v:Operand} {ok:Prop} (I:Gam X s ρ a w) (N:o.op=.store t x v) (F:P.info? t=some inf) (W:inf.size=m)
 (hx:RA X s ρ w (.ptr id ver off) (a.eval x)) (hy:RA X s ρ w y (a.eval v)) (S:m7 s.ob id ver=some d) (V:y.cells.length=m) (U:off+m<=d.length) (R:y.cells.all (·.one)=true) (J:y.boxable=true) :
 dk P X a w s o ⟨ok,.undef,upd id (ver,.box (b7 d off y.cells)) s.ob,[id],[id]⟩:=by
 have j:=dj S;cases hx;rename_i Q h;obtain ⟨b,k,hc⟩:=h.live j;obtain ⟨Y,cs,e,n,G,L,D⟩:=I.obj id ver _ j;rw [k] at n;cases n;obtain ⟨T,M⟩:=aio hy J
 have A:∀u∈(a.eval v).cells.toList,u.oneCell'=true:=λ u O=>by
  obtain ⟨i,F⟩:=zbe.1 O
  have E:i<y.cells.length:=by
   have:=(zab.1 F).1;simp at this;omega
  have r:y.cells[i]?=some y.cells[i]:=by simp [E]
  exact aqr (M i _ u r (by simpa using F)) (zao.1 R _ (zay E))
 have B:=aed (P:=P) (w:=w) (o':=off) (c:=a.eval v) F (by omega) G (by simp) (by omega) A;have q:=go (w:=w) (cs:=(b7 cs.toList off (a.eval v).cells.toList).toArray) G;have g:(b7 cs.toList off (a.eval v).cells.toList).length=cs.size:=by rw [j7 (by simp; omega)]; simp
 have C:=Stays.modify (x':=.box (b7 d off y.cells)) I j rfl k G q (by simpa using g) ver (.inl ⟨rfl,trivial⟩);refine ⟨.skip,_,ρ,?_,I.modify j rfl k G q (by simpa using g) ver (.inl ⟨rfl,trivial⟩) (.inr ⟨rfl,trivial,λ _=>rfl⟩) ?_,.inr ⟨rfl,rfl⟩⟩
 ·simp only [execOp,N,hc,Sem.run_bind,B,Result.andThen_ok,Sem.run_pure]
 refine ⟨b,_,e,k,q.new,?_,λ i z c r f=>?_⟩
 ·rw [j7 (by omega)];simpa [L] using g
 have H:=u4 (l:=d) (m:=y.cells) (i:=off) (by omega) i;rw [H] at r;have K:=u4 (l:=cs.toList) (m:=(a.eval v).cells.toList) (i:=off) (by simp; omega) i;rw [zag,K] at f;simp only [zah,T] at f;split at r
 ·rename_i p;rw [if_pos p] at f;exact (M _ z c r (by simpa using f)).stays C
 rename_i p;rw [if_neg p] at f;exact (D i z c r (by simpa using f)).stays C
theorem jz {ob:Obs}:∀{xs:List AV} {ys:List RV} {a:List Nat},rvs ob xs=some (ys,a)->ys.length=xs.length
 | [],ys,a,h=>by simp [rvs] at h; simp [h.1]
 | x::xs,ys,a,h=>by
   simp only [rvs] at h;split at h
   ·rename_i y i c j d b;cases h;simp [jz b]
   cases h
theorem aah (f:Gam X s ρ a w) {ob:Obs} {l:List Nat} (b:s.ob=Ev.freeze ob l):∀{xs:List AV} {ys:List RV} {d:List Nat},rvs ob xs=some (ys,d)->(∀i∈d,i∈l) ->
 ∀(i:Nat) (x:AV) (y:RV) (c:Value),xs[i]?=some x->ys[i]?=some y->RA X s ρ w x c->RelV w (d6 X.B s.ob ρ w) y c
 | [],ys,d,h,hs,i,x,y,c,hx,hy,hr=>by simp at hx
 | z::xs,ys,d,h,hs,i,x,y,c,hx,hy,hr=>by
   simp only [rvs] at h;split at h
   ·rename_i n k o j m g;cases h;cases i with
    | zero=>
      simp at hx hy;subst hx; subst hy;exact afv f m (λ p e=>hs p (by simp [e])) b hr
    | succ i=>
      simp at hx hy;exact aah f b g (λ p e=>hs p (by simp [e])) i x y c hx hy hr
   cases h
theorem aow {x:RV} (h:x.one=true):x.cells=[x]:=by cases x<;>first | rfl | cases h
theorem anm {q E:RV} {off:Nat} {ys:List RV} (a:(match q with | .agg cs=>RV.agg (b7 cs off ys) | q=>ys.getD 0 q)=E) (h:off+ys.length<=q.cells.length) (c:ys.all (·.one)=true):E.cells=b7 q.cells off ys:=by
 have b:∀q:RV,q.cells=[q]->ys.getD 0 q=E->off+ys.length<=1->E.cells=b7 q.cells off ys:=by
  intro q d a h;rw [d]
  match ys,c,a,h with
  | [],_,a,h=>
    simp at a; subst a;rw [d];simp [b7]
  | [y0],c,a,h=>
    simp at a c h; subst a; subst h;rw [aow c];simp [b7]
  | _::_::_,_,_,h=>simp at h; omega
 cases q with
 | agg cs=>simp only at a; subst a; rfl
 | v x=>exact b _ rfl a h
 | sl k xs=>exact b _ rfl a h
theorem av6 {m idx off id ver sz:Nat} {z:RV} {H:Bool} {xs ys:List RV} {y:AV} {t:TypeId} {inf:TypeInfo} {x v:Operand} {ok:Prop} (Y:Gam X s ρ a w) (ho:o.op=.store t x v) (Z:P.info? t=some inf) (hm:inf.size=m)
 (hx:RA X s ρ w (.oel id ver idx off) (a.eval x)) (hy:RA X s ρ w y (a.eval v)) (hb:g9 s.ob id ver=some (sz,z,H,true,xs)) (T:rvs s.ob y.cells=some (ys,[])) (h1:ys.length=m) (h2:off+m<=sz) (h3:ys.all (·.one)=true) (h4:y.boxable=true) :
 dk P X a w s o ⟨ok,.undef,upd id (ver,.row sz z H true (xs.set idx (match xs.getD idx z with | .agg cs=>.agg (b7 cs off ys) | q=>ys.getD 0 q))) s.ob,[id],[id]⟩:=by
 have k:=n8 hb;simp only at k;cases hx;rename_i ha h;obtain ⟨f,h9,b,n,hc⟩:=h.live k;rcases Y.obj id ver _ k with ⟨K,_⟩ | ⟨b',cs,e,fr,F,hh,M,S,Q,L⟩
 ·rw [K] at f; simp at f
 rw [n] at F;cases F;obtain ⟨k1,k2⟩:=aio hy h4;have hl:=jz T
 have C:∀(i:Nat) (q:RV) (u:Value),ys[i]?=some q->(a.eval v).cells[i]?=some u->RelV w (d6 X.B s.ob ρ w) q u/\u.oneCell'=true:=λ i q u A hu=>by
  have d:=(zab.1 A).1;have hz:y.cells[i]?=some (y.cells[i]'(by omega)):=by simp [show i<y.cells.length by omega]
  have:=aah Y (ob:=s.ob) (l:=[]) rfl T (by simp) i _ q u hz A (k2 i _ u hz hu);refine ⟨this,ai2 this ?_⟩;have h5:=(zab.1 A).2;rw [<- h5];exact zao.1 h3 _ (zay d)
 have h0:xs[idx]?=some (xs.getD idx z):=by simp [f]
 obtain ⟨V,h7⟩:=L idx _ h0;have O:(idx+1)*sz<=cs.size:=zap (zac _ f) Q;rw [zaa,zaf] at O
 have R:∀u∈(a.eval v).cells.toList,u.oneCell'=true:=λ u hu=>by
  obtain ⟨i,Z⟩:=zbe.1 hu;have d:=(zab.1 Z).1;simp at d;exact (C i (ys[i]'(by omega)) u (by simp [show i<ys.length by omega]) (by simpa using Z)).2
 have U:=aed (P:=P) (w:=w) (o':=idx*sz+off) (c:=a.eval v) Z (by omega) hh M (by omega) R;have J:=go (w:=w) (cs:=(b7 cs.toList (idx*sz+off) (a.eval v).cells.toList).toArray) hh;have g:(b7 cs.toList (idx*sz+off) (a.eval v).cells.toList).length=cs.size:=by rw [j7 (by simp; omega)]; simp
 generalize hE:(match xs.getD idx z with | .agg cs=>RV.agg (b7 cs off ys) | q=>ys.getD 0 q)=E;have h6:E.cells=b7 (xs.getD idx z).cells off ys:=anm hE (by rw [V]; omega) h3;have G:=Stays.modify (x':=.row sz z H true (xs.set idx E)) Y k rfl n hh J (by simpa using g) ver (.inl ⟨rfl,rfl,by simp⟩);refine ⟨.skip,_,ρ,?_,Y.modify k rfl n hh J (by simpa using g) ver (.inl ⟨rfl,rfl,by simp⟩) (.inr ⟨rfl,⟨rfl,by simp⟩,λ h=>h⟩) ?_,.inr ⟨rfl,rfl⟩⟩
 ·simp only [execOp,ho,hc,Sem.run_bind,U,Result.andThen_ok,Sem.run_pure]
 refine .inr ⟨b,_,e,fr,n,J.new,by simpa [g] using M,S,by simpa [g] using Q,λ i q A=>?_⟩;have N:=λ p=>u4 (l:=cs.toList) (m:=(a.eval v).cells.toList) (i:=idx*sz+off) (by simp; omega) p;rw [List.getElem?_set] at A;by_cases I:idx=i
 ·subst I;rw [if_pos rfl,if_pos f] at A;cases A;rw [h6];refine ⟨by rw [j7 (by omega)]; exact V,λ j r D=>?_⟩;rw [u4 (by omega)] at D;rw [zag,N];simp only [zah];by_cases W:off<=j/\j<off+ys.length
  ·rw [if_pos W] at D;rw [if_pos (by omega)];have d:j-off<(a.eval v).cells.size:=by omega
   refine ⟨(a.eval v).cells[j-off],by rw [show idx*sz+j-(idx*sz+off)=j-off by omega]; simp [d],?_⟩;have:=C (j-off) r (a.eval v).cells[j-off] D (by simp [d]);exact ⟨this.2,this.1.mono G.free⟩
  rw [if_neg W] at D;rw [if_neg (by omega)];obtain ⟨c,g1,g2,g3⟩:=h7 j r D;exact ⟨c,by simpa using g1,g2,g3.mono G.free⟩
 rw [if_neg I] at A;obtain ⟨g1,g2⟩:=L i q A;refine ⟨g1,λ j r D=>?_⟩;obtain ⟨c,f1,f2,f3⟩:=g2 j r D;have h8:j<sz:=by have:=(zab.1 D).1; omega
 refine ⟨c,?_,f2,f3.mono G.free⟩;rw [zag,N];simp only [zah];rw [if_neg]
 ·simpa using f1
 rintro ⟨p1,p2⟩;rcases Nat.lt_or_gt_of_ne I with d | d
 ·have:(idx+1)*sz<=i*sz:=zac _ d;rw [zaa,zaf] at this;omega
 have:(i+1)*sz<=idx*sz:=zac _ d;rw [zaa,zaf] at this;omega
theorem acp {a:Type} {l:List a} {n i:Nat} {x:a} (h:(l.take n)[i]?=some x):l[i]?=some x:=by
 rw [zan] at h;split at h
 ·exact h
 cases h
theorem afs (hG:Gam X s ρ a w) {y:AV} {c:Value} {sz:Nat} {ys:List RV} {rd:List Nat} (n:src s.ob y=some (sz,ys,rd)) (hy:RA X s ρ w y c) :
 ∃(A:Option Addr) (cap:Nat) (news:List Value),c=.slice A ys.length cap/\(∀m,m<=ys.length->∀W:World,W.heap=w.heap->(Builtin.firstCells sz m c).run P W=.ok (news.take (m*sz)).toArray W)/\news.length=ys.length*sz/\(∀u∈news,u.oneCell'=true) /\
  (∀(i:Nat) (x:RV),ys[i]?=some x->x.cells.length=sz/\∀(j:Nat) (q:RV),x.cells[j]?=some q->∃u,news[i*sz+j]?=some u/\RelV w (d6 X.B s.ob ρ w) q u):=by
 have l:∀(A:Option Addr) (cap b o':Nat) (g:Nat->Nat->Value),c=.slice A ys.length cap->(0<ys.length->A=some ⟨b,o',none⟩)->(∀(i:Nat) (x:RV),ys[i]?=some x->x.cells.length=sz) ->
  (∀(i:Nat) (x:RV) (j:Nat) (q:RV),ys[i]?=some x->x.cells[j]?=some q->w.cell? ⟨b,o'+i*sz+j,none⟩=some (g i j)/\(g i j).oneCell'=true/\RelV w (d6 X.B s.ob ρ w) q (g i j)) ->
  ∃(A:Option Addr) (cap:Nat) (news:List Value),c=.slice A ys.length cap/\(∀m,m<=ys.length->∀W:World,W.heap=w.heap->(Builtin.firstCells sz m c).run P W=.ok (news.take (m*sz)).toArray W)/\news.length=ys.length*sz/\(∀u∈news,u.oneCell'=true) /\
  (∀(i:Nat) (x:RV),ys[i]?=some x->x.cells.length=sz/\∀(j:Nat) (q:RV),x.cells[j]?=some q->∃u,news[i*sz+j]?=some u/\RelV w (d6 X.B s.ob ρ w) q u):=by
  intro A cap b o' g hc U D G;rcases zbf ys.length with H | H
  ·have S:ys=[]:=zaz H;subst S;refine ⟨A,cap,[],hc,λ m E W Z=>?_,by simp,by simp,by simp⟩;have R:m=0:=by simpa using E
   subst R;rw [hc];cases A<;>simp [Builtin.firstCells,loadCells,loadCellsFrom]
  have Y:=U H;subst Y;rcases zbf sz with k | k
  ·subst k;refine ⟨_,cap,[],hc,λ m E W Z=>?_,by simp,by simp,λ i x hx=>⟨D i x hx,λ j q d=>?_⟩⟩
   ·rw [hc];simp [Builtin.firstCells,loadCells,loadCellsFrom]
   have:=D i x hx;have:=(zab.1 d).1;omega
  have t:∀p,p<ys.length*sz->∃x q,ys[p/sz]?=some x/\x.cells[p%sz]?=some q:=λ p K=>by
   have F:p/sz<ys.length:=Nat.div_lt_of_lt_mul (by rw [zaq]; exact K);have N:p%sz<sz:=Nat.mod_lt _ k;have hx:ys[p/sz]?=some ys[p/sz]:=by simp [F]
   have hl:=D _ _ hx;exact ⟨_,ys[p/sz].cells[p%sz]'(by omega),hx,by simp [show p%sz<ys[p/sz].cells.length by omega]⟩
  have f:∀p u,((List.range (ys.length*sz)).map λ p=>g (p/sz) (p%sz))[p]?=some u->u=g (p/sz) (p%sz)/\p<ys.length*sz:=λ p u v=>by
   rw [zam,zax] at v;obtain ⟨q,d,rfl⟩:=v;obtain ⟨J,L⟩:=zab.1 d;rw [List.getElem_range] at L;subst L;rw [List.length_range] at J;exact ⟨rfl,J⟩
  refine ⟨_,cap,(List.range (ys.length*sz)).map λ p=>g (p/sz) (p%sz),hc,λ m E W Z=>?_,by simp,λ u v=>?_,λ i x hx=>⟨D i x hx,λ j q d=>⟨g i j,?_,(G i x j q hx d).2.2⟩⟩⟩
  ·rw [hc];refine run_firstCells_some W sz m ⟨b,o',none⟩ ys.length cap _ (by simp [zae E]) λ p u v=>?_;have v:=acp v;rw [show W.cell?=w.cell? from by funext x; simp only [World.cell?,Z]];obtain ⟨rfl,K⟩:=f p u v;obtain ⟨x,q,hx,d⟩:=t p K;rw [aw,<- (G _ x _ q hx d).1];congr 2;have:=Nat.div_add_mod p sz;rw [zaq] at this;omega
  ·obtain ⟨p,K⟩:=zbe.1 v;obtain ⟨rfl,Q⟩:=f p u K;obtain ⟨x,q,hx,d⟩:=t p Q;exact (G _ x _ q hx d).2.1
  have F:=(zab.1 hx).1;have N:=(zab.1 d).1;have h3:=D i x hx
  have V:i*sz+j<ys.length*sz:=by
   have:(i+1)*sz<=ys.length*sz:=zac _ F;rw [zaa,zaf] at this;omega
  have hd:(i*sz+j)/sz=i:=by
   rw [zaq,Nat.mul_add_div k,Nat.div_eq_of_lt (by omega),zai]
  have E:(i*sz+j)%sz=j:=by
   rw [zaq,Nat.mul_add_mod,Nat.mod_eq_of_lt (by omega)]
  simp [V,hd,E]
 unfold src at n;split at n
 ·cases n;cases hy;rename_i hy;cases hy;rename_i A cap E b o' g h7 U O D G;exact l A cap b o' g rfl (λ h=>(U h).1) D λ i x j q hx d=>⟨(G i x j q hx d).1,(G i x j q hx d).2,O i x j q hx d⟩
 ·cases n;cases hy;exact l none 0 0 0 (λ _ _=>undef) rfl (by simp) (by simp) (by simp)
 ·split at n
  ·rename_i id ver M len _ sz z h9 wr xs O;cases n;have I:=n8 O;simp only at I;obtain ⟨A,cap,e1,e2,e3,e4,e5⟩:=ke hy O;simp only at e4;have C:((xs.drop M).take len).length=len:=by simp; omega
   have o:∀(i:Nat) (x:RV),((xs.drop M).take len)[i]?=some x->xs[M+i]?=some x:=λ i x r=>by
    rw [zan] at r;split at r
    ·rwa [List.getElem?_drop] at r
    cases r
   rcases hG.obj id ver _ I with ⟨F,N,_⟩ | ⟨b,cs,e,fr,F,N,h3,h4,h5,h6⟩
   ·subst F;have T:len=0:=by simp at e4; omega
    subst T;exact l A cap 0 0 (λ _ _=>undef) (by rw [e1]; simp) (by simp) (by simp) (by simp)
   refine l A cap b (M*sz) (λ i j=>(cs[(M+i)*sz+j]?).getD undef) (by rw [e1,C]) (λ H=>?_) (λ i x r=>(h6 _ x (o i x r)).1) (λ i x j q r hj=>?_)
   ·rw [C] at H;obtain ⟨b',h8,e',ha,f1,f2,f3,f4⟩:=e5 (by omega);rw [F] at f1;cases f1;exact f2
   obtain ⟨u,g1,g2,g3⟩:=(h6 _ x (o i x r)).2 j q hj;rw [g1];refine ⟨?_,g2,g3⟩;simp only [World.cell?,N,Option.isSome_none,Bool.false_eq_true,if_false,Option.getD_some];rw [<- g1,zaa]
  cases n
 cases n
theorem acs (d:Gam X s ρ a w) {y:AV} {c:Value} {sz:Nat} {ys:List RV} {rd:List Nat} (k:src s.ob y=some (sz,ys,rd)) (hy:RA X s ρ w y c) :
 ∃(A:Option Addr) (cap:Nat) (news:List Value),c=.slice A ys.length cap/\(∀W:World,W.heap=w.heap->(Builtin.firstCells sz ys.length c).run P W=.ok news.toArray W)/\news.length=ys.length*sz/\(∀u∈news,u.oneCell'=true) /\
  (∀(i:Nat) (x:RV),ys[i]?=some x->x.cells.length=sz/\∀(j:Nat) (q:RV),x.cells[j]?=some q->∃u,news[i*sz+j]?=some u/\RelV w (d6 X.B s.ob ρ w) q u):=by
 obtain ⟨A,cap,news,f,e,g,l,h⟩:=afs (P:=P) d k hy;refine ⟨A,cap,news,f,λ W b=>?_,g,l,h⟩;rw [e ys.length (zad _) W b,zar (by omega)]
theorem awd {sz id ver d n:Nat} {z':RV} {G:Bool} {xs:List RV} {y:AV} {ys:List RV} {rd rd':List Nat} {t u e:TypeId} {inf:TypeInfo} {c:Call} {x v:Operand} {ok:Prop} (U:Gam X s ρ a w) (ho:o.op=.call c) (hc:c.callee=.builtin .copy)
 (J:c.args=#[x,v]) (h2:c.argTypes=#[t,u]) (ht:P.underlying t=some (.slice e)) (hi:P.info? e=some inf) (hb:inf.size=sz)
 (hx:RA X s ρ w (.own id ver d n) (a.eval x)) (hr:g9 s.ob id ver=some (sz,z',G,true,xs)) (hy:RA X s ρ w y (a.eval v)) (hs:src s.ob y=some (sz,ys,rd)) :
 dk P X a w s o ⟨ok,int .i64 ((Nat.min ys.length n:Nat):Int),upd id (ver,.row sz z' G true (spl xs d (ys.take n))) s.ob,rd',[id]⟩:=by
 unfold spl;subst hb;have B:=n8 hr;simp only at B;obtain ⟨A2,c2,news,h5,W,he,V,M⟩:=afs (P:=P) U hs hy;obtain ⟨A,cap,h8,e2,e3,e4,e5⟩:=ke hx hr;simp only at e4;obtain ⟨m,Q⟩:∃m,m=Nat.min ys.length n:=⟨_,rfl⟩
 have F:m<=ys.length:=by rw [Q]; exact Nat.min_le_left _ _
 have hn:m<=n:=by rw [Q]; exact Nat.min_le_right _ _
 have hd:ys.take n=ys.take m:=by
  rw [Q];rcases Nat.le_total ys.length n with h | h
  ·rw [zar h,zar (by rw [show Nat.min ys.length n=ys.length from zae h]; exact zad _)]
  rw [show Nat.min ys.length n=n from Nat.min_eq_right h]
 rw [<- Q,hd];have hf:=W m F;rw [h5] at hf
 have D:∀r,(Builtin.copy_ #[t,u] o.type #[.slice A n cap,.slice A2 ys.length c2]).run P w=r->(execOp a.eval o).run P w=r.andThen λ q w'=>.ok (.value q) w':=by
  rintro r rfl;simp [execOp,ho,resolve,hc,J,h2,invoke,builtin,h8,h5]
 by_cases h0:m=0
 ·subst h0;have Z:=hf w rfl;simp only [Nat.zero_mul,List.take_zero] at Z
  have L:(Builtin.copy_ #[t,u] o.type #[.slice A n cap,.slice A2 ys.length c2]).run P w=.ok (goInt 0) w:=by
   cases A<;>simp [Builtin.copy_,run_underlying ht,Builtin.lenOf,sizeOf,typeInfo,hi,<- Q,Z,storeCells]
  have f:=D _ L;simp only [Result.andThen_ok] at f;refine ⟨_,w,ρ,f,?_,.inl ⟨_,rfl,.r (.v _)⟩⟩;have e:b7 xs d (ys.take 0)=xs:=by simp [b7]
  rw [e]
  rw [show upd id (ver,Ob.row inf.size z' G true xs) s.ob=s.ob from by
   funext i;unfold upd;split
   ·rename_i h; rw [h,B]
   rfl]
  exact U
 have hg:0<cap:=by omega
 obtain ⟨b,hv,ee,hl,f1,f2,f3,f4⟩:=e5 hg;rcases U.obj id ver _ B with ⟨q1,q2,_⟩ | ⟨b',cs,e',fr,R,hh,S,h4,H,I⟩
 ·rw [f1] at q2; cases q2
 rw [f1] at R;cases R
 have N:(news.take (m*inf.size)).length=m*inf.size:=by
  rw [zaj,he];exact zae (zac _ F)
 have K:(d+m)*inf.size<=cs.size:=zap (zac _ (by omega)) H
 have C:d*inf.size+(news.take (m*inf.size)).length<=cs.toList.length:=by
  rw [N,<- zaa];simpa using K
 have h3:∀u∈news.take (m*inf.size),u.oneCell'=true:=λ u hu=>V u (List.mem_of_mem_take hu);have h1:=ub (P:=P) b (d*inf.size) e' fr (news.take (m*inf.size)) 0 cs w hh S (by simpa using C) h3;have h9:=hf w rfl
 have L:(Builtin.copy_ #[t,u] o.type #[.slice A n cap,.slice A2 ys.length c2]).run P w=.ok (goInt m) (w.setRow b (b7 cs.toList (d*inf.size) (news.take (m*inf.size))).toArray):=by
  simp only [zai] at h1;simp [Builtin.copy_,run_underlying ht,Builtin.lenOf,sizeOf,typeInfo,hi,<- Q,h9,f2,h1,b7]
 have f:=D _ L;simp only [Result.andThen_ok] at f;have O:=go (w:=w) (cs:=(b7 cs.toList (d*inf.size) (news.take (m*inf.size))).toArray) hh;have k:(b7 cs.toList (d*inf.size) (news.take (m*inf.size))).length=cs.size:=by rw [j7 C]; simp
 have h6:d+(ys.take m).length<=xs.length:=by rw [zaj,zae F]; omega
 have g:(b7 xs d (ys.take m)).length=xs.length:=j7 h6;have z:=Stays.modify (x':=.row inf.size z' G true (b7 xs d (ys.take m))) U B rfl f1 hh O (by simpa using k) ver (.inl ⟨rfl,rfl,by rw [g]; exact zad _⟩);refine ⟨_,_,ρ,f,U.modify B rfl f1 hh O (by simpa using k) ver (.inl ⟨rfl,rfl,by rw [g]; exact zad _⟩) (.inr ⟨rfl,⟨rfl,by rw [g]; exact zad _⟩,λ h=>h⟩) ?_,.inl ⟨_,rfl,.r (.v _)⟩⟩;refine .inr ⟨b,_,e',fr,f1,O.new,by simpa [k] using S,h4,by simpa [k,g] using H,λ i q E=>?_⟩;have T:=λ p=>u4 (l:=cs.toList) (m:=news.take (m*inf.size)) (i:=d*inf.size) C p;rw [u4 h6,zaj,zae F] at E;split at E
 ·rename_i h7;have E:=acp E;refine ⟨(M _ q E).1,λ j r Y=>?_⟩;obtain ⟨c,g1,g2⟩:=(M _ q E).2 j r Y;have ha:j<inf.size:=by have:=(zab.1 Y).1; have:=(M _ q E).1; omega
  have hp:(i-d)*inf.size+j<m*inf.size:=by
   have:(i-d+1)*inf.size<=m*inf.size:=zac _ (by omega);rw [zaa,zaf] at this;omega
  have hk:i*inf.size=d*inf.size+(i-d)*inf.size:=by rw [<- zaa,show d+(i-d)=i by omega]
  refine ⟨c,?_,V c (zal g1),g2.mono z.free⟩;rw [zag,T,N,if_pos (by omega),zan,if_pos (by omega),show i*inf.size+j-d*inf.size=(i-d)*inf.size+j by omega,g1]
 rename_i h7;refine ⟨(I i q E).1,λ j r Y=>?_⟩;obtain ⟨c,g1,g2,g3⟩:=(I i q E).2 j r Y;have ha:j<inf.size:=by have:=(zab.1 Y).1; have:=(I i q E).1; omega
 refine ⟨c,?_,g2,g3.mono z.free⟩;rw [zag,T,N,if_neg]
 ·simpa using g1
 rintro ⟨p1,p2⟩;apply h7;constructor
 ·rcases zas i d with h | h
  ·have:(i+1)*inf.size<=d*inf.size:=zac _ h;rw [zaa,zaf] at this;omega
  exact h
 rcases zas i (d+m) with h | h
 ·exact h
 have:(d+m)*inf.size<=i*inf.size:=zac _ h;rw [zaa] at this;omega
theorem awe {sz id ver d n:Nat} {z':RV} {H:Bool} {xs:List RV} {G:ByteArray} {ys:List RV} {rd':List Nat} {t u e:TypeId} {inf:TypeInfo} {c:Call} {x v:Operand} {ok:Prop} (hG:Gam X s ρ a w) (ho:o.op=.call c) (hc:c.callee=.builtin .copy)
 (L:c.args=#[x,v]) (h5:c.argTypes=#[t,u]) (ht:P.underlying t=some (.slice e)) (hi:P.info? e=some inf) (hg:inf.size=sz)
 (hx:RA X s ρ w (.own id ver d n) (a.eval x)) (hr:g9 s.ob id ver=some (sz,z',H,true,xs)) (hy:a.eval v=.string G) (N:sz=1) (T:ys=G.data.toList.map λ b=>RV.v (.int .u8 b.toNat)) :
 dk P X a w s o ⟨ok,int .i64 ((Nat.min ys.length n:Nat):Int),upd id (ver,.row sz z' H true (spl xs d (ys.take n))) s.ob,rd',[id]⟩:=by
 unfold spl;subst hg;have C:=n8 hr;simp only at C;have hl:a.eval v=.string G:=hy;have h8:G.size=ys.length:=by rw [T,List.length_map,zah]; rfl
 obtain ⟨news,I⟩:∃news:List Value,news=G.data.toList.map λ b=>Value.int .u8 b.toNat:=⟨_,rfl⟩
 have h2:∀m,m<=ys.length->∀W:World,W.heap=w.heap->(Builtin.firstCells inf.size m (.string G)).run P W=.ok (news.take (m*inf.size)).toArray W:=λ m U W _=>by
  rw [N,I];simp [Builtin.firstCells];apply Array.ext';simp [List.map_take]
 have hn:news.length=ys.length*inf.size:=by rw [N,I,T]; simp
 have h1:∀u∈news,u.oneCell'=true:=by
  rw [I];intro u hu;obtain ⟨c,_,rfl⟩:=List.mem_map.1 hu
  rfl
 have Q:∀(i:Nat) (x:RV),ys[i]?=some x->x.cells.length=inf.size/\∀(j:Nat) (q:RV),x.cells[j]?=some q->∃u,news[i*inf.size+j]?=some u/\RelV w (d6 X.B s.ob ρ w) q u:=by
  rw [N,I,T];intro i x hx;rw [zam,zax] at hx;obtain ⟨c,hc,rfl⟩:=hx;refine ⟨rfl,λ j q g=>?_⟩;cases j with
  | succ j=>simp [RV.cells] at g
  | zero=>
    simp [RV.cells] at g;subst g;refine ⟨_,?_,.v _⟩;rw [Nat.mul_one,zai,zam,hc]
    rfl
 obtain ⟨A,cap,hb,e2,e3,e4,e5⟩:=ke hx hr;simp only at e4;obtain ⟨m,U⟩:∃m,m=Nat.min ys.length n:=⟨_,rfl⟩
 have F:m<=ys.length:=by rw [U]; exact Nat.min_le_left _ _
 have hw:m<=n:=by rw [U]; exact Nat.min_le_right _ _
 have hk:ys.take n=ys.take m:=by
  rw [U];rcases Nat.le_total ys.length n with h | h
  ·rw [zar h,zar (by rw [show Nat.min ys.length n=ys.length from zae h]; exact zad _)]
  rw [show Nat.min ys.length n=n from Nat.min_eq_right h]
 rw [<- U,hk];have hf:=h2 m F
 have E:∀r,(Builtin.copy_ #[t,u] o.type #[.slice A n cap,.string G]).run P w=r->(execOp a.eval o).run P w=r.andThen λ q w'=>.ok (.value q) w':=by
  rintro r rfl;simp [execOp,ho,resolve,hc,L,h5,invoke,builtin,hb,hl]
 by_cases h0:m=0
 ·subst h0;have h3:=hf w rfl;simp only [Nat.zero_mul,List.take_zero] at h3
  have O:(Builtin.copy_ #[t,u] o.type #[.slice A n cap,.string G]).run P w=.ok (goInt 0) w:=by
   cases A<;>simp [Builtin.copy_,run_underlying ht,Builtin.lenOf,h8,sizeOf,typeInfo,hi,<- U,h3,storeCells]
  have f:=E _ O;simp only [Result.andThen_ok] at f;refine ⟨_,w,ρ,f,?_,.inl ⟨_,rfl,.r (.v _)⟩⟩;have e:b7 xs d (ys.take 0)=xs:=by simp [b7]
  rw [e]
  rw [show upd id (ver,Ob.row inf.size z' H true xs) s.ob=s.ob from by
   funext i;unfold upd;split
   ·rename_i h; rw [h,C]
   rfl]
  exact hG
 have hp:0<cap:=by omega
 obtain ⟨b,g0,ee,hv,f1,f2,f3,f4⟩:=e5 hp;rcases hG.obj id ver _ C with ⟨q1,q2,_⟩ | ⟨b',cs,e',fr,V,hh,Y,h7,J,K⟩
 ·rw [f1] at q2; cases q2
 rw [f1] at V;cases V
 have R:(news.take (m*inf.size)).length=m*inf.size:=by
  rw [zaj,hn];exact zae (zac _ F)
 have M:(d+m)*inf.size<=cs.size:=zap (zac _ (by omega)) J
 have D:d*inf.size+(news.take (m*inf.size)).length<=cs.toList.length:=by
  rw [R,<- zaa];simpa using M
 have h6:∀u∈news.take (m*inf.size),u.oneCell'=true:=λ u hu=>h1 u (List.mem_of_mem_take hu);have h4:=ub (P:=P) b (d*inf.size) e' fr (news.take (m*inf.size)) 0 cs w hh Y (by simpa using D) h6;have hd:=hf w rfl
 have O:(Builtin.copy_ #[t,u] o.type #[.slice A n cap,.string G]).run P w=.ok (goInt m) (w.setRow b (b7 cs.toList (d*inf.size) (news.take (m*inf.size))).toArray):=by
  simp only [zai] at h4;simp [Builtin.copy_,run_underlying ht,Builtin.lenOf,h8,sizeOf,typeInfo,hi,<- U,hd,f2,h4,b7]
 have f:=E _ O;simp only [Result.andThen_ok] at f;have S:=go (w:=w) (cs:=(b7 cs.toList (d*inf.size) (news.take (m*inf.size))).toArray) hh;have y:(b7 cs.toList (d*inf.size) (news.take (m*inf.size))).length=cs.size:=by rw [j7 D]; simp
 have h9:d+(ys.take m).length<=xs.length:=by rw [zaj,zae F]; omega
 have k:(b7 xs d (ys.take m)).length=xs.length:=j7 h9;have z:=Stays.modify (x':=.row inf.size z' H true (b7 xs d (ys.take m))) hG C rfl f1 hh S (by simpa using y) ver (.inl ⟨rfl,rfl,by rw [k]; exact zad _⟩);refine ⟨_,_,ρ,f,hG.modify C rfl f1 hh S (by simpa using y) ver (.inl ⟨rfl,rfl,by rw [k]; exact zad _⟩) (.inr ⟨rfl,⟨rfl,by rw [k]; exact zad _⟩,λ h=>h⟩) ?_,.inl ⟨_,rfl,.r (.v _)⟩⟩;refine .inr ⟨b,_,e',fr,f1,S.new,by simpa [y] using Y,h7,by simpa [y,k] using J,λ i q g=>?_⟩;have Z:=λ p=>u4 (l:=cs.toList) (m:=news.take (m*inf.size)) (i:=d*inf.size) D p;rw [u4 h9,zaj,zae F] at g;split at g
 ·rename_i ha;have g:=acp g;refine ⟨(Q _ q g).1,λ j r hj=>?_⟩;obtain ⟨c,g1,g2⟩:=(Q _ q g).2 j r hj;have he:j<inf.size:=by have:=(zab.1 hj).1; have:=(Q _ q g).1; omega
  have hz:(i-d)*inf.size+j<m*inf.size:=by
   have:(i-d+1)*inf.size<=m*inf.size:=zac _ (by omega);rw [zaa,zaf] at this;omega
  have hs:i*inf.size=d*inf.size+(i-d)*inf.size:=by rw [<- zaa,show d+(i-d)=i by omega]
  refine ⟨c,?_,h1 c (zal g1),g2.mono z.free⟩;rw [zag,Z,R,if_pos (by omega),zan,if_pos (by omega),show i*inf.size+j-d*inf.size=(i-d)*inf.size+j by omega,g1]
 rename_i ha;refine ⟨(K i q g).1,λ j r hj=>?_⟩;obtain ⟨c,g1,g2,g3⟩:=(K i q g).2 j r hj;have he:j<inf.size:=by have:=(zab.1 hj).1; have:=(K i q g).1; omega
 refine ⟨c,?_,g2,g3.mono z.free⟩;rw [zag,Z,R,if_neg]
 ·simpa using g1
 rintro ⟨p1,p2⟩;apply ha;constructor
 ·rcases zas i d with h | h
  ·have:(i+1)*inf.size<=d*inf.size:=zac _ h;rw [zaa,zaf] at this;omega
  exact h
 rcases zas i (d+m) with h | h
 ·exact h
 have:(d+m)*inf.size<=i*inf.size:=zac _ h;rw [zaa] at this;omega
theorem adv {t u ty e:TypeId} {inf:TypeInfo} {z:Value} {d:TypeId} (y:P.underlying t=some (.slice e)) (C:P.underlying u=some (.slice d)) (r:P.info? e=some inf) (L:inf.zero=some z) (D:z.cells.size=inf.size)
 {A A2:Option Addr} {len cap m c2 g:Nat} {cur:Array Value} {e':TypeId} {olds news:List Value} (Q:len<=cap) {fr:Nat×Nat} (I:0<cap->A=some ⟨g,0,none⟩/\w.heap[g]?=some (.cells cur e' fr)/\cap*inf.size<=cur.size) (B:0<cap->∀k,k<cur.size->¬(fr.1<=k/\k<fr.2))
 (n:∀W:World,W.heap=w.heap->(Builtin.firstCells inf.size len (.slice A len cap)).run P W=.ok olds.toArray W) (J:olds.length=len*inf.size)
 (b:∀W:World,W.heap=w.heap->(Builtin.firstCells inf.size m (.slice A2 m c2)).run P W=.ok news.toArray W) (s:news.length=m*inf.size) (M:∀u∈news,u.oneCell'=true)
 (c:len+m<=maxLen) (N:(len+m)*inf.bytes<=140737488355328) :
 (len+m<=cap/\(Builtin.append_ #[t,u] ty #[.slice A len cap,.slice A2 m c2]).run P w=.ok (.slice A (len+m) cap) (if 0<cap then w.setRow g (b7 cur.toList (len*inf.size) news).toArray else w)) \/
 (cap<len+m/\∃K w' h,(Builtin.append_ #[t,u] ty #[.slice A len cap,.slice A2 m c2]).run P w=.ok (.slice (some ⟨w.heap.size,0,none⟩) (len+m) K) w'/\len+m<=K/\K<=maxLen /\
  OneMore w w' (.cells (olds++news++h).toArray e)/\(olds++news++h).length=K*inf.size):=by
 have p:len+m<=9223372036854775807:=by simp only [maxLen] at c; omega
 by_cases a:len+m<=cap
 ·refine .inl ⟨a,?_⟩;by_cases hc:0<cap
  ·obtain ⟨rfl,R,E⟩:=I hc
   have f:len*inf.size+news.length<=cur.size:=by
    rw [s,<- zaa]; exact zap (zac _ a) E
   have l:=ub (P:=P) g (len*inf.size) e' fr news 0 cur w R (B hc) (by simpa using f) M;simp only [zai] at l;simp [Builtin.append_,run_underlying y,run_underlying C,sizeOf,typeInfo,r,Builtin.lenOf,a,b w rfl,aw,l,hc,b7]
  have F:cap=0:=by omega
  subst F;have G:len=0:=by omega
  have O:m=0:=by omega
  subst G; subst O;have j:news=[]:=zaz (by simpa using s);subst j;cases A<;>simp [Builtin.append_,run_underlying y,run_underlying C,sizeOf,typeInfo,r,Builtin.lenOf,b w rfl,storeCells]
 refine .inr ⟨by omega,?_⟩;have f:Builtin.nextslicecap (len+m) cap*inf.bytes<=281474976710656:=growslice_fits (by omega) N;have v:=grownCap_ge w (len+m) cap e;have q:grownCap w (len+m) cap e<=maxLen:=grownCap_le_maxLen w (len+m) cap e c;refine ⟨grownCap w (len+m) cap e,w.drew.alloc (.cells (olds++news++(Builtin.zeroCells z.cells (grownCap w (len+m) cap e-(len+m))).toList).toArray e),(Builtin.zeroCells z.cells (grownCap w (len+m) cap e-(len+m))).toList,?_,v,q,jv _,?_⟩
 ·have o:¬(9223372036854775807<((len:Int)+(m:Int))):=by omega
  have i:¬(281474976710656<Builtin.nextslicecap (len+m) cap*inf.bytes):=by omega
  have H:=b w.drew rfl;have x:=n w.drew rfl;simp [Builtin.append_,run_underlying y,run_underlying C,sizeOf,typeInfo,zeroValue,r,L,Builtin.lenOf,a,o,i,Question.forced,H,x,newRow,grownCap];congr 2;apply Array.ext';simp
 simp only [zat,J,s,zah,size_zeroCells,D,<- zaa];congr 1;omega
theorem ak4 {d sz k:Nat} {U:RV} {M:Nat} {zz:RV} {y:AV} {ys:List RV} {rd:List Nat} {t u e f:TypeId} {inf:TypeInfo} {z:Value} {c:Call} {x v:Operand} {ok:Prop} (I:d<X.n) (D:Gam X s ρ a w) (ho:o.op=.call c) (hc:c.callee=.builtin .append)
 (C:c.args=#[x,v]) (F:c.argTypes=#[t,u]) (ht:P.underlying t=some (.slice e)) (hu:P.underlying u=some (.slice f)) (Y:P.info? e=some inf) (hz:inf.zero=some z) (O:z.cells.size=inf.size) (R:inf.size=sz) (N:inf.bytes=k)
 (hx:RA X s ρ w (.nils M zz) (a.eval x)) (hy:RA X s ρ w y (a.eval v)) (hs:src s.ob y=some (sz,ys,rd)) (hb:ys.length*k<=140737488355328) (hm:ys.length<=maxLen) :
 dk P X a w s o (m0 s.ob d (.row sz U true true ys) (λ v=>.own d v 0 ys.length) ok rd []):=by
 subst R; subst N;obtain ⟨A2,c2,news,E,p,Q,H,G⟩:=acs (P:=P) D hs hy;have L:a.eval x=.slice none 0 0:=by generalize a.eval x=c at hx; cases hx; rfl
 rw [E] at p
 have l:∀r,(Builtin.append_ #[t,u] o.type #[.slice none 0 0,.slice A2 ys.length c2]).run P w=r->(execOp a.eval o).run P w=r.andThen λ q w'=>.ok (.value q) w':=by
  rintro r rfl;simp [execOp,ho,resolve,hc,C,F,invoke,builtin,L,E]
 rcases adv (P:=P) (w:=w) (ty:=o.type) (A:=none) (A2:=A2) (len:=0) (cap:=0) (m:=ys.length) (c2:=c2) (g:=0) (cur:=#[]) (e':=0) (fr:=(0,0)) (olds:=[]) (news:=news) ht hu Y hz O (zad _) (by simp) (by simp)
  (λ W _=>by simp [Builtin.firstCells]) (by simp) p Q H (by omega) (by rw [zak]; exact hb) with ⟨hroom,hr⟩ | ⟨hgrow,K,w',rest,hr,hK1,hK2,hom,hlen⟩
 ·have Z:ys=[]:=zaz (by omega);subst Z;have b:=l _ hr;simp only [List.length_nil,zai,Nat.lt_irrefl,if_false,Result.andThen_ok] at b;exact ⟨_,w,m5 ρ d none,b,D.nil d _ (D.pnn d (af3 (by have:=D.small; omega))) (λ v o h=>rn h) _ _ _,.inl ⟨_,rfl,.own _ _ _ _ _ rfl (gc ⟨none,0,rfl,zad _,by simp,by simp,by simp⟩)⟩⟩
 have b:=l _ hr;simp only [Result.andThen_ok,zak] at b hK1 hK2;have J:=Stays.alloc D hom d (nv s.ob d) (λ v o h=>rn h) (.row inf.size U true true ys);refine mf I D hom b (.inr ⟨w.heap.size,_,e,(0,0),by simp [m5],hom.new,by simp,λ _=>rfl,?_,λ i q T=>⟨(G i q T).1,λ j r V=>?_⟩⟩) (.own _ _ _ _ _ rfl (gc ⟨_,K,rfl,hK1,hK2,by simp,λ _=>?_⟩))
 ·simp only [zau,hlen];exact zac _ hK1
 ·obtain ⟨u,B,S⟩:=(G i q T).2 j r V;refine ⟨u,?_,H u (zal B),S.mono J.free⟩;have:=(zab.1 B).1;simp only [zag,List.nil_append];rw [zbg this,B]
 exact ⟨w.heap.size,_,e,(0,0),by simp [m5],by simp,hom.new,by simp only [zau,hlen,zak]; exact zad _⟩
theorem ak3 {sz M id ver len:Nat} {z':RV} {D:Bool} {xs:List RV} {y:AV} {ys:List RV} {rd rd':List Nat} {t u e f:TypeId} {inf:TypeInfo} {z:Value} {c:Call} {x v:Operand} {ok:Prop} (E:Gam X s ρ a w) (ho:o.op=.call c) (hc:c.callee=.builtin .append)
 (Z:c.args=#[x,v]) (hl:c.argTypes=#[t,u]) (ht:P.underlying t=some (.slice e)) (hu:P.underlying u=some (.slice f)) (hi:P.info? e=some inf) (hz:inf.zero=some z) (e1:z.cells.size=inf.size) (gw:inf.size=sz) (gd:inf.bytes=M)
 (hx:RA X s ρ w (.own id ver 0 len) (a.eval x)) (hr:g9 s.ob id ver=some (sz,z',D,true,xs)) (F:(D || !par id)=true) (hy:RA X s ρ w y (a.eval v)) (hs:src s.ob y=some (sz,ys,rd)) (hb:(len+ys.length)*M<=140737488355328) (hm:len+ys.length<=maxLen) :
 dk P X a w s o ⟨ok,.own id (ver+1) 0 (len+ys.length),upd id (ver+1,.row sz z' D true (xs.take len++ys)) s.ob,rd',[id]⟩:=by
 subst gw; subst gd;have d:=n8 hr;simp only at d;obtain ⟨A2,c2,news,hn,T,hv,h6,R⟩:=acs (P:=P) E hs hy;obtain ⟨A1,e6,olds,hd,O,h9,e0,ha⟩:=acs (P:=P) (y:=.own id ver 0 len) (ys:=(xs.drop 0).take len) (rd:=[id]) (sz:=inf.size) E (by simp [src,hr]) hx;obtain ⟨A,cap,hh,e2,e3,e4,e5⟩:=ke hx hr;simp only [zak] at e4;have hw:((xs.drop 0).take len).length=len:=by simp; omega
 rw [hw] at hd O h9;rw [hh] at hd O;simp only [List.drop_zero] at ha
 injection hd with q1 _ q3
 subst q1; subst q3;rw [hn] at T
 have N:∀r,(Builtin.append_ #[t,u] o.type #[.slice A len cap,.slice A2 ys.length c2]).run P w=r->(execOp a.eval o).run P w=r.andThen λ q w'=>.ok (.value q) w':=by
  rintro r rfl;simp [execOp,ho,resolve,hc,Z,hl,invoke,builtin,hh,hn]
 have g0:0<cap->∃b cs e fr,ρ id=some b/\A=some ⟨b,0,none⟩/\w.heap[b]?=some (.cells cs e fr)/\(∀k,k<cs.size->¬(fr.1<=k/\k<fr.2))/\(D=true->fr=(0,0))/\cap*inf.size<=cs.size/\∀(i:Nat) (x:RV),xs[i]?=some x->x.cells.length=inf.size/\∀(j:Nat) (y:RV),x.cells[j]?=some y->∃c,cs[i*inf.size+j]?=some c/\c.oneCell'=true/\RelV w (d6 X.B s.ob ρ w) y c:=λ W=>by
  obtain ⟨b,cs,ee,fr,f1,f2,f3,f4⟩:=e5 W;rcases E.obj id ver _ d with ⟨h1,h2,_⟩ | ⟨b',hk,e',hp,C,H,g3,g4,g5,g6⟩
  ·rw [f1] at h2; cases h2
  rw [f1] at C; cases C;rw [f3] at H; cases H;exact ⟨b,cs,ee,fr,f1,by simpa using f2,f3,g3,g4,by simpa using f4,g6⟩
 obtain ⟨g,cur,e',fr,hA⟩:∃g cur e' fr,(0<cap->A=some ⟨g,0,none⟩/\w.heap[g]?=some (.cells cur e' fr)/\cap*inf.size<=cur.size/\(∀k,k<cur.size->¬(fr.1<=k/\k<fr.2))/\(D=true->fr=(0,0))/\ρ id=some g/\∀(i:Nat) (x:RV),xs[i]?=some x->x.cells.length=inf.size/\∀(j:Nat) (y:RV),x.cells[j]?=some y->∃c,cur[i*inf.size+j]?=some c/\c.oneCell'=true/\RelV w (d6 X.B s.ob ρ w) y c):=by
  by_cases W:0<cap
  ·obtain ⟨b,cs,e,fr,h1,h2,h3,hf,h8,h4,h5⟩:=g0 W;exact ⟨b,cs,e,fr,λ _=>⟨h2,h3,h4,hf,h8,h1,h5⟩⟩
  exact ⟨0,#[],0,(0,0),λ h=>absurd h W⟩
 rcases adv (P:=P) (w:=w) (ty:=o.type) (A:=A) (A2:=A2) (len:=len) (cap:=cap) (m:=ys.length) (c2:=c2) (g:=g) (cur:=cur) (e':=e') (olds:=olds) (news:=news) (fr:=fr) ht hu hi hz e1 e2 (λ h=>⟨(hA h).1,(hA h).2.1,(hA h).2.2.1⟩) (λ h=>(hA h).2.2.2.1)
  O h9 T hv h6 hm hb with ⟨hroom,hrn⟩ | ⟨hgrow,K,w',rest,hrn,hK1,hK2,hom,hlenK⟩
 ·have n:=N _ hrn;by_cases W:0<cap
  ·obtain ⟨gg,hg,h7,hf,h8,Q,Y⟩:=hA W;simp only [W,if_true,Result.andThen_ok] at n
   have V:len*inf.size+news.length<=cur.toList.length:=by
    rw [hv,<- zaa]; simp only [zah]; exact zap (zac _ hroom) h7
   have S:=go (w:=w) (cs:=(b7 cur.toList (len*inf.size) news).toArray) hg;have I:(b7 cur.toList (len*inf.size) news).length=cur.size:=by rw [j7 V]; simp
   have L:=Stays.modify (x':=.row inf.size z' D true (xs.take len++ys)) E d rfl Q hg S (by simpa using I) (ver+1) (.inr (zav _));refine ⟨_,_,ρ,n,E.modify d rfl Q hg S (by simpa using I) (ver+1) (.inr (zav _)) (.inl (E.unpinned d F)) ?_,.inl ⟨_,rfl,.own _ _ _ _ _ rfl (gc ?_)⟩⟩
   ·refine .inr ⟨g,_,e',fr,Q,S.new,by simpa [I] using hf,h8,?_,λ i q G=>?_⟩
    ·simp only [zau,I,zat,zaj,zae e4];exact zap (zac _ hroom) h7
    have he:=λ p=>u4 (l:=cur.toList) (m:=news) (i:=len*inf.size) V p;rw [zbd,zaj,zae e4] at G;split at G
    ·rename_i J;rw [zan,if_pos J] at G;refine ⟨(Y i q G).1,λ j r U=>?_⟩;obtain ⟨c,C,H,g3⟩:=(Y i q G).2 j r U;refine ⟨c,?_,H,g3.mono L.free⟩;have e7:j<inf.size:=by have:=(zab.1 U).1; have:=(Y i q G).1; omega
     rw [zag,he,if_neg]
     ·simpa using C
     have:(i+1)*inf.size<=len*inf.size:=zac _ J;rw [zaa,zaf] at this;omega
    rename_i J;refine ⟨(R _ q G).1,λ j r U=>?_⟩;obtain ⟨c,C,H⟩:=(R _ q G).2 j r U;refine ⟨c,?_,h6 c (zal C),H.mono L.free⟩;have ge:=(zab.1 C).1
    have gb:len*inf.size+((i-len)*inf.size+j)=i*inf.size+j:=by
     rw [<- Nat.add_assoc,<- zaa,show len+(i-len)=i by omega]
    rw [zag,he,if_pos (by omega),show i*inf.size+j-len*inf.size=(i-len)*inf.size+j by omega,C]
   refine ⟨A,cap,rfl,hroom,e3,by simp [zae e4],λ _=>⟨g,_,e',fr,Q,by simpa using gg,S.new,?_⟩⟩;simp only [zau,I,zak];exact h7
  have gq:cap=0:=by omega
  subst gq;have gs:len=0:=by omega
  have gl:ys=[]:=zaz (by omega);subst gs; subst gl;simp only [Nat.lt_irrefl,if_false,Result.andThen_ok] at n;cases D with
  | true=>exact ⟨_,w,m5 ρ id none,n,E.nil id (ver+1) (E.unpinned d F) (λ v o h=>by rw [d] at h; cases h; exact zav _) _ _ _,.inl ⟨_,rfl,.own _ _ _ _ _ rfl (gc ⟨A,0,rfl,zad _,by simp,by simp,by simp⟩)⟩⟩
  | false=>
    rcases E.obj id ver _ d with ⟨_,_,q3⟩ | ⟨b',hk,e2,hp,C,H,g3,g4,g5,g6⟩
    ·cases q3
    refine ⟨_,w,ρ,n,E.modify (x':=.row inf.size z' false true []) d rfl C H (Mods.same H) rfl (ver+1) (.inr (zav _)) (.inl (E.unpinned d F)) (.inr ⟨b',hk,e2,hp,C,H,g3,(λ h=>by cases h),by simp,by simp⟩),.inl ⟨_,rfl,.own _ _ _ _ _ rfl (gc ⟨A,0,rfl,zad _,by simp,by simp,by simp⟩)⟩⟩
 have n:=N _ hrn;simp only [Result.andThen_ok] at n;have L:=Stays.alloc E hom id (ver+1) (λ v o h=>by rw [d] at h; cases h; exact zav _) (.row inf.size z' D true (xs.take len++ys));refine ⟨_,w',m5 ρ id (some w.heap.size),n,E.alloc hom id (ver+1) (E.unpinned d F) (λ v o h=>by rw [d] at h; cases h; exact zav _) _ (.inr ⟨w.heap.size,_,e,(0,0),by simp [m5],hom.new,by simp,λ _=>rfl,?_,λ i q G=>?_⟩),.inl ⟨_,rfl,.own _ _ _ _ _ rfl (gc ⟨_,K,rfl,hK1,hK2,by simp [zae e4],λ _=>⟨w.heap.size,_,e,(0,0),by simp [m5],by simp,hom.new,?_⟩⟩)⟩⟩
 ·simp only [zau,hlenK,zat,zaj,zae e4];exact zac _ hK1
 ·rw [zbd,zaj,zae e4] at G;split at G
  ·rename_i J;have ga:((xs.take len))[i]?=some q:=G;refine ⟨(ha i q ga).1,λ j r U=>?_⟩;obtain ⟨c,C,H⟩:=(ha i q ga).2 j r U;refine ⟨c,?_,e0 c (zal C),H.mono L.free⟩;have:=(zab.1 C).1;rw [zag,zbc,zbg this,C]
  rename_i J;refine ⟨(R _ q G).1,λ j r U=>?_⟩;obtain ⟨c,C,H⟩:=(R _ q G).2 j r U;refine ⟨c,?_,h6 c (zal C),H.mono L.free⟩;have ge:=(zab.1 C).1
  have gb:len*inf.size+((i-len)*inf.size+j)=i*inf.size+j:=by
   rw [<- Nat.add_assoc,<- zaa,show len+(i-len)=i by omega]
  rw [zag,zbc,List.getElem?_append_right (by omega),h9,zbg (by omega),show i*inf.size+j-len*inf.size=(i-len)*inf.size+j by omega,C]
 simp only [zau,hlenK,zak];exact zad _
theorem afe:∀(l:List Value) (j off:Nat) (a:Array Value),off+j+l.length<=a.size ->
 ((l.zipIdx j).foldl (λ cs (p:Value×Nat)=>cs.setIfInBounds (off+p.2) p.1) a).toList=b7 a.toList (off+j) l
 | [],j,off,a,h=>by simp [b7]
 | v::l,j,off,a,h=>by
   simp only [zba] at h;rw [List.zipIdx_cons,List.foldl_cons,afe l (j+1) off _ (by simp; omega)];have e:=list_seg_step a.toList (off+j) v l (by simp; omega);simpa [b7,Array.toList_setIfInBounds,Nat.add_assoc] using e
theorem aj6 {sz:Nat}:∀(vs:List Value) (k:Nat) (a:Array Value),(∀v∈vs,v.cells.size=sz)->a.size=(k+vs.length)*sz ->
 ∃r,Instr.fill (λ i=>some (i*sz,sz)) a ((List.range' k vs.length).zip vs)=some r/\r.toList=a.toList.take (k*sz)++vs.flatMap (λ v=>v.cells.toList)
 | [],k,a,h,hs=>by
   refine ⟨a,by simp [Instr.fill],?_⟩;simp only [List.flatMap_nil,List.append_nil];rw [zar];simp [hs]
 | v::vs,k,a,h,hs=>by
   have d:=h v (by simp)
   have b:k*sz+v.cells.size<=a.size:=by
    rw [hs,d];simp only [zba]
    calc k*sz+sz=(k+1)*sz:=by rw [zaa,zaf]
     _<=(k+(vs.length+1))*sz:=zac _ (by omega)
   have f:=afe v.cells.toList 0 (k*sz) a (by simpa using b);simp only [zai] at f
   have c:(v.cells.zipIdx.foldl (λ cs (p:Value×Nat)=>cs.setIfInBounds (k*sz+p.2) p.1) a).toList=b7 a.toList (k*sz) v.cells.toList:=by
    rw [<- f,<- Array.foldl_toList,Array.toList_zipIdx]
   have e:(b7 a.toList (k*sz) v.cells.toList).length=a.size:=by rw [j7 (by simpa using b)]; simp
   obtain ⟨r,m,l⟩:=aj6 vs (k+1) (v.cells.zipIdx.foldl (λ cs (p:Value×Nat)=>cs.setIfInBounds (k*sz+p.2) p.1) a) (λ u j=>h u (by simp [j])) (by
    rw [<- zah,c,e,hs];simp only [zba];congr 1
    omega)
   refine ⟨r,?_,?_⟩
   ·simp only [zba,List.range'_succ,List.zip_cons_cons,Instr.fill];rw [if_neg (by simp [d]; omega)];exact m
   rw [l,c];simp only [zbh,<- zbc];congr 1
   have g:(a.toList.take (k*sz)++v.cells.toList).length=(k+1)*sz:=by
    rw [zat,zaj,zae (by simp; omega),zah,d,zaa,zaf]
   exact List.take_left' g
theorem amc {sz:Nat} (f:Value->List Value):∀(vs:List Value) (i j:Nat) (v:Value),(∀v∈vs,(f v).length=sz)->vs[i]?=some v->j<sz->(vs.flatMap f)[i*sz+j]?=(f v)[j]?
 | [],i,j,v,h,hi,hj=>by simp at hi
 | u::vs,0,j,v,h,hi,hj=>by
   simp at hi; subst hi;have:=h u (by simp);rw [Nat.zero_mul,zak,zbh,zbg (by omega)]
 | u::vs,i+1,j,v,h,hi,hj=>by
   simp at hi;have a:=h u (by simp);rw [zbh,List.getElem?_append_right (by rw [a,zaa]; omega),a,show (i+1)*sz+j-sz=i*sz+j by rw [zaa]; omega];exact amc f vs i j v (λ v b=>h v (by simp [b])) hi hj
theorem aj3 {sz:Nat} (f:Value->List Value):∀(vs:List Value),(∀v∈vs,(f v).length=sz)->(vs.flatMap f).length=vs.length*sz
 | [],_=>by simp
 | u::vs,h=>by
   rw [zbh,zat,h u (by simp),aj3 f vs (λ v a=>h v (by simp [a])),zba,zaa];omega
theorem aka (u:Gam X s ρ a w) {e:Env} {ob:Obs} {l:List Nat} (C:e=s.e) (d:s.ob=Ev.freeze ob l):∀{t:List (Nat×Operand)} {z:List Opd} {p:Prop} {ys:List RV} {v:List Nat},q9 (λ p q=>opd p.2 q) t z=true->x9 e ob true z=some (p,ys,v)->p ->
 (∀i∈v,i∈l)->ys.length=t.length/\∀(i:Nat) (y:RV) (q:Nat×Operand),ys[i]?=some y->t[i]?=some q->RelV w (d6 X.B s.ob ρ w) y (a.eval q.2)
 | [],[],p,ys,v,_,h,_,_=>by simp [x9] at h; simp [h.2.1.symm]
 | q::t,o::z,p,ys,v,hall,h,hp,hs=>by
   simp [q9] at hall;simp only [x9] at h;split at h
   ·rename_i y k M L j b I;cases h;obtain ⟨J,K⟩:=aka u C d hall.2 I hp.2 (λ i g=>hs i (by simp [g]));refine ⟨by simp [J],λ i F G hy r=>?_⟩;cases i with
    | succ i=>
      simp at hy r;exact K i F G hy r
    | zero=>
      simp at hy r;subst hy; subst r; subst C;have hx:=d5 u rfl hall.1 hp.1;generalize (o.ev s.e).bare=x at hx b;unfold AV.elt at b;split at b
      ·rename_i xs;split at b
       ·rename_i H D f;cases b;generalize a.eval q.2=c at hx;cases hx;rename_i cs E m;refine .agg _ _ (by rw [jz f]; exact E) λ i y c hy hc=>?_;have A:i<xs.length:=by have:=(zab.1 hy).1; have:=jz f; omega
        have n:xs[i]?=some xs[i]:=by simp [A]
        exact aah u d f (λ i g=>hs i (by simp [g])) i _ y c n hy (m i _ c n hc)
       cases b
      exact afv u b (λ i g=>hs i (by simp [g])) d hx
   cases h
 | [],_::_,_,_,_,h,_,_,_=>by cases h
 | _::_,[],_,_,_,h,_,_,_=>by cases h
theorem agp {R:Nat->Prop} {y:RV} {c:Value} {sz:Nat} (h:RelV w R y c) (i:y.good sz=true):c.cells.size=sz/\∀(j:Nat) (q:RV),y.cells[j]?=some q->∃u,c.cells[j]?=some u/\u.oneCell'=true/\RelV w R q u:=by
 simp only [RV.good,zbi,beq_iff_eq] at i;obtain ⟨d,e⟩:=i;cases h with
 | v x=>
   simp only [RV.cells,List.all_cons,List.all_nil,Bool.and_true,List.length_singleton] at d e;rw [aih e];refine ⟨by simpa using d,λ j q a=>?_⟩;cases j with
   | zero=>simp [RV.cells] at a; subst a; exact ⟨_,rfl,e,.v _⟩
   | succ j=>simp [RV.cells] at a
 | agg xs cs hl h=>
   simp only [RV.cells] at d e;refine ⟨by simp [Value.cells,hl,d],λ j q a=>?_⟩;have f:=(zab.1 a).1;simp only [RV.cells] at f a;have hc:cs[j]?=some cs[j]:=by simp [show j<cs.size by omega]
   have:=h j q _ a hc;refine ⟨_,hc,ai2 this ?_,this⟩;have:=(zab.1 a).2;rw [<- this];exact zao.1 e _ (zay _)
 | sl k xs A cap hc hm b o g hA hz hg' hr=>
   simp only [RV.cells,List.length_singleton] at d;refine ⟨by simpa [Value.cells] using d,λ j q a=>?_⟩;cases j with
   | zero=>simp [RV.cells] at a; subst a; exact ⟨_,rfl,rfl,.sl k xs A cap hc hm b o g hA hz hg' hr⟩
   | succ j=>simp [RV.cells] at a
theorem awg {d sz m:Nat} {z:RV} {t e:TypeId} {inf:TypeInfo} {Q:Value} {g:Array (Nat×Operand)} {N:List Opd} {p:Prop} {ys:List RV} {A:List Nat} {ok:Prop} (R:d<X.n) (hG:Gam X s ρ a w) (ho:o.op=.buildSlice t m g) (ht:P.underlying t=some (.slice e)) (F:P.info? e=some inf)
 (hz:inf.zero=some Q) (Y:inf.size=sz) (hm:m=N.length) (C:q9 (λ p q=>opd p.2 q) g.toList N=true) (W:g.toList.map (·.1)=List.range m) (h2:m*sz<=16777216) (h1:m<=16777216)
 (S:x9 s.e s.ob true N=some (p,ys,A)) (hp:p) (b:ys.all (·.good sz)=true) (hd:d∉A) :
 dk P X a w s o (m0 (Ev.freeze s.ob A) d (.row sz z true true ys) (λ v=>.own d v 0 ys.length) ok A A):=by
 have D:=Gam.freeze (s:=s) A (ob:=s.ob) hG;obtain ⟨h3,B⟩:=aka (s:=⟨s.e,Ev.freeze s.ob A⟩) (ob:=s.ob) (l:=A) D rfl rfl C S hp (λ _ h=>h);subst Y;have E:g.toList.length=m:=by rw [gr C,hm]
 have c:∀v∈g.toList.map (λ q=>a.eval q.2),v.cells.size=inf.size:=λ v G=>by
  obtain ⟨i,F⟩:=zbe.1 G;rw [zam,zax] at F;obtain ⟨q,J,rfl⟩:=F;have V:=(zab.1 J).1;have hy:ys[i]?=some (ys[i]'(by omega)):=by simp [show i<ys.length by omega]
  exact (agp (B i _ q hy J) (zao.1 b _ (zay _))).1
 have f:(g.map λ (i,x)=>(i,a.eval x)).toList=(List.range' 0 m).zip (g.toList.map λ q=>a.eval q.2):=by
  rw [<- List.range_eq_range',<- W];simp only [Array.toList_map];generalize g.toList=l
  induction l with
  | nil=>rfl
  | cons q l ih=>simp [ih]
 obtain ⟨r,k,K⟩:=aj6 (sz:=inf.size) (g.toList.map λ q=>a.eval q.2) 0 ((Array.range (m*inf.size)).map (λ i=>(if m*inf.size=0 then (#[]:Array Value) else Q.cells)[i%(if m*inf.size=0 then (#[]:Array Value) else Q.cells).size]!)) c (by simp [E])
 have H:(execOp a.eval o).run P w=.ok (.value (.slice (some ⟨w.heap.size,0,none⟩) m m)) (w.alloc (.cells r e)):=by
  rw [List.length_map,E] at k;simp only [execOp,ho,Instr.buildSlice,Sem.run_bind,run_underlying ht,Result.andThen_ok,sizeOf,typeInfo,run_program,F,Sem.run_pure,if_neg (show ¬(m*inf.size>2^24) by omega)];by_cases h0:m*inf.size=0
  ·simp only [h0,if_true,Sem.run_pure,Result.andThen_ok,f] at k |-;simp only [k,newRow,Sem.run_bind,run_newObj,Result.andThen_ok,Sem.run_pure]
   rfl
  simp only [h0,if_false,zeroValue,typeInfo,Sem.run_bind,run_program,F,hz,Result.andThen_ok,Sem.run_pure,f] at k |-;simp only [k,newRow,Sem.run_bind,run_newObj,Result.andThen_ok,Sem.run_pure]
  rfl
 have M:ys.length=m:=by omega
 have L:r.size=m*inf.size:=by
  rw [<- zah,K,zat,aj3 (sz:=inf.size) _ _ (λ v G=>by simpa using c v G)];simp [E]
 have U:=Stays.alloc D (u6 (.cells r e)) d (nv (Ev.freeze s.ob A) d) (λ v o h=>rn h) (.row inf.size z true true ys)
 refine mf (s:=s) R D (u6 _) H (.inr ⟨w.heap.size,r,e,(0,0),by simp [m5],(u6 _).new,by simp,λ _=>rfl,by rw [M,L]; exact zad _,λ i y hy=>⟨?_,λ j q hj=>?_⟩⟩)
  (.own _ _ _ _ _ rfl (gc ⟨_,m,by rw [M],by omega,?_,by simp,λ _=>⟨w.heap.size,r,e,(0,0),by simp [m5],by simp,(u6 _).new,by rw [zak,L]; exact zad _⟩⟩))
 ·have:=zao.1 b y (zal hy);simp only [RV.good,zbi,beq_iff_eq] at this;exact this.1
 ·have V:=(zab.1 hy).1;have J:g.toList[i]?=some (g.toList[i]'(by omega)):=by simp [show i<g.size by rw [<- zah]; omega]
  have T:=zao.1 b y (zal hy);obtain ⟨g1,g2⟩:=agp (B i y _ hy J) T;obtain ⟨u,I,Z,O⟩:=g2 j q hj;have h4:=(Array.getElem?_eq_some_iff.1 I).1;refine ⟨u,?_,Z,O.mono U.free⟩;rw [<- zbb,K];simp only [Nat.zero_mul,List.take_zero,List.nil_append];rw [amc (sz:=inf.size) _ _ i j (a.eval (g.toList[i]'(by omega)).2) (λ v G=>by simpa using c v G) (by rw [zam,J]; rfl) (by omega)];simpa using I
 simp only [maxLen]; omega
theorem av9 {sz id ver J n:Nat} {E:RV} {xs:List RV} {t e:TypeId} {x:Operand} {ok:Prop} {rd':List Nat} (D:Gam X s ρ a w) (Q:o.op=.convert t t x) (O:P.underlying t=some (.slice e)) (Z:P.underlying e=some (.int .u8))
 (hx:RA X s ρ w (.own id ver J n) (a.eval x)) (K:g9 s.ob id ver=some (sz,E,true,true,xs)) (hn:0<n) :
 dk P X a w s o ⟨ok,.own id ver J n,upd id (ver,.row sz E false true xs) s.ob,rd',[id]⟩:=by
 have d:=n8 K;simp only at d;obtain ⟨A,cap,G,e2,e3,T,M⟩:=ke hx K;simp only at T;obtain ⟨b,h0,ee,W,z,S,f3,f4⟩:=M (by omega);rcases D.obj id ver _ d with ⟨q1,H,_⟩ | ⟨b',cs,e',fr,r,B,R,p,C,u⟩
 ·rw [z] at H; cases H
 rw [z] at r;cases r;obtain rfl:fr=(0,0):=p rfl
 have F:w.shape? b=some (e',cs.size):=by
  unfold World.shape?;rw [B]
 have Y:b<w.heap.size:=(Array.getElem?_eq_some_iff.1 B).1;obtain ⟨w',l⟩:∃w',w.freeze ⟨b,cs.size,none⟩ 1=w':=⟨_,rfl⟩
 have f:Mods w w' b (.cells cs e' (cs.size,cs.size+1)):=by
  rw [<- l];unfold World.freeze;rw [if_neg (by decide)];refine ⟨rfl,rfl,rfl,by simp,?_,λ k I=>?_⟩
  ·simp only [Array.getElem?_modify,if_true,B,Option.map_some]
   rfl
  simp only [Array.getElem?_modify];rw [if_neg (λ e=>I e.symm)]
 have g:(convert t t (a.eval x)).run P w=.ok (a.eval x) w':=by
  rw [G,S];simp [convert,run_underlying O,run_underlying Z,markStringish,F];exact l
 have m:(execOp a.eval o).run P w=.ok (.value (a.eval x)) w':=by
  simp only [execOp,Q,Sem.run_bind,g,Result.andThen_ok,Sem.run_pure]
 have v:=Stays.modify (x':=.row sz E false true xs) D d rfl z B f rfl ver (.inl ⟨rfl,rfl,zad _⟩);refine ⟨_,w',ρ,m,D.modify d rfl z B f rfl ver (.inl ⟨rfl,rfl,zad _⟩) (.inl (D.unpinned d rfl)) ?_,.inl ⟨_,rfl,hx.stays v⟩⟩;refine .inr ⟨b,cs,e',_,z,f.new,λ k I=>(by simp; omega),λ h=>(by cases h),C,λ i y hy=>⟨(u i y hy).1,λ j q L=>?_⟩⟩;obtain ⟨c,U,V,N⟩:=(u i y hy).2 j q L;exact ⟨c,U,V,N.mono v.free⟩
theorem ak2 {d:Nat} {z:RV} {t u e:TypeId} {inf:TypeInfo} {x:Operand} {b:ByteArray} {ok:Prop} (C:d<X.n) (E:Gam X s ρ a w) (G:o.op=.convert t u x) (F:P.underlying t=some .string) (I:P.underlying u=some (.slice e)) (K:P.underlying e=some (.int .u8))
 (hx:a.eval x=.string b) (J:b.size<=maxLen):dk P X a w s o (m0 s.ob d (.row 1 z false true (b.data.toList.map λ b=>.v (.int .u8 b.toNat))) (λ v=>.own d v 0 b.size) ok [] []):=by
 have p:=grownCap_ge w b.size 0 e;have B:=grownCap_le_maxLen w b.size 0 e J;have l:b.data.size=b.size:=rfl;generalize g:bytesRow b (grownCap w b.size 0 e)=f;have r:f.size=grownCap w b.size 0 e:=by rw [<- g]; simp [bytesRow,l]; omega
 have m:(execOp a.eval o).run P w=.ok (.value (.slice (some ⟨w.heap.size,0,none⟩) b.size (grownCap w b.size 0 e))) (w.drew.alloc (.cells f e (f.size,f.size+1))):=by
  have:=run_bytes_of_string (P:=P) w t u e b F I K;rw [g] at this;simp only [execOp,G,hx,Sem.run_bind,this,Result.andThen_ok,Sem.run_pure]
 have H:=Stays.alloc E (jv (.cells f e (f.size,f.size+1))) d (nv s.ob d) (λ v o h=>rn h) (.row 1 z false true (b.data.toList.map λ b=>.v (.int .u8 b.toNat)))
 refine mf C E (jv _) m (.inr ⟨w.heap.size,f,e,_,by simp [m5],(jv _).new,λ k L=>by simp; omega,by simp,by simp [l,r,p],λ i y hy=>?_⟩)
  (.own _ _ _ _ _ rfl (gc ⟨_,_,rfl,p,B,by simp [l],λ _=>⟨w.heap.size,f,e,_,by simp [m5],by simp,(jv _).new,by simp [r]⟩⟩))
 rw [zam,zax] at hy;obtain ⟨c,hc,rfl⟩:=hy;refine ⟨rfl,λ j q A=>?_⟩;cases j with
 | succ j=>simp [RV.cells] at A
 | zero=>
   simp [RV.cells] at A;subst A;refine ⟨_,?_,rfl,.v _⟩;have D:=(zab.1 hc).1;simp only [zah] at D;rw [<- g];unfold bytesRow;rw [Array.getElem?_append_left (by simp; omega)];simp at hc |-;exact ⟨c,by simpa using hc,rfl⟩
theorem avm {a b:Value} (h:eqv a b=true):a.oneCell'=true:=by
 unfold eqv at h;split at h<;>first | rfl | cases h
theorem ahq {R:Nat->Prop} {v:Value} {q:RV} (h:eqr v q=true):v.oneCell'=true/\RelV w R q v:=by
 unfold eqr at h;split at h
 ·exact ⟨rfl,.sl _ [] none 0 (by simp) (by simp) 0 0 (λ _ _=>undef) (by simp) (by simp) (by simp) (by simp)⟩
 ·refine ⟨avm h,?_⟩;rw [agr h];exact .v _
 cases h
theorem awa {d sz f:Nat} {z:RV} {t e:TypeId} {inf:TypeInfo} {v:Value} {x y:Operand} {k K:IntKind} {l c:Int} {ok:Prop} (B:d<X.n) (R:Gam X s ρ a w) (Q:o.op=.makeSlice t x y) (O:P.underlying t=some (.slice e)) (L:P.info? e=some inf) (S:inf.zero=some v)
 (I:inf.size=sz) (D:inf.bytes=f) (r:q9 eqr v.cells.toList z.cells=true) (p:v.cells.size=sz) (hx:a.eval x=.int k l) (hy:a.eval y=.int K c) (M:0<=l) (H:l<=c) (hc:c<=maxLen) (U:c*f<=281474976710656) :
 dk P X a w s o (m0 s.ob d (.row sz z true true (aac l z)) (λ v=>.own d v 0 l.toNat) ok [] []):=by
 subst I; subst D;have G:(c:Int)<=9223372036854775807:=by simp only [maxLen] at hc; omega
 have g:=run_make (P:=P) w t e inf v O L S k K l c M H (by rw [Int.mul_comm]; exact U) G
 have m:(execOp a.eval o).run P w=.ok (.value (.slice (some ⟨w.heap.size,0,none⟩) l.toNat c.toNat)) (w.alloc (.cells (madeCells v.cells (c.toNat*inf.size)) e)):=by
  simp only [execOp,Q,hx,hy,Sem.run_bind,g,Result.andThen_ok,Sem.run_pure]
 have b:=size_madeCells v.cells (c.toNat*inf.size)
 refine mf B R (u6 _) m (.inr ⟨w.heap.size,_,e,(0,0),by simp [m5],(u6 _).new,by simp,λ _=>rfl,?_,λ i q A=>?_⟩)
  (.own _ _ _ _ _ rfl (gc ⟨_,_,rfl,by omega,by simp only [maxLen] at hc |-; omega,by simp [aac],λ _=>⟨w.heap.size,_,e,(0,0),by simp [m5],by simp,(u6 _).new,by rw [b,zak]; exact zad _⟩⟩))
 ·rw [b];simp only [aac,zbj];exact zac _ (by omega)
 simp only [aac,List.getElem?_replicate] at A;split at A
 ·rename_i N;cases A;have C:z.cells.length=inf.size:=by rw [<- gr r]; simpa using p
  refine ⟨C,λ j q J=>?_⟩;have T:=(zab.1 J).1;have E:v.cells[j]?=some (v.cells[j]'(by omega)):=by simp [show j<v.cells.size by omega]
  have V:=xz r (i:=j) (by rw [zbb]; exact E) J
  have h:(madeCells v.cells (c.toNat*inf.size))[i*inf.size+j]?=some (v.cells[j]'(by omega)):=by
   have F:i*inf.size+j<c.toNat*inf.size:=by
    have:(i+1)*inf.size<=c.toNat*inf.size:=zac _ (by omega);rw [zaa,zaf] at this;omega
   have u:(i*inf.size+j)%v.cells.size=j:=by
    rw [p,zaq,Nat.mul_add_mod,Nat.mod_eq_of_lt (by omega)]
   simp [madeCells,F,u,show j<v.cells.size by omega]
  exact ⟨_,h,ahq V⟩
 cases A
theorem ati {z:Array Value} {n sz i j:Nat} (c:z.size=sz) (e:i<n) (d:j<sz):(Builtin.zeroCells z n).toList[i*sz+j]?=z[j]?:=by
 have b:i*sz+j<n*z.size:=by
  have:(i+1)*sz<=n*sz:=zac _ (by omega);rw [zaa,zaf] at this;rw [c];omega
 have a:(i*sz+j)%z.size=j:=by
  rw [c,zaq,Nat.mul_add_mod,Nat.mod_eq_of_lt (by omega)]
 rw [zbb];simp [Builtin.zeroCells,b,a,show j<z.size by omega]
theorem awf {sz id ver d n:Nat} {z z':RV} {G:Bool} {xs:List RV} {rd':List Nat} {t e:TypeId} {inf:TypeInfo} {v:Value} {c:Call} {x:Operand} {ok:Prop} (hG:Gam X s ρ a w) (ho:o.op=.call c) (hc:c.callee=.builtin .clear)
 (M:c.args=#[x]) (h3:c.argTypes=#[t]) (ht:P.underlying t=some (.slice e)) (hi:P.info? e=some inf) (hf:inf.size=sz) (hz:inf.zero=some v) (h8:q9 eqr v.cells.toList z.cells=true) (N:v.cells.size=sz)
 (hx:RA X s ρ w (.own id ver d n) (a.eval x)) (hr:g9 s.ob id ver=some (sz,z',G,true,xs)) :
 dk P X a w s o ⟨ok,.undef,upd id (ver,.row sz z' G true (spl xs d (zaw n z))) s.ob,rd',[id]⟩:=by
 unfold spl;subst hf;have E:=n8 hr;simp only at E;obtain ⟨A,cap,hb,e2,e3,e4,e5⟩:=ke hx hr;simp only at e4
 have H:∀r,(Builtin.clear_ #[t] o.type #[.slice A n cap]).run P w=r->(execOp a.eval o).run P w=r.andThen λ q w'=>.ok (.value q) w':=by
  rintro r rfl;simp [execOp,ho,resolve,hc,M,h3,invoke,builtin,hb]
 by_cases h0:n=0
 ·subst h0
  have Q:(Builtin.clear_ #[t] o.type #[.slice A 0 cap]).run P w=.ok (.tuple #[]) w:=by
   cases A<;>simp [Builtin.clear_,run_underlying ht]
  have f:=H _ Q;simp only [Result.andThen_ok] at f;refine ⟨_,w,ρ,f,?_,.inl ⟨_,rfl,.undef _⟩⟩;have e:b7 xs d (zaw 0 z)=xs:=by simp [b7]
  rw [e]
  rw [show upd id (ver,Ob.row inf.size z' G true xs) s.ob=s.ob from by
   funext i;unfold upd;split
   ·rename_i h; rw [h,E]
   rfl]
  exact hG
 have hk:0<cap:=by omega
 obtain ⟨b,hs,ee,hn,f1,f2,f3,f4⟩:=e5 hk;rcases hG.obj id ver _ E with ⟨q1,q2,_⟩ | ⟨b',cs,e',fr,V,hh,W,h6,J,L⟩
 ·rw [f1] at q2; cases q2
 rw [f1] at V;cases V;have h4:(Builtin.zeroCells v.cells n).toList.length=n*inf.size:=by rw [zah,size_zeroCells,N]
 have O:(d+n)*inf.size<=cs.size:=zap (zac _ (by omega)) J
 have F:d*inf.size+(Builtin.zeroCells v.cells n).toList.length<=cs.toList.length:=by
  rw [h4,<- zaa];simpa using O
 have hg:z.cells.length=inf.size:=by rw [<- gr h8]; simpa using N
 have h1:∀j y,z.cells[j]?=some y->∃u,v.cells[j]?=some u/\eqr u y=true:=λ j y I=>by
  have h2:=(zab.1 I).1;have hv:v.cells[j]?=some (v.cells[j]'(by omega)):=by simp [show j<v.cells.size by omega]
  exact ⟨_,hv,xz h8 (i:=j) (by rw [zbb]; exact hv) I⟩
 have h5:∀u∈(Builtin.zeroCells v.cells n).toList,u.oneCell'=true:=λ u hu=>by
  simp only [Builtin.zeroCells,Array.toList_map,List.mem_map] at hu;obtain ⟨i,hi,rfl⟩:=hu;have hd:i<n*v.cells.size:=by simpa using hi
  have he:0<v.cells.size:=by
   rcases zbf v.cells.size with h | h
   ·rw [h] at hd; omega
   exact h
  have hm:=Nat.mod_lt i he;have hy:z.cells[i%v.cells.size]?=some (z.cells[i%v.cells.size]'(by omega)):=by simp [show i%v.cells.size<z.cells.length by omega]
  obtain ⟨u,g1,g2⟩:=h1 _ _ hy
  have:v.cells[i%v.cells.size]! = u:=by
   rw [Array.getElem!_eq_getD,Array.getD_eq_getD_getElem?,g1]
   rfl
  rw [this];exact (ahq (w:=w) (R:=λ _=>True) g2).1
 have Z:=ub (P:=P) b (d*inf.size) e' fr (Builtin.zeroCells v.cells n).toList 0 cs w hh W (by simpa using F) h5
 have Q:(Builtin.clear_ #[t] o.type #[.slice A n cap]).run P w=.ok (.tuple #[]) (w.setRow b (b7 cs.toList (d*inf.size) (Builtin.zeroCells v.cells n).toList).toArray):=by
  simp only [zai] at Z;rw [f2];obtain ⟨k,rfl⟩:∃k,n=k+1:=⟨n-1,by omega⟩
  simp [Builtin.clear_,run_underlying ht,zeroValue,typeInfo,hi,hz,Z,b7]
 have f:=H _ Q;simp only [Result.andThen_ok] at f;generalize U:(Builtin.zeroCells v.cells n).toList=g at *;have S:=go (w:=w) (cs:=(b7 cs.toList (d*inf.size) g).toArray) hh;have D:(b7 cs.toList (d*inf.size) g).length=cs.size:=by rw [j7 F]; simp
 have h9:d+(zaw n z).length<=xs.length:=by rw [zbj]; omega
 have C:(b7 xs d (zaw n z)).length=xs.length:=j7 h9;have K:=Stays.modify (x':=.row inf.size z' G true (b7 xs d (zaw n z))) hG E rfl f1 hh S (by simpa using D) ver (.inl ⟨rfl,rfl,by rw [C]; exact zad _⟩);refine ⟨_,_,ρ,f,hG.modify E rfl f1 hh S (by simpa using D) ver (.inl ⟨rfl,rfl,by rw [C]; exact zad _⟩) (.inr ⟨rfl,⟨rfl,by rw [C]; exact zad _⟩,λ h=>h⟩) ?_,.inl ⟨_,rfl,.undef _⟩⟩;refine .inr ⟨b,_,e',fr,f1,S.new,by simpa [D] using W,h6,by simpa [D,C] using J,λ i q T=>?_⟩;have Y:=λ p=>u4 (l:=cs.toList) (m:=g) (i:=d*inf.size) F p;rw [u4 h9,zbj] at T;split at T
 ·rename_i ha;rw [List.getElem?_replicate,if_pos (by omega)] at T;cases T;refine ⟨hg,λ j r I=>?_⟩;have h2:=(zab.1 I).1;obtain ⟨u,g1,g2⟩:=h1 j r I
  have hp:(i-d)*inf.size+j<n*inf.size:=by
   have:(i-d+1)*inf.size<=n*inf.size:=zac _ (by omega);rw [zaa,zaf] at this;omega
  have hl:i*inf.size=d*inf.size+(i-d)*inf.size:=by rw [<- zaa,show d+(i-d)=i by omega]
  have h7:=ahq (w:=w.setRow b (b7 cs.toList (d*inf.size) g).toArray) (R:=d6 X.B (upd id (ver,.row inf.size z' G true (b7 xs d (zaw n z))) s.ob) ρ (w.setRow b (b7 cs.toList (d*inf.size) g).toArray)) g2;refine ⟨u,?_,h7.1,h7.2⟩;rw [zag,Y,if_pos (by omega),show i*inf.size+j-d*inf.size=(i-d)*inf.size+j by omega,<- U,ati N (by omega) (by omega)];exact g1
 rename_i ha;refine ⟨(L i q T).1,λ j r I=>?_⟩;obtain ⟨c,g1,g2,g3⟩:=(L i q T).2 j r I;have h2:j<inf.size:=by have:=(zab.1 I).1; have:=(L i q T).1; omega
 refine ⟨c,?_,g2,g3.mono K.free⟩;rw [zag,Y,h4,if_neg]
 ·simpa using g1
 rintro ⟨p1,p2⟩;apply ha;constructor
 ·rcases zas i d with h | h
  ·have:(i+1)*inf.size<=d*inf.size:=zac _ h;rw [zaa,zaf] at this;omega
  exact h
 rcases zas i (d+n) with h | h
 ·exact h
 have:(d+n)*inf.size<=i*inf.size:=zac _ h;rw [zaa] at this;omega
theorem at5 {g:Bool} (i:g=true) {t e:TypeId} {inf:TypeInfo} {n:Nat} {x:Operand} {u:AV} (r:Gam X s ρ a w) (q:o.op=.slice t x none none none) (p:P.underlying t=some (.array n e)) (l:P.info? e=some inf)
 (B:inf.size=1) (y:RA X s ρ w u (a.eval x)) (c:(pt g n u s.ob).ok):l4 P X a w s ρ o (pt g n u s.ob).v:=by
 unfold pt at c |-;split at c
 ·rename_i id ver off;rcases hr:m7 s.ob id ver with _ | j
  ·rw [hr] at c; exact (c i).elim
  rw [hr] at c;obtain ⟨C,m⟩:=c i;have k:=dj hr;cases y;rename_i h;obtain ⟨b,f,hc⟩:=h.live k;obtain ⟨D,cs,e',d,z,A,_⟩:=r.obj id ver _ k;rw [f] at d;cases d
  skip
  refine ⟨.slice (some ⟨b,off,none⟩) n n,?_,.own _ _ _ _ _ rfl ⟨_,_,k,zad _,λ _=>⟨_,n,rfl,zad _,m,λ _=>⟨b,cs,e',(0,0),f,rfl,z,by omega⟩⟩⟩⟩;simp [execOp,q,Instr.sliceAt,run_underlying p,hc,Instr.sureAddr,Instr.sliceBounds,sizeOf,typeInfo,l,aw]
 first | exact (c i).elim | exact (c.2 i).elim | exact c.2.elim
theorem atx (G:Gam X s ρ a w) {y:AV} {c:Value} {sz:Nat} {ys:List RV} {rd:List Nat} (g:src s.ob y=some (sz,ys,rd)) (hy:RA X s ρ w y c):RelV w (λ _=>True) (.sl sz ys) c:=by
 unfold src at g;split at g
 ·cases g;cases hy;rename_i hy;exact hy.mono λ b _=>⟨trivial,rfl⟩
 ·cases g;cases hy;exact .sl _ [] none 0 (by simp) (by simp) 0 0 (λ _ _=>undef) (by simp) (by simp) (by simp) (by simp)
 ·split at g
  ·rename_i id ver k len _ sz z F T xs B;cases g;have l:=n8 B;simp only at l;obtain ⟨A,cap,rfl,M,H,u,r⟩:=ke hy B;simp only at u r;have m:((xs.drop k).take len).length=len:=by simp; omega
   have h:=RelV.sl (w:=w) (R:=λ _=>True) sz ((xs.drop k).take len) A cap (by omega) H;rw [m] at h
   have d:∀(i:Nat) (x:RV),((xs.drop k).take len)[i]?=some x->xs[k+i]?=some x:=λ i x f=>by
    rw [zan] at f;split at f
    ·rwa [List.getElem?_drop] at f
    cases f
   rcases G.obj id ver _ l with ⟨q,v,_⟩ | ⟨b,cs,e,fr,q,v,N,P,O,p⟩
   ·subst q;have:len=0:=by simp at u; omega
    subst this;exact h 0 0 (λ _ _=>undef) (by simp) (by simp) (by simp) (by simp)
   refine h b (k*sz) (λ i j=>(cs[(k+i)*sz+j]?).getD undef) (λ L=>?_) (λ i x f=>(p _ x (d i x f)).1) (λ i x j y f o=>?_) (λ i x j y f o=>?_)
   ·obtain ⟨S,I,e',J,D,E,Q,K⟩:=r (by omega);rw [q] at D;cases D;exact ⟨E,trivial⟩
   ·obtain ⟨c,n,C,t⟩:=(p _ x (d i x f)).2 j y o;rw [n];refine ⟨?_,C⟩;simp only [World.cell?,v,Option.isSome_none,Bool.false_eq_true,if_false,Option.getD_some];rw [<- n,zaa]
   obtain ⟨c,n,C,t⟩:=(p _ x (d i x f)).2 j y o;rw [n];exact t.mono λ b _=>⟨trivial,rfl⟩
  cases g
 cases g
theorem aon {t d e:TypeId} {x:Operand} {u:AV} {sz:Nat} {ys:List RV} {rd:List Nat} (E:Gam X s ρ a w) (C:o.op=.convert t d x) (r:P.underlying t=some (.slice e)) (y:P.underlying e=some (.int .u8)) (p:P.underlying d=some .string)
 (F:RA X s ρ w u (a.eval x)) (G:src s.ob u=some (sz,ys,rd)) (i:sz=1) (H:ys.all ajw=true):l4 P X a w s ρ o (amv ⟨(ys.map ado).toArray⟩):=by
 have k:=atx E G F;subst i;generalize hc:a.eval x=c at k;cases k;rename_i A cap K b o' g B D k J I;simp only [l4,execOp,C,hc];refine ⟨_,?_,az _⟩
 have h:(convert t d (.slice A ys.length cap)).run P w=.ok (.string ⟨(ys.map ado).toArray⟩) w:=by
  rcases zbf ys.length with n | n
  ·have v:ys=[]:=zaz n;subst v;cases A with
   | none=>
     rw [run_convert_bytes_string w t d e none _ cap r y p];simp [Conv.bytesToString]
     rfl
   | some ad=>exact run_convert_bytes_back w t d e ad cap [] r y p (by simp)
  obtain ⟨rfl,_⟩:=D n
  have:=run_convert_bytes_back (P:=P) w t d e ⟨b,o',none⟩ cap (ys.map ado) r y p λ j l=>by
   simp only [List.length_map] at l;have hy:ys[j]?=some ys[j]:=by simp [l]
   have f:=zao.1 H ys[j] (zay l);simp only [List.getElem_map];generalize ys[j]=q at hy f;unfold ajw at f;split at f
   ·rename_i m;have i:=(I j _ 0 _ hy rfl).1;have z:=k j _ 0 _ hy rfl;cases hgj:g j 0<;>rw [hgj] at z<;>cases z;rw [aw];rw [hgj] at i;simp only [Nat.mul_one,zai] at i;rw [i];simp only [decide_eq_true_eq] at f;simp only [ado,UInt8.toNat_ofNat'];congr 2;omega
   cases f
  simpa using this
 simp only [Sem.run_bind,h,Result.andThen_ok,Sem.run_pure]
theorem aue {g:Bool} (j:g=true) {d:Bool} {op:BinOp} {t ty e:TypeId} {x:Operand} {u:AV} (l:o.op=.binOp op t x (.const (.pointer none)) ty) (i:op=if d then .neq else .eql) (n:P.underlying t=some (.pointer e))
 (m:RA X s ρ w u (a.eval x)) (c:(sg g d u s.ob).ok):l4 P X a w s ρ o (sg g d u s.ob).v:=by
 have f:P.underlying t=some (.pointer (P.pointee t)):=by simp [Program.pointee,n]
 unfold sg at c |-;split at c
 ·split at c
  ·rename_i r q;cases m;rename_i hc h;obtain ⟨o',k⟩:=afz q;obtain ⟨b,_,hc⟩:=h.live k;simp only [l4,execOp,l,hc];refine ⟨_,?_,az _⟩;subst i;cases d<;>simp [eqGuard,binOp,Act.eval,run_equal_pointer_nil w t _ f]
  first | exact (c j).elim | exact (c.2 j).elim
 ·have p:=i9 m;simp only [l4,execOp,l,p];refine ⟨_,?_,az _⟩;subst i;cases d<;>simp [eqGuard,binOp,Act.eval,run_equal_pointer_nil w t _ f]
 first | exact (c j).elim | exact (c.2 j).elim
theorem aj5 {t:TypeId} {g:Bool} (C:g=true) (E:Gam X s ρ a w) {s9:Nat->Option (Nat×Nat)} (u:∀(p:Nat×Operand) (q:Nat×Nat×Opd),qo P t p q=true->s9 p.1=some (q.1,q.2.1)) :
 ∀(z:List (Nat×Operand)) (l:List (Nat×Nat×Opd)) (j:List AV) (b:Array Value),q9 (qo P t) z l=true->(bo g s.e j l).1->b.size=j.length ->
  (∀(i:Nat) (x:AV) (c:Value),j[i]?=some x->b[i]?=some c->RA X s ρ w x c) ->
  ∃r ys,Instr.fill s9 b (z.map λ p=>(p.1,a.eval p.2))=some r/\(bo g s.e j l).2=.agg ys/\r.size=ys.length/\∀(i:Nat) (x:AV) (c:Value),ys[i]?=some x->r[i]?=some c->RA X s ρ w x c
 | [],[],j,b,_,_,hs,hr=>⟨b,j,by simp [Instr.fill],rfl,hs,hr⟩
 | p::z,(off,m,y)::l,j,b,d,hok,hs,hr=>by
   simp [q9] at d;obtain ⟨B,d⟩:=d;simp only [bo] at hok |-;obtain ⟨J,v,M⟩:=hok;obtain ⟨I,O,Q⟩:=v C;have f:=u p _ B;have o:opd p.2 y=true:=by simp [qo] at B; exact B.1
   have hx:=d5 E C o J;obtain ⟨N,F⟩:=aio hx I;generalize (y.ev s.e).bare.cells=xs at *;have D:=afe (a.eval p.2).cells.toList 0 off b (by simp; omega);simp only [zai] at D
   have n:((a.eval p.2).cells.zipIdx.foldl (λ cs (q:Value×Nat)=>cs.setIfInBounds (off+q.2) q.1) b).toList=b7 b.toList off (a.eval p.2).cells.toList:=by
    rw [<- D,<- Array.foldl_toList,Array.toList_zipIdx]
   have A:(b7 b.toList off (a.eval p.2).cells.toList).length=b.size:=by rw [j7 (by simp; omega)]; simp
   obtain ⟨r,ys,K,L,G,H⟩:=aj5 C E u z l (b7 j off xs) ((a.eval p.2).cells.zipIdx.foldl (λ cs (q:Value×Nat)=>cs.setIfInBounds (off+q.2) q.1) b) d M
    (by rw [<- zah,n,A,j7 (by omega),hs]) (λ i x c hx hc=>by
     rw [u4 (by omega)] at hx;rw [<- zbb,n,u4 (by simp; omega)] at hc;simp only [zah,N] at hc;split at hx
     ·rename_i k;rw [if_pos k] at hc;exact F _ x c hx (by simpa using hc)
     rename_i k;rw [if_neg k] at hc
     exact hr i x c hx (by simpa using hc))
   refine ⟨r,ys,?_,L,G,H⟩;simp only [List.map_cons,Instr.fill,f];rw [if_neg (by simp; omega)];exact K
 | [],_::_,_,_,h,_,_,_=>by cases h
 | _::_,[],_,_,h,_,_,_=>by cases h
theorem ajs {a b:Type} (f:a->Option b) (d:b):∀(l:List a),(l.all λ x=>(f x).isSome)=true->l.mapM f=some (l.map λ x=>(f x).getD d)
 | [],_=>rfl
 | x::l,h=>by
   simp at h;obtain ⟨y,hy⟩:=Option.isSome_iff_exists.1 h.1;have:=ajs f d l (by simpa using h.2);simp [List.mapM_cons,hy,this]
theorem aor {g:Bool} (U:g=true) {t:TypeId} {inf:TypeInfo} {z:Value} {d:TypeDesc} {l:List AV} {j:Array (Nat×Operand)} {u:List (Nat×Nat×Opd)} (O:Gam X s ρ a w) (M:o.op=.build t j) (I:P.info? t=some inf) (J:inf.zero=some z)
 (A:q9 eqz z.cells.toList l=true) (C:P.underlying t=some d) (n:aht P d=true) (B:q9 (qo P t) j.toList u=true) (F:(bo g s.e l u).1) :
 l4 P X a w s ρ o (bo g s.e l u).2:=by
 have h:(j.map λ (i,x)=>(i,a.eval x)).toList=j.toList.map λ p=>(p.1,a.eval p.2):=by simp
 have m:∀(i:Nat) (x:AV) (c:Value),l[i]?=some x->z.cells[i]?=some c->RA X s ρ w x c:=λ i x c hx hc=>ahp (xz A (by simpa using hc) hx);have D:z.cells.size=l.length:=by rw [<- gr A]; simp
 have v:∀(s9:Nat->Option (Nat×Nat)),(∀(p:Nat×Operand) (q:Nat×Nat×Opd),qo P t p q=true->s9 p.1=some (q.1,q.2.1)) ->
  (∀r,Instr.fill s9 z.cells (j.toList.map λ p=>(p.1,a.eval p.2))=some r->P.built t (j.toList.map λ p=>(p.1,a.eval p.2))=some r)->l4 P X a w s ρ o (bo g s.e l u).2:=by
  intro s9 H S;obtain ⟨r,ys,Q,R,K,N⟩:=aj5 (P:=P) (t:=t) U O H j.toList u l z.cells B F D m;rw [R];have y:=run_build (P:=P) w t (j.map λ (i,x)=>(i,a.eval x)) r (by rw [h]; exact S r Q);refine ⟨.agg r,?_,.agg _ _ K N⟩;simp only [execOp,M,Sem.run_bind,y,Result.andThen_ok,Sem.run_pure]
 cases d with
 | struct fs=>
   have T:=ajs (λ f=>(P.info? f.type).map λ i=>(f.offset,i.size)) (0,0) fs.toList (by
    simp only [Option.isSome_map];rw [Array.all_toList]
    exact n)
   refine v (λ i=>(fs.toList.map λ x=>((P.info? x.type).map λ i=>(x.offset,i.size)).getD (0,0)).toArray[i]?) (λ p q b=>?_) (λ r E=>?_)
   ·simp only [qo,C,zbi] at b;obtain ⟨_,b⟩:=b;split at b
    ·rename_i f L;split at b
     ·rename_i V G;simp at b;simp [L,G,b.1,b.2]
     cases b
    cases b
   unfold Program.built;simp only [I,C,J,T];exact E
 | array k e=>
   cases hie:P.info? e with
   | none=>simp [aht,hie] at n
   | some ie=>
     refine v (λ i=>some (i*ie.size,ie.size)) (λ p q b=>?_) (λ r E=>?_)
     ·simp only [qo,C,hie,zbi,beq_iff_eq] at b;rw [b.2.1,b.2.2]
     unfold Program.built;simp only [I,C,J,hie];exact E
 | _=>cases n
end

end Go.Ev

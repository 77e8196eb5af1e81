import Derived.Test.YtjpejkfhkbaakaaGreatM0
open Nat renaming add_mul → zaa, mul_le_mul_right → zac, le_refl → zad, min_eq_left → zae, one_mul → zaf, add_zero → zai, zero_add → zak, le_trans → zap, mul_comm → zaq, lt_or_ge → zas, lt_succ_self → zav, eq_zero_or_pos → zbf
open List renaming getElem?_eq_some_iff → zab, getElem?_toArray → zag, length_take → zaj, mem_of_getElem? → zal, getElem?_map → zam, getElem?_take → zan, all_eq_true → zao, take_of_length_le → zar, length_append → zat, size_toArray → zau, replicate → zaw, getElem_mem → zay, eq_nil_of_length_eq_zero → zaz, length_cons → zba, append_assoc → zbc, getElem?_append → zbd, mem_iff_getElem? → zbe, getElem?_append_left → zbg, flatMap_cons → zbh, length_replicate → zbj
open Array renaming length_toList → zah, getElem?_toList → zbb
open Option renaming map_eq_some_iff → zax
open Bool renaming and_eq_true → zbi
namespace Go.Ev
set_option maxHeartbeats 8000000
set_option maxRecDepth 100000
open Go
set_option linter.unusedSectionVars false
set_option linter.unnecessarySimpa false
set_option linter.unusedSimpArgs false
set_option linter.unusedVariables false
section
variable {P:Program} {X:Cx} {w w':World} {s:St} {ρ ρ':Pl->Option Nat} {a:Act} {o:Oper} {ob ob':Obs} {R R':Nat->Prop}
def bv (P:Program) (X:Cx) (a:Act) (w:World) (s:St) (o:Oper) (r:Rs):Prop:=
 ∃nx d b,(execOp a.eval o).run P w=.ok nx d/\Gam X ⟨s.e,r.ob⟩ b a d/\((∃c,nx=.value c/\RA X ⟨s.e,r.ob⟩ b d r.v c)\/(nx=.skip/\r.v=.undef))
theorem dk {c b:Type} {f:c->b->Bool}:∀{a:List c} {ys:List b},o6 f a ys=true->a.length=ys.length
 | [],[],_=>rfl
 | x::a,y::ys,h=>by simp [o6] at h; simp [dk h.2]
 | [],_::_,h=>by cases h
 | _::_,[],h=>by cases h
theorem uf {c b:Type} {f:c->b->Bool}:∀{a:List c} {ys:List b},o6 f a ys=true->∀{i:Nat} {x:c} {y:b},a[i]?=some x->ys[i]?=some y->f x y=true
 | [],[],_,i,x,y,hx,_=>by simp at hx
 | x::a,y::ys,h,0,x',y',hx,hy=>by simp [o6] at h; simp at hx hy; subst hx; subst hy; exact h.1
 | x::a,y::ys,h,i+1,x',y',hx,hy=>by simp [o6] at h; simp at hx hy; exact uf h.2 hx hy
 | [],_::_,h,_,_,_,_,_=>by cases h
 | _::_,[],h,_,_,_,_,_=>by cases h
theorem jd {x:Obj} {x':Ob} {y:Nat->AV} {ok:Prop} {rd k:List Nat} {d:Nat} {c:Value} {ob:Obs} (l:d<X.n) (i:Gam X ⟨s.e,ob⟩ ρ a w) (j:OneMore w w' x) (b:(execOp a.eval o).run P w=.ok (.value c) w')
 (g:y8 w' (d7 X.B (upd d (nv ob d,x') ob) (k9 ρ d (some w.heap.size)) w') (upd d (nv ob d,x') ob) (k9 ρ d (some w.heap.size)) d x')
 (hy:RelA w' (d7 X.B (upd d (nv ob d,x') ob) (k9 ρ d (some w.heap.size)) w') (upd d (nv ob d,x') ob) (k9 ρ d (some w.heap.size)) (y (nv ob d)) c) (f:x'.isAbs=false:=by rfl) :
 bv P X a w s o (k8 ob d x' y ok rd k):=
 ⟨_,w',k9 ρ d (some w.heap.size),b,i.alloc (s:=⟨s.e,ob⟩) j d (nv ob d) (i.pnn d (adg (by have:=i.small; omega))) (fun v o h=>nk h) x' g f,.inl ⟨c,rfl,hy⟩⟩
theorem dd {id v:Nat} {x:Ob} {X:Ob->Prop} (h:X x):At (upd id (v,x) ob) id v X:=⟨v,x,by simp [upd],zad _,fun _=>h⟩
theorem r2 (x:Obj):OneMore w (w.alloc x) x:=⟨rfl,rfl,rfl,rfl⟩
theorem gc (x:Obj):OneMore w (w.drew.alloc x) x:=⟨rfl,rfl,rfl,rfl⟩
theorem afy {c:Value} (h:c.oneCell'=true):c.cells=#[c]:=by cases c<;>first | rfl | cases h
theorem agx {x:RV} {c:Value} (h:RelV w R x c) (hx:x.one=true):c.oneCell'=true:=by
 cases h<;>first | exact hx | rfl | cases hx
theorem ao5 {x:AV} {c:Value} (h:RelA w R ob ρ x c) (hx:x.one=true):c.oneCell'=true:=by
 cases h<;>first | rfl | cases hx; done | assumption | skip
 rename_i h;exact agx h hx
theorem ao6 {x:AV} (hx:x.one=true):x.cells=[x]:=by
 unfold AV.cells;split<;>first | rfl | cases hx
theorem agb {x:AV} {c:Value} (h:RelA w R ob ρ x c) (hx:x.boxable=true):c.cells.size=x.cells.length/\∀(i:Nat) (y:AV) (v:Value),x.cells[i]?=some y->c.cells[i]?=some v->RelA w R ob ρ y v:=by
 by_cases b:x.one=true
 ·rw [afy (ao5 h b),ao6 b];refine ⟨rfl,fun i y v hy hv=>?_⟩;cases i with
  | zero=>simp at hy hv; subst hy; subst hv; exact h
  | succ i=>simp at hy
 unfold AV.boxable at hx;split at hx
 ·cases h;rename_i cs a h;exact ⟨a,h⟩
 ·cases h;rename_i h;cases h;rename_i cs a h;refine ⟨by simp [Value.cells,AV.cells,a],fun i y v hy hv=>?_⟩;simp only [AV.cells,zam,zax] at hy;obtain ⟨z,d,rfl⟩:=hy;exact .r (h i z v d hv)
 exact absurd hx b
theorem auw {d:Nat} {x:AV} {e:TypeId} {y:Operand} {ok:Prop} (g:d<X.n) (j:Gam X s ρ a w) (k:o.op=.box e y) (hx:RA X s ρ w x (a.eval y)) (l:x.boxable=true) :
 bv P X a w s o (k8 s.ob d (.box x.cells) (fun v=>.ptr d v 0) ok [] []):=by
 have b:(execOp a.eval o).run P w=.ok (.value (.pointer (some ⟨w.heap.size,0,none⟩))) (w.alloc (.cells (a.eval y).cells e)):=by
  simp only [execOp,k,Instr.box,newVar,newRow,Sem.run_bind,run_newObj,Result.andThen_ok,Sem.run_pure]; rfl
 have f:=Stays.alloc j (r2 (.cells (a.eval y).cells e)) d (nv s.ob d) (fun v o h=>nk h) (.box x.cells);obtain ⟨p,m⟩:=agb hx l;refine jd g j (r2 _) b ?_ (.ptr _ _ _ _ rfl (dd ⟨_,by simp [k9],rfl⟩));exact ⟨w.heap.size,(a.eval y).cells,e,by simp [k9],(r2 _).new,p,fun i z c hi hc=>(m i z c hi hc).stays f⟩
theorem arj {d:Nat} {h:List AV} {e:TypeId} {i:TypeInfo} {z:Value} {ok:Prop} (g:d<X.n) (l:Gam X s ρ a w) (j:o.op=.alloc e) (hi:P.info? e=some i) (k:i.zero=some z) (f:o6 eqz z.cells.toList h=true) :
 bv P X a w s o (k8 s.ob d (.box h) (fun v=>.ptr d v 0) ok [] []):=by
 have b:(execOp a.eval o).run P w=.ok (.value (.pointer (some ⟨w.heap.size,0,none⟩))) (w.alloc (.cells z.cells e)):=by
  simp only [execOp,j,Instr.alloc,zeroValue,typeInfo,newVar,newRow,Sem.run_bind,run_program,hi,k,run_newObj,Result.andThen_ok,Sem.run_pure]; rfl
 refine jd g l (r2 _) b ?_ (.ptr _ _ _ _ rfl (dd ⟨_,by simp [k9],rfl⟩));refine ⟨w.heap.size,z.cells,e,by simp [k9],(r2 _).new,by rw [<- dk f]; simp,fun i x c hi hc=>?_⟩;exact aey (uf f (by simpa using hc) hi)
theorem Mods.same {b:Nat} {y:Obj} (h:w.heap[b]?=some y):Mods w w b y:=⟨rfl,rfl,rfl,rfl,h,fun _ _=>rfl⟩
theorem gm {g:Nat} {a cs:Array Value} {t:TypeId} {fr:Nat×Nat} (b:w.heap[g]?=some (.cells a t fr)):Mods w (w.setRow g cs) g (.cells cs t fr):=
 ⟨rfl,rfl,rfl,by simp [World.setRow],setRow_heap w g a cs t fr b,fun k c=>setRow_other w g k cs c⟩
theorem ua (g o:Nat) (t:TypeId) (fr:Nat×Nat):∀(vs:List Value) (i:Nat) (cur:Array Value) (w:World),w.heap[g]?=some (.cells cur t fr)->(∀k,k<cur.size->¬(fr.1<=k/\k<fr.2))->o+i+vs.length<=cur.size->(∀v∈vs,v.oneCell'=true) ->
 (storeCells ⟨g,o,none⟩ vs i).run P w=.ok () (w.setRow g (cur.toList.take (o+i)++vs++cur.toList.drop (o+i+vs.length)).toArray)
 | [],i,cur,w,hg,_,_,_=>by
   simp only [storeCells,List.append_nil,List.length_nil,zai,List.take_append_drop,Array.toArray_toList];rw [setRow_self w g cur t fr hg]
   rfl
 | v::rest,i,cur,w,hg,hf,hl,h1=>by
   have hi:o+i<cur.size:=by simp at hl; omega
   have c:(⟨g,o,none⟩:Addr).add i=⟨g,o+i,none⟩:=z5 g o i;have a:w.cell? ⟨g,o+i,none⟩=some cur[o+i]:=by simp [World.cell?,hg,hi]
   have b:w.frozen? ⟨g,o+i,none⟩=false:=by
    have:=hf (o+i) hi;simp only [World.frozen?,hg];simpa using this
   have d:(store ((⟨g,o,none⟩:Addr).add i) v).run P w=.ok () (w.setRow g (cur.setIfInBounds (o+i) v)):=by
    rw [c,run_store P w _ v _ (h1 v (by simp)),a];simp [b,setCell_eq_setRow w g (o+i) cur t fr v hg]
   have f:=ua g o t fr rest (i+1) (cur.setIfInBounds (o+i) v) (w.setRow g (cur.setIfInBounds (o+i) v)) (setRow_heap w g cur _ t _ hg) (by simpa using hf) (by simp at hl |-; omega) (fun x hx=>h1 x (by simp [hx]));simp only [storeCells,Sem.run_bind,d,Result.andThen_ok,f,setRow_setRow];congr 3;have e:=list_seg_step cur.toList (o+i) v rest (by simp at hl |-; omega);simpa [Array.toList_setIfInBounds,Nat.add_assoc] using e
theorem abq {t:TypeId} {inf:TypeInfo} {g o':Nat} {e:TypeId} {fr:Nat×Nat} {cur:Array Value} {c:Value} (hi:P.info? t=some inf) (a:c.cells.size=inf.size) (d:w.heap[g]?=some (.cells cur e fr))
 (f:∀k,k<cur.size->¬(fr.1<=k/\k<fr.2)) (b:o'+c.cells.size<=cur.size) (h:∀v∈c.cells.toList,v.oneCell'=true) :
 (Instr.storeAt t (.pointer (some ⟨g,o',none⟩)) c).run P w=.ok () (w.setRow g (c7 cur.toList o' c.cells.toList).toArray):=by
 have:=ua (P:=P) g o' e fr c.cells.toList 0 cur w d f (by simpa using b) h;simp only [zai] at this;simp [Instr.storeAt,Instr.sureAddr,storeVar,sizeOf,typeInfo,hi,a,this,c7]
theorem m9 {a:Type} {l m:List a} {i:Nat} (h:i+m.length<=l.length):(c7 l i m).length=l.length:=by
 simp [c7]; omega
theorem u5 {c:Type} {l m:List c} {i:Nat} (h:i+m.length<=l.length) (j:Nat):(c7 l i m)[j]?=if i<=j/\j<i+m.length then m[j-i]? else l[j]?:=by
 unfold c7;rw [zbc,zbd,zaj,zae (by omega)];by_cases a:j<i
 ·rw [if_pos a,zan,if_pos a,if_neg (by omega)]
 rw [if_neg a,zbd];by_cases b:j-i<m.length
 ·rw [if_pos b,if_pos (by omega)]
 rw [if_neg b,if_neg (by omega),List.getElem?_drop];congr 1;omega
theorem aum {m f id ver:Nat} {y:AV} {d:List AV} {t:TypeId} {inf:TypeInfo} {x v:Operand} {ok:Prop} (L:Gam X s ρ a w) (N:o.op=.store t x v) (hi:P.info? t=some inf) (U:inf.size=m)
 (hx:RA X s ρ w (.ptr id ver f) (a.eval x)) (hy:RA X s ρ w y (a.eval v)) (O:l7 s.ob id ver=some d) (Y:y.cells.length=m) (W:f+m<=d.length) (Q:y.cells.all (·.one)=true) (K:y.boxable=true) :
 bv P X a w s o ⟨ok,.undef,upd id (ver,.box (c7 d f y.cells)) s.ob,[id],[id]⟩:=by
 have n:=bh O;cases hx;rename_i R h;obtain ⟨b,k,hc⟩:=h.live n;obtain ⟨V,cs,e,p,G,H,F⟩:=L.obj id ver _ n;rw [k] at p;cases p;obtain ⟨S,M⟩:=agb hy K
 have E:∀u∈(a.eval v).cells.toList,u.oneCell'=true:=fun u T=>by
  obtain ⟨i,hi⟩:=zbe.1 T
  have D:i<y.cells.length:=by
   have:=(zab.1 hi).1;simp at this;omega
  have A:y.cells[i]?=some y.cells[i]:=by simp [D]
  exact ao5 (M i _ u A (by simpa using hi)) (zao.1 Q _ (zay D))
 have B:=abq (P:=P) (w:=w) (o':=f) (c:=a.eval v) hi (by omega) G (by simp) (by omega) E;have q:=gm (w:=w) (cs:=(c7 cs.toList f (a.eval v).cells.toList).toArray) G;have j:(c7 cs.toList f (a.eval v).cells.toList).length=cs.size:=by rw [m9 (by simp; omega)]; simp
 have C:=Stays.modify (x':=.box (c7 d f y.cells)) L n rfl k G q (by simpa using j) ver (.inl ⟨rfl,trivial⟩);refine ⟨.skip,_,ρ,?_,L.modify n rfl k G q (by simpa using j) ver (.inl ⟨rfl,trivial⟩) (.inr ⟨rfl,trivial,fun _=>rfl⟩) ?_,.inr ⟨rfl,rfl⟩⟩
 ·simp only [execOp,N,hc,Sem.run_bind,B,Result.andThen_ok,Sem.run_pure]
 refine ⟨b,_,e,k,q.new,?_,fun i z c A g=>?_⟩
 ·rw [m9 (by omega)];simpa [H] using j
 have I:=u5 (l:=d) (m:=y.cells) (i:=f) (by omega) i;rw [I] at A;have J:=u5 (l:=cs.toList) (m:=(a.eval v).cells.toList) (i:=f) (by simp; omega) i;rw [zag,J] at g;simp only [zah,S] at g;split at A
 ·rename_i r;rw [if_pos r] at g;exact (M _ z c A (by simpa using g)).stays C
 rename_i r;rw [if_neg r] at g;exact (F i z c A (by simpa using g)).stays C
theorem gj {ob:Obs}:∀{b:List AV} {ys:List RV} {a:List Nat},rvs ob b=some (ys,a)->ys.length=b.length
 | [],ys,a,h=>by simp [rvs] at h; simp [h.1]
 | x::b,ys,a,h=>by
   simp only [rvs] at h;split at h
   ·rename_i y i d j e c;cases h;simp [gj c]
   cases h
theorem xc (g:Gam X s ρ a w) {ob:Obs} {l:List Nat} (b:s.ob=Ev.freeze ob l):∀{f:List AV} {ys:List RV} {d:List Nat},rvs ob f=some (ys,d)->(∀i∈d,i∈l) ->
 ∀(i:Nat) (x:AV) (y:RV) (c:Value),f[i]?=some x->ys[i]?=some y->RA X s ρ w x c->RelV w (d7 X.B s.ob ρ w) y c
 | [],ys,d,h,hs,i,x,y,c,hx,hy,hr=>by simp at hx
 | z::f,ys,d,h,hs,i,x,y,c,hx,hy,hr=>by
   simp only [rvs] at h;split at h
   ·rename_i q k o j n m;cases h;cases i with
    | zero=>
      simp at hx hy;subst hx; subst hy;exact ac7 g n (fun p e=>hs p (by simp [e])) b hr
    | succ i=>
      simp at hx hy;exact xc g b m (fun p e=>hs p (by simp [e])) i x y c hx hy hr
   cases h
theorem amz {x:RV} (h:x.one=true):x.cells=[x]:=by cases x<;>first | rfl | cases h
theorem alu {q E:RV} {c:Nat} {ys:List RV} (a:(match q with | .agg cs=>RV.agg (c7 cs c ys) | q=>ys.getD 0 q)=E) (h:c+ys.length<=q.cells.length) (d:ys.all (·.one)=true):E.cells=c7 q.cells c ys:=by
 have b:∀q:RV,q.cells=[q]->ys.getD 0 q=E->c+ys.length<=1->E.cells=c7 q.cells c ys:=by
  intro q e a h;rw [e]
  match ys,d,a,h with
  | [],_,a,h=>
    simp at a; subst a;rw [e];simp [c7]
  | [y0],d,a,h=>
    simp at a d h; subst a; subst h;rw [amz d];simp [c7]
  | _::_::_,_,_,h=>simp at h; omega
 cases q with
 | agg cs=>simp only at a; subst a; rfl
 | v x=>exact b _ rfl a h
 | sl k xs=>exact b _ rfl a h
theorem aul {m idx d id ver sz:Nat} {z:RV} {K:Bool} {F ys:List RV} {y:AV} {t:TypeId} {inf:TypeInfo} {x v:Operand} {ok:Prop} (hG:Gam X s ρ a w) (ho:o.op=.store t x v) (hi:P.info? t=some inf) (hm:inf.size=m)
 (hx:RA X s ρ w (.oel id ver idx d) (a.eval x)) (hy:RA X s ρ w y (a.eval v)) (hb:g7 s.ob id ver=some (sz,z,K,true,F)) (U:rvs s.ob y.cells=some (ys,[])) (h1:ys.length=m) (h2:d+m<=sz) (h3:ys.all (·.one)=true) (h4:y.boxable=true) :
 bv P X a w s o ⟨ok,.undef,upd id (ver,.row sz z K true (F.set idx (match F.getD idx z with | .agg cs=>.agg (c7 cs d ys) | q=>ys.getD 0 q))) s.ob,[id],[id]⟩:=by
 have n:=m0 hb;simp only at n;cases hx;rename_i ha h;obtain ⟨g,h9,b,A,hc⟩:=h.live n;rcases hG.obj id ver _ n with ⟨N,_⟩ | ⟨b',cs,e,fr,G,hh,O,M,R,Q⟩
 ·rw [N] at g; simp at g
 rw [A] at G;cases G;obtain ⟨k1,k2⟩:=agb hy h4;have hl:=gj U
 have D:∀(i:Nat) (q:RV) (u:Value),ys[i]?=some q->(a.eval v).cells[i]?=some u->RelV w (d7 X.B s.ob ρ w) q u/\u.oneCell'=true:=fun i q u C hu=>by
  have f:=(zab.1 C).1;have hz:y.cells[i]?=some (y.cells[i]'(by omega)):=by simp [show i<y.cells.length by omega]
  have:=xc hG (ob:=s.ob) (l:=[]) rfl U (by simp) i _ q u hz C (k2 i _ u hz hu);refine ⟨this,agx this ?_⟩;have h5:=(zab.1 C).2;rw [<- h5];exact zao.1 h3 _ (zay f)
 have h0:F[idx]?=some (F.getD idx z):=by simp [g]
 obtain ⟨Z,h7⟩:=Q idx _ h0;have S:(idx+1)*sz<=cs.size:=zap (zac _ g) R;rw [zaa,zaf] at S
 have W:∀u∈(a.eval v).cells.toList,u.oneCell'=true:=fun u hu=>by
  obtain ⟨i,hi⟩:=zbe.1 hu;have f:=(zab.1 hi).1;simp at f;exact (D i (ys[i]'(by omega)) u (by simp [show i<ys.length by omega]) (by simpa using hi)).2
 have T:=abq (P:=P) (w:=w) (o':=idx*sz+d) (c:=a.eval v) hi (by omega) hh O (by omega) W;have L:=gm (w:=w) (cs:=(c7 cs.toList (idx*sz+d) (a.eval v).cells.toList).toArray) hh;have k:(c7 cs.toList (idx*sz+d) (a.eval v).cells.toList).length=cs.size:=by rw [m9 (by simp; omega)]; simp
 generalize hE:(match F.getD idx z with | .agg cs=>RV.agg (c7 cs d ys) | q=>ys.getD 0 q)=E;have h6:E.cells=c7 (F.getD idx z).cells d ys:=alu hE (by rw [Z]; omega) h3;have J:=Stays.modify (x':=.row sz z K true (F.set idx E)) hG n rfl A hh L (by simpa using k) ver (.inl ⟨rfl,rfl,by simp⟩);refine ⟨.skip,_,ρ,?_,hG.modify n rfl A hh L (by simpa using k) ver (.inl ⟨rfl,rfl,by simp⟩) (.inr ⟨rfl,⟨rfl,by simp⟩,fun h=>h⟩) ?_,.inr ⟨rfl,rfl⟩⟩
 ·simp only [execOp,ho,hc,Sem.run_bind,T,Result.andThen_ok,Sem.run_pure]
 refine .inr ⟨b,_,e,fr,A,L.new,by simpa [k] using O,M,by simpa [k] using R,fun i q C=>?_⟩;have Y:=fun p=>u5 (l:=cs.toList) (m:=(a.eval v).cells.toList) (i:=idx*sz+d) (by simp; omega) p;rw [List.getElem?_set] at C;by_cases I:idx=i
 ·subst I;rw [if_pos rfl,if_pos g] at C;cases C;rw [h6];refine ⟨by rw [m9 (by omega)]; exact Z,fun j r H=>?_⟩;rw [u5 (by omega)] at H;rw [zag,Y];simp only [zah];by_cases V:d<=j/\j<d+ys.length
  ·rw [if_pos V] at H;rw [if_pos (by omega)];have f:j-d<(a.eval v).cells.size:=by omega
   refine ⟨(a.eval v).cells[j-d],by rw [show idx*sz+j-(idx*sz+d)=j-d by omega]; simp [f],?_⟩;have:=D (j-d) r (a.eval v).cells[j-d] H (by simp [f]);exact ⟨this.2,this.1.mono J.free⟩
  rw [if_neg V] at H;rw [if_neg (by omega)];obtain ⟨c,g1,g2,g3⟩:=h7 j r H;exact ⟨c,by simpa using g1,g2,g3.mono J.free⟩
 rw [if_neg I] at C;obtain ⟨g1,g2⟩:=Q i q C;refine ⟨g1,fun j r H=>?_⟩;obtain ⟨c,f1,f2,f3⟩:=g2 j r H;have h8:j<sz:=by have:=(zab.1 H).1; omega
 refine ⟨c,?_,f2,f3.mono J.free⟩;rw [zag,Y];simp only [zah];rw [if_neg]
 ·simpa using f1
 rintro ⟨p1,p2⟩;rcases Nat.lt_or_gt_of_ne I with f | f
 ·have:(idx+1)*sz<=i*sz:=zac _ f;rw [zaa,zaf] at this;omega
 have:(i+1)*sz<=idx*sz:=zac _ f;rw [zaa,zaf] at this;omega
theorem zu {a:Type} {l:List a} {n i:Nat} {x:a} (h:(l.take n)[i]?=some x):l[i]?=some x:=by
 rw [zan] at h;split at h
 ·exact h
 cases h
theorem ac2 (hG:Gam X s ρ a w) {y:AV} {c:Value} {sz:Nat} {ys:List RV} {rd:List Nat} (n:src s.ob y=some (sz,ys,rd)) (hy:RA X s ρ w y c) :
 ∃(A:Option Addr) (cap:Nat) (news:List Value),c=.slice A ys.length cap/\(∀m,m<=ys.length->∀W:World,W.heap=w.heap->(Builtin.firstCells sz m c).run P W=.ok (news.take (m*sz)).toArray W)/\news.length=ys.length*sz/\(∀u∈news,u.oneCell'=true) /\
  (∀(i:Nat) (x:RV),ys[i]?=some x->x.cells.length=sz/\∀(j:Nat) (q:RV),x.cells[j]?=some q->∃u,news[i*sz+j]?=some u/\RelV w (d7 X.B s.ob ρ w) q u):=by
 have l:∀(A:Option Addr) (cap b o':Nat) (g:Nat->Nat->Value),c=.slice A ys.length cap->(0<ys.length->A=some ⟨b,o',none⟩)->(∀(i:Nat) (x:RV),ys[i]?=some x->x.cells.length=sz) ->
  (∀(i:Nat) (x:RV) (j:Nat) (q:RV),ys[i]?=some x->x.cells[j]?=some q->w.cell? ⟨b,o'+i*sz+j,none⟩=some (g i j)/\(g i j).oneCell'=true/\RelV w (d7 X.B s.ob ρ w) q (g i j)) ->
  ∃(A:Option Addr) (cap:Nat) (news:List Value),c=.slice A ys.length cap/\(∀m,m<=ys.length->∀W:World,W.heap=w.heap->(Builtin.firstCells sz m c).run P W=.ok (news.take (m*sz)).toArray W)/\news.length=ys.length*sz/\(∀u∈news,u.oneCell'=true) /\
  (∀(i:Nat) (x:RV),ys[i]?=some x->x.cells.length=sz/\∀(j:Nat) (q:RV),x.cells[j]?=some q->∃u,news[i*sz+j]?=some u/\RelV w (d7 X.B s.ob ρ w) q u):=by
  intro A cap b o' g hc R C F;rcases zbf ys.length with J | J
  ·have V:ys=[]:=zaz J;subst V;refine ⟨A,cap,[],hc,fun m D W S=>?_,by simp,by simp,by simp⟩;have N:m=0:=by simpa using D
   subst N;rw [hc];cases A<;>simp [Builtin.firstCells,loadCells,loadCellsFrom]
  have U:=R J;subst U;rcases zbf sz with k | k
  ·subst k;refine ⟨_,cap,[],hc,fun m D W S=>?_,by simp,by simp,fun i x hx=>⟨C i x hx,fun j q d=>?_⟩⟩
   ·rw [hc];simp [Builtin.firstCells,loadCells,loadCellsFrom]
   have:=C i x hx;have:=(zab.1 d).1;omega
  have t:∀p,p<ys.length*sz->∃x q,ys[p/sz]?=some x/\x.cells[p%sz]?=some q:=fun p H=>by
   have E:p/sz<ys.length:=Nat.div_lt_of_lt_mul (by rw [zaq]; exact H);have M:p%sz<sz:=Nat.mod_lt _ k;have hx:ys[p/sz]?=some ys[p/sz]:=by simp [E]
   have hl:=C _ _ hx;exact ⟨_,ys[p/sz].cells[p%sz]'(by omega),hx,by simp [show p%sz<ys[p/sz].cells.length by omega]⟩
  have f:∀p u,((List.range (ys.length*sz)).map fun p=>g (p/sz) (p%sz))[p]?=some u->u=g (p/sz) (p%sz)/\p<ys.length*sz:=fun p u r=>by
   rw [zam,zax] at r;obtain ⟨q,d,rfl⟩:=r;obtain ⟨K,G⟩:=zab.1 d;rw [List.getElem_range] at G;subst G;rw [List.length_range] at K;exact ⟨rfl,K⟩
  refine ⟨_,cap,(List.range (ys.length*sz)).map fun p=>g (p/sz) (p%sz),hc,fun m D W S=>?_,by simp,fun u r=>?_,fun i x hx=>⟨C i x hx,fun j q d=>⟨g i j,?_,(F i x j q hx d).2.2⟩⟩⟩
  ·rw [hc];refine run_firstCells_some W sz m ⟨b,o',none⟩ ys.length cap _ (by simp [zae D]) fun p u r=>?_;have r:=zu r;rw [show W.cell?=w.cell? from by funext x; simp only [World.cell?,S]];obtain ⟨rfl,H⟩:=f p u r;obtain ⟨x,q,hx,d⟩:=t p H;rw [z5,<- (F _ x _ q hx d).1];congr 2;have:=Nat.div_add_mod p sz;rw [zaq] at this;omega
  ·obtain ⟨p,H⟩:=zbe.1 r;obtain ⟨rfl,Y⟩:=f p u H;obtain ⟨x,q,hx,d⟩:=t p Y;exact (F _ x _ q hx d).2.1
  have E:=(zab.1 hx).1;have M:=(zab.1 d).1;have h3:=C i x hx
  have T:i*sz+j<ys.length*sz:=by
   have:(i+1)*sz<=ys.length*sz:=zac _ E;rw [zaa,zaf] at this;omega
  have hd:(i*sz+j)/sz=i:=by
   rw [zaq,Nat.mul_add_div k,Nat.div_eq_of_lt (by omega),zai]
  have D:(i*sz+j)%sz=j:=by
   rw [zaq,Nat.mul_add_mod,Nat.mod_eq_of_lt (by omega)]
  simp [T,hd,D]
 unfold src at n;split at n
 ·cases n;cases hy;rename_i hy;cases hy;rename_i A cap D b o' g h7 R L C F;exact l A cap b o' g rfl (fun h=>(R h).1) C fun i x j q hx d=>⟨(F i x j q hx d).1,(F i x j q hx d).2,L i x j q hx d⟩
 ·cases n;cases hy;exact l none 0 0 0 (fun _ _=>undef) rfl (by simp) (by simp) (by simp)
 ·split at n
  ·rename_i id ver lo len _ sz z h9 wr O L;cases n;have I:=m0 L;simp only at I;obtain ⟨A,cap,e1,e2,e3,e4,e5⟩:=gn hy L;simp only at e4;have v:((O.drop lo).take len).length=len:=by simp; omega
   have o:∀(i:Nat) (x:RV),((O.drop lo).take len)[i]?=some x->O[lo+i]?=some x:=fun i x hi=>by
    rw [zan] at hi;split at hi
    ·rwa [List.getElem?_drop] at hi
    cases hi
   rcases hG.obj id ver _ I with ⟨E,M,_⟩ | ⟨b,cs,e,fr,E,M,h3,h4,h5,h6⟩
   ·subst E;have Q:len=0:=by simp at e4; omega
    subst Q;exact l A cap 0 0 (fun _ _=>undef) (by rw [e1]; simp) (by simp) (by simp) (by simp)
   refine l A cap b (lo*sz) (fun i j=>(cs[(lo+i)*sz+j]?).getD undef) (by rw [e1,v]) (fun J=>?_) (fun i x hi=>(h6 _ x (o i x hi)).1) (fun i x j q hi hj=>?_)
   ·rw [v] at J;obtain ⟨b',ha,e',h8,Z,f2,f3,f4⟩:=e5 (by omega);rw [E] at Z;cases Z;exact f2
   obtain ⟨u,g1,g2,g3⟩:=(h6 _ x (o i x hi)).2 j q hj;rw [g1];refine ⟨?_,g2,g3⟩;simp only [World.cell?,M,Option.isSome_none,Bool.false_eq_true,if_false,Option.getD_some];rw [<- g1,zaa]
  cases n
 cases n
theorem zx (l:Gam X s ρ a w) {y:AV} {c:Value} {sz:Nat} {ys:List RV} {rd:List Nat} (e:src s.ob y=some (sz,ys,rd)) (hy:RA X s ρ w y c) :
 ∃(A:Option Addr) (cap:Nat) (news:List Value),c=.slice A ys.length cap/\(∀W:World,W.heap=w.heap->(Builtin.firstCells sz ys.length c).run P W=.ok news.toArray W)/\news.length=ys.length*sz/\(∀u∈news,u.oneCell'=true) /\
  (∀(i:Nat) (x:RV),ys[i]?=some x->x.cells.length=sz/\∀(j:Nat) (q:RV),x.cells[j]?=some q->∃u,news[i*sz+j]?=some u/\RelV w (d7 X.B s.ob ρ w) q u):=by
 obtain ⟨A,cap,news,k,f,d,g,h⟩:=ac2 (P:=P) l e hy;refine ⟨A,cap,news,k,fun W b=>?_,d,g,h⟩;rw [f ys.length (zad _) W b,zar (by omega)]
theorem aus {sz id ver lo n:Nat} {z':RV} {F:Bool} {E:List RV} {y:AV} {ys:List RV} {rd rd':List Nat} {t u e:TypeId} {inf:TypeInfo} {c:Call} {x v:Operand} {ok:Prop} (Z:Gam X s ρ a w) (ho:o.op=.call c) (hc:c.callee=.builtin .copy)
 (K:c.args=#[x,v]) (h5:c.argTypes=#[t,u]) (ht:P.underlying t=some (.slice e)) (hi:P.info? e=some inf) (hb:inf.size=sz)
 (hx:RA X s ρ w (.own id ver lo n) (a.eval x)) (hr:g7 s.ob id ver=some (sz,z',F,true,E)) (hy:RA X s ρ w y (a.eval v)) (hs:src s.ob y=some (sz,ys,rd)) :
 bv P X a w s o ⟨ok,int .i64 ((Nat.min ys.length n:Nat):Int),upd id (ver,.row sz z' F true (spl E lo (ys.take n))) s.ob,rd',[id]⟩:=by
 unfold spl;subst hb;have k:=m0 hr;simp only at k;obtain ⟨A2,c2,news,Y,h6,he,h1,O⟩:=ac2 (P:=P) Z hs hy;obtain ⟨A,cap,h8,e2,e3,e4,e5⟩:=gn hx hr;simp only at e4;obtain ⟨m,Q⟩:∃m,m=Nat.min ys.length n:=⟨_,rfl⟩
 have G:m<=ys.length:=by rw [Q]; exact Nat.min_le_left _ _
 have hl:m<=n:=by rw [Q]; exact Nat.min_le_right _ _
 have ha:ys.take n=ys.take m:=by
  rw [Q];rcases Nat.le_total ys.length n with h | h
  ·rw [zar h,zar (by rw [show Nat.min ys.length n=ys.length from zae h]; exact zad _)]
  rw [show Nat.min ys.length n=n from Nat.min_eq_right h]
 rw [<- Q,ha];have hf:=h6 m G;rw [Y] at hf
 have z:∀r,(Builtin.copy_ #[t,u] o.type #[.slice A n cap,.slice A2 ys.length c2]).run P w=r->(execOp a.eval o).run P w=r.andThen fun q w'=>.ok (.value q) w':=by
  rintro r rfl;simp [execOp,ho,resolve,hc,K,h5,invoke,builtin,h8,Y]
 by_cases h0:m=0
 ·subst h0;have h2:=hf w rfl;simp only [Nat.zero_mul,List.take_zero] at h2
  have M:(Builtin.copy_ #[t,u] o.type #[.slice A n cap,.slice A2 ys.length c2]).run P w=.ok (goInt 0) w:=by
   cases A<;>simp [Builtin.copy_,run_underlying ht,Builtin.lenOf,sizeOf,typeInfo,hi,<- Q,h2,storeCells]
  have d:=z _ M;simp only [Result.andThen_ok] at d;refine ⟨_,w,ρ,d,?_,.inl ⟨_,rfl,.r (.v _)⟩⟩;have e:c7 E lo (ys.take 0)=E:=by simp [c7]
  rw [e]
  rw [show upd id (ver,Ob.row inf.size z' F true E) s.ob=s.ob from by
   funext i;unfold upd;split
   ·rename_i h; rw [h,k]
   rfl]
  exact Z
 have hg:0<cap:=by omega
 obtain ⟨b,hn,ee,hw,R,f2,f3,f4⟩:=e5 hg;rcases Z.obj id ver _ k with ⟨q1,q2,_⟩ | ⟨b',cs,e',fr,h3,hh,U,S,H,I⟩
 ·rw [R] at q2; cases q2
 rw [R] at h3;cases h3
 have L:(news.take (m*inf.size)).length=m*inf.size:=by
  rw [zaj,he];exact zae (zac _ G)
 have J:(lo+m)*inf.size<=cs.size:=zap (zac _ (by omega)) H
 have B:lo*inf.size+(news.take (m*inf.size)).length<=cs.toList.length:=by
  rw [L,<- zaa];simpa using J
 have h7:∀u∈news.take (m*inf.size),u.oneCell'=true:=fun u hu=>h1 u (List.mem_of_mem_take hu);have W:=ua (P:=P) b (lo*inf.size) e' fr (news.take (m*inf.size)) 0 cs w hh U (by simpa using B) h7;have h9:=hf w rfl
 have M:(Builtin.copy_ #[t,u] o.type #[.slice A n cap,.slice A2 ys.length c2]).run P w=.ok (goInt m) (w.setRow b (c7 cs.toList (lo*inf.size) (news.take (m*inf.size))).toArray):=by
  simp only [zai] at W;simp [Builtin.copy_,run_underlying ht,Builtin.lenOf,sizeOf,typeInfo,hi,<- Q,h9,f2,W,c7]
 have d:=z _ M;simp only [Result.andThen_ok] at d;have N:=gm (w:=w) (cs:=(c7 cs.toList (lo*inf.size) (news.take (m*inf.size))).toArray) hh;have g:(c7 cs.toList (lo*inf.size) (news.take (m*inf.size))).length=cs.size:=by rw [m9 B]; simp
 have T:lo+(ys.take m).length<=E.length:=by rw [zaj,zae G]; omega
 have f:(c7 E lo (ys.take m)).length=E.length:=m9 T;have C:=Stays.modify (x':=.row inf.size z' F true (c7 E lo (ys.take m))) Z k rfl R hh N (by simpa using g) ver (.inl ⟨rfl,rfl,by rw [f]; exact zad _⟩);refine ⟨_,_,ρ,d,Z.modify k rfl R hh N (by simpa using g) ver (.inl ⟨rfl,rfl,by rw [f]; exact zad _⟩) (.inr ⟨rfl,⟨rfl,by rw [f]; exact zad _⟩,fun h=>h⟩) ?_,.inl ⟨_,rfl,.r (.v _)⟩⟩;refine .inr ⟨b,_,e',fr,R,N.new,by simpa [g] using U,S,by simpa [g,f] using H,fun i q D=>?_⟩;have V:=fun p=>u5 (l:=cs.toList) (m:=news.take (m*inf.size)) (i:=lo*inf.size) B p;rw [u5 T,zaj,zae G] at D;split at D
 ·rename_i h4;have D:=zu D;refine ⟨(O _ q D).1,fun j r hj=>?_⟩;obtain ⟨c,g1,g2⟩:=(O _ q D).2 j r hj;have hd:j<inf.size:=by have:=(zab.1 hj).1; have:=(O _ q D).1; omega
  have hp:(i-lo)*inf.size+j<m*inf.size:=by
   have:(i-lo+1)*inf.size<=m*inf.size:=zac _ (by omega);rw [zaa,zaf] at this;omega
  have hk:i*inf.size=lo*inf.size+(i-lo)*inf.size:=by rw [<- zaa,show lo+(i-lo)=i by omega]
  refine ⟨c,?_,h1 c (zal g1),g2.mono C.free⟩;rw [zag,V,L,if_pos (by omega),zan,if_pos (by omega),show i*inf.size+j-lo*inf.size=(i-lo)*inf.size+j by omega,g1]
 rename_i h4;refine ⟨(I i q D).1,fun j r hj=>?_⟩;obtain ⟨c,g1,g2,g3⟩:=(I i q D).2 j r hj;have hd:j<inf.size:=by have:=(zab.1 hj).1; have:=(I i q D).1; omega
 refine ⟨c,?_,g2,g3.mono C.free⟩;rw [zag,V,L,if_neg]
 ·simpa using g1
 rintro ⟨p1,p2⟩;apply h4;constructor
 ·rcases zas i lo with h | h
  ·have:(i+1)*inf.size<=lo*inf.size:=zac _ h;rw [zaa,zaf] at this;omega
  exact h
 rcases zas i (lo+m) with h | h
 ·exact h
 have:(lo+m)*inf.size<=i*inf.size:=zac _ h;rw [zaa] at this;omega
theorem aut {sz id ver lo n:Nat} {z':RV} {H:Bool} {E:List RV} {G:ByteArray} {ys:List RV} {rd':List Nat} {t u e:TypeId} {inf:TypeInfo} {c:Call} {x v:Operand} {ok:Prop} (hG:Gam X s ρ a w) (ho:o.op=.call c) (hc:c.callee=.builtin .copy)
 (M:c.args=#[x,v]) (h8:c.argTypes=#[t,u]) (ht:P.underlying t=some (.slice e)) (hi:P.info? e=some inf) (hk:inf.size=sz)
 (hx:RA X s ρ w (.own id ver lo n) (a.eval x)) (hr:g7 s.ob id ver=some (sz,z',H,true,E)) (hy:a.eval v=.string G) (O:sz=1) (T:ys=G.data.toList.map fun b=>RV.v (.int .u8 b.toNat)) :
 bv P X a w s o ⟨ok,int .i64 ((Nat.min ys.length n:Nat):Int),upd id (ver,.row sz z' H true (spl E lo (ys.take n))) s.ob,rd',[id]⟩:=by
 unfold spl;subst hk;have y:=m0 hr;simp only at y;have hn:a.eval v=.string G:=hy;have hb:G.size=ys.length:=by rw [T,List.length_map,zah]; rfl
 obtain ⟨news,F⟩:∃news:List Value,news=G.data.toList.map fun b=>Value.int .u8 b.toNat:=⟨_,rfl⟩
 have h9:∀m,m<=ys.length->∀W:World,W.heap=w.heap->(Builtin.firstCells inf.size m (.string G)).run P W=.ok (news.take (m*inf.size)).toArray W:=fun m R W _=>by
  rw [O,F];simp [Builtin.firstCells];apply Array.ext';simp [List.map_take]
 have hp:news.length=ys.length*inf.size:=by rw [O,F,T]; simp
 have h4:∀u∈news,u.oneCell'=true:=by
  rw [F];intro u hu;obtain ⟨c,_,rfl⟩:=List.mem_map.1 hu
  rfl
 have U:∀(i:Nat) (x:RV),ys[i]?=some x->x.cells.length=inf.size/\∀(j:Nat) (q:RV),x.cells[j]?=some q->∃u,news[i*inf.size+j]?=some u/\RelV w (d7 X.B s.ob ρ w) q u:=by
  rw [O,F,T];intro i x hx;rw [zam,zax] at hx;obtain ⟨c,hc,rfl⟩:=hx;refine ⟨rfl,fun j q g=>?_⟩;cases j with
  | succ j=>simp [RV.cells] at g
  | zero=>
    simp [RV.cells] at g;subst g;refine ⟨_,?_,.v _⟩;rw [Nat.mul_one,zai,zam,hc]
    rfl
 obtain ⟨A,cap,hd,e2,e3,e4,e5⟩:=gn hx hr;simp only at e4;obtain ⟨m,R⟩:∃m,m=Nat.min ys.length n:=⟨_,rfl⟩
 have I:m<=ys.length:=by rw [R]; exact Nat.min_le_left _ _
 have hz:m<=n:=by rw [R]; exact Nat.min_le_right _ _
 have hg:ys.take n=ys.take m:=by
  rw [R];rcases Nat.le_total ys.length n with h | h
  ·rw [zar h,zar (by rw [show Nat.min ys.length n=ys.length from zae h]; exact zad _)]
  rw [show Nat.min ys.length n=n from Nat.min_eq_right h]
 rw [<- R,hg];have hf:=h9 m I
 have z:∀r,(Builtin.copy_ #[t,u] o.type #[.slice A n cap,.string G]).run P w=r->(execOp a.eval o).run P w=r.andThen fun q w'=>.ok (.value q) w':=by
  rintro r rfl;simp [execOp,ho,resolve,hc,M,h8,invoke,builtin,hd,hn]
 by_cases h0:m=0
 ·subst h0;have h5:=hf w rfl;simp only [Nat.zero_mul,List.take_zero] at h5
  have Q:(Builtin.copy_ #[t,u] o.type #[.slice A n cap,.string G]).run P w=.ok (goInt 0) w:=by
   cases A<;>simp [Builtin.copy_,run_underlying ht,Builtin.lenOf,hb,sizeOf,typeInfo,hi,<- R,h5,storeCells]
  have d:=z _ Q;simp only [Result.andThen_ok] at d;refine ⟨_,w,ρ,d,?_,.inl ⟨_,rfl,.r (.v _)⟩⟩;have e:c7 E lo (ys.take 0)=E:=by simp [c7]
  rw [e]
  rw [show upd id (ver,Ob.row inf.size z' H true E) s.ob=s.ob from by
   funext i;unfold upd;split
   ·rename_i h; rw [h,y]
   rfl]
  exact hG
 have hs:0<cap:=by omega
 obtain ⟨b,g0,ee,g5,V,f2,f3,f4⟩:=e5 hs;rcases hG.obj id ver _ y with ⟨q1,q2,_⟩ | ⟨b',cs,e',fr,h6,hh,h1,Y,J,K⟩
 ·rw [V] at q2; cases q2
 rw [V] at h6;cases h6
 have N:(news.take (m*inf.size)).length=m*inf.size:=by
  rw [zaj,hp];exact zae (zac _ I)
 have L:(lo+m)*inf.size<=cs.size:=zap (zac _ (by omega)) J
 have C:lo*inf.size+(news.take (m*inf.size)).length<=cs.toList.length:=by
  rw [N,<- zaa];simpa using L
 have ha:∀u∈news.take (m*inf.size),u.oneCell'=true:=fun u hu=>h4 u (List.mem_of_mem_take hu);have h3:=ua (P:=P) b (lo*inf.size) e' fr (news.take (m*inf.size)) 0 cs w hh h1 (by simpa using C) ha;have he:=hf w rfl
 have Q:(Builtin.copy_ #[t,u] o.type #[.slice A n cap,.string G]).run P w=.ok (goInt m) (w.setRow b (c7 cs.toList (lo*inf.size) (news.take (m*inf.size))).toArray):=by
  simp only [zai] at h3;simp [Builtin.copy_,run_underlying ht,Builtin.lenOf,hb,sizeOf,typeInfo,hi,<- R,he,f2,h3,c7]
 have d:=z _ Q;simp only [Result.andThen_ok] at d;have S:=gm (w:=w) (cs:=(c7 cs.toList (lo*inf.size) (news.take (m*inf.size))).toArray) hh;have k:(c7 cs.toList (lo*inf.size) (news.take (m*inf.size))).length=cs.size:=by rw [m9 C]; simp
 have Z:lo+(ys.take m).length<=E.length:=by rw [zaj,zae I]; omega
 have f:(c7 E lo (ys.take m)).length=E.length:=m9 Z;have D:=Stays.modify (x':=.row inf.size z' H true (c7 E lo (ys.take m))) hG y rfl V hh S (by simpa using k) ver (.inl ⟨rfl,rfl,by rw [f]; exact zad _⟩);refine ⟨_,_,ρ,d,hG.modify y rfl V hh S (by simpa using k) ver (.inl ⟨rfl,rfl,by rw [f]; exact zad _⟩) (.inr ⟨rfl,⟨rfl,by rw [f]; exact zad _⟩,fun h=>h⟩) ?_,.inl ⟨_,rfl,.r (.v _)⟩⟩;refine .inr ⟨b,_,e',fr,V,S.new,by simpa [k] using h1,Y,by simpa [k,f] using J,fun i q g=>?_⟩;have h2:=fun p=>u5 (l:=cs.toList) (m:=news.take (m*inf.size)) (i:=lo*inf.size) C p;rw [u5 Z,zaj,zae I] at g;split at g
 ·rename_i h7;have g:=zu g;refine ⟨(U _ q g).1,fun j r hj=>?_⟩;obtain ⟨c,g1,g2⟩:=(U _ q g).2 j r hj;have hl:j<inf.size:=by have:=(zab.1 hj).1; have:=(U _ q g).1; omega
  have g4:(i-lo)*inf.size+j<m*inf.size:=by
   have:(i-lo+1)*inf.size<=m*inf.size:=zac _ (by omega);rw [zaa,zaf] at this;omega
  have hw:i*inf.size=lo*inf.size+(i-lo)*inf.size:=by rw [<- zaa,show lo+(i-lo)=i by omega]
  refine ⟨c,?_,h4 c (zal g1),g2.mono D.free⟩;rw [zag,h2,N,if_pos (by omega),zan,if_pos (by omega),show i*inf.size+j-lo*inf.size=(i-lo)*inf.size+j by omega,g1]
 rename_i h7;refine ⟨(K i q g).1,fun j r hj=>?_⟩;obtain ⟨c,g1,g2,g3⟩:=(K i q g).2 j r hj;have hl:j<inf.size:=by have:=(zab.1 hj).1; have:=(K i q g).1; omega
 refine ⟨c,?_,g2,g3.mono D.free⟩;rw [zag,h2,N,if_neg]
 ·simpa using g1
 rintro ⟨p1,p2⟩;apply h7;constructor
 ·rcases zas i lo with h | h
  ·have:(i+1)*inf.size<=lo*inf.size:=zac _ h;rw [zaa,zaf] at this;omega
  exact h
 rcases zas i (lo+m) with h | h
 ·exact h
 have:(lo+m)*inf.size<=i*inf.size:=zac _ h;rw [zaa] at this;omega
theorem ajh {t u ty e:TypeId} {inf:TypeInfo} {z:Value} {d:TypeId} (C:P.underlying t=some (.slice e)) (D:P.underlying u=some (.slice d)) (hi:P.info? e=some inf) (H:inf.zero=some z) (y:z.cells.size=inf.size)
 {A A2:Option Addr} {len cap m c2 g:Nat} {cur:Array Value} {e':TypeId} {olds news:List Value} (J:len<=cap) {fr:Nat×Nat} (R:0<cap->A=some ⟨g,0,none⟩/\w.heap[g]?=some (.cells cur e' fr)/\cap*inf.size<=cur.size) (v:0<cap->∀k,k<cur.size->¬(fr.1<=k/\k<fr.2))
 (o:∀W:World,W.heap=w.heap->(Builtin.firstCells inf.size len (.slice A len cap)).run P W=.ok olds.toArray W) (F:olds.length=len*inf.size)
 (b:∀W:World,W.heap=w.heap->(Builtin.firstCells inf.size m (.slice A2 m c2)).run P W=.ok news.toArray W) (B:news.length=m*inf.size) (N:∀u∈news,u.oneCell'=true)
 (h:len+m<=maxLen) (G:(len+m)*inf.bytes<=140737488355328) :
 (len+m<=cap/\(Builtin.append_ #[t,u] ty #[.slice A len cap,.slice A2 m c2]).run P w=.ok (.slice A (len+m) cap) (if 0<cap then w.setRow g (c7 cur.toList (len*inf.size) news).toArray else w)) \/
 (cap<len+m/\∃K E f,(Builtin.append_ #[t,u] ty #[.slice A len cap,.slice A2 m c2]).run P w=.ok (.slice (some ⟨w.heap.size,0,none⟩) (len+m) K) E/\len+m<=K/\K<=maxLen /\
  OneMore w E (.cells (olds++news++f).toArray e)/\(olds++news++f).length=K*inf.size):=by
 have p:len+m<=9223372036854775807:=by simp only [maxLen] at h; omega
 by_cases a:len+m<=cap
 ·refine .inl ⟨a,?_⟩;by_cases hc:0<cap
  ·obtain ⟨rfl,O,r⟩:=R hc
   have c:len*inf.size+news.length<=cur.size:=by
    rw [B,<- zaa]; exact zap (zac _ a) r
   have n:=ua (P:=P) g (len*inf.size) e' fr news 0 cur w O (v hc) (by simpa using c) N;simp only [zai] at n;simp [Builtin.append_,run_underlying C,run_underlying D,sizeOf,typeInfo,hi,Builtin.lenOf,a,b w rfl,z5,n,hc,c7]
  have Q:cap=0:=by omega
  subst Q;have M:len=0:=by omega
  have I:m=0:=by omega
  subst M; subst I;have l:news=[]:=zaz (by simpa using B);subst l;cases A<;>simp [Builtin.append_,run_underlying C,run_underlying D,sizeOf,typeInfo,hi,Builtin.lenOf,b w rfl,storeCells]
 refine .inr ⟨by omega,?_⟩;have c:Builtin.nextslicecap (len+m) cap*inf.bytes<=281474976710656:=growslice_fits (by omega) G;have s:=grownCap_ge w (len+m) cap e;have q:grownCap w (len+m) cap e<=maxLen:=grownCap_le_maxLen w (len+m) cap e h;refine ⟨grownCap w (len+m) cap e,w.drew.alloc (.cells (olds++news++(Builtin.zeroCells z.cells (grownCap w (len+m) cap e-(len+m))).toList).toArray e),(Builtin.zeroCells z.cells (grownCap w (len+m) cap e-(len+m))).toList,?_,s,q,gc _,?_⟩
 ·have j:¬(9223372036854775807<((len:Int)+(m:Int))):=by omega
  have i:¬(281474976710656<Builtin.nextslicecap (len+m) cap*inf.bytes):=by omega
  have L:=b w.drew rfl;have x:=o w.drew rfl;simp [Builtin.append_,run_underlying C,run_underlying D,sizeOf,typeInfo,zeroValue,hi,H,Builtin.lenOf,a,j,i,Question.forced,L,x,newRow,grownCap];congr 2;apply Array.ext';simp
 simp only [zat,F,B,zah,size_zeroCells,y,<- zaa];congr 1;omega
theorem aiz {d sz l:Nat} {V:RV} {J:Nat} {zz:RV} {y:AV} {ys:List RV} {rd:List Nat} {t u e f:TypeId} {inf:TypeInfo} {z:Value} {c:Call} {x v:Operand} {ok:Prop} (S:d<X.n) (D:Gam X s ρ a w) (Y:o.op=.call c) (hc:c.callee=.builtin .append)
 (B:c.args=#[x,v]) (F:c.argTypes=#[t,u]) (ht:P.underlying t=some (.slice e)) (hu:P.underlying u=some (.slice f)) (hi:P.info? e=some inf) (hz:inf.zero=some z) (Q:z.cells.size=inf.size) (L:inf.size=sz) (I:inf.bytes=l)
 (hx:RA X s ρ w (.nils J zz) (a.eval x)) (hy:RA X s ρ w y (a.eval v)) (hs:src s.ob y=some (sz,ys,rd)) (Z:ys.length*l<=140737488355328) (hm:ys.length<=maxLen) :
 bv P X a w s o (k8 s.ob d (.row sz V true true ys) (fun v=>.own d v 0 ys.length) ok rd []):=by
 subst L; subst I;obtain ⟨A2,c2,news,H,p,O,E,G⟩:=zx (P:=P) D hs hy;have M:a.eval x=.slice none 0 0:=by generalize a.eval x=c at hx; cases hx; rfl
 rw [H] at p
 have k:∀r,(Builtin.append_ #[t,u] o.type #[.slice none 0 0,.slice A2 ys.length c2]).run P w=r->(execOp a.eval o).run P w=r.andThen fun q T=>.ok (.value q) T:=by
  rintro r rfl;simp [execOp,Y,resolve,hc,B,F,invoke,builtin,M,H]
 rcases ajh (P:=P) (w:=w) (ty:=o.type) (A:=none) (A2:=A2) (len:=0) (cap:=0) (m:=ys.length) (c2:=c2) (g:=0) (cur:=#[]) (e':=0) (fr:=(0,0)) (olds:=[]) (news:=news) ht hu hi hz Q (zad _) (by simp) (by simp)
  (fun W _=>by simp [Builtin.firstCells]) (by simp) p O E (by omega) (by rw [zak]; exact Z) with ⟨hroom,hr⟩ | ⟨hgrow,K,T,rest,hr,hK1,hK2,hom,hlen⟩
 ·have h0:ys=[]:=zaz (by omega);subst h0;have b:=k _ hr;simp only [List.length_nil,zai,Nat.lt_irrefl,if_false,Result.andThen_ok] at b;exact ⟨_,w,k9 ρ d none,b,D.nil d _ (D.pnn d (adg (by have:=D.small; omega))) (fun v o h=>nk h) _ _ _,.inl ⟨_,rfl,.own _ _ _ _ _ rfl (dd ⟨none,0,rfl,zad _,by simp,by simp,by simp⟩)⟩⟩
 have b:=k _ hr;simp only [Result.andThen_ok,zak] at b hK1 hK2;have N:=Stays.alloc D hom d (nv s.ob d) (fun v o h=>nk h) (.row inf.size V true true ys);refine jd S D hom b (.inr ⟨w.heap.size,_,e,(0,0),by simp [k9],hom.new,by simp,fun _=>rfl,?_,fun i q U=>⟨(G i q U).1,fun j r hj=>?_⟩⟩) (.own _ _ _ _ _ rfl (dd ⟨_,K,rfl,hK1,hK2,by simp,fun _=>?_⟩))
 ·simp only [zau,hlen];exact zac _ hK1
 ·obtain ⟨u,C,R⟩:=(G i q U).2 j r hj;refine ⟨u,?_,E u (zal C),R.mono N.free⟩;have:=(zab.1 C).1;simp only [zag,List.nil_append];rw [zbg this,C]
 exact ⟨w.heap.size,_,e,(0,0),by simp [k9],by simp,hom.new,by simp only [zau,hlen,zak]; exact zad _⟩
theorem aiy {sz J id ver len:Nat} {z':RV} {D:Bool} {Q:List RV} {y:AV} {ys:List RV} {rd rd':List Nat} {t u e f:TypeId} {inf:TypeInfo} {z:Value} {c:Call} {x v:Operand} {ok:Prop} (G:Gam X s ρ a w) (ho:o.op=.call c) (hc:c.callee=.builtin .append)
 (h7:c.args=#[x,v]) (gb:c.argTypes=#[t,u]) (ht:P.underlying t=some (.slice e)) (hu:P.underlying u=some (.slice f)) (hi:P.info? e=some inf) (hz:inf.zero=some z) (gq:z.cells.size=inf.size) (gl:inf.size=sz) (gg:inf.bytes=J)
 (hx:RA X s ρ w (.own id ver 0 len) (a.eval x)) (hr:g7 s.ob id ver=some (sz,z',D,true,Q)) (E:(D || !par id)=true) (hy:RA X s ρ w y (a.eval v)) (hs:src s.ob y=some (sz,ys,rd)) (hb:(len+ys.length)*J<=140737488355328) (hm:len+ys.length<=maxLen) :
 bv P X a w s o ⟨ok,.own id (ver+1) 0 (len+ys.length),upd id (ver+1,.row sz z' D true (Q.take len++ys)) s.ob,rd',[id]⟩:=by
 subst gl; subst gg;have d:=m0 hr;simp only at d;obtain ⟨A2,c2,news,g0,W,ga,h9,T⟩:=zx (P:=P) G hs hy;obtain ⟨A1,e1,olds,ha,L,Y,e0,hd⟩:=zx (P:=P) (y:=.own id ver 0 len) (ys:=(Q.drop 0).take len) (rd:=[id]) (sz:=inf.size) G (by simp [src,hr]) hx;obtain ⟨A,cap,hh,e2,e3,Z,e5⟩:=gn hx hr;simp only [zak] at Z;have ge:((Q.drop 0).take len).length=len:=by simp; omega
 rw [ge] at ha L Y;rw [hh] at ha L;simp only [List.drop_zero] at hd
 injection ha with q1 _ q3
 subst q1; subst q3;rw [g0] at W
 have M:∀r,(Builtin.append_ #[t,u] o.type #[.slice A len cap,.slice A2 ys.length c2]).run P w=r->(execOp a.eval o).run P w=r.andThen fun q w'=>.ok (.value q) w':=by
  rintro r rfl;simp [execOp,ho,resolve,hc,h7,gb,invoke,builtin,hh,g0]
 have hw:0<cap->∃b cs e fr,ρ id=some b/\A=some ⟨b,0,none⟩/\w.heap[b]?=some (.cells cs e fr)/\(∀k,k<cs.size->¬(fr.1<=k/\k<fr.2))/\(D=true->fr=(0,0))/\cap*inf.size<=cs.size/\∀(i:Nat) (x:RV),Q[i]?=some x->x.cells.length=inf.size/\∀(j:Nat) (y:RV),x.cells[j]?=some y->∃c,cs[i*inf.size+j]?=some c/\c.oneCell'=true/\RelV w (d7 X.B s.ob ρ w) y c:=fun h0=>by
  obtain ⟨b,cs,ee,fr,f1,f2,f3,f4⟩:=e5 h0;rcases G.obj id ver _ d with ⟨h1,h2,_⟩ | ⟨b',gd,e',hp,C,F,g3,g4,g5,g6⟩
  ·rw [f1] at h2; cases h2
  rw [f1] at C; cases C;rw [f3] at F; cases F;exact ⟨b,cs,ee,fr,f1,by simpa using f2,f3,g3,g4,by simpa using f4,g6⟩
 obtain ⟨g,cur,e',fr,hA⟩:∃g cur e' fr,(0<cap->A=some ⟨g,0,none⟩/\w.heap[g]?=some (.cells cur e' fr)/\cap*inf.size<=cur.size/\(∀k,k<cur.size->¬(fr.1<=k/\k<fr.2))/\(D=true->fr=(0,0))/\ρ id=some g/\∀(i:Nat) (x:RV),Q[i]?=some x->x.cells.length=inf.size/\∀(j:Nat) (y:RV),x.cells[j]?=some y->∃c,cur[i*inf.size+j]?=some c/\c.oneCell'=true/\RelV w (d7 X.B s.ob ρ w) y c):=by
  by_cases h0:0<cap
  ·obtain ⟨b,cs,e,fr,h1,h2,h3,hf,he,h4,h5⟩:=hw h0;exact ⟨b,cs,e,fr,fun _=>⟨h2,h3,h4,hf,he,h1,h5⟩⟩
  exact ⟨0,#[],0,(0,0),fun h=>absurd h h0⟩
 rcases ajh (P:=P) (w:=w) (ty:=o.type) (A:=A) (A2:=A2) (len:=len) (cap:=cap) (m:=ys.length) (c2:=c2) (g:=g) (cur:=cur) (e':=e') (olds:=olds) (news:=news) (fr:=fr) ht hu hi hz gq e2 (fun h=>⟨(hA h).1,(hA h).2.1,(hA h).2.2.1⟩) (fun h=>(hA h).2.2.2.1)
  L Y W ga h9 hm hb with ⟨hroom,hrn⟩ | ⟨hgrow,K,w',rest,hrn,hK1,hK2,hom,hlenK⟩
 ·have n:=M _ hrn;by_cases h0:0<cap
  ·obtain ⟨gu,hg,h8,hf,he,S,h6⟩:=hA h0;simp only [h0,if_true,Result.andThen_ok] at n
   have U:len*inf.size+news.length<=cur.toList.length:=by
    rw [ga,<- zaa]; simp only [zah]; exact zap (zac _ hroom) h8
   have R:=gm (w:=w) (cs:=(c7 cur.toList (len*inf.size) news).toArray) hg;have N:(c7 cur.toList (len*inf.size) news).length=cur.size:=by rw [m9 U]; simp
   have I:=Stays.modify (x':=.row inf.size z' D true (Q.take len++ys)) G d rfl S hg R (by simpa using N) (ver+1) (.inr (zav _));refine ⟨_,_,ρ,n,G.modify d rfl S hg R (by simpa using N) (ver+1) (.inr (zav _)) (.inl (G.unpinned d E)) ?_,.inl ⟨_,rfl,.own _ _ _ _ _ rfl (dd ?_)⟩⟩
   ·refine .inr ⟨g,_,e',fr,S,R.new,by simpa [N] using hf,he,?_,fun i q H=>?_⟩
    ·simp only [zau,N,zat,zaj,zae Z];exact zap (zac _ hroom) h8
    have hk:=fun p=>u5 (l:=cur.toList) (m:=news) (i:=len*inf.size) U p;rw [zbd,zaj,zae Z] at H;split at H
    ·rename_i O;rw [zan,if_pos O] at H;refine ⟨(h6 i q H).1,fun j r V=>?_⟩;obtain ⟨c,C,F,g3⟩:=(h6 i q H).2 j r V;refine ⟨c,?_,F,g3.mono I.free⟩;have e6:j<inf.size:=by have:=(zab.1 V).1; have:=(h6 i q H).1; omega
     rw [zag,hk,if_neg]
     ·simpa using C
     have:(i+1)*inf.size<=len*inf.size:=zac _ O;rw [zaa,zaf] at this;omega
    rename_i O;refine ⟨(T _ q H).1,fun j r V=>?_⟩;obtain ⟨c,C,F⟩:=(T _ q H).2 j r V;refine ⟨c,?_,h9 c (zal C),F.mono I.free⟩;have gx:=(zab.1 C).1
    have hl:len*inf.size+((i-len)*inf.size+j)=i*inf.size+j:=by
     rw [<- Nat.add_assoc,<- zaa,show len+(i-len)=i by omega]
    rw [zag,hk,if_pos (by omega),show i*inf.size+j-len*inf.size=(i-len)*inf.size+j by omega,C]
   refine ⟨A,cap,rfl,hroom,e3,by simp [zae Z],fun _=>⟨g,_,e',fr,S,by simpa using gu,R.new,?_⟩⟩;simp only [zau,N,zak];exact h8
  have gv:cap=0:=by omega
  subst gv;have gp:len=0:=by omega
  have gy:ys=[]:=zaz (by omega);subst gp; subst gy;simp only [Nat.lt_irrefl,if_false,Result.andThen_ok] at n;cases D with
  | true=>exact ⟨_,w,k9 ρ id none,n,G.nil id (ver+1) (G.unpinned d E) (fun v o h=>by rw [d] at h; cases h; exact zav _) _ _ _,.inl ⟨_,rfl,.own _ _ _ _ _ rfl (dd ⟨A,0,rfl,zad _,by simp,by simp,by simp⟩)⟩⟩
  | false=>
    rcases G.obj id ver _ d with ⟨_,_,q3⟩ | ⟨b',gd,e2,hp,C,F,g3,g4,g5,g6⟩
    ·cases q3
    refine ⟨_,w,ρ,n,G.modify (x':=.row inf.size z' false true []) d rfl C F (Mods.same F) rfl (ver+1) (.inr (zav _)) (.inl (G.unpinned d E)) (.inr ⟨b',gd,e2,hp,C,F,g3,(fun h=>by cases h),by simp,by simp⟩),.inl ⟨_,rfl,.own _ _ _ _ _ rfl (dd ⟨A,0,rfl,zad _,by simp,by simp,by simp⟩)⟩⟩
 have n:=M _ hrn;simp only [Result.andThen_ok] at n;have I:=Stays.alloc G hom id (ver+1) (fun v o h=>by rw [d] at h; cases h; exact zav _) (.row inf.size z' D true (Q.take len++ys));refine ⟨_,w',k9 ρ id (some w.heap.size),n,G.alloc hom id (ver+1) (G.unpinned d E) (fun v o h=>by rw [d] at h; cases h; exact zav _) _ (.inr ⟨w.heap.size,_,e,(0,0),by simp [k9],hom.new,by simp,fun _=>rfl,?_,fun i q H=>?_⟩),.inl ⟨_,rfl,.own _ _ _ _ _ rfl (dd ⟨_,K,rfl,hK1,hK2,by simp [zae Z],fun _=>⟨w.heap.size,_,e,(0,0),by simp [k9],by simp,hom.new,?_⟩⟩)⟩⟩
 ·simp only [zau,hlenK,zat,zaj,zae Z];exact zac _ hK1
 ·rw [zbd,zaj,zae Z] at H;split at H
  ·rename_i O;have hn:((Q.take len))[i]?=some q:=H;refine ⟨(hd i q hn).1,fun j r V=>?_⟩;obtain ⟨c,C,F⟩:=(hd i q hn).2 j r V;refine ⟨c,?_,e0 c (zal C),F.mono I.free⟩;have:=(zab.1 C).1;rw [zag,zbc,zbg this,C]
  rename_i O;refine ⟨(T _ q H).1,fun j r V=>?_⟩;obtain ⟨c,C,F⟩:=(T _ q H).2 j r V;refine ⟨c,?_,h9 c (zal C),F.mono I.free⟩;have gx:=(zab.1 C).1
  have hl:len*inf.size+((i-len)*inf.size+j)=i*inf.size+j:=by
   rw [<- Nat.add_assoc,<- zaa,show len+(i-len)=i by omega]
  rw [zag,zbc,List.getElem?_append_right (by omega),Y,zbg (by omega),show i*inf.size+j-len*inf.size=(i-len)*inf.size+j by omega,C]
 simp only [zau,hlenK,zak];exact zad _
theorem acm:∀(l:List Value) (j b:Nat) (a:Array Value),b+j+l.length<=a.size ->
 ((l.zipIdx j).foldl (fun cs (p:Value×Nat)=>cs.setIfInBounds (b+p.2) p.1) a).toList=c7 a.toList (b+j) l
 | [],j,b,a,h=>by simp [c7]
 | v::l,j,b,a,h=>by
   simp only [zba] at h;rw [List.zipIdx_cons,List.foldl_cons,acm l (j+1) b _ (by simp; omega)];have e:=list_seg_step a.toList (b+j) v l (by simp; omega);simpa [c7,Array.toList_setIfInBounds,Nat.add_assoc] using e
theorem ah6 {sz:Nat}:∀(vs:List Value) (k:Nat) (a:Array Value),(∀v∈vs,v.cells.size=sz)->a.size=(k+vs.length)*sz ->
 ∃r,Instr.fill (fun i=>some (i*sz,sz)) a ((List.range' k vs.length).zip vs)=some r/\r.toList=a.toList.take (k*sz)++vs.flatMap (fun v=>v.cells.toList)
 | [],k,a,h,hs=>by
   refine ⟨a,by simp [Instr.fill],?_⟩;simp only [List.flatMap_nil,List.append_nil];rw [zar];simp [hs]
 | v::vs,k,a,h,hs=>by
   have hv:=h v (by simp)
   have b:k*sz+v.cells.size<=a.size:=by
    rw [hs,hv];simp only [zba]
    calc k*sz+sz=(k+1)*sz:=by rw [zaa,zaf]
     _<=(k+(vs.length+1))*sz:=zac _ (by omega)
   have e:=acm v.cells.toList 0 (k*sz) a (by simpa using b);simp only [zai] at e
   have c:(v.cells.zipIdx.foldl (fun cs (p:Value×Nat)=>cs.setIfInBounds (k*sz+p.2) p.1) a).toList=c7 a.toList (k*sz) v.cells.toList:=by
    rw [<- e,<- Array.foldl_toList,Array.toList_zipIdx]
   have d:(c7 a.toList (k*sz) v.cells.toList).length=a.size:=by rw [m9 (by simpa using b)]; simp
   obtain ⟨r,g,f⟩:=ah6 vs (k+1) (v.cells.zipIdx.foldl (fun cs (p:Value×Nat)=>cs.setIfInBounds (k*sz+p.2) p.1) a) (fun u j=>h u (by simp [j])) (by
    rw [<- zah,c,d,hs];simp only [zba];congr 1
    omega)
   refine ⟨r,?_,?_⟩
   ·simp only [zba,List.range'_succ,List.zip_cons_cons,Instr.fill];rw [if_neg (by simp [hv]; omega)];exact g
   rw [f,c];simp only [zbh,<- zbc];congr 1
   have l:(a.toList.take (k*sz)++v.cells.toList).length=(k+1)*sz:=by
    rw [zat,zaj,zae (by simp; omega),zah,hv,zaa,zaf]
   exact List.take_left' l
theorem aka {sz:Nat} (f:Value->List Value):∀(vs:List Value) (i j:Nat) (v:Value),(∀v∈vs,(f v).length=sz)->vs[i]?=some v->j<sz->(vs.flatMap f)[i*sz+j]?=(f v)[j]?
 | [],i,j,v,h,hi,hj=>by simp at hi
 | u::vs,0,j,v,h,hi,hj=>by
   simp at hi; subst hi;have:=h u (by simp);rw [Nat.zero_mul,zak,zbh,zbg (by omega)]
 | u::vs,i+1,j,v,h,hi,hj=>by
   simp at hi;have a:=h u (by simp);rw [zbh,List.getElem?_append_right (by rw [a,zaa]; omega),a,show (i+1)*sz+j-sz=i*sz+j by rw [zaa]; omega];exact aka f vs i j v (fun v hv=>h v (by simp [hv])) hi hj
theorem ah3 {sz:Nat} (f:Value->List Value):∀(vs:List Value),(∀v∈vs,(f v).length=sz)->(vs.flatMap f).length=vs.length*sz
 | [],_=>by simp
 | u::vs,h=>by
   rw [zbh,zat,h u (by simp),ah3 f vs (fun v hv=>h v (by simp [hv])),zba,zaa];omega
theorem ah9 (u:Gam X s ρ a w) {e:Env} {ob:Obs} {l:List Nat} (C:e=s.e) (d:s.ob=Ev.freeze ob l):∀{r:List (Nat×Operand)} {v:List Opd} {p:Prop} {ys:List RV} {n:List Nat},o6 (fun p q=>opd p.2 q) r v=true->s5 e ob true v=some (p,ys,n)->p ->
 (∀i∈n,i∈l)->ys.length=r.length/\∀(i:Nat) (y:RV) (q:Nat×Operand),ys[i]?=some y->r[i]?=some q->RelV w (d7 X.B s.ob ρ w) y (a.eval q.2)
 | [],[],p,ys,n,_,h,_,_=>by simp [s5] at h; simp [h.2.1.symm]
 | q::r,o::v,p,ys,n,hall,h,hp,hs=>by
   simp [o6] at hall;simp only [s5] at h;split at h
   ·rename_i y k L M j f F;cases h;obtain ⟨D,E⟩:=ah9 u C d hall.2 F hp.2 (fun i hi=>hs i (by simp [hi]));refine ⟨by simp [D],fun i K I hy t=>?_⟩;cases i with
    | succ i=>
      simp at hy t;exact E i K I hy t
    | zero=>
      simp at hy t;subst hy; subst t; subst C;have hx:=d5 u rfl hall.1 hp.1;generalize (o.ev s.e).bare=x at hx f;unfold AV.elt at f;split at f
      ·rename_i A;split at f
       ·rename_i G J b;cases f;generalize a.eval q.2=c at hx;cases hx;rename_i cs H m;refine .agg _ _ (by rw [gj b]; exact H) fun i y c hy hc=>?_;have z:i<A.length:=by have:=(zab.1 hy).1; have:=gj b; omega
        have g:A[i]?=some A[i]:=by simp [z]
        exact xc u d b (fun i hi=>hs i (by simp [hi])) i _ y c g hy (m i _ c g hc)
       cases f
      exact ac7 u f (fun i hi=>hs i (by simp [hi])) d hx
   cases h
 | [],_::_,_,_,_,h,_,_,_=>by cases h
 | _::_,[],_,_,_,h,_,_,_=>by cases h
theorem adx {R:Nat->Prop} {y:RV} {c:Value} {sz:Nat} (h:RelV w R y c) (i:y.good sz=true):c.cells.size=sz/\∀(j:Nat) (q:RV),y.cells[j]?=some q->∃u,c.cells[j]?=some u/\u.oneCell'=true/\RelV w R q u:=by
 simp only [RV.good,zbi,beq_iff_eq] at i;obtain ⟨d,e⟩:=i;cases h with
 | v x=>
   simp only [RV.cells,List.all_cons,List.all_nil,Bool.and_true,List.length_singleton] at d e;rw [afy e];refine ⟨by simpa using d,fun j q a=>?_⟩;cases j with
   | zero=>simp [RV.cells] at a; subst a; exact ⟨_,rfl,e,.v _⟩
   | succ j=>simp [RV.cells] at a
 | agg xs cs hl h=>
   simp only [RV.cells] at d e;refine ⟨by simp [Value.cells,hl,d],fun j q a=>?_⟩;have f:=(zab.1 a).1;simp only [RV.cells] at f a;have hc:cs[j]?=some cs[j]:=by simp [show j<cs.size by omega]
   have:=h j q _ a hc;refine ⟨_,hc,agx this ?_,this⟩;have:=(zab.1 a).2;rw [<- this];exact zao.1 e _ (zay _)
 | sl k xs A cap hc hm b o g hA hz hg' hr=>
   simp only [RV.cells,List.length_singleton] at d;refine ⟨by simpa [Value.cells] using d,fun j q a=>?_⟩;cases j with
   | zero=>simp [RV.cells] at a; subst a; exact ⟨_,rfl,rfl,.sl k xs A cap hc hm b o g hA hz hg' hr⟩
   | succ j=>simp [RV.cells] at a
theorem auv {d sz m:Nat} {z:RV} {t e:TypeId} {inf:TypeInfo} {L:Value} {g:Array (Nat×Operand)} {M:List Opd} {p:Prop} {ys:List RV} {A:List Nat} {ok:Prop} (U:d<X.n) (hG:Gam X s ρ a w) (ho:o.op=.buildSlice t m g) (ht:P.underlying t=some (.slice e)) (hi:P.info? e=some inf)
 (hz:inf.zero=some L) (O:inf.size=sz) (hm:m=M.length) (C:o6 (fun p q=>opd p.2 q) g.toList M=true) (R:g.toList.map (·.1)=List.range m) (h1:m*sz<=16777216) (Y:m<=16777216)
 (N:s5 s.e s.ob true M=some (p,ys,A)) (hp:p) (c:ys.all (·.good sz)=true) (hd:d∉A) :
 bv P X a w s o (k8 (Ev.freeze s.ob A) d (.row sz z true true ys) (fun v=>.own d v 0 ys.length) ok A A):=by
 have E:=Gam.freeze (s:=s) A (ob:=s.ob) hG;obtain ⟨h2,B⟩:=ah9 (s:=⟨s.e,Ev.freeze s.ob A⟩) (ob:=s.ob) (l:=A) E rfl rfl C N hp (fun _ h=>h);subst O;have D:g.toList.length=m:=by rw [dk C,hm]
 have b:∀v∈g.toList.map (fun q=>a.eval q.2),v.cells.size=inf.size:=fun v hv=>by
  obtain ⟨i,hi⟩:=zbe.1 hv;rw [zam,zax] at hi;obtain ⟨q,I,rfl⟩:=hi;have S:=(zab.1 I).1;have hy:ys[i]?=some (ys[i]'(by omega)):=by simp [show i<ys.length by omega]
  exact (adx (B i _ q hy I) (zao.1 c _ (zay _))).1
 have f:(g.map fun (i,x)=>(i,a.eval x)).toList=(List.range' 0 m).zip (g.toList.map fun q=>a.eval q.2):=by
  rw [<- List.range_eq_range',<- R];simp only [Array.toList_map];generalize g.toList=l
  induction l with
  | nil=>rfl
  | cons q l ih=>simp [ih]
 obtain ⟨r,k,J⟩:=ah6 (sz:=inf.size) (g.toList.map fun q=>a.eval q.2) 0 ((Array.range (m*inf.size)).map (fun i=>(if m*inf.size=0 then (#[]:Array Value) else L.cells)[i%(if m*inf.size=0 then (#[]:Array Value) else L.cells).size]!)) b (by simp [D])
 have F:(execOp a.eval o).run P w=.ok (.value (.slice (some ⟨w.heap.size,0,none⟩) m m)) (w.alloc (.cells r e)):=by
  rw [List.length_map,D] at k;simp only [execOp,ho,Instr.buildSlice,Sem.run_bind,run_underlying ht,Result.andThen_ok,sizeOf,typeInfo,run_program,hi,Sem.run_pure,if_neg (show ¬(m*inf.size>2^24) by omega)];by_cases Z:m*inf.size=0
  ·simp only [Z,if_true,Sem.run_pure,Result.andThen_ok,f] at k |-;simp only [k,newRow,Sem.run_bind,run_newObj,Result.andThen_ok,Sem.run_pure]
   rfl
  simp only [Z,if_false,zeroValue,typeInfo,Sem.run_bind,run_program,hi,hz,Result.andThen_ok,Sem.run_pure,f] at k |-;simp only [k,newRow,Sem.run_bind,run_newObj,Result.andThen_ok,Sem.run_pure]
  rfl
 have K:ys.length=m:=by omega
 have H:r.size=m*inf.size:=by
  rw [<- zah,J,zat,ah3 (sz:=inf.size) _ _ (fun v hv=>by simpa using b v hv)];simp [D]
 have Q:=Stays.alloc E (r2 (.cells r e)) d (nv (Ev.freeze s.ob A) d) (fun v o h=>nk h) (.row inf.size z true true ys)
 refine jd (s:=s) U E (r2 _) F (.inr ⟨w.heap.size,r,e,(0,0),by simp [k9],(r2 _).new,by simp,fun _=>rfl,by rw [K,H]; exact zad _,fun i y hy=>⟨?_,fun j q hj=>?_⟩⟩)
  (.own _ _ _ _ _ rfl (dd ⟨_,m,by rw [K],by omega,?_,by simp,fun _=>⟨w.heap.size,r,e,(0,0),by simp [k9],by simp,(r2 _).new,by rw [zak,H]; exact zad _⟩⟩))
 ·have:=zao.1 c y (zal hy);simp only [RV.good,zbi,beq_iff_eq] at this;exact this.1
 ·have S:=(zab.1 hy).1;have I:g.toList[i]?=some (g.toList[i]'(by omega)):=by simp [show i<g.size by rw [<- zah]; omega]
  have W:=zao.1 c y (zal hy);obtain ⟨g1,g2⟩:=adx (B i y _ hy I) W;obtain ⟨u,G,T,V⟩:=g2 j q hj;have h3:=(Array.getElem?_eq_some_iff.1 G).1;refine ⟨u,?_,T,V.mono Q.free⟩;rw [<- zbb,J];simp only [Nat.zero_mul,List.take_zero,List.nil_append];rw [aka (sz:=inf.size) _ _ i j (a.eval (g.toList[i]'(by omega)).2) (fun v hv=>by simpa using b v hv) (by rw [zam,I]; rfl) (by omega)];simpa using G
 simp only [maxLen]; omega
theorem auo {sz id ver lo n:Nat} {H:RV} {I:List RV} {t e:TypeId} {x:Operand} {ok:Prop} {rd':List Nat} (E:Gam X s ρ a w) (M:o.op=.convert t t x) (ht:P.underlying t=some (.slice e)) (S:P.underlying e=some (.int .u8))
 (hx:RA X s ρ w (.own id ver lo n) (a.eval x)) (J:g7 s.ob id ver=some (sz,H,true,true,I)) (hn:0<n) :
 bv P X a w s o ⟨ok,.own id ver lo n,upd id (ver,.row sz H false true I) s.ob,rd',[id]⟩:=by
 have d:=m0 J;simp only at d;obtain ⟨A,cap,F,e2,e3,V,e5⟩:=gn hx J;simp only at V;obtain ⟨b,W,ee,Y,m,Z,f3,f4⟩:=e5 (by omega);rcases E.obj id ver _ d with ⟨q1,L,_⟩ | ⟨b',cs,e',fr,u,C,T,r,z,v⟩
 ·rw [m] at L; cases L
 rw [m] at u;cases u;obtain rfl:fr=(0,0):=r rfl
 have G:w.shape? b=some (e',cs.size):=by
  unfold World.shape?;rw [C]
 have U:b<w.heap.size:=(Array.getElem?_eq_some_iff.1 C).1;obtain ⟨l,D⟩:∃l,w.freeze ⟨b,cs.size,none⟩ 1=l:=⟨_,rfl⟩
 have f:Mods w l b (.cells cs e' (cs.size,cs.size+1)):=by
  rw [<- D];unfold World.freeze;rw [if_neg (by decide)];refine ⟨rfl,rfl,rfl,by simp,?_,fun k K=>?_⟩
  ·simp only [Array.getElem?_modify,if_true,C,Option.map_some]
   rfl
  simp only [Array.getElem?_modify];rw [if_neg (fun e=>K e.symm)]
 have g:(convert t t (a.eval x)).run P w=.ok (a.eval x) l:=by
  rw [F,Z];simp [convert,run_underlying ht,run_underlying S,markStringish,G];exact D
 have p:(execOp a.eval o).run P w=.ok (.value (a.eval x)) l:=by
  simp only [execOp,M,Sem.run_bind,g,Result.andThen_ok,Sem.run_pure]
 have B:=Stays.modify (x':=.row sz H false true I) E d rfl m C f rfl ver (.inl ⟨rfl,rfl,zad _⟩);refine ⟨_,l,ρ,p,E.modify d rfl m C f rfl ver (.inl ⟨rfl,rfl,zad _⟩) (.inl (E.unpinned d rfl)) ?_,.inl ⟨_,rfl,hx.stays B⟩⟩;refine .inr ⟨b,cs,e',_,m,f.new,fun k K=>(by simp; omega),fun h=>(by cases h),z,fun i y hy=>⟨(v i y hy).1,fun j q O=>?_⟩⟩;obtain ⟨c,Q,R,N⟩:=(v i y hy).2 j q O;exact ⟨c,Q,R,N.mono B.free⟩
theorem aix {d:Nat} {z:RV} {t u e:TypeId} {inf:TypeInfo} {x:Operand} {b:ByteArray} {ok:Prop} (C:d<X.n) (E:Gam X s ρ a w) (F:o.op=.convert t u x) (J:P.underlying t=some .string) (K:P.underlying u=some (.slice e)) (I:P.underlying e=some (.int .u8))
 (hx:a.eval x=.string b) (G:b.size<=maxLen):bv P X a w s o (k8 s.ob d (.row 1 z false true (b.data.toList.map fun b=>.v (.int .u8 b.toNat))) (fun v=>.own d v 0 b.size) ok [] []):=by
 have p:=grownCap_ge w b.size 0 e;have A:=grownCap_le_maxLen w b.size 0 e G;have l:b.data.size=b.size:=rfl;generalize g:bytesRow b (grownCap w b.size 0 e)=f;have r:f.size=grownCap w b.size 0 e:=by rw [<- g]; simp [bytesRow,l]; omega
 have m:(execOp a.eval o).run P w=.ok (.value (.slice (some ⟨w.heap.size,0,none⟩) b.size (grownCap w b.size 0 e))) (w.drew.alloc (.cells f e (f.size,f.size+1))):=by
  have:=run_bytes_of_string (P:=P) w t u e b J K I;rw [g] at this;simp only [execOp,F,hx,Sem.run_bind,this,Result.andThen_ok,Sem.run_pure]
 have H:=Stays.alloc E (gc (.cells f e (f.size,f.size+1))) d (nv s.ob d) (fun v o h=>nk h) (.row 1 z false true (b.data.toList.map fun b=>.v (.int .u8 b.toNat)))
 refine jd C E (gc _) m (.inr ⟨w.heap.size,f,e,_,by simp [k9],(gc _).new,fun k L=>by simp; omega,by simp,by simp [l,r,p],fun i y hy=>?_⟩)
  (.own _ _ _ _ _ rfl (dd ⟨_,_,rfl,p,A,by simp [l],fun _=>⟨w.heap.size,f,e,_,by simp [k9],by simp,(gc _).new,by simp [r]⟩⟩))
 rw [zam,zax] at hy;obtain ⟨c,hc,rfl⟩:=hy;refine ⟨rfl,fun j q D=>?_⟩;cases j with
 | succ j=>simp [RV.cells] at D
 | zero=>
   simp [RV.cells] at D;subst D;refine ⟨_,?_,rfl,.v _⟩;have B:=(zab.1 hc).1;simp only [zah] at B;rw [<- g];unfold bytesRow;rw [Array.getElem?_append_left (by simp; omega)];simp at hc |-;exact ⟨c,by simpa using hc,rfl⟩
theorem at6 {a b:Value} (h:eqv a b=true):a.oneCell'=true:=by
 unfold eqv at h;split at h<;>first | rfl | cases h
theorem aez {R:Nat->Prop} {v:Value} {q:RV} (h:eqr v q=true):v.oneCell'=true/\RelV w R q v:=by
 unfold eqr at h;split at h
 ·exact ⟨rfl,.sl _ [] none 0 (by simp) (by simp) 0 0 (fun _ _=>undef) (by simp) (by simp) (by simp) (by simp)⟩
 ·refine ⟨at6 h,?_⟩;rw [ad0 h];exact .v _
 cases h
theorem aup {d sz f:Nat} {z:RV} {t e:TypeId} {inf:TypeInfo} {v:Value} {x y:Operand} {k K:IntKind} {l c:Int} {ok:Prop} (I:d<X.n) (U:Gam X s ρ a w) (L:o.op=.makeSlice t x y) (S:P.underlying t=some (.slice e)) (hi:P.info? e=some inf) (N:inf.zero=some v)
 (C:inf.size=sz) (B:inf.bytes=f) (p:o6 eqr v.cells.toList z.cells=true) (r:v.cells.size=sz) (hx:a.eval x=.int k l) (hy:a.eval y=.int K c) (R:0<=l) (E:l<=c) (hc:c<=maxLen) (M:c*f<=281474976710656) :
 bv P X a w s o (k8 s.ob d (.row sz z true true (ww l z)) (fun v=>.own d v 0 l.toNat) ok [] []):=by
 subst C; subst B;have F:(c:Int)<=9223372036854775807:=by simp only [maxLen] at hc; omega
 have g:=run_make (P:=P) w t e inf v S hi N k K l c R E (by rw [Int.mul_comm]; exact M) F
 have m:(execOp a.eval o).run P w=.ok (.value (.slice (some ⟨w.heap.size,0,none⟩) l.toNat c.toNat)) (w.alloc (.cells (madeCells v.cells (c.toNat*inf.size)) e)):=by
  simp only [execOp,L,hx,hy,Sem.run_bind,g,Result.andThen_ok,Sem.run_pure]
 have b:=size_madeCells v.cells (c.toNat*inf.size)
 refine jd I U (r2 _) m (.inr ⟨w.heap.size,_,e,(0,0),by simp [k9],(r2 _).new,by simp,fun _=>rfl,?_,fun i q A=>?_⟩)
  (.own _ _ _ _ _ rfl (dd ⟨_,_,rfl,by omega,by simp only [maxLen] at hc |-; omega,by simp [ww],fun _=>⟨w.heap.size,_,e,(0,0),by simp [k9],by simp,(r2 _).new,by rw [b,zak]; exact zad _⟩⟩))
 ·rw [b];simp only [ww,zbj];exact zac _ (by omega)
 simp only [ww,List.getElem?_replicate] at A;split at A
 ·rename_i T;cases A;have D:z.cells.length=inf.size:=by rw [<- dk p]; simpa using r
  refine ⟨D,fun j q J=>?_⟩;have Q:=(zab.1 J).1;have G:v.cells[j]?=some (v.cells[j]'(by omega)):=by simp [show j<v.cells.size by omega]
  have O:=uf p (i:=j) (by rw [zbb]; exact G) J
  have h:(madeCells v.cells (c.toNat*inf.size))[i*inf.size+j]?=some (v.cells[j]'(by omega)):=by
   have H:i*inf.size+j<c.toNat*inf.size:=by
    have:(i+1)*inf.size<=c.toNat*inf.size:=zac _ (by omega);rw [zaa,zaf] at this;omega
   have u:(i*inf.size+j)%v.cells.size=j:=by
    rw [r,zaq,Nat.mul_add_mod,Nat.mod_eq_of_lt (by omega)]
   simp [madeCells,H,u,show j<v.cells.size by omega]
  exact ⟨_,h,aez O⟩
 cases A
theorem asc {z:Array Value} {n sz i j:Nat} (c:z.size=sz) (hi:i<n) (d:j<sz):(Builtin.zeroCells z n).toList[i*sz+j]?=z[j]?:=by
 have b:i*sz+j<n*z.size:=by
  have:(i+1)*sz<=n*sz:=zac _ (by omega);rw [zaa,zaf] at this;rw [c];omega
 have a:(i*sz+j)%z.size=j:=by
  rw [c,zaq,Nat.mul_add_mod,Nat.mod_eq_of_lt (by omega)]
 rw [zbb];simp [Builtin.zeroCells,b,a,show j<z.size by omega]
theorem auu {sz id ver lo n:Nat} {z z':RV} {G:Bool} {H:List RV} {rd':List Nat} {t e:TypeId} {inf:TypeInfo} {v:Value} {c:Call} {x:Operand} {ok:Prop} (hG:Gam X s ρ a w) (ho:o.op=.call c) (hc:c.callee=.builtin .clear)
 (M:c.args=#[x]) (h9:c.argTypes=#[t]) (ht:P.underlying t=some (.slice e)) (hi:P.info? e=some inf) (he:inf.size=sz) (hz:inf.zero=some v) (h6:o6 eqr v.cells.toList z.cells=true) (O:v.cells.size=sz)
 (hx:RA X s ρ w (.own id ver lo n) (a.eval x)) (hr:g7 s.ob id ver=some (sz,z',G,true,H)) :
 bv P X a w s o ⟨ok,.undef,upd id (ver,.row sz z' G true (spl H lo (zaw n z))) s.ob,rd',[id]⟩:=by
 unfold spl;subst he;have D:=m0 hr;simp only at D;obtain ⟨A,cap,hd,e2,e3,e4,e5⟩:=gn hx hr;simp only at e4
 have E:∀r,(Builtin.clear_ #[t] o.type #[.slice A n cap]).run P w=r->(execOp a.eval o).run P w=r.andThen fun q w'=>.ok (.value q) w':=by
  rintro r rfl;simp [execOp,ho,resolve,hc,M,h9,invoke,builtin,hd]
 by_cases h0:n=0
 ·subst h0
  have N:(Builtin.clear_ #[t] o.type #[.slice A 0 cap]).run P w=.ok (.tuple #[]) w:=by
   cases A<;>simp [Builtin.clear_,run_underlying ht]
  have f:=E _ N;simp only [Result.andThen_ok] at f;refine ⟨_,w,ρ,f,?_,.inl ⟨_,rfl,.undef _⟩⟩;have e:c7 H lo (zaw 0 z)=H:=by simp [c7]
  rw [e]
  rw [show upd id (ver,Ob.row inf.size z' G true H) s.ob=s.ob from by
   funext i;unfold upd;split
   ·rename_i h; rw [h,D]
   rfl]
  exact hG
 have hk:0<cap:=by omega
 obtain ⟨b,hp,ee,hw,V,f2,f3,f4⟩:=e5 hk;rcases hG.obj id ver _ D with ⟨q1,q2,_⟩ | ⟨b',cs,e',fr,h7,hh,Z,W,I,K⟩
 ·rw [V] at q2; cases q2
 rw [V] at h7;cases h7;have h4:(Builtin.zeroCells v.cells n).toList.length=n*inf.size:=by rw [zah,size_zeroCells,O]
 have L:(lo+n)*inf.size<=cs.size:=zap (zac _ (by omega)) I
 have F:lo*inf.size+(Builtin.zeroCells v.cells n).toList.length<=cs.toList.length:=by
  rw [h4,<- zaa];simpa using L
 have hf:z.cells.length=inf.size:=by rw [<- dk h6]; simpa using O
 have h5:∀j y,z.cells[j]?=some y->∃u,v.cells[j]?=some u/\eqr u y=true:=fun j y J=>by
  have h3:=(zab.1 J).1;have hv:v.cells[j]?=some (v.cells[j]'(by omega)):=by simp [show j<v.cells.size by omega]
  exact ⟨_,hv,uf h6 (i:=j) (by rw [zbb]; exact hv) J⟩
 have ha:∀u∈(Builtin.zeroCells v.cells n).toList,u.oneCell'=true:=fun u hu=>by
  simp only [Builtin.zeroCells,Array.toList_map,List.mem_map] at hu;obtain ⟨i,hi,rfl⟩:=hu;have hl:i<n*v.cells.size:=by simpa using hi
  have hg:0<v.cells.size:=by
   rcases zbf v.cells.size with h | h
   ·rw [h] at hl; omega
   exact h
  have hm:=Nat.mod_lt i hg;have hy:z.cells[i%v.cells.size]?=some (z.cells[i%v.cells.size]'(by omega)):=by simp [show i%v.cells.size<z.cells.length by omega]
  obtain ⟨u,g1,g2⟩:=h5 _ _ hy
  have:v.cells[i%v.cells.size]! = u:=by
   rw [Array.getElem!_eq_getD,Array.getD_eq_getD_getElem?,g1]
   rfl
  rw [this];exact (aez (w:=w) (R:=fun _=>True) g2).1
 have h2:=ua (P:=P) b (lo*inf.size) e' fr (Builtin.zeroCells v.cells n).toList 0 cs w hh Z (by simpa using F) ha
 have N:(Builtin.clear_ #[t] o.type #[.slice A n cap]).run P w=.ok (.tuple #[]) (w.setRow b (c7 cs.toList (lo*inf.size) (Builtin.zeroCells v.cells n).toList).toArray):=by
  simp only [zai] at h2;rw [f2];obtain ⟨k,rfl⟩:∃k,n=k+1:=⟨n-1,by omega⟩
  simp [Builtin.clear_,run_underlying ht,zeroValue,typeInfo,hi,hz,h2,c7]
 have f:=E _ N;simp only [Result.andThen_ok] at f;generalize T:(Builtin.zeroCells v.cells n).toList=d at *;have Q:=gm (w:=w) (cs:=(c7 cs.toList (lo*inf.size) d).toArray) hh;have C:(c7 cs.toList (lo*inf.size) d).length=cs.size:=by rw [m9 F]; simp
 have Y:lo+(zaw n z).length<=H.length:=by rw [zbj]; omega
 have g:(c7 H lo (zaw n z)).length=H.length:=m9 Y;have S:=Stays.modify (x':=.row inf.size z' G true (c7 H lo (zaw n z))) hG D rfl V hh Q (by simpa using C) ver (.inl ⟨rfl,rfl,by rw [g]; exact zad _⟩);refine ⟨_,_,ρ,f,hG.modify D rfl V hh Q (by simpa using C) ver (.inl ⟨rfl,rfl,by rw [g]; exact zad _⟩) (.inr ⟨rfl,⟨rfl,by rw [g]; exact zad _⟩,fun h=>h⟩) ?_,.inl ⟨_,rfl,.undef _⟩⟩;refine .inr ⟨b,_,e',fr,V,Q.new,by simpa [C] using Z,W,by simpa [C,g] using I,fun i q U=>?_⟩;have h1:=fun p=>u5 (l:=cs.toList) (m:=d) (i:=lo*inf.size) F p;rw [u5 Y,zbj] at U;split at U
 ·rename_i h8;rw [List.getElem?_replicate,if_pos (by omega)] at U;cases U;refine ⟨hf,fun j r J=>?_⟩;have h3:=(zab.1 J).1;obtain ⟨u,g1,g2⟩:=h5 j r J
  have hs:(i-lo)*inf.size+j<n*inf.size:=by
   have:(i-lo+1)*inf.size<=n*inf.size:=zac _ (by omega);rw [zaa,zaf] at this;omega
  have hn:i*inf.size=lo*inf.size+(i-lo)*inf.size:=by rw [<- zaa,show lo+(i-lo)=i by omega]
  have hb:=aez (w:=w.setRow b (c7 cs.toList (lo*inf.size) d).toArray) (R:=d7 X.B (upd id (ver,.row inf.size z' G true (c7 H lo (zaw n z))) s.ob) ρ (w.setRow b (c7 cs.toList (lo*inf.size) d).toArray)) g2;refine ⟨u,?_,hb.1,hb.2⟩;rw [zag,h1,if_pos (by omega),show i*inf.size+j-lo*inf.size=(i-lo)*inf.size+j by omega,<- T,asc O (by omega) (by omega)];exact g1
 rename_i h8;refine ⟨(K i q U).1,fun j r J=>?_⟩;obtain ⟨c,g1,g2,g3⟩:=(K i q U).2 j r J;have h3:j<inf.size:=by have:=(zab.1 J).1; have:=(K i q U).1; omega
 refine ⟨c,?_,g2,g3.mono S.free⟩;rw [zag,h1,h4,if_neg]
 ·simpa using g1
 rintro ⟨p1,p2⟩;apply h8;constructor
 ·rcases zas i lo with h | h
  ·have:(i+1)*inf.size<=lo*inf.size:=zac _ h;rw [zaa,zaf] at this;omega
  exact h
 rcases zas i (lo+n) with h | h
 ·exact h
 have:(lo+n)*inf.size<=i*inf.size:=zac _ h;rw [zaa] at this;omega
theorem asx {g:Bool} (i:g=true) {t e:TypeId} {inf:TypeInfo} {n:Nat} {x:Operand} {u:AV} (A:Gam X s ρ a w) (m:o.op=.slice t x none none none) (y:P.underlying t=some (.array n e)) (hi:P.info? e=some inf)
 (D:inf.size=1) (z:RA X s ρ w u (a.eval x)) (c:(ln g n u s.ob).ok):j5 P X a w s ρ o (ln g n u s.ob).v:=by
 unfold ln at c |-;split at c
 ·rename_i id ver l;rcases hr:l7 s.ob id ver with _ | k
  ·rw [hr] at c; exact (c i).elim
  rw [hr] at c;obtain ⟨C,r⟩:=c i;have j:=bh hr;cases z;rename_i h;obtain ⟨b,f,hc⟩:=h.live j;obtain ⟨B,cs,e',d,q,p,_⟩:=A.obj id ver _ j;rw [f] at d;cases d
  skip
  refine ⟨.slice (some ⟨b,l,none⟩) n n,?_,.own _ _ _ _ _ rfl ⟨_,_,j,zad _,fun _=>⟨_,n,rfl,zad _,r,fun _=>⟨b,cs,e',(0,0),f,rfl,q,by omega⟩⟩⟩⟩;simp [execOp,m,Instr.sliceAt,run_underlying y,hc,Instr.sureAddr,Instr.sliceBounds,sizeOf,typeInfo,hi,z5]
 first | exact (c i).elim | exact (c.2 i).elim | exact c.2.elim
theorem asp (I:Gam X s ρ a w) {y:AV} {c:Value} {sz:Nat} {ys:List RV} {rd:List Nat} (f:src s.ob y=some (sz,ys,rd)) (hy:RA X s ρ w y c):RelV w (fun _=>True) (.sl sz ys) c:=by
 unfold src at f;split at f
 ·cases f;cases hy;rename_i hy;exact hy.mono fun b _=>⟨trivial,rfl⟩
 ·cases f;cases hy;exact .sl _ [] none 0 (by simp) (by simp) 0 0 (fun _ _=>undef) (by simp) (by simp) (by simp) (by simp)
 ·split at f
  ·rename_i id ver lo len _ sz z G S m r;cases f;have h:=m0 r;simp only at h;obtain ⟨A,cap,rfl,Q,E,B,C⟩:=gn hy r;simp only at B C;have k:((m.drop lo).take len).length=len:=by simp; omega
   have g:=RelV.sl (w:=w) (R:=fun _=>True) sz ((m.drop lo).take len) A cap (by omega) E;rw [k] at g
   have d:∀(i:Nat) (x:RV),((m.drop lo).take len)[i]?=some x->m[lo+i]?=some x:=fun i x hi=>by
    rw [zan] at hi;split at hi
    ·rwa [List.getElem?_drop] at hi
    cases hi
   rcases I.obj id ver _ h with ⟨p,v,_⟩ | ⟨b,cs,e,fr,p,v,J,M,N,n⟩
   ·subst p;have:len=0:=by simp at B; omega
    subst this;exact g 0 0 (fun _ _=>undef) (by simp) (by simp) (by simp) (by simp)
   refine g b (lo*sz) (fun i j=>(cs[(lo+i)*sz+j]?).getD undef) (fun P=>?_) (fun i x hi=>(n _ x (d i x hi)).1) (fun i x j y hi o=>?_) (fun i x j y hi o=>?_)
   ·obtain ⟨L,F,e',D,q,H,O,K⟩:=C (by omega);rw [p] at q;cases q;exact ⟨H,trivial⟩
   ·obtain ⟨c,l,u,t⟩:=(n _ x (d i x hi)).2 j y o;rw [l];refine ⟨?_,u⟩;simp only [World.cell?,v,Option.isSome_none,Bool.false_eq_true,if_false,Option.getD_some];rw [<- l,zaa]
   obtain ⟨c,l,u,t⟩:=(n _ x (d i x hi)).2 j y o;rw [l];exact t.mono fun b _=>⟨trivial,rfl⟩
  cases f
 cases f
theorem amp {t d e:TypeId} {x:Operand} {u:AV} {sz:Nat} {ys:List RV} {rd:List Nat} (I:Gam X s ρ a w) (C:o.op=.convert t d x) (v:P.underlying t=some (.slice e)) (n:P.underlying e=some (.int .u8)) (y:P.underlying d=some .string)
 (G:RA X s ρ w u (a.eval x)) (E:src s.ob u=some (sz,ys,rd)) (i:sz=1) (D:ys.all ahv=true):j5 P X a w s ρ o (ak0 ⟨(ys.map aa1).toArray⟩):=by
 have k:=asp I E G;subst i;generalize hc:a.eval x=c at k;cases k;rename_i A cap K b o' g B H k J F;simp only [j5,execOp,C,hc];refine ⟨_,?_,x7 _⟩
 have h:(convert t d (.slice A ys.length cap)).run P w=.ok (.string ⟨(ys.map aa1).toArray⟩) w:=by
  rcases zbf ys.length with r | r
  ·have p:ys=[]:=zaz r;subst p;cases A with
   | none=>
     rw [run_convert_bytes_string w t d e none _ cap v n y];simp [Conv.bytesToString]
     rfl
   | some ad=>exact run_convert_bytes_back w t d e ad cap [] v n y (by simp)
  obtain ⟨rfl,_⟩:=H r
  have:=run_convert_bytes_back (P:=P) w t d e ⟨b,o',none⟩ cap (ys.map aa1) v n y fun j l=>by
   simp only [List.length_map] at l;have hy:ys[j]?=some ys[j]:=by simp [l]
   have f:=zao.1 D ys[j] (zay l);simp only [List.getElem_map];generalize ys[j]=q at hy f;unfold ahv at f;split at f
   ·rename_i m;have i:=(F j _ 0 _ hy rfl).1;have z:=k j _ 0 _ hy rfl;cases hgj:g j 0<;>rw [hgj] at z<;>cases z;rw [z5];rw [hgj] at i;simp only [Nat.mul_one,zai] at i;rw [i];simp only [decide_eq_true_eq] at f;simp only [aa1,UInt8.toNat_ofNat'];congr 2;omega
   cases f
  simpa using this
 simp only [Sem.run_bind,h,Result.andThen_ok,Sem.run_pure]
theorem as6 {g:Bool} (j:g=true) {d:Bool} {op:BinOp} {t ty e:TypeId} {x:Operand} {u:AV} (l:o.op=.binOp op t x (.const (.pointer none)) ty) (f:op=if d then .neq else .eql) (q:P.underlying t=some (.pointer e))
 (m:RA X s ρ w u (a.eval x)) (c:(ns g d u s.ob).ok):j5 P X a w s ρ o (ns g d u s.ob).v:=by
 have i:P.underlying t=some (.pointer (P.pointee t)):=by simp [Program.pointee,q]
 unfold ns at c |-;split at c
 ·split at c
  ·rename_i r n;cases m;rename_i hc h;obtain ⟨o',k⟩:=adc n;obtain ⟨b,_,hc⟩:=h.live k;simp only [j5,execOp,l,hc];refine ⟨_,?_,x7 _⟩;subst f;cases d<;>simp [eqGuard,binOp,Act.eval,run_equal_pointer_nil w t _ i]
  first | exact (c j).elim | exact (c.2 j).elim
 ·have p:=i7 m;simp only [j5,execOp,l,p];refine ⟨_,?_,x7 _⟩;subst f;cases d<;>simp [eqGuard,binOp,Act.eval,run_equal_pointer_nil w t _ i]
 first | exact (c j).elim | exact (c.2 j).elim
theorem ah5 {t:TypeId} {g:Bool} (C:g=true) (E:Gam X s ρ a w) {o9:Nat->Option (Nat×Nat)} (l:∀(p:Nat×Operand) (q:Nat×Nat×Opd),ml P t p q=true->o9 p.1=some (q.1,q.2.1)) :
 ∀(z:List (Nat×Operand)) (n:List (Nat×Nat×Opd)) (j:List AV) (b:Array Value),o6 (ml P t) z n=true->(z8 g s.e j n).1->b.size=j.length ->
  (∀(i:Nat) (x:AV) (c:Value),j[i]?=some x->b[i]?=some c->RA X s ρ w x c) ->
  ∃r ys,Instr.fill o9 b (z.map fun p=>(p.1,a.eval p.2))=some r/\(z8 g s.e j n).2=.agg ys/\r.size=ys.length/\∀(i:Nat) (x:AV) (c:Value),ys[i]?=some x->r[i]?=some c->RA X s ρ w x c
 | [],[],j,b,_,_,hs,hr=>⟨b,j,by simp [Instr.fill],rfl,hs,hr⟩
 | p::z,(off,m,y)::n,j,b,d,hok,hs,hr=>by
   simp [o6] at d;obtain ⟨B,d⟩:=d;simp only [z8] at hok |-;obtain ⟨L,o,J⟩:=hok;obtain ⟨I,Q,R⟩:=o C;have f:=l p _ B;have u:opd p.2 y=true:=by simp [ml] at B; exact B.1
   have hx:=d5 E C u L;obtain ⟨K,M⟩:=agb hx I;generalize (y.ev s.e).bare.cells=O at *;have D:=acm (a.eval p.2).cells.toList 0 off b (by simp; omega);simp only [zai] at D
   have v:((a.eval p.2).cells.zipIdx.foldl (fun cs (q:Value×Nat)=>cs.setIfInBounds (off+q.2) q.1) b).toList=c7 b.toList off (a.eval p.2).cells.toList:=by
    rw [<- D,<- Array.foldl_toList,Array.toList_zipIdx]
   have A:(c7 b.toList off (a.eval p.2).cells.toList).length=b.size:=by rw [m9 (by simp; omega)]; simp
   obtain ⟨r,ys,G,H,F,N⟩:=ah5 C E l z n (c7 j off O) ((a.eval p.2).cells.zipIdx.foldl (fun cs (q:Value×Nat)=>cs.setIfInBounds (off+q.2) q.1) b) d J
    (by rw [<- zah,v,A,m9 (by omega),hs]) (fun i x c hx hc=>by
     rw [u5 (by omega)] at hx;rw [<- zbb,v,u5 (by simp; omega)] at hc;simp only [zah,K] at hc;split at hx
     ·rename_i k;rw [if_pos k] at hc;exact M _ x c hx (by simpa using hc)
     rename_i k;rw [if_neg k] at hc
     exact hr i x c hx (by simpa using hc))
   refine ⟨r,ys,?_,H,F,N⟩;simp only [List.map_cons,Instr.fill,f];rw [if_neg (by simp; omega)];exact G
 | [],_::_,_,_,h,_,_,_=>by cases h
 | _::_,[],_,_,h,_,_,_=>by cases h
theorem aho {b a:Type} (f:b->Option a) (d:a):∀(l:List b),(l.all fun x=>(f x).isSome)=true->l.mapM f=some (l.map fun x=>(f x).getD d)
 | [],_=>rfl
 | x::l,h=>by
   simp at h;obtain ⟨y,hy⟩:=Option.isSome_iff_exists.1 h.1;have:=aho f d l (by simpa using h.2);simp [List.mapM_cons,hy,this]
theorem amt {g:Bool} (R:g=true) {t:TypeId} {inf:TypeInfo} {z:Value} {d:TypeDesc} {n:List AV} {j:Array (Nat×Operand)} {v:List (Nat×Nat×Opd)} (T:Gam X s ρ a w) (J:o.op=.build t j) (hi:P.info? t=some inf) (I:inf.zero=some z)
 (A:o6 eqz z.cells.toList n=true) (C:P.underlying t=some d) (l:ae1 P d=true) (B:o6 (ml P t) j.toList v=true) (G:(z8 g s.e n v).1) :
 j5 P X a w s ρ o (z8 g s.e n v).2:=by
 have h:(j.map fun (i,x)=>(i,a.eval x)).toList=j.toList.map fun p=>(p.1,a.eval p.2):=by simp
 have m:∀(i:Nat) (x:AV) (c:Value),n[i]?=some x->z.cells[i]?=some c->RA X s ρ w x c:=fun i x c hx hc=>aey (uf A (by simpa using hc) hx);have F:z.cells.size=n.length:=by rw [<- dk A]; simp
 have y:∀(o9:Nat->Option (Nat×Nat)),(∀(p:Nat×Operand) (q:Nat×Nat×Opd),ml P t p q=true->o9 p.1=some (q.1,q.2.1)) ->
  (∀r,Instr.fill o9 z.cells (j.toList.map fun p=>(p.1,a.eval p.2))=some r->P.built t (j.toList.map fun p=>(p.1,a.eval p.2))=some r)->j5 P X a w s ρ o (z8 g s.e n v).2:=by
  intro o9 D K;obtain ⟨r,ys,N,O,M,S⟩:=ah5 (P:=P) (t:=t) R T D j.toList v n z.cells B G F m;rw [O];have u:=run_build (P:=P) w t (j.map fun (i,x)=>(i,a.eval x)) r (by rw [h]; exact K r N);refine ⟨.agg r,?_,.agg _ _ M S⟩;simp only [execOp,J,Sem.run_bind,u,Result.andThen_ok,Sem.run_pure]
 cases d with
 | struct fs=>
   have L:=aho (fun f=>(P.info? f.type).map fun i=>(f.offset,i.size)) (0,0) fs.toList (by
    simp only [Option.isSome_map];rw [Array.all_toList]
    exact l)
   refine y (fun i=>(fs.toList.map fun x=>((P.info? x.type).map fun i=>(x.offset,i.size)).getD (0,0)).toArray[i]?) (fun p q b=>?_) (fun r E=>?_)
   ·simp only [ml,C,zbi] at b;obtain ⟨_,b⟩:=b;split at b
    ·rename_i f Q;split at b
     ·rename_i U H;simp at b;simp [Q,H,b.1,b.2]
     cases b
    cases b
   unfold Program.built;simp only [hi,C,I,L];exact E
 | array k e=>
   cases hie:P.info? e with
   | none=>simp [ae1,hie] at l
   | some ie=>
     refine y (fun i=>some (i*ie.size,ie.size)) (fun p q b=>?_) (fun r E=>?_)
     ·simp only [ml,C,hie,zbi,beq_iff_eq] at b;rw [b.2.1,b.2.2]
     unfold Program.built;simp only [hi,C,I,hie];exact E
 | _=>cases l
end

end Go.Ev

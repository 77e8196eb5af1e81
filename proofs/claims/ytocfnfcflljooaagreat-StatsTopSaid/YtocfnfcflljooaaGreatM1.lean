import Derived.Test.YtocfnfcflljooaaGreatM0
open Nat renaming add_mul → zaa, mul_le_mul_right → zac, le_refl → zad, min_eq_left → zae, one_mul → zaf, add_zero → zai, zero_add → zak, le_trans → zap, mul_comm → zaq, lt_or_ge → zas, lt_succ_self → zav, eq_zero_or_pos → zbf
open List renaming getElem?_eq_some_iff → zab, getElem?_toArray → zag, length_take → zaj, mem_of_getElem? → zal, getElem?_map → zam, getElem?_take → zan, all_eq_true → zao, take_of_length_le → zar, length_append → zat, size_toArray → zau, replicate → zaw, getElem_mem → zay, eq_nil_of_length_eq_zero → zaz, length_cons → zba, append_assoc → zbc, getElem?_append → zbd, mem_iff_getElem? → zbe, getElem?_append_left → zbg, flatMap_cons → zbh, length_replicate → zbj
open Array renaming length_toList → zah, getElem?_toList → zbb
open Option renaming map_eq_some_iff → zax
open Bool renaming and_eq_true → zbi
namespace Go.Ev
set_option maxHeartbeats 8000000
set_option maxRecDepth 100000
open Go
set_option linter.unusedSectionVars false
set_option linter.unnecessarySimpa false
set_option linter.unusedSimpArgs false
set_option linter.unusedVariables false
section
variable {P:Program} {X:Cx} {w w':World} {s:St} {ρ ρ':Pl->Option Nat} {a:Act} {o:Oper} {ob ob':Obs} {R R':Nat->Prop}
def dp (P:Program) (X:Cx) (a:Act) (w:World) (s:St) (o:Oper) (r:Rs):Prop:=
 ∃nx w' ρ',(execOp a.eval o).run P w=.ok nx w'/\Gam X ⟨s.e,r.ob⟩ ρ' a w'/\((∃c,nx=.value c/\RA X ⟨s.e,r.ob⟩ ρ' w' r.v c)\/(nx=.skip/\r.v=.undef))
theorem gv {b a:Type} {f:b->a->Bool}:∀{xs:List b} {ys:List a},s8 f xs ys=true->xs.length=ys.length
 | [],[],_=>rfl
 | x::xs,y::ys,h=>by simp [s8] at h; simp [gv h.2]
 | [],_::_,h=>by cases h
 | _::_,[],h=>by cases h
theorem ye {b a:Type} {f:b->a->Bool}:∀{xs:List b} {ys:List a},s8 f xs ys=true->∀{i:Nat} {x:b} {y:a},xs[i]?=some x->ys[i]?=some y->f x y=true
 | [],[],_,i,x,y,hx,_=>by simp at hx
 | x::xs,y::ys,h,0,x',y',hx,hy=>by simp [s8] at h; simp at hx hy; subst hx; subst hy; exact h.1
 | x::xs,y::ys,h,i+1,x',y',hx,hy=>by simp [s8] at h; simp at hx hy; exact ye h.2 hx hy
 | [],_::_,h,_,_,_,_,_=>by cases h
 | _::_,[],h,_,_,_,_,_=>by cases h
theorem mj {x:Obj} {x':Ob} {y:Nat->AV} {ok:Prop} {rd j:List Nat} {d:Nat} {c:Value} {ob:Obs} (l:d<X.n) (f:Gam X ⟨s.e,ob⟩ ρ a w) (k:OneMore w w' x) (b:(execOp a.eval o).run P w=.ok (.value c) w')
 (g:bd w' (d7 X.B (upd d (nv ob d,x') ob) (m9 ρ d (some w.heap.size)) w') (upd d (nv ob d,x') ob) (m9 ρ d (some w.heap.size)) d x')
 (hy:RelA w' (d7 X.B (upd d (nv ob d,x') ob) (m9 ρ d (some w.heap.size)) w') (upd d (nv ob d,x') ob) (m9 ρ d (some w.heap.size)) (y (nv ob d)) c) (i:x'.isAbs=false:=by rfl) :
 dp P X a w s o (m7 ob d x' y ok rd j):=
 ⟨_,w',m9 ρ d (some w.heap.size),b,f.alloc (s:=⟨s.e,ob⟩) k d (nv ob d) (f.pnn d (af7 (by have:=f.small; omega))) (λ v o h=>rz h) x' g i,.inl ⟨c,rfl,hy⟩⟩
theorem gi {id v:Nat} {x:Ob} {X:Ob->Prop} (h:X x):At (upd id (v,x) ob) id v X:=⟨v,x,by simp [upd],zad _,λ _=>h⟩
theorem v4 (x:Obj):OneMore w (w.alloc x) x:=⟨rfl,rfl,rfl,rfl⟩
theorem jy (x:Obj):OneMore w (w.drew.alloc x) x:=⟨rfl,rfl,rfl,rfl⟩
theorem ain {c:Value} (h:c.oneCell'=true):c.cells=#[c]:=by cases c<;>first | rfl | cases h
theorem ai8 {x:RV} {c:Value} (h:RelV w R x c) (hx:x.one=true):c.oneCell'=true:=by
 cases h<;>first | exact hx | rfl | cases hx
theorem aqv {x:AV} {c:Value} (h:RelA w R ob ρ x c) (hx:x.one=true):c.oneCell'=true:=by
 cases h<;>first | rfl | cases hx; done | assumption | skip
 rename_i h;exact ai8 h hx
theorem aqw {x:AV} (hx:x.one=true):x.cells=[x]:=by
 unfold AV.cells;split<;>first | rfl | cases hx
theorem aiu {x:AV} {c:Value} (h:RelA w R ob ρ x c) (hx:x.boxable=true):c.cells.size=x.cells.length/\∀(i:Nat) (y:AV) (v:Value),x.cells[i]?=some y->c.cells[i]?=some v->RelA w R ob ρ y v:=by
 by_cases d:x.one=true
 ·rw [ain (aqv h d),aqw d];refine ⟨rfl,λ i y v hy a=>?_⟩;cases i with
  | zero=>simp at hy a; subst hy; subst a; exact h
  | succ i=>simp at hy
 unfold AV.boxable at hx;split at hx
 ·cases h;rename_i cs b h;exact ⟨b,h⟩
 ·cases h;rename_i h;cases h;rename_i cs b h;refine ⟨by simp [Value.cells,AV.cells,b],λ i y v hy a=>?_⟩;simp only [AV.cells,zam,zax] at hy;obtain ⟨z,e,rfl⟩:=hy;exact .r (h i z v e a)
 exact absurd hx d
theorem awl {d:Nat} {x:AV} {e:TypeId} {y:Operand} {ok:Prop} (f:d<X.n) (j:Gam X s ρ a w) (p:o.op=.box e y) (hx:RA X s ρ w x (a.eval y)) (q:x.boxable=true) :
 dp P X a w s o (m7 s.ob d (.box x.cells) (λ v=>.ptr d v 0) ok [] []):=by
 have b:(execOp a.eval o).run P w=.ok (.value (.pointer (some ⟨w.heap.size,0,none⟩))) (w.alloc (.cells (a.eval y).cells e)):=by
  simp only [execOp,p,Instr.box,newVar,newRow,Sem.run_bind,run_newObj,Result.andThen_ok,Sem.run_pure]; rfl
 have g:=Stays.alloc j (v4 (.cells (a.eval y).cells e)) d (nv s.ob d) (λ v o h=>rz h) (.box x.cells);obtain ⟨m,l⟩:=aiu hx q;refine mj f j (v4 _) b ?_ (.ptr _ _ _ _ rfl (gi ⟨_,by simp [m9],rfl⟩));exact ⟨w.heap.size,(a.eval y).cells,e,by simp [m9],(v4 _).new,m,λ i z c k hc=>(l i z c k hc).stays g⟩
theorem asu {d:Nat} {j:List AV} {e:TypeId} {i:TypeInfo} {z:Value} {ok:Prop} (h:d<X.n) (m:Gam X s ρ a w) (k:o.op=.alloc e) (g:P.info? e=some i) (l:i.zero=some z) (b:s8 eqz z.cells.toList j=true) :
 dp P X a w s o (m7 s.ob d (.box j) (λ v=>.ptr d v 0) ok [] []):=by
 have f:(execOp a.eval o).run P w=.ok (.value (.pointer (some ⟨w.heap.size,0,none⟩))) (w.alloc (.cells z.cells e)):=by
  simp only [execOp,k,Instr.alloc,zeroValue,typeInfo,newVar,newRow,Sem.run_bind,run_program,g,l,run_newObj,Result.andThen_ok,Sem.run_pure]; rfl
 refine mj h m (v4 _) f ?_ (.ptr _ _ _ _ rfl (gi ⟨_,by simp [m9],rfl⟩));refine ⟨w.heap.size,z.cells,e,by simp [m9],(v4 _).new,by rw [<- gv b]; simp,λ i x c g hc=>?_⟩;exact ahv (ye b (by simpa using hc) g)
theorem Mods.same {b:Nat} {y:Obj} (h:w.heap[b]?=some y):Mods w w b y:=⟨rfl,rfl,rfl,rfl,h,λ _ _=>rfl⟩
theorem gt {g:Nat} {a cs:Array Value} {t:TypeId} {fr:Nat×Nat} (b:w.heap[g]?=some (.cells a t fr)):Mods w (w.setRow g cs) g (.cells cs t fr):=
 ⟨rfl,rfl,rfl,by simp [World.setRow],setRow_heap w g a cs t fr b,λ k c=>setRow_other w g k cs c⟩
theorem uf (g o:Nat) (t:TypeId) (fr:Nat×Nat):∀(vs:List Value) (i:Nat) (cur:Array Value) (w:World),w.heap[g]?=some (.cells cur t fr)->(∀k,k<cur.size->¬(fr.1<=k/\k<fr.2))->o+i+vs.length<=cur.size->(∀v∈vs,v.oneCell'=true) ->
 (storeCells ⟨g,o,none⟩ vs i).run P w=.ok () (w.setRow g (cur.toList.take (o+i)++vs++cur.toList.drop (o+i+vs.length)).toArray)
 | [],i,cur,w,hg,_,_,_=>by
   simp only [storeCells,List.append_nil,List.length_nil,zai,List.take_append_drop,Array.toArray_toList];rw [setRow_self w g cur t fr hg]
   rfl
 | v::rest,i,cur,w,hg,hf,hl,h1=>by
   have f:o+i<cur.size:=by simp at hl; omega
   have c:(⟨g,o,none⟩:Addr).add i=⟨g,o+i,none⟩:=ba g o i;have a:w.cell? ⟨g,o+i,none⟩=some cur[o+i]:=by simp [World.cell?,hg,f]
   have b:w.frozen? ⟨g,o+i,none⟩=false:=by
    have:=hf (o+i) f;simp only [World.frozen?,hg];simpa using this
   have d:(store ((⟨g,o,none⟩:Addr).add i) v).run P w=.ok () (w.setRow g (cur.setIfInBounds (o+i) v)):=by
    rw [c,run_store P w _ v _ (h1 v (by simp)),a];simp [b,setCell_eq_setRow w g (o+i) cur t fr v hg]
   have h:=uf g o t fr rest (i+1) (cur.setIfInBounds (o+i) v) (w.setRow g (cur.setIfInBounds (o+i) v)) (setRow_heap w g cur _ t _ hg) (by simpa using hf) (by simp at hl |-; omega) (λ x hx=>h1 x (by simp [hx]));simp only [storeCells,Sem.run_bind,d,Result.andThen_ok,h,setRow_setRow];congr 3;have e:=list_seg_step cur.toList (o+i) v rest (by simp at hl |-; omega);simpa [Array.toList_setIfInBounds,Nat.add_assoc] using e
theorem aeh {t:TypeId} {inf:TypeInfo} {g o':Nat} {e:TypeId} {fr:Nat×Nat} {cur:Array Value} {c:Value} (d:P.info? t=some inf) (a:c.cells.size=inf.size) (f:w.heap[g]?=some (.cells cur e fr))
 (h:∀k,k<cur.size->¬(fr.1<=k/\k<fr.2)) (b:o'+c.cells.size<=cur.size) (i:∀v∈c.cells.toList,v.oneCell'=true) :
 (Instr.storeAt t (.pointer (some ⟨g,o',none⟩)) c).run P w=.ok () (w.setRow g (b7 cur.toList o' c.cells.toList).toArray):=by
 have:=uf (P:=P) g o' e fr c.cells.toList 0 cur w f h (by simpa using b) i;simp only [zai] at this;simp [Instr.storeAt,Instr.sureAddr,storeVar,sizeOf,typeInfo,d,a,this,b7]
theorem j9 {a:Type} {l m:List a} {i:Nat} (h:i+m.length<=l.length):(b7 l i m).length=l.length:=by
 simp [b7]; omega
theorem u9 {c:Type} {l m:List c} {i:Nat} (h:i+m.length<=l.length) (j:Nat):(b7 l i m)[j]?=if i<=j/\j<i+m.length then m[j-i]? else l[j]?:=by
 unfold b7;rw [zbc,zbd,zaj,zae (by omega)];by_cases a:j<i
 ·rw [if_pos a,zan,if_pos a,if_neg (by omega)]
 rw [if_neg a,zbd];by_cases b:j-i<m.length
 ·rw [if_pos b,if_pos (by omega)]
 rw [if_neg b,if_neg (by omega),List.getElem?_drop];congr 1;omega
theorem awb {m off id ver:Nat} {y:AV} {d:List AV} {t:TypeId} {inf:TypeInfo} {x v:Operand} {ok:Prop} (I:Gam X s ρ a w) (S:o.op=.store t x v) (F:P.info? t=some inf) (V:inf.size=m)
 (hx:RA X s ρ w (.ptr id ver off) (a.eval x)) (hy:RA X s ρ w y (a.eval v)) (T:n7 s.ob id ver=some d) (Y:y.cells.length=m) (U:off+m<=d.length) (R:y.cells.all (·.one)=true) (J:y.boxable=true) :
 dp P X a w s o ⟨ok,.undef,upd id (ver,.box (b7 d off y.cells)) s.ob,[id],[id]⟩:=by
 have k:=dn T;cases hx;rename_i N h;obtain ⟨b,j,hc⟩:=h.live k;obtain ⟨W,cs,e,n,G,H,C⟩:=I.obj id ver _ k;rw [j] at n;cases n;obtain ⟨O,M⟩:=aiu hy J
 have A:∀u∈(a.eval v).cells.toList,u.oneCell'=true:=λ u Q=>by
  obtain ⟨i,F⟩:=zbe.1 Q
  have B:i<y.cells.length:=by
   have:=(zab.1 F).1;simp at this;omega
  have r:y.cells[i]?=some y.cells[i]:=by simp [B]
  exact aqv (M i _ u r (by simpa using F)) (zao.1 R _ (zay B))
 have E:=aeh (P:=P) (w:=w) (o':=off) (c:=a.eval v) F (by omega) G (by simp) (by omega) A;have q:=gt (w:=w) (cs:=(b7 cs.toList off (a.eval v).cells.toList).toArray) G;have g:(b7 cs.toList off (a.eval v).cells.toList).length=cs.size:=by rw [j9 (by simp; omega)]; simp
 have D:=Stays.modify (x':=.box (b7 d off y.cells)) I k rfl j G q (by simpa using g) ver (.inl ⟨rfl,trivial⟩);refine ⟨.skip,_,ρ,?_,I.modify k rfl j G q (by simpa using g) ver (.inl ⟨rfl,trivial⟩) (.inr ⟨rfl,trivial,λ _=>rfl⟩) ?_,.inr ⟨rfl,rfl⟩⟩
 ·simp only [execOp,S,hc,Sem.run_bind,E,Result.andThen_ok,Sem.run_pure]
 refine ⟨b,_,e,j,q.new,?_,λ i z c r f=>?_⟩
 ·rw [j9 (by omega)];simpa [H] using g
 have L:=u9 (l:=d) (m:=y.cells) (i:=off) (by omega) i;rw [L] at r;have K:=u9 (l:=cs.toList) (m:=(a.eval v).cells.toList) (i:=off) (by simp; omega) i;rw [zag,K] at f;simp only [zah,O] at f;split at r
 ·rename_i p;rw [if_pos p] at f;exact (M _ z c r (by simpa using f)).stays D
 rename_i p;rw [if_neg p] at f;exact (C i z c r (by simpa using f)).stays D
theorem kh {ob:Obs}:∀{xs:List AV} {ys:List RV} {a:List Nat},rvs ob xs=some (ys,a)->ys.length=xs.length
 | [],ys,a,h=>by simp [rvs] at h; simp [h.1]
 | x::xs,ys,a,h=>by
   simp only [rvs] at h;split at h
   ·rename_i y i d j c b;cases h;simp [kh b]
   cases h
theorem aam (f:Gam X s ρ a w) {ob:Obs} {l:List Nat} (b:s.ob=Ev.freeze ob l):∀{xs:List AV} {ys:List RV} {d:List Nat},rvs ob xs=some (ys,d)->(∀i∈d,i∈l) ->
 ∀(i:Nat) (x:AV) (y:RV) (c:Value),xs[i]?=some x->ys[i]?=some y->RA X s ρ w x c->RelV w (d7 X.B s.ob ρ w) y c
 | [],ys,d,h,hs,i,x,y,c,hx,hy,hr=>by simp at hx
 | z::xs,ys,d,h,hs,i,x,y,c,hx,hy,hr=>by
   simp only [rvs] at h;split at h
   ·rename_i n k o j m g;cases h;cases i with
    | zero=>
      simp at hx hy;subst hx; subst hy;exact afz f m (λ p e=>hs p (by simp [e])) b hr
    | succ i=>
      simp at hx hy;exact aam f b g (λ p e=>hs p (by simp [e])) i x y c hx hy hr
   cases h
theorem aoz {x:RV} (h:x.one=true):x.cells=[x]:=by cases x<;>first | rfl | cases h
theorem anq {q E:RV} {off:Nat} {ys:List RV} (a:(match q with | .agg cs=>RV.agg (b7 cs off ys) | q=>ys.getD 0 q)=E) (h:off+ys.length<=q.cells.length) (c:ys.all (·.one)=true):E.cells=b7 q.cells off ys:=by
 have b:∀q:RV,q.cells=[q]->ys.getD 0 q=E->off+ys.length<=1->E.cells=b7 q.cells off ys:=by
  intro q d a h;rw [d]
  match ys,c,a,h with
  | [],_,a,h=>
    simp at a; subst a;rw [d];simp [b7]
  | [y0],c,a,h=>
    simp at a c h; subst a; subst h;rw [aoz c];simp [b7]
  | _::_::_,_,_,h=>simp at h; omega
 cases q with
 | agg cs=>simp only at a; subst a; rfl
 | v x=>exact b _ rfl a h
 | sl k xs=>exact b _ rfl a h
theorem awa {m idx off id ver sz:Nat} {z:RV} {J:Bool} {xs ys:List RV} {y:AV} {t:TypeId} {inf:TypeInfo} {x v:Operand} {ok:Prop} (Y:Gam X s ρ a w) (ho:o.op=.store t x v) (hi:P.info? t=some inf) (hm:inf.size=m)
 (hx:RA X s ρ w (.oel id ver idx off) (a.eval x)) (hy:RA X s ρ w y (a.eval v)) (hb:i8 s.ob id ver=some (sz,z,J,true,xs)) (U:rvs s.ob y.cells=some (ys,[])) (h1:ys.length=m) (h2:off+m<=sz) (h3:ys.all (·.one)=true) (h7:y.boxable=true) :
 dp P X a w s o ⟨ok,.undef,upd id (ver,.row sz z J true (xs.set idx (match xs.getD idx z with | .agg cs=>.agg (b7 cs off ys) | q=>ys.getD 0 q))) s.ob,[id],[id]⟩:=by
 have k:=o4 hb;simp only at k;cases hx;rename_i ha h;obtain ⟨f,h9,b,A,hc⟩:=h.live k;rcases Y.obj id ver _ k with ⟨W,_⟩ | ⟨b',cs,e,fr,F,Z,S,L,O,Q⟩
 ·rw [W] at f; simp at f
 rw [A] at F;cases F;obtain ⟨k1,k2⟩:=aiu hy h7;have hl:=kh U
 have C:∀(i:Nat) (q:RV) (u:Value),ys[i]?=some q->(a.eval v).cells[i]?=some u->RelV w (d7 X.B s.ob ρ w) q u/\u.oneCell'=true:=λ i q u n hu=>by
  have d:=(zab.1 n).1;have hz:y.cells[i]?=some (y.cells[i]'(by omega)):=by simp [show i<y.cells.length by omega]
  have:=aam Y (ob:=s.ob) (l:=[]) rfl U (by simp) i _ q u hz n (k2 i _ u hz hu);refine ⟨this,ai8 this ?_⟩;have h0:=(zab.1 n).2;rw [<- h0];exact zao.1 h3 _ (zay d)
 have h4:xs[idx]?=some (xs.getD idx z):=by simp [f]
 obtain ⟨K,h6⟩:=Q idx _ h4;have R:(idx+1)*sz<=cs.size:=zap (zac _ f) O;rw [zaa,zaf] at R
 have M:∀u∈(a.eval v).cells.toList,u.oneCell'=true:=λ u hu=>by
  obtain ⟨i,hi⟩:=zbe.1 hu;have d:=(zab.1 hi).1;simp at d;exact (C i (ys[i]'(by omega)) u (by simp [show i<ys.length by omega]) (by simpa using hi)).2
 have N:=aeh (P:=P) (w:=w) (o':=idx*sz+off) (c:=a.eval v) hi (by omega) Z S (by omega) M;have I:=gt (w:=w) (cs:=(b7 cs.toList (idx*sz+off) (a.eval v).cells.toList).toArray) Z;have g:(b7 cs.toList (idx*sz+off) (a.eval v).cells.toList).length=cs.size:=by rw [j9 (by simp; omega)]; simp
 generalize hE:(match xs.getD idx z with | .agg cs=>RV.agg (b7 cs off ys) | q=>ys.getD 0 q)=E;have h5:E.cells=b7 (xs.getD idx z).cells off ys:=anq hE (by rw [K]; omega) h3;have H:=Stays.modify (x':=.row sz z J true (xs.set idx E)) Y k rfl A Z I (by simpa using g) ver (.inl ⟨rfl,rfl,by simp⟩);refine ⟨.skip,_,ρ,?_,Y.modify k rfl A Z I (by simpa using g) ver (.inl ⟨rfl,rfl,by simp⟩) (.inr ⟨rfl,⟨rfl,by simp⟩,λ h=>h⟩) ?_,.inr ⟨rfl,rfl⟩⟩
 ·simp only [execOp,ho,hc,Sem.run_bind,N,Result.andThen_ok,Sem.run_pure]
 refine .inr ⟨b,_,e,fr,A,I.new,by simpa [g] using S,L,by simpa [g] using O,λ i q n=>?_⟩;have T:=λ p=>u9 (l:=cs.toList) (m:=(a.eval v).cells.toList) (i:=idx*sz+off) (by simp; omega) p;rw [List.getElem?_set] at n;by_cases G:idx=i
 ·subst G;rw [if_pos rfl,if_pos f] at n;cases n;rw [h5];refine ⟨by rw [j9 (by omega)]; exact K,λ j r D=>?_⟩;rw [u9 (by omega)] at D;rw [zag,T];simp only [zah];by_cases V:off<=j/\j<off+ys.length
  ·rw [if_pos V] at D;rw [if_pos (by omega)];have d:j-off<(a.eval v).cells.size:=by omega
   refine ⟨(a.eval v).cells[j-off],by rw [show idx*sz+j-(idx*sz+off)=j-off by omega]; simp [d],?_⟩;have:=C (j-off) r (a.eval v).cells[j-off] D (by simp [d]);exact ⟨this.2,this.1.mono H.free⟩
  rw [if_neg V] at D;rw [if_neg (by omega)];obtain ⟨c,g1,g2,g3⟩:=h6 j r D;exact ⟨c,by simpa using g1,g2,g3.mono H.free⟩
 rw [if_neg G] at n;obtain ⟨g1,g2⟩:=Q i q n;refine ⟨g1,λ j r D=>?_⟩;obtain ⟨c,f1,f2,f3⟩:=g2 j r D;have h8:j<sz:=by have:=(zab.1 D).1; omega
 refine ⟨c,?_,f2,f3.mono H.free⟩;rw [zag,T];simp only [zah];rw [if_neg]
 ·simpa using f1
 rintro ⟨p1,p2⟩;rcases Nat.lt_or_gt_of_ne G with d | d
 ·have:(idx+1)*sz<=i*sz:=zac _ d;rw [zaa,zaf] at this;omega
 have:(i+1)*sz<=idx*sz:=zac _ d;rw [zaa,zaf] at this;omega
theorem acu {a:Type} {l:List a} {n i:Nat} {x:a} (h:(l.take n)[i]?=some x):l[i]?=some x:=by
 rw [zan] at h;split at h
 ·exact h
 cases h
theorem afx (hG:Gam X s ρ a w) {y:AV} {c:Value} {sz:Nat} {ys:List RV} {rd:List Nat} (v:src s.ob y=some (sz,ys,rd)) (hy:RA X s ρ w y c) :
 ∃(A:Option Addr) (cap:Nat) (news:List Value),c=.slice A ys.length cap/\(∀m,m<=ys.length->∀W:World,W.heap=w.heap->(Builtin.firstCells sz m c).run P W=.ok (news.take (m*sz)).toArray W)/\news.length=ys.length*sz/\(∀u∈news,u.oneCell'=true) /\
  (∀(i:Nat) (x:RV),ys[i]?=some x->x.cells.length=sz/\∀(j:Nat) (q:RV),x.cells[j]?=some q->∃u,news[i*sz+j]?=some u/\RelV w (d7 X.B s.ob ρ w) q u):=by
 have l:∀(A:Option Addr) (cap b o':Nat) (g:Nat->Nat->Value),c=.slice A ys.length cap->(0<ys.length->A=some ⟨b,o',none⟩)->(∀(i:Nat) (x:RV),ys[i]?=some x->x.cells.length=sz) ->
  (∀(i:Nat) (x:RV) (j:Nat) (q:RV),ys[i]?=some x->x.cells[j]?=some q->w.cell? ⟨b,o'+i*sz+j,none⟩=some (g i j)/\(g i j).oneCell'=true/\RelV w (d7 X.B s.ob ρ w) q (g i j)) ->
  ∃(A:Option Addr) (cap:Nat) (news:List Value),c=.slice A ys.length cap/\(∀m,m<=ys.length->∀W:World,W.heap=w.heap->(Builtin.firstCells sz m c).run P W=.ok (news.take (m*sz)).toArray W)/\news.length=ys.length*sz/\(∀u∈news,u.oneCell'=true) /\
  (∀(i:Nat) (x:RV),ys[i]?=some x->x.cells.length=sz/\∀(j:Nat) (q:RV),x.cells[j]?=some q->∃u,news[i*sz+j]?=some u/\RelV w (d7 X.B s.ob ρ w) q u):=by
  intro A cap b o' g hc Q E G;rcases zbf ys.length with I | I
  ·have V:ys=[]:=zaz I;subst V;refine ⟨A,cap,[],hc,λ m F W T=>?_,by simp,by simp,by simp⟩;have U:m=0:=by simpa using F
   subst U;rw [hc];cases A<;>simp [Builtin.firstCells,loadCells,loadCellsFrom]
  have S:=Q I;subst S;rcases zbf sz with k | k
  ·subst k;refine ⟨_,cap,[],hc,λ m F W T=>?_,by simp,by simp,λ i x hx=>⟨E i x hx,λ j q d=>?_⟩⟩
   ·rw [hc];simp [Builtin.firstCells,loadCells,loadCellsFrom]
   have:=E i x hx;have:=(zab.1 d).1;omega
  have n:∀p,p<ys.length*sz->∃x q,ys[p/sz]?=some x/\x.cells[p%sz]?=some q:=λ p L=>by
   have D:p/sz<ys.length:=Nat.div_lt_of_lt_mul (by rw [zaq]; exact L);have N:p%sz<sz:=Nat.mod_lt _ k;have hx:ys[p/sz]?=some ys[p/sz]:=by simp [D]
   have hl:=E _ _ hx;exact ⟨_,ys[p/sz].cells[p%sz]'(by omega),hx,by simp [show p%sz<ys[p/sz].cells.length by omega]⟩
  have f:∀p u,((List.range (ys.length*sz)).map λ p=>g (p/sz) (p%sz))[p]?=some u->u=g (p/sz) (p%sz)/\p<ys.length*sz:=λ p u C=>by
   rw [zam,zax] at C;obtain ⟨q,d,rfl⟩:=C;obtain ⟨H,K⟩:=zab.1 d;rw [List.getElem_range] at K;subst K;rw [List.length_range] at H;exact ⟨rfl,H⟩
  refine ⟨_,cap,(List.range (ys.length*sz)).map λ p=>g (p/sz) (p%sz),hc,λ m F W T=>?_,by simp,λ u C=>?_,λ i x hx=>⟨E i x hx,λ j q d=>⟨g i j,?_,(G i x j q hx d).2.2⟩⟩⟩
  ·rw [hc];refine run_firstCells_some W sz m ⟨b,o',none⟩ ys.length cap _ (by simp [zae F]) λ p u C=>?_;have C:=acu C;rw [show W.cell?=w.cell? from by funext x; simp only [World.cell?,T]];obtain ⟨rfl,L⟩:=f p u C;obtain ⟨x,q,hx,d⟩:=n p L;rw [ba,<- (G _ x _ q hx d).1];congr 2;have:=Nat.div_add_mod p sz;rw [zaq] at this;omega
  ·obtain ⟨p,L⟩:=zbe.1 C;obtain ⟨rfl,R⟩:=f p u L;obtain ⟨x,q,hx,d⟩:=n p R;exact (G _ x _ q hx d).2.1
  have D:=(zab.1 hx).1;have N:=(zab.1 d).1;have h3:=E i x hx
  have Y:i*sz+j<ys.length*sz:=by
   have:(i+1)*sz<=ys.length*sz:=zac _ D;rw [zaa,zaf] at this;omega
  have hd:(i*sz+j)/sz=i:=by
   rw [zaq,Nat.mul_add_div k,Nat.div_eq_of_lt (by omega),zai]
  have F:(i*sz+j)%sz=j:=by
   rw [zaq,Nat.mul_add_mod,Nat.mod_eq_of_lt (by omega)]
  simp [Y,hd,F]
 unfold src at v;split at v
 ·cases v;cases hy;rename_i hy;cases hy;rename_i A cap F b o' g h7 Q O E G;exact l A cap b o' g rfl (λ h=>(Q h).1) E λ i x j q hx d=>⟨(G i x j q hx d).1,(G i x j q hx d).2,O i x j q hx d⟩
 ·cases v;cases hy;exact l none 0 0 0 (λ _ _=>undef) rfl (by simp) (by simp) (by simp)
 ·split at v
  ·rename_i id ver J len _ sz z ha wr xs O;cases v;have M:=o4 O;simp only at M;obtain ⟨A,cap,e1,e2,e3,e4,e5⟩:=ki hy O;simp only at e4;have o:((xs.drop J).take len).length=len:=by simp; omega
   have r:∀(i:Nat) (x:RV),((xs.drop J).take len)[i]?=some x->xs[J+i]?=some x:=λ i x t=>by
    rw [zan] at t;split at t
    ·rwa [List.getElem?_drop] at t
    cases t
   rcases hG.obj id ver _ M with ⟨D,N,_⟩ | ⟨b,cs,e,fr,D,N,h3,h4,h5,h6⟩
   ·subst D;have Z:len=0:=by simp at e4; omega
    subst Z;exact l A cap 0 0 (λ _ _=>undef) (by rw [e1]; simp) (by simp) (by simp) (by simp)
   refine l A cap b (J*sz) (λ i j=>(cs[(J+i)*sz+j]?).getD undef) (by rw [e1,o]) (λ I=>?_) (λ i x t=>(h6 _ x (r i x t)).1) (λ i x j q t hj=>?_)
   ·rw [o] at I;obtain ⟨b',h9,e',h8,f1,f2,f3,f4⟩:=e5 (by omega);rw [D] at f1;cases f1;exact f2
   obtain ⟨u,g1,g2,g3⟩:=(h6 _ x (r i x t)).2 j q hj;rw [g1];refine ⟨?_,g2,g3⟩;simp only [World.cell?,N,Option.isSome_none,Bool.false_eq_true,if_false,Option.getD_some];rw [<- g1,zaa]
  cases v
 cases v
theorem acx (d:Gam X s ρ a w) {y:AV} {c:Value} {sz:Nat} {ys:List RV} {rd:List Nat} (e:src s.ob y=some (sz,ys,rd)) (hy:RA X s ρ w y c) :
 ∃(A:Option Addr) (cap:Nat) (news:List Value),c=.slice A ys.length cap/\(∀W:World,W.heap=w.heap->(Builtin.firstCells sz ys.length c).run P W=.ok news.toArray W)/\news.length=ys.length*sz/\(∀u∈news,u.oneCell'=true) /\
  (∀(i:Nat) (x:RV),ys[i]?=some x->x.cells.length=sz/\∀(j:Nat) (q:RV),x.cells[j]?=some q->∃u,news[i*sz+j]?=some u/\RelV w (d7 X.B s.ob ρ w) q u):=by
 obtain ⟨A,cap,news,h,f,g,k,l⟩:=afx (P:=P) d e hy;refine ⟨A,cap,news,h,λ W b=>?_,g,k,l⟩;rw [f ys.length (zad _) W b,zar (by omega)]
theorem awh {sz id ver d n:Nat} {z':RV} {G:Bool} {xs:List RV} {y:AV} {ys:List RV} {rd rd':List Nat} {t u e:TypeId} {inf:TypeInfo} {c:Call} {x v:Operand} {ok:Prop} (R:Gam X s ρ a w) (ho:o.op=.call c) (hc:c.callee=.builtin .copy)
 (I:c.args=#[x,v]) (h3:c.argTypes=#[t,u]) (ht:P.underlying t=some (.slice e)) (hi:P.info? e=some inf) (ha:inf.size=sz)
 (hx:RA X s ρ w (.own id ver d n) (a.eval x)) (hr:i8 s.ob id ver=some (sz,z',G,true,xs)) (hy:RA X s ρ w y (a.eval v)) (hs:src s.ob y=some (sz,ys,rd)) :
 dp P X a w s o ⟨ok,int .i64 ((Nat.min ys.length n:Nat):Int),upd id (ver,.row sz z' G true (spl xs d (ys.take n))) s.ob,rd',[id]⟩:=by
 unfold spl;subst ha;have B:=o4 hr;simp only at B;obtain ⟨A2,c2,news,h5,V,h8,S,K⟩:=afx (P:=P) R hs hy;obtain ⟨A,cap,h9,e2,e3,e4,e5⟩:=ki hx hr;simp only at e4;obtain ⟨m,Q⟩:∃m,m=Nat.min ys.length n:=⟨_,rfl⟩
 have F:m<=ys.length:=by rw [Q]; exact Nat.min_le_left _ _
 have hn:m<=n:=by rw [Q]; exact Nat.min_le_right _ _
 have hg:ys.take n=ys.take m:=by
  rw [Q];rcases Nat.le_total ys.length n with h | h
  ·rw [zar h,zar (by rw [show Nat.min ys.length n=ys.length from zae h]; exact zad _)]
  rw [show Nat.min ys.length n=n from Nat.min_eq_right h]
 rw [<- Q,hg];have hf:=V m F;rw [h5] at hf
 have z:∀r,(Builtin.copy_ #[t,u] o.type #[.slice A n cap,.slice A2 ys.length c2]).run P w=r->(execOp a.eval o).run P w=r.andThen λ q w'=>.ok (.value q) w':=by
  rintro r rfl;simp [execOp,ho,resolve,hc,I,h3,invoke,builtin,h9,h5]
 by_cases h0:m=0
 ·subst h0;have T:=hf w rfl;simp only [Nat.zero_mul,List.take_zero] at T
  have O:(Builtin.copy_ #[t,u] o.type #[.slice A n cap,.slice A2 ys.length c2]).run P w=.ok (goInt 0) w:=by
   cases A<;>simp [Builtin.copy_,run_underlying ht,Builtin.lenOf,sizeOf,typeInfo,hi,<- Q,T,storeCells]
  have f:=z _ O;simp only [Result.andThen_ok] at f;refine ⟨_,w,ρ,f,?_,.inl ⟨_,rfl,.r (.v _)⟩⟩;have e:b7 xs d (ys.take 0)=xs:=by simp [b7]
  rw [e]
  rw [show upd id (ver,Ob.row inf.size z' G true xs) s.ob=s.ob from by
   funext i;unfold upd;split
   ·rename_i h; rw [h,B]
   rfl]
  exact R
 have hb:0<cap:=by omega
 obtain ⟨b,hp,ee,hl,f1,f2,f3,f4⟩:=e5 hb;rcases R.obj id ver _ B with ⟨q1,q2,_⟩ | ⟨b',cs,e',fr,h6,hh,h4,W,H,L⟩
 ·rw [f1] at q2; cases q2
 rw [f1] at h6;cases h6
 have J:(news.take (m*inf.size)).length=m*inf.size:=by
  rw [zaj,h8];exact zae (zac _ F)
 have N:(d+m)*inf.size<=cs.size:=zap (zac _ (by omega)) H
 have C:d*inf.size+(news.take (m*inf.size)).length<=cs.toList.length:=by
  rw [J,<- zaa];simpa using N
 have Y:∀u∈news.take (m*inf.size),u.oneCell'=true:=λ u hu=>S u (List.mem_of_mem_take hu);have h1:=uf (P:=P) b (d*inf.size) e' fr (news.take (m*inf.size)) 0 cs w hh h4 (by simpa using C) Y;have he:=hf w rfl
 have O:(Builtin.copy_ #[t,u] o.type #[.slice A n cap,.slice A2 ys.length c2]).run P w=.ok (goInt m) (w.setRow b (b7 cs.toList (d*inf.size) (news.take (m*inf.size))).toArray):=by
  simp only [zai] at h1;simp [Builtin.copy_,run_underlying ht,Builtin.lenOf,sizeOf,typeInfo,hi,<- Q,he,f2,h1,b7]
 have f:=z _ O;simp only [Result.andThen_ok] at f;have M:=gt (w:=w) (cs:=(b7 cs.toList (d*inf.size) (news.take (m*inf.size))).toArray) hh;have k:(b7 cs.toList (d*inf.size) (news.take (m*inf.size))).length=cs.size:=by rw [j9 C]; simp
 have h2:d+(ys.take m).length<=xs.length:=by rw [zaj,zae F]; omega
 have g:(b7 xs d (ys.take m)).length=xs.length:=j9 h2;have D:=Stays.modify (x':=.row inf.size z' G true (b7 xs d (ys.take m))) R B rfl f1 hh M (by simpa using k) ver (.inl ⟨rfl,rfl,by rw [g]; exact zad _⟩);refine ⟨_,_,ρ,f,R.modify B rfl f1 hh M (by simpa using k) ver (.inl ⟨rfl,rfl,by rw [g]; exact zad _⟩) (.inr ⟨rfl,⟨rfl,by rw [g]; exact zad _⟩,λ h=>h⟩) ?_,.inl ⟨_,rfl,.r (.v _)⟩⟩;refine .inr ⟨b,_,e',fr,f1,M.new,by simpa [k] using h4,W,by simpa [k,g] using H,λ i q E=>?_⟩;have U:=λ p=>u9 (l:=cs.toList) (m:=news.take (m*inf.size)) (i:=d*inf.size) C p;rw [u9 h2,zaj,zae F] at E;split at E
 ·rename_i h7;have E:=acu E;refine ⟨(K _ q E).1,λ j r Z=>?_⟩;obtain ⟨c,g1,g2⟩:=(K _ q E).2 j r Z;have hd:j<inf.size:=by have:=(zab.1 Z).1; have:=(K _ q E).1; omega
  have hv:(i-d)*inf.size+j<m*inf.size:=by
   have:(i-d+1)*inf.size<=m*inf.size:=zac _ (by omega);rw [zaa,zaf] at this;omega
  have hk:i*inf.size=d*inf.size+(i-d)*inf.size:=by rw [<- zaa,show d+(i-d)=i by omega]
  refine ⟨c,?_,S c (zal g1),g2.mono D.free⟩;rw [zag,U,J,if_pos (by omega),zan,if_pos (by omega),show i*inf.size+j-d*inf.size=(i-d)*inf.size+j by omega,g1]
 rename_i h7;refine ⟨(L i q E).1,λ j r Z=>?_⟩;obtain ⟨c,g1,g2,g3⟩:=(L i q E).2 j r Z;have hd:j<inf.size:=by have:=(zab.1 Z).1; have:=(L i q E).1; omega
 refine ⟨c,?_,g2,g3.mono D.free⟩;rw [zag,U,J,if_neg]
 ·simpa using g1
 rintro ⟨p1,p2⟩;apply h7;constructor
 ·rcases zas i d with h | h
  ·have:(i+1)*inf.size<=d*inf.size:=zac _ h;rw [zaa,zaf] at this;omega
  exact h
 rcases zas i (d+m) with h | h
 ·exact h
 have:(d+m)*inf.size<=i*inf.size:=zac _ h;rw [zaa] at this;omega
theorem awi {sz id ver d n:Nat} {z':RV} {I:Bool} {xs:List RV} {G:ByteArray} {ys:List RV} {rd':List Nat} {t u e:TypeId} {inf:TypeInfo} {c:Call} {x v:Operand} {ok:Prop} (hG:Gam X s ρ a w) (ho:o.op=.call c) (hc:c.callee=.builtin .copy)
 (L:c.args=#[x,v]) (h6:c.argTypes=#[t,u]) (ht:P.underlying t=some (.slice e)) (hi:P.info? e=some inf) (he:inf.size=sz)
 (hx:RA X s ρ w (.own id ver d n) (a.eval x)) (hr:i8 s.ob id ver=some (sz,z',I,true,xs)) (hy:a.eval v=.string G) (T:sz=1) (S:ys=G.data.toList.map λ b=>RV.v (.int .u8 b.toNat)) :
 dp P X a w s o ⟨ok,int .i64 ((Nat.min ys.length n:Nat):Int),upd id (ver,.row sz z' I true (spl xs d (ys.take n))) s.ob,rd',[id]⟩:=by
 unfold spl;subst he;have C:=o4 hr;simp only at C;have hp:a.eval v=.string G:=hy;have h9:G.size=ys.length:=by rw [S,List.length_map,zah]; rfl
 obtain ⟨news,H⟩:∃news:List Value,news=G.data.toList.map λ b=>Value.int .u8 b.toNat:=⟨_,rfl⟩
 have h1:∀m,m<=ys.length->∀W:World,W.heap=w.heap->(Builtin.firstCells inf.size m (.string G)).run P W=.ok (news.take (m*inf.size)).toArray W:=λ m K W _=>by
  rw [T,H];simp [Builtin.firstCells];apply Array.ext';simp [List.map_take]
 have hb:news.length=ys.length*inf.size:=by rw [T,H,S]; simp
 have V:∀u∈news,u.oneCell'=true:=by
  rw [H];intro u hu;obtain ⟨c,_,rfl⟩:=List.mem_map.1 hu
  rfl
 have N:∀(i:Nat) (x:RV),ys[i]?=some x->x.cells.length=inf.size/\∀(j:Nat) (q:RV),x.cells[j]?=some q->∃u,news[i*inf.size+j]?=some u/\RelV w (d7 X.B s.ob ρ w) q u:=by
  rw [T,H,S];intro i x hx;rw [zam,zax] at hx;obtain ⟨c,hc,rfl⟩:=hx;refine ⟨rfl,λ j q g=>?_⟩;cases j with
  | succ j=>simp [RV.cells] at g
  | zero=>
    simp [RV.cells] at g;subst g;refine ⟨_,?_,.v _⟩;rw [Nat.mul_one,zai,zam,hc]
    rfl
 obtain ⟨A,cap,hd,e2,e3,e4,e5⟩:=ki hx hr;simp only at e4;obtain ⟨m,K⟩:∃m,m=Nat.min ys.length n:=⟨_,rfl⟩
 have F:m<=ys.length:=by rw [K]; exact Nat.min_le_left _ _
 have hw:m<=n:=by rw [K]; exact Nat.min_le_right _ _
 have hn:ys.take n=ys.take m:=by
  rw [K];rcases Nat.le_total ys.length n with h | h
  ·rw [zar h,zar (by rw [show Nat.min ys.length n=ys.length from zae h]; exact zad _)]
  rw [show Nat.min ys.length n=n from Nat.min_eq_right h]
 rw [<- K,hn];have hf:=h1 m F
 have z:∀r,(Builtin.copy_ #[t,u] o.type #[.slice A n cap,.string G]).run P w=r->(execOp a.eval o).run P w=r.andThen λ q w'=>.ok (.value q) w':=by
  rintro r rfl;simp [execOp,ho,resolve,hc,L,h6,invoke,builtin,hd,hp]
 by_cases h0:m=0
 ·subst h0;have Y:=hf w rfl;simp only [Nat.zero_mul,List.take_zero] at Y
  have U:(Builtin.copy_ #[t,u] o.type #[.slice A n cap,.string G]).run P w=.ok (goInt 0) w:=by
   cases A<;>simp [Builtin.copy_,run_underlying ht,Builtin.lenOf,h9,sizeOf,typeInfo,hi,<- K,Y,storeCells]
  have f:=z _ U;simp only [Result.andThen_ok] at f;refine ⟨_,w,ρ,f,?_,.inl ⟨_,rfl,.r (.v _)⟩⟩;have e:b7 xs d (ys.take 0)=xs:=by simp [b7]
  rw [e]
  rw [show upd id (ver,Ob.row inf.size z' I true xs) s.ob=s.ob from by
   funext i;unfold upd;split
   ·rename_i h; rw [h,C]
   rfl]
  exact hG
 have hg:0<cap:=by omega
 obtain ⟨b,hz,ee,hv,f1,f2,f3,f4⟩:=e5 hg;rcases hG.obj id ver _ C with ⟨q1,q2,_⟩ | ⟨b',cs,e',fr,h8,hh,h7,h2,J,O⟩
 ·rw [f1] at q2; cases q2
 rw [f1] at h8;cases h8
 have M:(news.take (m*inf.size)).length=m*inf.size:=by
  rw [zaj,hb];exact zae (zac _ F)
 have R:(d+m)*inf.size<=cs.size:=zap (zac _ (by omega)) J
 have D:d*inf.size+(news.take (m*inf.size)).length<=cs.toList.length:=by
  rw [M,<- zaa];simpa using R
 have h3:∀u∈news.take (m*inf.size),u.oneCell'=true:=λ u hu=>V u (List.mem_of_mem_take hu);have h4:=uf (P:=P) b (d*inf.size) e' fr (news.take (m*inf.size)) 0 cs w hh h7 (by simpa using D) h3;have hl:=hf w rfl
 have U:(Builtin.copy_ #[t,u] o.type #[.slice A n cap,.string G]).run P w=.ok (goInt m) (w.setRow b (b7 cs.toList (d*inf.size) (news.take (m*inf.size))).toArray):=by
  simp only [zai] at h4;simp [Builtin.copy_,run_underlying ht,Builtin.lenOf,h9,sizeOf,typeInfo,hi,<- K,hl,f2,h4,b7]
 have f:=z _ U;simp only [Result.andThen_ok] at f;have Q:=gt (w:=w) (cs:=(b7 cs.toList (d*inf.size) (news.take (m*inf.size))).toArray) hh;have y:(b7 cs.toList (d*inf.size) (news.take (m*inf.size))).length=cs.size:=by rw [j9 D]; simp
 have h5:d+(ys.take m).length<=xs.length:=by rw [zaj,zae F]; omega
 have k:(b7 xs d (ys.take m)).length=xs.length:=j9 h5;have E:=Stays.modify (x':=.row inf.size z' I true (b7 xs d (ys.take m))) hG C rfl f1 hh Q (by simpa using y) ver (.inl ⟨rfl,rfl,by rw [k]; exact zad _⟩);refine ⟨_,_,ρ,f,hG.modify C rfl f1 hh Q (by simpa using y) ver (.inl ⟨rfl,rfl,by rw [k]; exact zad _⟩) (.inr ⟨rfl,⟨rfl,by rw [k]; exact zad _⟩,λ h=>h⟩) ?_,.inl ⟨_,rfl,.r (.v _)⟩⟩;refine .inr ⟨b,_,e',fr,f1,Q.new,by simpa [y] using h7,h2,by simpa [y,k] using J,λ i q g=>?_⟩;have Z:=λ p=>u9 (l:=cs.toList) (m:=news.take (m*inf.size)) (i:=d*inf.size) D p;rw [u9 h5,zaj,zae F] at g;split at g
 ·rename_i ha;have g:=acu g;refine ⟨(N _ q g).1,λ j r hj=>?_⟩;obtain ⟨c,g1,g2⟩:=(N _ q g).2 j r hj;have hk:j<inf.size:=by have:=(zab.1 hj).1; have:=(N _ q g).1; omega
  have g0:(i-d)*inf.size+j<m*inf.size:=by
   have:(i-d+1)*inf.size<=m*inf.size:=zac _ (by omega);rw [zaa,zaf] at this;omega
  have hs:i*inf.size=d*inf.size+(i-d)*inf.size:=by rw [<- zaa,show d+(i-d)=i by omega]
  refine ⟨c,?_,V c (zal g1),g2.mono E.free⟩;rw [zag,Z,M,if_pos (by omega),zan,if_pos (by omega),show i*inf.size+j-d*inf.size=(i-d)*inf.size+j by omega,g1]
 rename_i ha;refine ⟨(O i q g).1,λ j r hj=>?_⟩;obtain ⟨c,g1,g2,g3⟩:=(O i q g).2 j r hj;have hk:j<inf.size:=by have:=(zab.1 hj).1; have:=(O i q g).1; omega
 refine ⟨c,?_,g2,g3.mono E.free⟩;rw [zag,Z,M,if_neg]
 ·simpa using g1
 rintro ⟨p1,p2⟩;apply ha;constructor
 ·rcases zas i d with h | h
  ·have:(i+1)*inf.size<=d*inf.size:=zac _ h;rw [zaa,zaf] at this;omega
  exact h
 rcases zas i (d+m) with h | h
 ·exact h
 have:(d+m)*inf.size<=i*inf.size:=zac _ h;rw [zaa] at this;omega
theorem adz {t u ty e:TypeId} {inf:TypeInfo} {z:Value} {d:TypeId} (E:P.underlying t=some (.slice e)) (B:P.underlying u=some (.slice d)) (x:P.info? e=some inf) (Q:inf.zero=some z) (C:z.cells.size=inf.size)
 {A A2:Option Addr} {len cap m c2 g:Nat} {cur:Array Value} {e':TypeId} {olds news:List Value} (N:len<=cap) {fr:Nat×Nat} (H:0<cap->A=some ⟨g,0,none⟩/\w.heap[g]?=some (.cells cur e' fr)/\cap*inf.size<=cur.size) (r:0<cap->∀k,k<cur.size->¬(fr.1<=k/\k<fr.2))
 (n:∀W:World,W.heap=w.heap->(Builtin.firstCells inf.size len (.slice A len cap)).run P W=.ok olds.toArray W) (O:olds.length=len*inf.size)
 (b:∀W:World,W.heap=w.heap->(Builtin.firstCells inf.size m (.slice A2 m c2)).run P W=.ok news.toArray W) (y:news.length=m*inf.size) (M:∀u∈news,u.oneCell'=true)
 (f:len+m<=maxLen) (R:(len+m)*inf.bytes<=140737488355328) :
 (len+m<=cap/\(Builtin.append_ #[t,u] ty #[.slice A len cap,.slice A2 m c2]).run P w=.ok (.slice A (len+m) cap) (if 0<cap then w.setRow g (b7 cur.toList (len*inf.size) news).toArray else w)) \/
 (cap<len+m/\∃K w' c,(Builtin.append_ #[t,u] ty #[.slice A len cap,.slice A2 m c2]).run P w=.ok (.slice (some ⟨w.heap.size,0,none⟩) (len+m) K) w'/\len+m<=K/\K<=maxLen /\
  OneMore w w' (.cells (olds++news++c).toArray e)/\(olds++news++c).length=K*inf.size):=by
 have p:len+m<=9223372036854775807:=by simp only [maxLen] at f; omega
 by_cases a:len+m<=cap
 ·refine .inl ⟨a,?_⟩;by_cases hc:0<cap
  ·obtain ⟨rfl,G,q⟩:=H hc
   have h:len*inf.size+news.length<=cur.size:=by
    rw [y,<- zaa]; exact zap (zac _ a) q
   have l:=uf (P:=P) g (len*inf.size) e' fr news 0 cur w G (r hc) (by simpa using h) M;simp only [zai] at l;simp [Builtin.append_,run_underlying E,run_underlying B,sizeOf,typeInfo,x,Builtin.lenOf,a,b w rfl,ba,l,hc,b7]
  have F:cap=0:=by omega
  subst F;have L:len=0:=by omega
  have J:m=0:=by omega
  subst L; subst J;have o:news=[]:=zaz (by simpa using y);subst o;cases A<;>simp [Builtin.append_,run_underlying E,run_underlying B,sizeOf,typeInfo,x,Builtin.lenOf,b w rfl,storeCells]
 refine .inr ⟨by omega,?_⟩;have h:Builtin.nextslicecap (len+m) cap*inf.bytes<=281474976710656:=growslice_fits (by omega) R;have v:=grownCap_ge w (len+m) cap e;have s:grownCap w (len+m) cap e<=maxLen:=grownCap_le_maxLen w (len+m) cap e f;refine ⟨grownCap w (len+m) cap e,w.drew.alloc (.cells (olds++news++(Builtin.zeroCells z.cells (grownCap w (len+m) cap e-(len+m))).toList).toArray e),(Builtin.zeroCells z.cells (grownCap w (len+m) cap e-(len+m))).toList,?_,v,s,jy _,?_⟩
 ·have j:¬(9223372036854775807<((len:Int)+(m:Int))):=by omega
  have i:¬(281474976710656<Builtin.nextslicecap (len+m) cap*inf.bytes):=by omega
  have I:=b w.drew rfl;have D:=n w.drew rfl;simp [Builtin.append_,run_underlying E,run_underlying B,sizeOf,typeInfo,zeroValue,x,Q,Builtin.lenOf,a,j,i,Question.forced,I,D,newRow,grownCap];congr 2;apply Array.ext';simp
 simp only [zat,O,y,zah,size_zeroCells,C,<- zaa];congr 1;omega
theorem ala {d sz l:Nat} {T:RV} {L:Nat} {zz:RV} {y:AV} {ys:List RV} {rd:List Nat} {t u e f:TypeId} {inf:TypeInfo} {z:Value} {c:Call} {x v:Operand} {ok:Prop} (J:d<X.n) (D:Gam X s ρ a w) (ho:o.op=.call c) (hc:c.callee=.builtin .append)
 (B:c.args=#[x,v]) (E:c.argTypes=#[t,u]) (ht:P.underlying t=some (.slice e)) (hu:P.underlying u=some (.slice f)) (Z:P.info? e=some inf) (hz:inf.zero=some z) (Q:z.cells.size=inf.size) (I:inf.size=sz) (O:inf.bytes=l)
 (hx:RA X s ρ w (.nils L zz) (a.eval x)) (hy:RA X s ρ w y (a.eval v)) (hs:src s.ob y=some (sz,ys,rd)) (hb:ys.length*l<=140737488355328) (hm:ys.length<=maxLen) :
 dp P X a w s o (m7 s.ob d (.row sz T true true ys) (λ v=>.own d v 0 ys.length) ok rd []):=by
 subst I; subst O;obtain ⟨A2,c2,news,F,p,R,G,H⟩:=acx (P:=P) D hs hy;have S:a.eval x=.slice none 0 0:=by generalize a.eval x=c at hx; cases hx; rfl
 rw [F] at p
 have k:∀r,(Builtin.append_ #[t,u] o.type #[.slice none 0 0,.slice A2 ys.length c2]).run P w=r->(execOp a.eval o).run P w=r.andThen λ q w'=>.ok (.value q) w':=by
  rintro r rfl;simp [execOp,ho,resolve,hc,B,E,invoke,builtin,S,F]
 rcases adz (P:=P) (w:=w) (ty:=o.type) (A:=none) (A2:=A2) (len:=0) (cap:=0) (m:=ys.length) (c2:=c2) (g:=0) (cur:=#[]) (e':=0) (fr:=(0,0)) (olds:=[]) (news:=news) ht hu Z hz Q (zad _) (by simp) (by simp)
  (λ W _=>by simp [Builtin.firstCells]) (by simp) p R G (by omega) (by rw [zak]; exact hb) with ⟨hroom,hr⟩ | ⟨hgrow,K,w',rest,hr,hK1,hK2,hom,hlen⟩
 ·have V:ys=[]:=zaz (by omega);subst V;have b:=k _ hr;simp only [List.length_nil,zai,Nat.lt_irrefl,if_false,Result.andThen_ok] at b;exact ⟨_,w,m9 ρ d none,b,D.nil d _ (D.pnn d (af7 (by have:=D.small; omega))) (λ v o h=>rz h) _ _ _,.inl ⟨_,rfl,.own _ _ _ _ _ rfl (gi ⟨none,0,rfl,zad _,by simp,by simp,by simp⟩)⟩⟩
 have b:=k _ hr;simp only [Result.andThen_ok,zak] at b hK1 hK2;have N:=Stays.alloc D hom d (nv s.ob d) (λ v o h=>rz h) (.row inf.size T true true ys);refine mj J D hom b (.inr ⟨w.heap.size,_,e,(0,0),by simp [m9],hom.new,by simp,λ _=>rfl,?_,λ i q U=>⟨(H i q U).1,λ j r Y=>?_⟩⟩) (.own _ _ _ _ _ rfl (gi ⟨_,K,rfl,hK1,hK2,by simp,λ _=>?_⟩))
 ·simp only [zau,hlen];exact zac _ hK1
 ·obtain ⟨u,C,M⟩:=(H i q U).2 j r Y;refine ⟨u,?_,G u (zal C),M.mono N.free⟩;have:=(zab.1 C).1;simp only [zag,List.nil_append];rw [zbg this,C]
 exact ⟨w.heap.size,_,e,(0,0),by simp [m9],by simp,hom.new,by simp only [zau,hlen,zak]; exact zad _⟩
theorem ak9 {sz J id ver len:Nat} {z':RV} {D:Bool} {xs:List RV} {y:AV} {ys:List RV} {rd rd':List Nat} {t u e f:TypeId} {inf:TypeInfo} {z:Value} {c:Call} {x v:Operand} {ok:Prop} (E:Gam X s ρ a w) (ho:o.op=.call c) (hc:c.callee=.builtin .append)
 (h7:c.args=#[x,v]) (g0:c.argTypes=#[t,u]) (ht:P.underlying t=some (.slice e)) (hu:P.underlying u=some (.slice f)) (hi:P.info? e=some inf) (hz:inf.zero=some z) (gd:z.cells.size=inf.size) (gg:inf.size=sz) (gb:inf.bytes=J)
 (hx:RA X s ρ w (.own id ver 0 len) (a.eval x)) (hr:i8 s.ob id ver=some (sz,z',D,true,xs)) (F:(D || !par id)=true) (hy:RA X s ρ w y (a.eval v)) (hs:src s.ob y=some (sz,ys,rd)) (hb:(len+ys.length)*J<=140737488355328) (hm:len+ys.length<=maxLen) :
 dp P X a w s o ⟨ok,.own id (ver+1) 0 (len+ys.length),upd id (ver+1,.row sz z' D true (xs.take len++ys)) s.ob,rd',[id]⟩:=by
 subst gg; subst gb;have d:=o4 hr;simp only at d;obtain ⟨A2,c2,news,g7,T,hh,Z,Q⟩:=acx (P:=P) E hs hy;obtain ⟨A1,e1,olds,h6,O,h9,gq,h8⟩:=acx (P:=P) (y:=.own id ver 0 len) (ys:=(xs.drop 0).take len) (rd:=[id]) (sz:=inf.size) E (by simp [src,hr]) hx;obtain ⟨A,cap,hl,e2,e3,e4,e5⟩:=ki hx hr;simp only [zak] at e4;have hw:((xs.drop 0).take len).length=len:=by simp; omega
 rw [hw] at h6 O h9;rw [hl] at h6 O;simp only [List.drop_zero] at h8
 injection h6 with q1 _ q3
 subst q1; subst q3;rw [g7] at T
 have I:∀r,(Builtin.append_ #[t,u] o.type #[.slice A len cap,.slice A2 ys.length c2]).run P w=r->(execOp a.eval o).run P w=r.andThen λ q w'=>.ok (.value q) w':=by
  rintro r rfl;simp [execOp,ho,resolve,hc,h7,g0,invoke,builtin,hl,g7]
 have hk:0<cap->∃b cs e fr,ρ id=some b/\A=some ⟨b,0,none⟩/\w.heap[b]?=some (.cells cs e fr)/\(∀k,k<cs.size->¬(fr.1<=k/\k<fr.2))/\(D=true->fr=(0,0))/\cap*inf.size<=cs.size/\∀(i:Nat) (x:RV),xs[i]?=some x->x.cells.length=inf.size/\∀(j:Nat) (y:RV),x.cells[j]?=some y->∃c,cs[i*inf.size+j]?=some c/\c.oneCell'=true/\RelV w (d7 X.B s.ob ρ w) y c:=λ Y=>by
  obtain ⟨b,cs,ee,fr,f1,f2,f3,f4⟩:=e5 Y;rcases E.obj id ver _ d with ⟨h1,h2,_⟩ | ⟨b',hp,e',hn,C,G,g3,g4,g5,g6⟩
  ·rw [f1] at h2; cases h2
  rw [f1] at C; cases C;rw [f3] at G; cases G;exact ⟨b,cs,ee,fr,f1,by simpa using f2,f3,g3,g4,by simpa using f4,g6⟩
 obtain ⟨g,cur,e',fr,hA⟩:∃g cur e' fr,(0<cap->A=some ⟨g,0,none⟩/\w.heap[g]?=some (.cells cur e' fr)/\cap*inf.size<=cur.size/\(∀k,k<cur.size->¬(fr.1<=k/\k<fr.2))/\(D=true->fr=(0,0))/\ρ id=some g/\∀(i:Nat) (x:RV),xs[i]?=some x->x.cells.length=inf.size/\∀(j:Nat) (y:RV),x.cells[j]?=some y->∃c,cur[i*inf.size+j]?=some c/\c.oneCell'=true/\RelV w (d7 X.B s.ob ρ w) y c):=by
  by_cases Y:0<cap
  ·obtain ⟨b,cs,e,fr,h1,h2,h3,hf,hd,h4,h5⟩:=hk Y;exact ⟨b,cs,e,fr,λ _=>⟨h2,h3,h4,hf,hd,h1,h5⟩⟩
  exact ⟨0,#[],0,(0,0),λ h=>absurd h Y⟩
 rcases adz (P:=P) (w:=w) (ty:=o.type) (A:=A) (A2:=A2) (len:=len) (cap:=cap) (m:=ys.length) (c2:=c2) (g:=g) (cur:=cur) (e':=e') (olds:=olds) (news:=news) (fr:=fr) ht hu hi hz gd e2 (λ h=>⟨(hA h).1,(hA h).2.1,(hA h).2.2.1⟩) (λ h=>(hA h).2.2.2.1)
  O h9 T hh Z hm hb with ⟨hroom,hrn⟩ | ⟨hgrow,K,w',rest,hrn,hK1,hK2,hom,hlenK⟩
 ·have n:=I _ hrn;by_cases Y:0<cap
  ·obtain ⟨gw,hg,W,hf,hd,S,ha⟩:=hA Y;simp only [Y,if_true,Result.andThen_ok] at n
   have V:len*inf.size+news.length<=cur.toList.length:=by
    rw [hh,<- zaa]; simp only [zah]; exact zap (zac _ hroom) W
   have R:=gt (w:=w) (cs:=(b7 cur.toList (len*inf.size) news).toArray) hg;have L:(b7 cur.toList (len*inf.size) news).length=cur.size:=by rw [j9 V]; simp
   have M:=Stays.modify (x':=.row inf.size z' D true (xs.take len++ys)) E d rfl S hg R (by simpa using L) (ver+1) (.inr (zav _));refine ⟨_,_,ρ,n,E.modify d rfl S hg R (by simpa using L) (ver+1) (.inr (zav _)) (.inl (E.unpinned d F)) ?_,.inl ⟨_,rfl,.own _ _ _ _ _ rfl (gi ?_)⟩⟩
   ·refine .inr ⟨g,_,e',fr,S,R.new,by simpa [L] using hf,hd,?_,λ i q H=>?_⟩
    ·simp only [zau,L,zat,zaj,zae e4];exact zap (zac _ hroom) W
    have he:=λ p=>u9 (l:=cur.toList) (m:=news) (i:=len*inf.size) V p;rw [zbd,zaj,zae e4] at H;split at H
    ·rename_i N;rw [zan,if_pos N] at H;refine ⟨(ha i q H).1,λ j r U=>?_⟩;obtain ⟨c,C,G,g3⟩:=(ha i q H).2 j r U;refine ⟨c,?_,G,g3.mono M.free⟩;have e6:j<inf.size:=by have:=(zab.1 U).1; have:=(ha i q H).1; omega
     rw [zag,he,if_neg]
     ·simpa using C
     have:(i+1)*inf.size<=len*inf.size:=zac _ N;rw [zaa,zaf] at this;omega
    rename_i N;refine ⟨(Q _ q H).1,λ j r U=>?_⟩;obtain ⟨c,C,G⟩:=(Q _ q H).2 j r U;refine ⟨c,?_,Z c (zal C),G.mono M.free⟩;have gl:=(zab.1 C).1
    have hv:len*inf.size+((i-len)*inf.size+j)=i*inf.size+j:=by
     rw [<- Nat.add_assoc,<- zaa,show len+(i-len)=i by omega]
    rw [zag,he,if_pos (by omega),show i*inf.size+j-len*inf.size=(i-len)*inf.size+j by omega,C]
   refine ⟨A,cap,rfl,hroom,e3,by simp [zae e4],λ _=>⟨g,_,e',fr,S,by simpa using gw,R.new,?_⟩⟩;simp only [zau,L,zak];exact W
  have ge:cap=0:=by omega
  subst ge;have e0:len=0:=by omega
  have gs:ys=[]:=zaz (by omega);subst e0; subst gs;simp only [Nat.lt_irrefl,if_false,Result.andThen_ok] at n;cases D with
  | true=>exact ⟨_,w,m9 ρ id none,n,E.nil id (ver+1) (E.unpinned d F) (λ v o h=>by rw [d] at h; cases h; exact zav _) _ _ _,.inl ⟨_,rfl,.own _ _ _ _ _ rfl (gi ⟨A,0,rfl,zad _,by simp,by simp,by simp⟩)⟩⟩
  | false=>
    rcases E.obj id ver _ d with ⟨_,_,q3⟩ | ⟨b',hp,e2,hn,C,G,g3,g4,g5,g6⟩
    ·cases q3
    refine ⟨_,w,ρ,n,E.modify (x':=.row inf.size z' false true []) d rfl C G (Mods.same G) rfl (ver+1) (.inr (zav _)) (.inl (E.unpinned d F)) (.inr ⟨b',hp,e2,hn,C,G,g3,(λ h=>by cases h),by simp,by simp⟩),.inl ⟨_,rfl,.own _ _ _ _ _ rfl (gi ⟨A,0,rfl,zad _,by simp,by simp,by simp⟩)⟩⟩
 have n:=I _ hrn;simp only [Result.andThen_ok] at n;have M:=Stays.alloc E hom id (ver+1) (λ v o h=>by rw [d] at h; cases h; exact zav _) (.row inf.size z' D true (xs.take len++ys));refine ⟨_,w',m9 ρ id (some w.heap.size),n,E.alloc hom id (ver+1) (E.unpinned d F) (λ v o h=>by rw [d] at h; cases h; exact zav _) _ (.inr ⟨w.heap.size,_,e,(0,0),by simp [m9],hom.new,by simp,λ _=>rfl,?_,λ i q H=>?_⟩),.inl ⟨_,rfl,.own _ _ _ _ _ rfl (gi ⟨_,K,rfl,hK1,hK2,by simp [zae e4],λ _=>⟨w.heap.size,_,e,(0,0),by simp [m9],by simp,hom.new,?_⟩⟩)⟩⟩
 ·simp only [zau,hlenK,zat,zaj,zae e4];exact zac _ hK1
 ·rw [zbd,zaj,zae e4] at H;split at H
  ·rename_i N;have ga:((xs.take len))[i]?=some q:=H;refine ⟨(h8 i q ga).1,λ j r U=>?_⟩;obtain ⟨c,C,G⟩:=(h8 i q ga).2 j r U;refine ⟨c,?_,gq c (zal C),G.mono M.free⟩;have:=(zab.1 C).1;rw [zag,zbc,zbg this,C]
  rename_i N;refine ⟨(Q _ q H).1,λ j r U=>?_⟩;obtain ⟨c,C,G⟩:=(Q _ q H).2 j r U;refine ⟨c,?_,Z c (zal C),G.mono M.free⟩;have gl:=(zab.1 C).1
  have hv:len*inf.size+((i-len)*inf.size+j)=i*inf.size+j:=by
   rw [<- Nat.add_assoc,<- zaa,show len+(i-len)=i by omega]
  rw [zag,zbc,List.getElem?_append_right (by omega),h9,zbg (by omega),show i*inf.size+j-len*inf.size=(i-len)*inf.size+j by omega,C]
 simp only [zau,hlenK,zak];exact zad _
theorem afi:∀(l:List Value) (j off:Nat) (a:Array Value),off+j+l.length<=a.size ->
 ((l.zipIdx j).foldl (λ cs (p:Value×Nat)=>cs.setIfInBounds (off+p.2) p.1) a).toList=b7 a.toList (off+j) l
 | [],j,off,a,h=>by simp [b7]
 | v::l,j,off,a,h=>by
   simp only [zba] at h;rw [List.zipIdx_cons,List.foldl_cons,afi l (j+1) off _ (by simp; omega)];have e:=list_seg_step a.toList (off+j) v l (by simp; omega);simpa [b7,Array.toList_setIfInBounds,Nat.add_assoc] using e
theorem akc {sz:Nat}:∀(vs:List Value) (k:Nat) (a:Array Value),(∀v∈vs,v.cells.size=sz)->a.size=(k+vs.length)*sz ->
 ∃r,Instr.fill (λ i=>some (i*sz,sz)) a ((List.range' k vs.length).zip vs)=some r/\r.toList=a.toList.take (k*sz)++vs.flatMap (λ v=>v.cells.toList)
 | [],k,a,h,hs=>by
   refine ⟨a,by simp [Instr.fill],?_⟩;simp only [List.flatMap_nil,List.append_nil];rw [zar];simp [hs]
 | v::vs,k,a,h,hs=>by
   have d:=h v (by simp)
   have b:k*sz+v.cells.size<=a.size:=by
    rw [hs,d];simp only [zba]
    calc k*sz+sz=(k+1)*sz:=by rw [zaa,zaf]
     _<=(k+(vs.length+1))*sz:=zac _ (by omega)
   have f:=afi v.cells.toList 0 (k*sz) a (by simpa using b);simp only [zai] at f
   have c:(v.cells.zipIdx.foldl (λ cs (p:Value×Nat)=>cs.setIfInBounds (k*sz+p.2) p.1) a).toList=b7 a.toList (k*sz) v.cells.toList:=by
    rw [<- f,<- Array.foldl_toList,Array.toList_zipIdx]
   have e:(b7 a.toList (k*sz) v.cells.toList).length=a.size:=by rw [j9 (by simpa using b)]; simp
   obtain ⟨r,m,j⟩:=akc vs (k+1) (v.cells.zipIdx.foldl (λ cs (p:Value×Nat)=>cs.setIfInBounds (k*sz+p.2) p.1) a) (λ u l=>h u (by simp [l])) (by
    rw [<- zah,c,e,hs];simp only [zba];congr 1
    omega)
   refine ⟨r,?_,?_⟩
   ·simp only [zba,List.range'_succ,List.zip_cons_cons,Instr.fill];rw [if_neg (by simp [d]; omega)];exact m
   rw [j,c];simp only [zbh,<- zbc];congr 1
   have g:(a.toList.take (k*sz)++v.cells.toList).length=(k+1)*sz:=by
    rw [zat,zaj,zae (by simp; omega),zah,d,zaa,zaf]
   exact List.take_left' g
theorem amg {sz:Nat} (f:Value->List Value):∀(vs:List Value) (i j:Nat) (v:Value),(∀v∈vs,(f v).length=sz)->vs[i]?=some v->j<sz->(vs.flatMap f)[i*sz+j]?=(f v)[j]?
 | [],i,j,v,h,hi,hj=>by simp at hi
 | u::vs,0,j,v,h,hi,hj=>by
   simp at hi; subst hi;have:=h u (by simp);rw [Nat.zero_mul,zak,zbh,zbg (by omega)]
 | u::vs,i+1,j,v,h,hi,hj=>by
   simp at hi;have a:=h u (by simp);rw [zbh,List.getElem?_append_right (by rw [a,zaa]; omega),a,show (i+1)*sz+j-sz=i*sz+j by rw [zaa]; omega];exact amg f vs i j v (λ v b=>h v (by simp [b])) hi hj
theorem aj9 {sz:Nat} (f:Value->List Value):∀(vs:List Value),(∀v∈vs,(f v).length=sz)->(vs.flatMap f).length=vs.length*sz
 | [],_=>by simp
 | u::vs,h=>by
   rw [zbh,zat,h u (by simp),aj9 f vs (λ v a=>h v (by simp [a])),zba,zaa];omega
theorem akg (r:Gam X s ρ a w) {e:Env} {ob:Obs} {l:List Nat} (C:e=s.e) (b:s.ob=Ev.freeze ob l):∀{t:List (Nat×Operand)} {A:List Opd} {p:Prop} {ys:List RV} {v:List Nat},s8 (λ p q=>opd p.2 q) t A=true->y8 e ob true A=some (p,ys,v)->p ->
 (∀i∈v,i∈l)->ys.length=t.length/\∀(i:Nat) (y:RV) (q:Nat×Operand),ys[i]?=some y->t[i]?=some q->RelV w (d7 X.B s.ob ρ w) y (a.eval q.2)
 | [],[],p,ys,v,_,h,_,_=>by simp [y8] at h; simp [h.2.1.symm]
 | q::t,o::A,p,ys,v,hall,h,hp,hs=>by
   simp [s8] at hall;simp only [y8] at h;split at h
   ·rename_i y k L M j f H;cases h;obtain ⟨D,F⟩:=akg r C b hall.2 H hp.2 (λ i g=>hs i (by simp [g]));refine ⟨by simp [D],λ i E K hy u=>?_⟩;cases i with
    | succ i=>
      simp at hy u;exact F i E K hy u
    | zero=>
      simp at hy u;subst hy; subst u; subst C;have hx:=d6 r rfl hall.1 hp.1;generalize (o.ev s.e).bare=x at hx f;unfold AV.elt at f;split at f
      ·rename_i xs;split at f
       ·rename_i G I d;cases f;generalize a.eval q.2=c at hx;cases hx;rename_i cs J m;refine .agg _ _ (by rw [kh d]; exact J) λ i y c hy hc=>?_;have z:i<xs.length:=by have:=(zab.1 hy).1; have:=kh d; omega
        have n:xs[i]?=some xs[i]:=by simp [z]
        exact aam r b d (λ i g=>hs i (by simp [g])) i _ y c n hy (m i _ c n hc)
       cases f
      exact afz r f (λ i g=>hs i (by simp [g])) b hx
   cases h
 | [],_::_,_,_,_,h,_,_,_=>by cases h
 | _::_,[],_,_,_,h,_,_,_=>by cases h
theorem agt {R:Nat->Prop} {y:RV} {c:Value} {sz:Nat} (h:RelV w R y c) (i:y.good sz=true):c.cells.size=sz/\∀(j:Nat) (q:RV),y.cells[j]?=some q->∃u,c.cells[j]?=some u/\u.oneCell'=true/\RelV w R q u:=by
 simp only [RV.good,zbi,beq_iff_eq] at i;obtain ⟨d,e⟩:=i;cases h with
 | v x=>
   simp only [RV.cells,List.all_cons,List.all_nil,Bool.and_true,List.length_singleton] at d e;rw [ain e];refine ⟨by simpa using d,λ j q a=>?_⟩;cases j with
   | zero=>simp [RV.cells] at a; subst a; exact ⟨_,rfl,e,.v _⟩
   | succ j=>simp [RV.cells] at a
 | agg xs cs hl h=>
   simp only [RV.cells] at d e;refine ⟨by simp [Value.cells,hl,d],λ j q a=>?_⟩;have f:=(zab.1 a).1;simp only [RV.cells] at f a;have hc:cs[j]?=some cs[j]:=by simp [show j<cs.size by omega]
   have:=h j q _ a hc;refine ⟨_,hc,ai8 this ?_,this⟩;have:=(zab.1 a).2;rw [<- this];exact zao.1 e _ (zay _)
 | sl k xs A cap hc hm b o g hA hz hg' hr=>
   simp only [RV.cells,List.length_singleton] at d;refine ⟨by simpa [Value.cells] using d,λ j q a=>?_⟩;cases j with
   | zero=>simp [RV.cells] at a; subst a; exact ⟨_,rfl,rfl,.sl k xs A cap hc hm b o g hA hz hg' hr⟩
   | succ j=>simp [RV.cells] at a
theorem awk {d sz m:Nat} {z:RV} {t e:TypeId} {inf:TypeInfo} {W:Value} {g:Array (Nat×Operand)} {R:List Opd} {p:Prop} {ys:List RV} {A:List Nat} {ok:Prop} (O:d<X.n) (hG:Gam X s ρ a w) (ho:o.op=.buildSlice t m g) (ht:P.underlying t=some (.slice e)) (G:P.info? e=some inf)
 (hz:inf.zero=some W) (N:inf.size=sz) (hm:m=R.length) (B:s8 (λ p q=>opd p.2 q) g.toList R=true) (V:g.toList.map (·.1)=List.range m) (h4:m*sz<=16777216) (h1:m<=16777216)
 (S:y8 s.e s.ob true R=some (p,ys,A)) (hp:p) (b:ys.all (·.good sz)=true) (hd:d∉A) :
 dp P X a w s o (m7 (Ev.freeze s.ob A) d (.row sz z true true ys) (λ v=>.own d v 0 ys.length) ok A A):=by
 have D:=Gam.freeze (s:=s) A (ob:=s.ob) hG;obtain ⟨h3,C⟩:=akg (s:=⟨s.e,Ev.freeze s.ob A⟩) (ob:=s.ob) (l:=A) D rfl rfl B S hp (λ _ h=>h);subst N;have E:g.toList.length=m:=by rw [gv B,hm]
 have c:∀v∈g.toList.map (λ q=>a.eval q.2),v.cells.size=inf.size:=λ v F=>by
  obtain ⟨i,G⟩:=zbe.1 F;rw [zam,zax] at G;obtain ⟨q,K,rfl⟩:=G;have Q:=(zab.1 K).1;have hy:ys[i]?=some (ys[i]'(by omega)):=by simp [show i<ys.length by omega]
  exact (agt (C i _ q hy K) (zao.1 b _ (zay _))).1
 have f:(g.map λ (i,x)=>(i,a.eval x)).toList=(List.range' 0 m).zip (g.toList.map λ q=>a.eval q.2):=by
  rw [<- List.range_eq_range',<- V];simp only [Array.toList_map];generalize g.toList=l
  induction l with
  | nil=>rfl
  | cons q l ih=>simp [ih]
 obtain ⟨r,k,J⟩:=akc (sz:=inf.size) (g.toList.map λ q=>a.eval q.2) 0 ((Array.range (m*inf.size)).map (λ i=>(if m*inf.size=0 then (#[]:Array Value) else W.cells)[i%(if m*inf.size=0 then (#[]:Array Value) else W.cells).size]!)) c (by simp [E])
 have M:(execOp a.eval o).run P w=.ok (.value (.slice (some ⟨w.heap.size,0,none⟩) m m)) (w.alloc (.cells r e)):=by
  rw [List.length_map,E] at k;simp only [execOp,ho,Instr.buildSlice,Sem.run_bind,run_underlying ht,Result.andThen_ok,sizeOf,typeInfo,run_program,G,Sem.run_pure,if_neg (show ¬(m*inf.size>2^24) by omega)];by_cases h0:m*inf.size=0
  ·simp only [h0,if_true,Sem.run_pure,Result.andThen_ok,f] at k |-;simp only [k,newRow,Sem.run_bind,run_newObj,Result.andThen_ok,Sem.run_pure]
   rfl
  simp only [h0,if_false,zeroValue,typeInfo,Sem.run_bind,run_program,G,hz,Result.andThen_ok,Sem.run_pure,f] at k |-;simp only [k,newRow,Sem.run_bind,run_newObj,Result.andThen_ok,Sem.run_pure]
  rfl
 have H:ys.length=m:=by omega
 have I:r.size=m*inf.size:=by
  rw [<- zah,J,zat,aj9 (sz:=inf.size) _ _ (λ v F=>by simpa using c v F)];simp [E]
 have U:=Stays.alloc D (v4 (.cells r e)) d (nv (Ev.freeze s.ob A) d) (λ v o h=>rz h) (.row inf.size z true true ys)
 refine mj (s:=s) O D (v4 _) M (.inr ⟨w.heap.size,r,e,(0,0),by simp [m9],(v4 _).new,by simp,λ _=>rfl,by rw [H,I]; exact zad _,λ i y hy=>⟨?_,λ j q hj=>?_⟩⟩)
  (.own _ _ _ _ _ rfl (gi ⟨_,m,by rw [H],by omega,?_,by simp,λ _=>⟨w.heap.size,r,e,(0,0),by simp [m9],by simp,(v4 _).new,by rw [zak,I]; exact zad _⟩⟩))
 ·have:=zao.1 b y (zal hy);simp only [RV.good,zbi,beq_iff_eq] at this;exact this.1
 ·have Q:=(zab.1 hy).1;have K:g.toList[i]?=some (g.toList[i]'(by omega)):=by simp [show i<g.size by rw [<- zah]; omega]
  have Z:=zao.1 b y (zal hy);obtain ⟨g1,g2⟩:=agt (C i y _ hy K) Z;obtain ⟨u,L,T,Y⟩:=g2 j q hj;have h2:=(Array.getElem?_eq_some_iff.1 L).1;refine ⟨u,?_,T,Y.mono U.free⟩;rw [<- zbb,J];simp only [Nat.zero_mul,List.take_zero,List.nil_append];rw [amg (sz:=inf.size) _ _ i j (a.eval (g.toList[i]'(by omega)).2) (λ v F=>by simpa using c v F) (by rw [zam,K]; rfl) (by omega)];simpa using L
 simp only [maxLen]; omega
theorem awd {sz id ver I n:Nat} {F:RV} {xs:List RV} {t e:TypeId} {x:Operand} {ok:Prop} {rd':List Nat} (D:Gam X s ρ a w) (Y:o.op=.convert t t x) (ht:P.underlying t=some (.slice e)) (V:P.underlying e=some (.int .u8))
 (hx:RA X s ρ w (.own id ver I n) (a.eval x)) (H:i8 s.ob id ver=some (sz,F,true,true,xs)) (hn:0<n) :
 dp P X a w s o ⟨ok,.own id ver I n,upd id (ver,.row sz F false true xs) s.ob,rd',[id]⟩:=by
 have d:=o4 H;simp only at d;obtain ⟨A,cap,G,e2,e3,O,T⟩:=ki hx H;simp only at O;obtain ⟨b,W,ee,U,z,Z,f3,f4⟩:=T (by omega);rcases D.obj id ver _ d with ⟨q1,K,_⟩ | ⟨b',cs,e',fr,p,r,N,l,B,m⟩
 ·rw [z] at K; cases K
 rw [z] at p;cases p;obtain rfl:fr=(0,0):=l rfl
 have E:w.shape? b=some (e',cs.size):=by
  unfold World.shape?;rw [r]
 have S:b<w.heap.size:=(Array.getElem?_eq_some_iff.1 r).1;obtain ⟨w',v⟩:∃w',w.freeze ⟨b,cs.size,none⟩ 1=w':=⟨_,rfl⟩
 have f:Mods w w' b (.cells cs e' (cs.size,cs.size+1)):=by
  rw [<- v];unfold World.freeze;rw [if_neg (by decide)];refine ⟨rfl,rfl,rfl,by simp,?_,λ k J=>?_⟩
  ·simp only [Array.getElem?_modify,if_true,r,Option.map_some]
   rfl
  simp only [Array.getElem?_modify];rw [if_neg (λ e=>J e.symm)]
 have g:(convert t t (a.eval x)).run P w=.ok (a.eval x) w':=by
  rw [G,Z];simp [convert,run_underlying ht,run_underlying V,markStringish,E];exact v
 have C:(execOp a.eval o).run P w=.ok (.value (a.eval x)) w':=by
  simp only [execOp,Y,Sem.run_bind,g,Result.andThen_ok,Sem.run_pure]
 have u:=Stays.modify (x':=.row sz F false true xs) D d rfl z r f rfl ver (.inl ⟨rfl,rfl,zad _⟩);refine ⟨_,w',ρ,C,D.modify d rfl z r f rfl ver (.inl ⟨rfl,rfl,zad _⟩) (.inl (D.unpinned d rfl)) ?_,.inl ⟨_,rfl,hx.stays u⟩⟩;refine .inr ⟨b,cs,e',_,z,f.new,λ k J=>(by simp; omega),λ h=>(by cases h),B,λ i y hy=>⟨(m i y hy).1,λ j q R=>?_⟩⟩;obtain ⟨c,L,Q,M⟩:=(m i y hy).2 j q R;exact ⟨c,L,Q,M.mono u.free⟩
theorem ak8 {d:Nat} {z:RV} {t u e:TypeId} {inf:TypeInfo} {x:Operand} {b:ByteArray} {ok:Prop} (A:d<X.n) (E:Gam X s ρ a w) (J:o.op=.convert t u x) (F:P.underlying t=some .string) (G:P.underlying u=some (.slice e)) (I:P.underlying e=some (.int .u8))
 (hx:a.eval x=.string b) (K:b.size<=maxLen):dp P X a w s o (m7 s.ob d (.row 1 z false true (b.data.toList.map λ b=>.v (.int .u8 b.toNat))) (λ v=>.own d v 0 b.size) ok [] []):=by
 have m:=grownCap_ge w b.size 0 e;have D:=grownCap_le_maxLen w b.size 0 e K;have l:b.data.size=b.size:=rfl;generalize g:bytesRow b (grownCap w b.size 0 e)=f;have p:f.size=grownCap w b.size 0 e:=by rw [<- g]; simp [bytesRow,l]; omega
 have r:(execOp a.eval o).run P w=.ok (.value (.slice (some ⟨w.heap.size,0,none⟩) b.size (grownCap w b.size 0 e))) (w.drew.alloc (.cells f e (f.size,f.size+1))):=by
  have:=run_bytes_of_string (P:=P) w t u e b F G I;rw [g] at this;simp only [execOp,J,hx,Sem.run_bind,this,Result.andThen_ok,Sem.run_pure]
 have H:=Stays.alloc E (jy (.cells f e (f.size,f.size+1))) d (nv s.ob d) (λ v o h=>rz h) (.row 1 z false true (b.data.toList.map λ b=>.v (.int .u8 b.toNat)))
 refine mj A E (jy _) r (.inr ⟨w.heap.size,f,e,_,by simp [m9],(jy _).new,λ k L=>by simp; omega,by simp,by simp [l,p,m],λ i y hy=>?_⟩)
  (.own _ _ _ _ _ rfl (gi ⟨_,_,rfl,m,D,by simp [l],λ _=>⟨w.heap.size,f,e,_,by simp [m9],by simp,(jy _).new,by simp [p]⟩⟩))
 rw [zam,zax] at hy;obtain ⟨c,hc,rfl⟩:=hy;refine ⟨rfl,λ j q C=>?_⟩;cases j with
 | succ j=>simp [RV.cells] at C
 | zero=>
   simp [RV.cells] at C;subst C;refine ⟨_,?_,rfl,.v _⟩;have B:=(zab.1 hc).1;simp only [zah] at B;rw [<- g];unfold bytesRow;rw [Array.getElem?_append_left (by simp; omega)];simp at hc |-;exact ⟨c,by simpa using hc,rfl⟩
theorem avq {a b:Value} (h:eqv a b=true):a.oneCell'=true:=by
 unfold eqv at h;split at h<;>first | rfl | cases h
theorem ahw {R:Nat->Prop} {v:Value} {q:RV} (h:eqr v q=true):v.oneCell'=true/\RelV w R q v:=by
 unfold eqr at h;split at h
 ·exact ⟨rfl,.sl _ [] none 0 (by simp) (by simp) 0 0 (λ _ _=>undef) (by simp) (by simp) (by simp) (by simp)⟩
 ·refine ⟨avq h,?_⟩;rw [agv h];exact .v _
 cases h
theorem awe {d sz f:Nat} {z:RV} {t e:TypeId} {inf:TypeInfo} {v:Value} {x y:Operand} {k K:IntKind} {l c:Int} {ok:Prop} (C:d<X.n) (L:Gam X s ρ a w) (T:o.op=.makeSlice t x y) (R:P.underlying t=some (.slice e)) (Q:P.info? e=some inf) (U:inf.zero=some v)
 (B:inf.size=sz) (G:inf.bytes=f) (m:s8 eqr v.cells.toList z.cells=true) (p:v.cells.size=sz) (hx:a.eval x=.int k l) (hy:a.eval y=.int K c) (O:0<=l) (H:l<=c) (hc:c<=maxLen) (V:c*f<=281474976710656) :
 dp P X a w s o (m7 s.ob d (.row sz z true true (aah l z)) (λ v=>.own d v 0 l.toNat) ok [] []):=by
 subst B; subst G;have E:(c:Int)<=9223372036854775807:=by simp only [maxLen] at hc; omega
 have g:=run_make (P:=P) w t e inf v R Q U k K l c O H (by rw [Int.mul_comm]; exact V) E
 have u:(execOp a.eval o).run P w=.ok (.value (.slice (some ⟨w.heap.size,0,none⟩) l.toNat c.toNat)) (w.alloc (.cells (madeCells v.cells (c.toNat*inf.size)) e)):=by
  simp only [execOp,T,hx,hy,Sem.run_bind,g,Result.andThen_ok,Sem.run_pure]
 have b:=size_madeCells v.cells (c.toNat*inf.size)
 refine mj C L (v4 _) u (.inr ⟨w.heap.size,_,e,(0,0),by simp [m9],(v4 _).new,by simp,λ _=>rfl,?_,λ i q A=>?_⟩)
  (.own _ _ _ _ _ rfl (gi ⟨_,_,rfl,by omega,by simp only [maxLen] at hc |-; omega,by simp [aah],λ _=>⟨w.heap.size,_,e,(0,0),by simp [m9],by simp,(v4 _).new,by rw [b,zak]; exact zad _⟩⟩))
 ·rw [b];simp only [aah,zbj];exact zac _ (by omega)
 simp only [aah,List.getElem?_replicate] at A;split at A
 ·rename_i N;cases A;have F:z.cells.length=inf.size:=by rw [<- gv m]; simpa using p
  refine ⟨F,λ j q J=>?_⟩;have M:=(zab.1 J).1;have I:v.cells[j]?=some (v.cells[j]'(by omega)):=by simp [show j<v.cells.size by omega]
  have S:=ye m (i:=j) (by rw [zbb]; exact I) J
  have h:(madeCells v.cells (c.toNat*inf.size))[i*inf.size+j]?=some (v.cells[j]'(by omega)):=by
   have D:i*inf.size+j<c.toNat*inf.size:=by
    have:(i+1)*inf.size<=c.toNat*inf.size:=zac _ (by omega);rw [zaa,zaf] at this;omega
   have r:(i*inf.size+j)%v.cells.size=j:=by
    rw [p,zaq,Nat.mul_add_mod,Nat.mod_eq_of_lt (by omega)]
   simp [madeCells,D,r,show j<v.cells.size by omega]
  exact ⟨_,h,ahw S⟩
 cases A
theorem atl {z:Array Value} {n sz i j:Nat} (c:z.size=sz) (d:i<n) (e:j<sz):(Builtin.zeroCells z n).toList[i*sz+j]?=z[j]?:=by
 have b:i*sz+j<n*z.size:=by
  have:(i+1)*sz<=n*sz:=zac _ (by omega);rw [zaa,zaf] at this;rw [c];omega
 have a:(i*sz+j)%z.size=j:=by
  rw [c,zaq,Nat.mul_add_mod,Nat.mod_eq_of_lt (by omega)]
 rw [zbb];simp [Builtin.zeroCells,b,a,show j<z.size by omega]
theorem awj {sz id ver d n:Nat} {z z':RV} {H:Bool} {xs:List RV} {rd':List Nat} {t e:TypeId} {inf:TypeInfo} {v:Value} {c:Call} {x:Operand} {ok:Prop} (hG:Gam X s ρ a w) (ho:o.op=.call c) (hc:c.callee=.builtin .clear)
 (M:c.args=#[x]) (h6:c.argTypes=#[t]) (ht:P.underlying t=some (.slice e)) (hi:P.info? e=some inf) (hf:inf.size=sz) (hz:inf.zero=some v) (h3:s8 eqr v.cells.toList z.cells=true) (K:v.cells.size=sz)
 (hx:RA X s ρ w (.own id ver d n) (a.eval x)) (hr:i8 s.ob id ver=some (sz,z',H,true,xs)) :
 dp P X a w s o ⟨ok,.undef,upd id (ver,.row sz z' H true (spl xs d (zaw n z))) s.ob,rd',[id]⟩:=by
 unfold spl;subst hf;have F:=o4 hr;simp only at F;obtain ⟨A,cap,hd,e2,e3,e4,e5⟩:=ki hx hr;simp only at e4
 have E:∀r,(Builtin.clear_ #[t] o.type #[.slice A n cap]).run P w=r->(execOp a.eval o).run P w=r.andThen λ q w'=>.ok (.value q) w':=by
  rintro r rfl;simp [execOp,ho,resolve,hc,M,h6,invoke,builtin,hd]
 by_cases h0:n=0
 ·subst h0
  have T:(Builtin.clear_ #[t] o.type #[.slice A 0 cap]).run P w=.ok (.tuple #[]) w:=by
   cases A<;>simp [Builtin.clear_,run_underlying ht]
  have f:=E _ T;simp only [Result.andThen_ok] at f;refine ⟨_,w,ρ,f,?_,.inl ⟨_,rfl,.undef _⟩⟩;have e:b7 xs d (zaw 0 z)=xs:=by simp [b7]
  rw [e]
  rw [show upd id (ver,Ob.row inf.size z' H true xs) s.ob=s.ob from by
   funext i;unfold upd;split
   ·rename_i h; rw [h,F]
   rfl]
  exact hG
 have hg:0<cap:=by omega
 obtain ⟨b,hs,ee,hp,f1,f2,f3,f4⟩:=e5 hg;rcases hG.obj id ver _ F with ⟨q1,q2,_⟩ | ⟨b',cs,e',fr,h8,hh,h7,W,I,O⟩
 ·rw [f1] at q2; cases q2
 rw [f1] at h8;cases h8;have h1:(Builtin.zeroCells v.cells n).toList.length=n*inf.size:=by rw [zah,size_zeroCells,K]
 have S:(d+n)*inf.size<=cs.size:=zap (zac _ (by omega)) I
 have G:d*inf.size+(Builtin.zeroCells v.cells n).toList.length<=cs.toList.length:=by
  rw [h1,<- zaa];simpa using S
 have hl:z.cells.length=inf.size:=by rw [<- gv h3]; simpa using K
 have hb:∀j y,z.cells[j]?=some y->∃u,v.cells[j]?=some u/\eqr u y=true:=λ j y J=>by
  have h2:=(zab.1 J).1;have hv:v.cells[j]?=some (v.cells[j]'(by omega)):=by simp [show j<v.cells.size by omega]
  exact ⟨_,hv,ye h3 (i:=j) (by rw [zbb]; exact hv) J⟩
 have Y:∀u∈(Builtin.zeroCells v.cells n).toList,u.oneCell'=true:=λ u hu=>by
  simp only [Builtin.zeroCells,Array.toList_map,List.mem_map] at hu;obtain ⟨i,hi,rfl⟩:=hu;have hk:i<n*v.cells.size:=by simpa using hi
  have he:0<v.cells.size:=by
   rcases zbf v.cells.size with h | h
   ·rw [h] at hk; omega
   exact h
  have hm:=Nat.mod_lt i he;have hy:z.cells[i%v.cells.size]?=some (z.cells[i%v.cells.size]'(by omega)):=by simp [show i%v.cells.size<z.cells.length by omega]
  obtain ⟨u,g1,Z⟩:=hb _ _ hy
  have:v.cells[i%v.cells.size]! = u:=by
   rw [Array.getElem!_eq_getD,Array.getD_eq_getD_getElem?,g1]
   rfl
  rw [this];exact (ahw (w:=w) (R:=λ _=>True) Z).1
 have h4:=uf (P:=P) b (d*inf.size) e' fr (Builtin.zeroCells v.cells n).toList 0 cs w hh h7 (by simpa using G) Y
 have T:(Builtin.clear_ #[t] o.type #[.slice A n cap]).run P w=.ok (.tuple #[]) (w.setRow b (b7 cs.toList (d*inf.size) (Builtin.zeroCells v.cells n).toList).toArray):=by
  simp only [zai] at h4;rw [f2];obtain ⟨k,rfl⟩:∃k,n=k+1:=⟨n-1,by omega⟩
  simp [Builtin.clear_,run_underlying ht,zeroValue,typeInfo,hi,hz,h4,b7]
 have f:=E _ T;simp only [Result.andThen_ok] at f;generalize L:(Builtin.zeroCells v.cells n).toList=g at *;have Q:=gt (w:=w) (cs:=(b7 cs.toList (d*inf.size) g).toArray) hh;have D:(b7 cs.toList (d*inf.size) g).length=cs.size:=by rw [j9 G]; simp
 have h5:d+(zaw n z).length<=xs.length:=by rw [zbj]; omega
 have C:(b7 xs d (zaw n z)).length=xs.length:=j9 h5;have U:=Stays.modify (x':=.row inf.size z' H true (b7 xs d (zaw n z))) hG F rfl f1 hh Q (by simpa using D) ver (.inl ⟨rfl,rfl,by rw [C]; exact zad _⟩);refine ⟨_,_,ρ,f,hG.modify F rfl f1 hh Q (by simpa using D) ver (.inl ⟨rfl,rfl,by rw [C]; exact zad _⟩) (.inr ⟨rfl,⟨rfl,by rw [C]; exact zad _⟩,λ h=>h⟩) ?_,.inl ⟨_,rfl,.undef _⟩⟩;refine .inr ⟨b,_,e',fr,f1,Q.new,by simpa [D] using h7,W,by simpa [D,C] using I,λ i q N=>?_⟩;have V:=λ p=>u9 (l:=cs.toList) (m:=g) (i:=d*inf.size) G p;rw [u9 h5,zbj] at N;split at N
 ·rename_i ha;rw [List.getElem?_replicate,if_pos (by omega)] at N;cases N;refine ⟨hl,λ j r J=>?_⟩;have h2:=(zab.1 J).1;obtain ⟨u,g1,Z⟩:=hb j r J
  have hw:(i-d)*inf.size+j<n*inf.size:=by
   have:(i-d+1)*inf.size<=n*inf.size:=zac _ (by omega);rw [zaa,zaf] at this;omega
  have hn:i*inf.size=d*inf.size+(i-d)*inf.size:=by rw [<- zaa,show d+(i-d)=i by omega]
  have h9:=ahw (w:=w.setRow b (b7 cs.toList (d*inf.size) g).toArray) (R:=d7 X.B (upd id (ver,.row inf.size z' H true (b7 xs d (zaw n z))) s.ob) ρ (w.setRow b (b7 cs.toList (d*inf.size) g).toArray)) Z;refine ⟨u,?_,h9.1,h9.2⟩;rw [zag,V,if_pos (by omega),show i*inf.size+j-d*inf.size=(i-d)*inf.size+j by omega,<- L,atl K (by omega) (by omega)];exact g1
 rename_i ha;refine ⟨(O i q N).1,λ j r J=>?_⟩;obtain ⟨c,g1,Z,g3⟩:=(O i q N).2 j r J;have h2:j<inf.size:=by have:=(zab.1 J).1; have:=(O i q N).1; omega
 refine ⟨c,?_,Z,g3.mono U.free⟩;rw [zag,V,h1,if_neg]
 ·simpa using g1
 rintro ⟨p1,p2⟩;apply ha;constructor
 ·rcases zas i d with h | h
  ·have:(i+1)*inf.size<=d*inf.size:=zac _ h;rw [zaa,zaf] at this;omega
  exact h
 rcases zas i (d+n) with h | h
 ·exact h
 have:(d+n)*inf.size<=i*inf.size:=zac _ h;rw [zaa] at this;omega
theorem at8 {g:Bool} (i:g=true) {t e:TypeId} {inf:TypeInfo} {n:Nat} {x:Operand} {u:AV} (m:Gam X s ρ a w) (z:o.op=.slice t x none none none) (A:P.underlying t=some (.array n e)) (q:P.info? e=some inf)
 (D:inf.size=1) (r:RA X s ρ w u (a.eval x)) (c:(qc g n u s.ob).ok):l6 P X a w s ρ o (qc g n u s.ob).v:=by
 unfold qc at c |-;split at c
 ·rename_i id ver off;rcases hr:n7 s.ob id ver with _ | j
  ·rw [hr] at c; exact (c i).elim
  rw [hr] at c;obtain ⟨B,p⟩:=c i;have k:=dn hr;cases r;rename_i h;obtain ⟨b,f,hc⟩:=h.live k;obtain ⟨C,cs,e',d,y,l,_⟩:=m.obj id ver _ k;rw [f] at d;cases d
  skip
  refine ⟨.slice (some ⟨b,off,none⟩) n n,?_,.own _ _ _ _ _ rfl ⟨_,_,k,zad _,λ _=>⟨_,n,rfl,zad _,p,λ _=>⟨b,cs,e',(0,0),f,rfl,y,by omega⟩⟩⟩⟩;simp [execOp,z,Instr.sliceAt,run_underlying A,hc,Instr.sureAddr,Instr.sliceBounds,sizeOf,typeInfo,q,ba]
 first | exact (c i).elim | exact (c.2 i).elim | exact c.2.elim
theorem at0 (F:Gam X s ρ a w) {y:AV} {c:Value} {sz:Nat} {ys:List RV} {rd:List Nat} (g:src s.ob y=some (sz,ys,rd)) (hy:RA X s ρ w y c):RelV w (λ _=>True) (.sl sz ys) c:=by
 unfold src at g;split at g
 ·cases g;cases hy;rename_i hy;exact hy.mono λ b _=>⟨trivial,rfl⟩
 ·cases g;cases hy;exact .sl _ [] none 0 (by simp) (by simp) 0 0 (λ _ _=>undef) (by simp) (by simp) (by simp) (by simp)
 ·split at g
  ·rename_i id ver k len _ sz z G K xs t;cases g;have m:=o4 t;simp only at m;obtain ⟨A,cap,rfl,S,E,u,B⟩:=ki hy t;simp only at u B;have l:((xs.drop k).take len).length=len:=by simp; omega
   have h:=RelV.sl (w:=w) (R:=λ _=>True) sz ((xs.drop k).take len) A cap (by omega) E;rw [l] at h
   have d:∀(i:Nat) (x:RV),((xs.drop k).take len)[i]?=some x->xs[k+i]?=some x:=λ i x f=>by
    rw [zan] at f;split at f
    ·rwa [List.getElem?_drop] at f
    cases f
   rcases F.obj id ver _ m with ⟨p,C,_⟩ | ⟨b,cs,e,fr,p,C,P,Q,T,q⟩
   ·subst p;have:len=0:=by simp at u; omega
    subst this;exact h 0 0 (λ _ _=>undef) (by simp) (by simp) (by simp) (by simp)
   refine h b (k*sz) (λ i j=>(cs[(k+i)*sz+j]?).getD undef) (λ M=>?_) (λ i x f=>(q _ x (d i x f)).1) (λ i x j y f o=>?_) (λ i x j y f o=>?_)
   ·obtain ⟨O,I,e',H,D,J,L,N⟩:=B (by omega);rw [p] at D;cases D;exact ⟨J,trivial⟩
   ·obtain ⟨c,n,v,r⟩:=(q _ x (d i x f)).2 j y o;rw [n];refine ⟨?_,v⟩;simp only [World.cell?,C,Option.isSome_none,Bool.false_eq_true,if_false,Option.getD_some];rw [<- n,zaa]
   obtain ⟨c,n,v,r⟩:=(q _ x (d i x f)).2 j y o;rw [n];exact r.mono λ b _=>⟨trivial,rfl⟩
  cases g
 cases g
theorem aoq {t d e:TypeId} {x:Operand} {u:AV} {sz:Nat} {ys:List RV} {rd:List Nat} (C:Gam X s ρ a w) (H:o.op=.convert t d x) (y:P.underlying t=some (.slice e)) (p:P.underlying e=some (.int .u8)) (v:P.underlying d=some .string)
 (G:RA X s ρ w u (a.eval x)) (E:src s.ob u=some (sz,ys,rd)) (h:sz=1) (I:ys.all aj2=true):l6 P X a w s ρ o (amz ⟨(ys.map adt).toArray⟩):=by
 have k:=at0 C E G;subst h;generalize hc:a.eval x=c at k;cases k;rename_i A cap J b o' g B F k K D;simp only [l6,execOp,H,hc];refine ⟨_,?_,be _⟩
 have i:(convert t d (.slice A ys.length cap)).run P w=.ok (.string ⟨(ys.map adt).toArray⟩) w:=by
  rcases zbf ys.length with l | l
  ·have r:ys=[]:=zaz l;subst r;cases A with
   | none=>
     rw [run_convert_bytes_string w t d e none _ cap y p v];simp [Conv.bytesToString]
     rfl
   | some ad=>exact run_convert_bytes_back w t d e ad cap [] y p v (by simp)
  obtain ⟨rfl,_⟩:=F l
  have:=run_convert_bytes_back (P:=P) w t d e ⟨b,o',none⟩ cap (ys.map adt) y p v λ j n=>by
   simp only [List.length_map] at n;have hy:ys[j]?=some ys[j]:=by simp [n]
   have f:=zao.1 I ys[j] (zay n);simp only [List.getElem_map];generalize ys[j]=q at hy f;unfold aj2 at f;split at f
   ·rename_i m;have h:=(D j _ 0 _ hy rfl).1;have z:=k j _ 0 _ hy rfl;cases hgj:g j 0<;>rw [hgj] at z<;>cases z;rw [ba];rw [hgj] at h;simp only [Nat.mul_one,zai] at h;rw [h];simp only [decide_eq_true_eq] at f;simp only [adt,UInt8.toNat_ofNat'];congr 2;omega
   cases f
  simpa using this
 simp only [Sem.run_bind,i,Result.andThen_ok,Sem.run_pure]
theorem auh {g:Bool} (j:g=true) {d:Bool} {op:BinOp} {t ty e:TypeId} {x:Operand} {u:AV} (m:o.op=.binOp op t x (.const (.pointer none)) ty) (f:op=if d then .neq else .eql) (q:P.underlying t=some (.pointer e))
 (l:RA X s ρ w u (a.eval x)) (c:(sj g d u s.ob).ok):l6 P X a w s ρ o (sj g d u s.ob).v:=by
 have i:P.underlying t=some (.pointer (P.pointee t)):=by simp [Program.pointee,q]
 unfold sj at c |-;split at c
 ·split at c
  ·rename_i r n;cases l;rename_i hc h;obtain ⟨o',k⟩:=af3 n;obtain ⟨b,_,hc⟩:=h.live k;simp only [l6,execOp,m,hc];refine ⟨_,?_,be _⟩;subst f;cases d<;>simp [eqGuard,binOp,Act.eval,run_equal_pointer_nil w t _ i]
  first | exact (c j).elim | exact (c.2 j).elim
 ·have p:=j8 l;simp only [l6,execOp,m,p];refine ⟨_,?_,be _⟩;subst f;cases d<;>simp [eqGuard,binOp,Act.eval,run_equal_pointer_nil w t _ i]
 first | exact (c j).elim | exact (c.2 j).elim
theorem akb {t:TypeId} {g:Bool} (B:g=true) (D:Gam X s ρ a w) {t7:Nat->Option (Nat×Nat)} (u:∀(p:Nat×Operand) (q:Nat×Nat×Opd),qu P t p q=true->t7 p.1=some (q.1,q.2.1)) :
 ∀(z:List (Nat×Operand)) (o:List (Nat×Nat×Opd)) (j:List AV) (b:Array Value),s8 (qu P t) z o=true->(br g s.e j o).1->b.size=j.length ->
  (∀(i:Nat) (x:AV) (c:Value),j[i]?=some x->b[i]?=some c->RA X s ρ w x c) ->
  ∃r ys,Instr.fill t7 b (z.map λ p=>(p.1,a.eval p.2))=some r/\(br g s.e j o).2=.agg ys/\r.size=ys.length/\∀(i:Nat) (x:AV) (c:Value),ys[i]?=some x->r[i]?=some c->RA X s ρ w x c
 | [],[],j,b,_,_,hs,hr=>⟨b,j,by simp [Instr.fill],rfl,hs,hr⟩
 | p::z,(off,m,y)::o,j,b,d,hok,hs,hr=>by
   simp [s8] at d;obtain ⟨A,d⟩:=d;simp only [br] at hok |-;obtain ⟨M,v,N⟩:=hok;obtain ⟨J,O,Q⟩:=v B;have f:=u p _ A;have l:opd p.2 y=true:=by simp [qu] at A; exact A.1
   have hx:=d6 D B l M;obtain ⟨K,I⟩:=aiu hx J;generalize (y.ev s.e).bare.cells=xs at *;have E:=afi (a.eval p.2).cells.toList 0 off b (by simp; omega);simp only [zai] at E
   have n:((a.eval p.2).cells.zipIdx.foldl (λ cs (q:Value×Nat)=>cs.setIfInBounds (off+q.2) q.1) b).toList=b7 b.toList off (a.eval p.2).cells.toList:=by
    rw [<- E,<- Array.foldl_toList,Array.toList_zipIdx]
   have C:(b7 b.toList off (a.eval p.2).cells.toList).length=b.size:=by rw [j9 (by simp; omega)]; simp
   obtain ⟨r,ys,F,H,G,L⟩:=akb B D u z o (b7 j off xs) ((a.eval p.2).cells.zipIdx.foldl (λ cs (q:Value×Nat)=>cs.setIfInBounds (off+q.2) q.1) b) d N
    (by rw [<- zah,n,C,j9 (by omega),hs]) (λ i x c hx hc=>by
     rw [u9 (by omega)] at hx;rw [<- zbb,n,u9 (by simp; omega)] at hc;simp only [zah,K] at hc;split at hx
     ·rename_i k;rw [if_pos k] at hc;exact I _ x c hx (by simpa using hc)
     rename_i k;rw [if_neg k] at hc
     exact hr i x c hx (by simpa using hc))
   refine ⟨r,ys,?_,H,G,L⟩;simp only [List.map_cons,Instr.fill,f];rw [if_neg (by simp; omega)];exact F
 | [],_::_,_,_,h,_,_,_=>by cases h
 | _::_,[],_,_,h,_,_,_=>by cases h
theorem ajy {b a:Type} (f:b->Option a) (d:a):∀(l:List b),(l.all λ x=>(f x).isSome)=true->l.mapM f=some (l.map λ x=>(f x).getD d)
 | [],_=>rfl
 | x::l,h=>by
   simp at h;obtain ⟨y,hy⟩:=Option.isSome_iff_exists.1 h.1;have:=ajy f d l (by simpa using h.2);simp [List.mapM_cons,hy,this]
theorem aou {g:Bool} (O:g=true) {t:TypeId} {inf:TypeInfo} {z:Value} {d:TypeDesc} {l:List AV} {j:Array (Nat×Operand)} {v:List (Nat×Nat×Opd)} (L:Gam X s ρ a w) (T:o.op=.build t j) (I:P.info? t=some inf) (J:inf.zero=some z)
 (A:s8 eqz z.cells.toList l=true) (C:P.underlying t=some d) (m:ahz P d=true) (u:s8 (qu P t) j.toList v=true) (H:(br g s.e l v).1) :
 l6 P X a w s ρ o (br g s.e l v).2:=by
 have h:(j.map λ (i,x)=>(i,a.eval x)).toList=j.toList.map λ p=>(p.1,a.eval p.2):=by simp
 have n:∀(i:Nat) (x:AV) (c:Value),l[i]?=some x->z.cells[i]?=some c->RA X s ρ w x c:=λ i x c hx hc=>ahv (ye A (by simpa using hc) hx);have F:z.cells.size=l.length:=by rw [<- gv A]; simp
 have y:∀(t7:Nat->Option (Nat×Nat)),(∀(p:Nat×Operand) (q:Nat×Nat×Opd),qu P t p q=true->t7 p.1=some (q.1,q.2.1)) ->
  (∀r,Instr.fill t7 z.cells (j.toList.map λ p=>(p.1,a.eval p.2))=some r->P.built t (j.toList.map λ p=>(p.1,a.eval p.2))=some r)->l6 P X a w s ρ o (br g s.e l v).2:=by
  intro t7 G U;obtain ⟨r,ys,K,N,M,S⟩:=akb (P:=P) (t:=t) O L G j.toList v l z.cells u H F n;rw [N];have B:=run_build (P:=P) w t (j.map λ (i,x)=>(i,a.eval x)) r (by rw [h]; exact U r K);refine ⟨.agg r,?_,.agg _ _ M S⟩;simp only [execOp,T,Sem.run_bind,B,Result.andThen_ok,Sem.run_pure]
 cases d with
 | struct fs=>
   have R:=ajy (λ f=>(P.info? f.type).map λ i=>(f.offset,i.size)) (0,0) fs.toList (by
    simp only [Option.isSome_map];rw [Array.all_toList]
    exact m)
   refine y (λ i=>(fs.toList.map λ x=>((P.info? x.type).map λ i=>(x.offset,i.size)).getD (0,0)).toArray[i]?) (λ p q b=>?_) (λ r D=>?_)
   ·simp only [qu,C,zbi] at b;obtain ⟨_,b⟩:=b;split at b
    ·rename_i f Q;split at b
     ·rename_i V E;simp at b;simp [Q,E,b.1,b.2]
     cases b
    cases b
   unfold Program.built;simp only [I,C,J,R];exact D
 | array k e=>
   cases hie:P.info? e with
   | none=>simp [ahz,hie] at m
   | some ie=>
     refine y (λ i=>some (i*ie.size,ie.size)) (λ p q b=>?_) (λ r D=>?_)
     ·simp only [qu,C,hie,zbi,beq_iff_eq] at b;rw [b.2.1,b.2.2]
     unfold Program.built;simp only [I,C,J,hie];exact D
 | _=>cases m
end

end Go.Ev

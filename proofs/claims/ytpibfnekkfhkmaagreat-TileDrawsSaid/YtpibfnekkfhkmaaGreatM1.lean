import Derived.Test.YtpibfnekkfhkmaaGreatM0
open Nat renaming add_mul → zaa, le_refl → zac, mul_le_mul_right → zad, min_eq_left → zae, one_mul → zai, add_zero → zaj, zero_add → zal, le_trans → zap, lt_succ_self → zas, mul_comm → zax, eq_zero_or_pos → zbd
open List renaming getElem?_eq_some_iff → zab, getElem?_toArray → zah, length_take → zak, all_eq_true → zam, mem_of_getElem? → zan, getElem?_take → zao, length_append → zaq, size_toArray → zar, replicate → zat, getElem?_map → zau, getElem_mem → zav, eq_nil_of_length_eq_zero → zaw, length_cons → zay, append_assoc → zba, getElem?_append → zbb, mem_iff_getElem? → zbc, take_of_length_le → zbe, getElem?_append_left → zbf, flatMap_cons → zbg
open Array renaming length_toList → zaf, getElem?_toList → zbi
open Option renaming map_eq_some_iff → zaz
open Bool renaming and_eq_true → zbh
namespace Go.Ev
set_option maxHeartbeats 8000000
set_option maxRecDepth 100000
open Go
set_option linter.unusedSectionVars false
set_option linter.unnecessarySimpa false
set_option linter.unusedVariables false
section
variable {P:Program} {X:Cx} {w w':World} {s:St} {ρ ρ':Pl->Option Nat} {a:Act} {o:Oper} {ob ob':Obs} {R R':Nat->Prop}
def qw (P:Program) (X:Cx) (a:Act) (w:World) (s:St) (o:Oper) (r:Rs):Prop:=
 ∃nx b ρ',(execOp a.eval o).run P w=.ok nx b/\Gam X ⟨s.e,r.ob⟩ ρ' a b/\((∃c,nx=.value c/\RA X ⟨s.e,r.ob⟩ ρ' b r.v c)\/(nx=.skip/\r.v=.undef))
theorem ul {c b:Type} {f:c->b->Bool}:∀{a:List c} {ys:List b},bf f a ys=true->a.length=ys.length
 | [],[],_=>rfl
 | x::a,y::ys,h=>by simp [bf] at h; simp [ul h.2]
 | [],_::_,h=>by cases h
 | _::_,[],h=>by cases h
theorem akw {c b:Type} {f:c->b->Bool}:∀{a:List c} {ys:List b},bf f a ys=true->∀{i:Nat} {x:c} {y:b},a[i]?=some x->ys[i]?=some y->f x y=true
 | [],[],_,i,x,y,hx,_=>by simp at hx
 | x::a,y::ys,h,0,x',y',hx,hy=>by simp [bf] at h; simp at hx hy; subst hx; subst hy; exact h.1
 | x::a,y::ys,h,i+1,x',y',hx,hy=>by simp [bf] at h; simp at hx hy; exact akw h.2 hx hy
 | [],_::_,h,_,_,_,_,_=>by cases h
 | _::_,[],h,_,_,_,_,_=>by cases h
theorem aam {x:Obj} {x':Ob} {y:Nat->AV} {ok:Prop} {rd k:List Nat} {d:Nat} {c:Value} {ob:Obs} (l:d<X.n) (i:Gam X ⟨s.e,ob⟩ ρ a w) (j:OneMore w w' x) (b:(execOp a.eval o).run P w=.ok (.value c) w')
 (f:il w' (g9 X.B (upd d (nv ob d,x') ob) (u5 ρ d (some w.heap.size)) w') (upd d (nv ob d,x') ob) (u5 ρ d (some w.heap.size)) d x')
 (hy:RelA w' (g9 X.B (upd d (nv ob d,x') ob) (u5 ρ d (some w.heap.size)) w') (upd d (nv ob d,x') ob) (u5 ρ d (some w.heap.size)) (y (nv ob d)) c) (g:x'.isAbs=false:=by rfl) :
 qw P X a w s o (u9 ob d x' y ok rd k):=
 ⟨_,w',u5 ρ d (some w.heap.size),b,i.alloc (s:=⟨s.e,ob⟩) j d (nv ob d) (i.pnn d (asm (by have:=i.small; omega))) (λ v o h=>ab2 h) x' f g,.inl ⟨c,rfl,hy⟩⟩
theorem qt {id v:Nat} {x:Ob} {X:Ob->Prop} (h:X x):At (upd id (v,x) ob) id v X:=⟨v,x,by simp [upd],zac _,λ _=>h⟩
theorem er (x:Obj):OneMore w (w.alloc x) x:=⟨rfl,rfl,rfl,rfl⟩
theorem tt (x:Obj):OneMore w (w.drew.alloc x) x:=⟨rfl,rfl,rfl,rfl⟩
theorem awo {c:Value} (h:c.oneCell'=true):c.cells=#[c]:=by cases c<;>first | rfl | cases h
theorem ax5 {x:RV} {c:Value} (h:RelV w R x c) (hx:x.one=true):c.oneCell'=true:=by
 cases h<;>first | exact hx | rfl | cases hx
theorem a9r {x:AV} {c:Value} (h:RelA w R ob ρ x c) (hx:x.one=true):c.oneCell'=true:=by
 cases h<;>first | rfl | cases hx; done | assumption | skip
 rename_i h;exact ax5 h hx
theorem a9s {x:AV} (hx:x.one=true):x.cells=[x]:=by
 unfold AV.cells;split<;>first | rfl | cases hx
theorem aw7 {x:AV} {c:Value} (h:RelA w R ob ρ x c) (hx:x.boxable=true):c.cells.size=x.cells.length/\∀(i:Nat) (y:AV) (v:Value),x.cells[i]?=some y->c.cells[i]?=some v->RelA w R ob ρ y v:=by
 by_cases b:x.one=true
 ·rw [awo (a9r h b),a9s b];refine ⟨rfl,λ i y v hy hv=>?_⟩;cases i with
  | zero=>simp at hy hv; subst hy; subst hv; exact h
  | succ i=>simp at hy
 unfold AV.boxable at hx;split at hx
 ·cases h;rename_i cs a h;exact ⟨a,h⟩
 ·cases h;rename_i h;cases h;rename_i cs a h;refine ⟨by simp [Value.cells,AV.cells,a],λ i y v hy hv=>?_⟩;simp only [AV.cells,zau,zaz] at hy;obtain ⟨z,d,rfl⟩:=hy;exact .r (h i z v d hv)
 exact absurd hx b
theorem bik {d:Nat} {x:AV} {e:TypeId} {y:Operand} {ok:Prop} (g:d<X.n) (j:Gam X s ρ a w) (l:o.op=.box e y) (hx:RA X s ρ w x (a.eval y)) (p:x.boxable=true) :
 qw P X a w s o (u9 s.ob d (.box x.cells) (λ v=>.ptr d v 0) ok [] []):=by
 have b:(execOp a.eval o).run P w=.ok (.value (.pointer (some ⟨w.heap.size,0,none⟩))) (w.alloc (.cells (a.eval y).cells e)):=by
  simp only [execOp,l,Instr.box,newVar,newRow,Sem.run_bind,run_newObj,Result.andThen_ok,Sem.run_pure]; rfl
 have f:=Stays.alloc j (er (.cells (a.eval y).cells e)) d (nv s.ob d) (λ v o h=>ab2 h) (.box x.cells);obtain ⟨k,m⟩:=aw7 hx p;refine aam g j (er _) b ?_ (.ptr _ _ _ _ rfl (qt ⟨_,by simp [u5],rfl⟩));exact ⟨w.heap.size,(a.eval y).cells,e,by simp [u5],(er _).new,k,λ i z c hi hc=>(m i z c hi hc).stays f⟩
theorem bda {d:Nat} {h:List AV} {e:TypeId} {i:TypeInfo} {z:Value} {ok:Prop} (g:d<X.n) (j:Gam X s ρ a w) (l:o.op=.alloc e) (hi:P.info? e=some i) (k:i.zero=some z) (f:bf eqz z.cells.toList h=true) :
 qw P X a w s o (u9 s.ob d (.box h) (λ v=>.ptr d v 0) ok [] []):=by
 have b:(execOp a.eval o).run P w=.ok (.value (.pointer (some ⟨w.heap.size,0,none⟩))) (w.alloc (.cells z.cells e)):=by
  simp only [execOp,l,Instr.alloc,zeroValue,typeInfo,newVar,newRow,Sem.run_bind,run_program,hi,k,run_newObj,Result.andThen_ok,Sem.run_pure]; rfl
 refine aam g j (er _) b ?_ (.ptr _ _ _ _ rfl (qt ⟨_,by simp [u5],rfl⟩));refine ⟨w.heap.size,z.cells,e,by simp [u5],(er _).new,by rw [<- ul f]; simp,λ i x c hi hc=>?_⟩;exact au1 (akw f (by simpa using hc) hi)
theorem Mods.same {b:Nat} {y:Obj} (h:w.heap[b]?=some y):Mods w w b y:=⟨rfl,rfl,rfl,rfl,h,λ _ _=>rfl⟩
theorem uh {g:Nat} {a cs:Array Value} {t:TypeId} {fr:Nat×Nat} (b:w.heap[g]?=some (.cells a t fr)):Mods w (w.setRow g cs) g (.cells cs t fr):=
 ⟨rfl,rfl,rfl,by simp [World.setRow],setRow_heap w g a cs t fr b,λ k c=>setRow_other w g k cs c⟩
theorem ahv (g o:Nat) (t:TypeId) (fr:Nat×Nat):∀(vs:List Value) (i:Nat) (cur:Array Value) (w:World),w.heap[g]?=some (.cells cur t fr)->(∀k,k<cur.size->¬(fr.1<=k/\k<fr.2))->o+i+vs.length<=cur.size->(∀v∈vs,v.oneCell'=true) ->
 (storeCells ⟨g,o,none⟩ vs i).run P w=.ok () (w.setRow g (cur.toList.take (o+i)++vs++cur.toList.drop (o+i+vs.length)).toArray)
 | [],i,cur,w,hg,_,_,_=>by
   simp only [storeCells,List.append_nil,List.length_nil,zaj,List.take_append_drop,Array.toArray_toList];rw [setRow_self w g cur t fr hg]
   rfl
 | v::rest,i,cur,w,hg,hf,hl,h1=>by
   have hi:o+i<cur.size:=by simp at hl; omega
   have b:(⟨g,o,none⟩:Addr).add i=⟨g,o+i,none⟩:=ij g o i;have a:w.cell? ⟨g,o+i,none⟩=some cur[o+i]:=by simp [World.cell?,hg,hi]
   have c:w.frozen? ⟨g,o+i,none⟩=false:=by
    have:=hf (o+i) hi;simp only [World.frozen?,hg];simpa using this
   have d:(store ((⟨g,o,none⟩:Addr).add i) v).run P w=.ok () (w.setRow g (cur.setIfInBounds (o+i) v)):=by
    rw [b,run_store P w _ v _ (h1 v (by simp)),a];simp [c,setCell_eq_setRow w g (o+i) cur t fr v hg]
   have f:=ahv g o t fr rest (i+1) (cur.setIfInBounds (o+i) v) (w.setRow g (cur.setIfInBounds (o+i) v)) (setRow_heap w g cur _ t _ hg) (by simpa using hf) (by simp at hl |-; omega) (λ x hx=>h1 x (by simp [hx]));simp only [storeCells,Sem.run_bind,d,Result.andThen_ok,f,setRow_setRow];congr 3;have e:=list_seg_step cur.toList (o+i) v rest (by simp at hl |-; omega);simpa [Array.toList_setIfInBounds,Nat.add_assoc] using e
theorem apw {t:TypeId} {inf:TypeInfo} {g o':Nat} {e:TypeId} {fr:Nat×Nat} {cur:Array Value} {c:Value} (hi:P.info? t=some inf) (a:c.cells.size=inf.size) (f:w.heap[g]?=some (.cells cur e fr))
 (b:∀k,k<cur.size->¬(fr.1<=k/\k<fr.2)) (d:o'+c.cells.size<=cur.size) (h:∀v∈c.cells.toList,v.oneCell'=true) :
 (Instr.storeAt t (.pointer (some ⟨g,o',none⟩)) c).run P w=.ok () (w.setRow g (d9 cur.toList o' c.cells.toList).toArray):=by
 have:=ahv (P:=P) g o' e fr c.cells.toList 0 cur w f b (by simpa using d) h;simp only [zaj] at this;simp [Instr.storeAt,Instr.sureAddr,storeVar,sizeOf,typeInfo,hi,a,this,d9]
theorem m7 {a:Type} {l m:List a} {i:Nat} (h:i+m.length<=l.length):(d9 l i m).length=l.length:=by
 simp [d9]; omega
theorem cg {c:Type} {l m:List c} {i:Nat} (h:i+m.length<=l.length) (j:Nat):(d9 l i m)[j]?=if i<=j/\j<i+m.length then m[j-i]? else l[j]?:=by
 unfold d9;rw [zba,zbb,zak,zae (by omega)];by_cases a:j<i
 ·rw [if_pos a,zao,if_pos a,if_neg (by omega)]
 rw [if_neg a,zbb];by_cases b:j-i<m.length
 ·rw [if_pos b,if_pos (by omega)]
 rw [if_neg b,if_neg (by omega),List.getElem?_drop];congr 1;omega
theorem bib {m off id ver:Nat} {y:AV} {d:List AV} {t:TypeId} {inf:TypeInfo} {x v:Operand} {ok:Prop} (K:Gam X s ρ a w) (O:o.op=.store t x v) (hi:P.info? t=some inf) (V:inf.size=m)
 (hx:RA X s ρ w (.ptr id ver off) (a.eval x)) (hy:RA X s ρ w y (a.eval v)) (S:u3 s.ob id ver=some d) (T:y.cells.length=m) (W:off+m<=d.length) (M:y.cells.all (·.one)=true) (G:y.boxable=true) :
 qw P X a w s o ⟨ok,.undef,upd id (ver,.box (d9 d off y.cells)) s.ob,[id],[id]⟩:=by
 have k:=lh S;cases hx;rename_i N h;obtain ⟨b,j,hc⟩:=h.live k;obtain ⟨U,cs,e,n,F,I,D⟩:=K.obj id ver _ k;rw [j] at n;cases n;obtain ⟨R,L⟩:=aw7 hy G
 have E:∀u∈(a.eval v).cells.toList,u.oneCell'=true:=λ u Q=>by
  obtain ⟨i,hi⟩:=zbc.1 Q
  have B:i<y.cells.length:=by
   have:=(zab.1 hi).1;simp at this;omega
  have r:y.cells[i]?=some y.cells[i]:=by simp [B]
  exact a9r (L i _ u r (by simpa using hi)) (zam.1 M _ (zav B))
 have A:=apw (P:=P) (w:=w) (o':=off) (c:=a.eval v) hi (by omega) F (by simp) (by omega) E;have p:=uh (w:=w) (cs:=(d9 cs.toList off (a.eval v).cells.toList).toArray) F;have g:(d9 cs.toList off (a.eval v).cells.toList).length=cs.size:=by rw [m7 (by simp; omega)]; simp
 have C:=Stays.modify (x':=.box (d9 d off y.cells)) K k rfl j F p (by simpa using g) ver (.inl ⟨rfl,trivial⟩);refine ⟨.skip,_,ρ,?_,K.modify k rfl j F p (by simpa using g) ver (.inl ⟨rfl,trivial⟩) (.inr ⟨rfl,trivial,λ _=>rfl⟩) ?_,.inr ⟨rfl,rfl⟩⟩
 ·simp only [execOp,O,hc,Sem.run_bind,A,Result.andThen_ok,Sem.run_pure]
 refine ⟨b,_,e,j,p.new,?_,λ i z c r f=>?_⟩
 ·rw [m7 (by omega)];simpa [I] using g
 have H:=cg (l:=d) (m:=y.cells) (i:=off) (by omega) i;rw [H] at r;have J:=cg (l:=cs.toList) (m:=(a.eval v).cells.toList) (i:=off) (by simp; omega) i;rw [zah,J] at f;simp only [zaf,R] at f;split at r
 ·rename_i q;rw [if_pos q] at f;exact (L _ z c r (by simpa using f)).stays C
 rename_i q;rw [if_neg q] at f;exact (D i z c r (by simpa using f)).stays C
theorem uf {ob:Obs}:∀{a:List AV} {ys:List RV} {b:List Nat},rvs ob a=some (ys,b)->ys.length=a.length
 | [],ys,b,h=>by simp [rvs] at h; simp [h.1]
 | x::a,ys,b,h=>by
   simp only [rvs] at h;split at h
   ·rename_i y i e j d c;cases h;simp [uf c]
   cases h
theorem akb (g:Gam X s ρ a w) {ob:Obs} {l:List Nat} (b:s.ob=Ev.freeze ob l):∀{e:List AV} {ys:List RV} {d:List Nat},rvs ob e=some (ys,d)->(∀i∈d,i∈l) ->
 ∀(i:Nat) (x:AV) (y:RV) (c:Value),e[i]?=some x->ys[i]?=some y->RA X s ρ w x c->RelV w (g9 X.B s.ob ρ w) y c
 | [],ys,d,h,hs,i,x,y,c,hx,hy,hr=>by simp at hx
 | z::e,ys,d,h,hs,i,x,y,c,hx,hy,hr=>by
   simp only [rvs] at h;split at h
   ·rename_i o k q j m n;cases h;cases i with
    | zero=>
      simp at hx hy;subst hx; subst hy;exact asa g m (λ p f=>hs p (by simp [f])) b hr
    | succ i=>
      simp at hx hy;exact akb g b n (λ p f=>hs p (by simp [f])) i x y c hx hy hr
   cases h
theorem a6l {x:RV} (h:x.one=true):x.cells=[x]:=by cases x<;>first | rfl | cases h
theorem a4r {q E:RV} {off:Nat} {ys:List RV} (a:(match q with | .agg cs=>RV.agg (d9 cs off ys) | q=>ys.getD 0 q)=E) (h:off+ys.length<=q.cells.length) (c:ys.all (·.one)=true):E.cells=d9 q.cells off ys:=by
 have b:∀q:RV,q.cells=[q]->ys.getD 0 q=E->off+ys.length<=1->E.cells=d9 q.cells off ys:=by
  intro q d a h;rw [d]
  match ys,c,a,h with
  | [],_,a,h=>
    simp at a; subst a;rw [d];simp [d9]
  | [y0],c,a,h=>
    simp at a c h; subst a; subst h;rw [a6l c];simp [d9]
  | _::_::_,_,_,h=>simp at h; omega
 cases q with
 | agg cs=>simp only at a; subst a; rfl
 | v x=>exact b _ rfl a h
 | sl k xs=>exact b _ rfl a h
theorem bia {m idx off id ver sz:Nat} {z:RV} {I:Bool} {C ys:List RV} {y:AV} {t:TypeId} {inf:TypeInfo} {x v:Operand} {ok:Prop} (Z:Gam X s ρ a w) (ho:o.op=.store t x v) (hi:P.info? t=some inf) (hm:inf.size=m)
 (hx:RA X s ρ w (.oel id ver idx off) (a.eval x)) (hy:RA X s ρ w y (a.eval v)) (hb:l9 s.ob id ver=some (sz,z,I,true,C)) (N:rvs s.ob y.cells=some (ys,[])) (h1:ys.length=m) (h2:off+m<=sz) (h3:ys.all (·.one)=true) (h7:y.boxable=true) :
 qw P X a w s o ⟨ok,.undef,upd id (ver,.row sz z I true (C.set idx (match C.getD idx z with | .agg cs=>.agg (d9 cs off ys) | q=>ys.getD 0 q))) s.ob,[id],[id]⟩:=by
 have k:=y8 hb;simp only at k;cases hx;rename_i ha h;obtain ⟨f,h9,b,A,hc⟩:=h.live k;rcases Z.obj id ver _ k with ⟨U,_⟩ | ⟨b',cs,e,fr,G,hh,R,L,W,T⟩
 ·rw [U] at f; simp at f
 rw [A] at G;cases G;obtain ⟨k1,k2⟩:=aw7 hy h7;have hl:=uf N
 have D:∀(i:Nat) (q:RV) (u:Value),ys[i]?=some q->(a.eval v).cells[i]?=some u->RelV w (g9 X.B s.ob ρ w) q u/\u.oneCell'=true:=λ i q u n hu=>by
  have d:=(zab.1 n).1;have hz:y.cells[i]?=some (y.cells[i]'(by omega)):=by simp [show i<y.cells.length by omega]
  have:=akb Z (ob:=s.ob) (l:=[]) rfl N (by simp) i _ q u hz n (k2 i _ u hz hu);refine ⟨this,ax5 this ?_⟩;have h0:=(zab.1 n).2;rw [<- h0];exact zam.1 h3 _ (zav d)
 have h4:C[idx]?=some (C.getD idx z):=by simp [f]
 obtain ⟨V,h6⟩:=T idx _ h4;have M:(idx+1)*sz<=cs.size:=zap (zad _ f) W;rw [zaa,zai] at M
 have Q:∀u∈(a.eval v).cells.toList,u.oneCell'=true:=λ u hu=>by
  obtain ⟨i,hi⟩:=zbc.1 hu;have d:=(zab.1 hi).1;simp at d;exact (D i (ys[i]'(by omega)) u (by simp [show i<ys.length by omega]) (by simpa using hi)).2
 have S:=apw (P:=P) (w:=w) (o':=idx*sz+off) (c:=a.eval v) hi (by omega) hh R (by omega) Q;have J:=uh (w:=w) (cs:=(d9 cs.toList (idx*sz+off) (a.eval v).cells.toList).toArray) hh;have g:(d9 cs.toList (idx*sz+off) (a.eval v).cells.toList).length=cs.size:=by rw [m7 (by simp; omega)]; simp
 generalize hE:(match C.getD idx z with | .agg cs=>RV.agg (d9 cs off ys) | q=>ys.getD 0 q)=E;have h5:E.cells=d9 (C.getD idx z).cells off ys:=a4r hE (by rw [V]; omega) h3;have H:=Stays.modify (x':=.row sz z I true (C.set idx E)) Z k rfl A hh J (by simpa using g) ver (.inl ⟨rfl,rfl,by simp⟩);refine ⟨.skip,_,ρ,?_,Z.modify k rfl A hh J (by simpa using g) ver (.inl ⟨rfl,rfl,by simp⟩) (.inr ⟨rfl,⟨rfl,by simp⟩,λ h=>h⟩) ?_,.inr ⟨rfl,rfl⟩⟩
 ·simp only [execOp,ho,hc,Sem.run_bind,S,Result.andThen_ok,Sem.run_pure]
 refine .inr ⟨b,_,e,fr,A,J.new,by simpa [g] using R,L,by simpa [g] using W,λ i q n=>?_⟩;have O:=λ p=>cg (l:=cs.toList) (m:=(a.eval v).cells.toList) (i:=idx*sz+off) (by simp; omega) p;rw [List.getElem?_set] at n;by_cases K:idx=i
 ·subst K;rw [if_pos rfl,if_pos f] at n;cases n;rw [h5];refine ⟨by rw [m7 (by omega)]; exact V,λ j r F=>?_⟩;rw [cg (by omega)] at F;rw [zah,O];simp only [zaf];by_cases Y:off<=j/\j<off+ys.length
  ·rw [if_pos Y] at F;rw [if_pos (by omega)];have d:j-off<(a.eval v).cells.size:=by omega
   refine ⟨(a.eval v).cells[j-off],by rw [show idx*sz+j-(idx*sz+off)=j-off by omega]; simp [d],?_⟩;have:=D (j-off) r (a.eval v).cells[j-off] F (by simp [d]);exact ⟨this.2,this.1.mono H.free⟩
  rw [if_neg Y] at F;rw [if_neg (by omega)];obtain ⟨c,g1,g2,g3⟩:=h6 j r F;exact ⟨c,by simpa using g1,g2,g3.mono H.free⟩
 rw [if_neg K] at n;obtain ⟨g1,g2⟩:=T i q n;refine ⟨g1,λ j r F=>?_⟩;obtain ⟨c,f1,f2,f3⟩:=g2 j r F;have h8:j<sz:=by have:=(zab.1 F).1; omega
 refine ⟨c,?_,f2,f3.mono H.free⟩;rw [zah,O];simp only [zaf];rw [if_neg]
 ·simpa using f1
 rintro ⟨p1,p2⟩;rcases Nat.lt_or_gt_of_ne K with d | d
 ·have:(idx+1)*sz<=i*sz:=zad _ d;rw [zaa,zai] at this;omega
 have:(i+1)*sz<=idx*sz:=zad _ d;rw [zaa,zai] at this;omega
theorem ave {a:Type} {l:List a} {n i:Nat} {x:a} (h:(l.take n)[i]?=some x):l[i]?=some x:=by
 rw [zao] at h;split at h
 ·exact h
 cases h
theorem ar4 (hG:Gam X s ρ a w) {y:AV} {c:Value} {sz:Nat} {ys:List RV} {rd:List Nat} (v:src s.ob y=some (sz,ys,rd)) (hy:RA X s ρ w y c) :
 ∃(A:Option Addr) (cap:Nat) (news:List Value),c=.slice A ys.length cap/\(∀m,m<=ys.length->∀W:World,W.heap=w.heap->(Builtin.firstCells sz m c).run P W=.ok (news.take (m*sz)).toArray W)/\news.length=ys.length*sz/\(∀u∈news,u.oneCell'=true) /\
  (∀(i:Nat) (x:RV),ys[i]?=some x->x.cells.length=sz/\∀(j:Nat) (q:RV),x.cells[j]?=some q->∃u,news[i*sz+j]?=some u/\RelV w (g9 X.B s.ob ρ w) q u):=by
 have l:∀(A:Option Addr) (cap b o':Nat) (g:Nat->Nat->Value),c=.slice A ys.length cap->(0<ys.length->A=some ⟨b,o',none⟩)->(∀(i:Nat) (x:RV),ys[i]?=some x->x.cells.length=sz) ->
  (∀(i:Nat) (x:RV) (j:Nat) (q:RV),ys[i]?=some x->x.cells[j]?=some q->w.cell? ⟨b,o'+i*sz+j,none⟩=some (g i j)/\(g i j).oneCell'=true/\RelV w (g9 X.B s.ob ρ w) q (g i j)) ->
  ∃(A:Option Addr) (cap:Nat) (news:List Value),c=.slice A ys.length cap/\(∀m,m<=ys.length->∀W:World,W.heap=w.heap->(Builtin.firstCells sz m c).run P W=.ok (news.take (m*sz)).toArray W)/\news.length=ys.length*sz/\(∀u∈news,u.oneCell'=true) /\
  (∀(i:Nat) (x:RV),ys[i]?=some x->x.cells.length=sz/\∀(j:Nat) (q:RV),x.cells[j]?=some q->∃u,news[i*sz+j]?=some u/\RelV w (g9 X.B s.ob ρ w) q u):=by
  intro A cap b o' g hc R D F;rcases zbd ys.length with I | I
  ·have N:ys=[]:=zaw I;subst N;refine ⟨A,cap,[],hc,λ m C W V=>?_,by simp,by simp,by simp⟩;have Q:m=0:=by simpa using C
   subst Q;rw [hc];cases A<;>simp [Builtin.firstCells,loadCells,loadCellsFrom]
  have U:=R I;subst U;rcases zbd sz with k | k
  ·subst k;refine ⟨_,cap,[],hc,λ m C W V=>?_,by simp,by simp,λ i x hx=>⟨D i x hx,λ j q d=>?_⟩⟩
   ·rw [hc];simp [Builtin.firstCells,loadCells,loadCellsFrom]
   have:=D i x hx;have:=(zab.1 d).1;omega
  have r:∀p,p<ys.length*sz->∃x q,ys[p/sz]?=some x/\x.cells[p%sz]?=some q:=λ p J=>by
   have E:p/sz<ys.length:=Nat.div_lt_of_lt_mul (by rw [zax]; exact J);have M:p%sz<sz:=Nat.mod_lt _ k;have hx:ys[p/sz]?=some ys[p/sz]:=by simp [E]
   have hl:=D _ _ hx;exact ⟨_,ys[p/sz].cells[p%sz]'(by omega),hx,by simp [show p%sz<ys[p/sz].cells.length by omega]⟩
  have f:∀p u,((List.range (ys.length*sz)).map λ p=>g (p/sz) (p%sz))[p]?=some u->u=g (p/sz) (p%sz)/\p<ys.length*sz:=λ p u n=>by
   rw [zau,zaz] at n;obtain ⟨q,d,rfl⟩:=n;obtain ⟨K,G⟩:=zab.1 d;rw [List.getElem_range] at G;subst G;rw [List.length_range] at K;exact ⟨rfl,K⟩
  refine ⟨_,cap,(List.range (ys.length*sz)).map λ p=>g (p/sz) (p%sz),hc,λ m C W V=>?_,by simp,λ u n=>?_,λ i x hx=>⟨D i x hx,λ j q d=>⟨g i j,?_,(F i x j q hx d).2.2⟩⟩⟩
  ·rw [hc];refine run_firstCells_some W sz m ⟨b,o',none⟩ ys.length cap _ (by simp [zae C]) λ p u n=>?_;have n:=ave n;rw [show W.cell?=w.cell? from by funext x; simp only [World.cell?,V]];obtain ⟨rfl,J⟩:=f p u n;obtain ⟨x,q,hx,d⟩:=r p J;rw [ij,<- (F _ x _ q hx d).1];congr 2;have:=Nat.div_add_mod p sz;rw [zax] at this;omega
  ·obtain ⟨p,J⟩:=zbc.1 n;obtain ⟨rfl,Y⟩:=f p u J;obtain ⟨x,q,hx,d⟩:=r p Y;exact (F _ x _ q hx d).2.1
  have E:=(zab.1 hx).1;have M:=(zab.1 d).1;have h3:=D i x hx
  have O:i*sz+j<ys.length*sz:=by
   have:(i+1)*sz<=ys.length*sz:=zad _ E;rw [zaa,zai] at this;omega
  have hd:(i*sz+j)/sz=i:=by
   rw [zax,Nat.mul_add_div k,Nat.div_eq_of_lt (by omega),zaj]
  have C:(i*sz+j)%sz=j:=by
   rw [zax,Nat.mul_add_mod,Nat.mod_eq_of_lt (by omega)]
  simp [O,hd,C]
 unfold src at v;split at v
 ·cases v;cases hy;rename_i hy;cases hy;rename_i A cap C b o' g h7 R L D F;exact l A cap b o' g rfl (λ h=>(R h).1) D λ i x j q hx d=>⟨(F i x j q hx d).1,(F i x j q hx d).2,L i x j q hx d⟩
 ·cases v;cases hy;exact l none 0 0 0 (λ _ _=>undef) rfl (by simp) (by simp) (by simp)
 ·split at v
  ·rename_i id ver lo len _ sz z h8 wr T L;cases v;have H:=y8 L;simp only at H;obtain ⟨A,cap,e1,e2,e3,e4,e5⟩:=yb hy L;simp only at e4;have o:((T.drop lo).take len).length=len:=by simp; omega
   have t:∀(i:Nat) (x:RV),((T.drop lo).take len)[i]?=some x->T[lo+i]?=some x:=λ i x hi=>by
    rw [zao] at hi;split at hi
    ·rwa [List.getElem?_drop] at hi
    cases hi
   rcases hG.obj id ver _ H with ⟨E,M,_⟩ | ⟨b,cs,e,fr,E,M,h3,h4,h5,h6⟩
   ·subst E;have S:len=0:=by simp at e4; omega
    subst S;exact l A cap 0 0 (λ _ _=>undef) (by rw [e1]; simp) (by simp) (by simp) (by simp)
   refine l A cap b (lo*sz) (λ i j=>(cs[(lo+i)*sz+j]?).getD undef) (by rw [e1,o]) (λ I=>?_) (λ i x hi=>(h6 _ x (t i x hi)).1) (λ i x j q hi hj=>?_)
   ·rw [o] at I;obtain ⟨b',ha,e',h9,f1,f2,f3,f4⟩:=e5 (by omega);rw [E] at f1;cases f1;exact f2
   obtain ⟨u,Z,g2,g3⟩:=(h6 _ x (t i x hi)).2 j q hj;rw [Z];refine ⟨?_,g2,g3⟩;simp only [World.cell?,M,Option.isSome_none,Bool.false_eq_true,if_false,Option.getD_some];rw [<- Z,zaa]
  cases v
 cases v
theorem am2 (k:Gam X s ρ a w) {y:AV} {c:Value} {sz:Nat} {ys:List RV} {rd:List Nat} (g:src s.ob y=some (sz,ys,rd)) (hy:RA X s ρ w y c) :
 ∃(A:Option Addr) (cap:Nat) (news:List Value),c=.slice A ys.length cap/\(∀W:World,W.heap=w.heap->(Builtin.firstCells sz ys.length c).run P W=.ok news.toArray W)/\news.length=ys.length*sz/\(∀u∈news,u.oneCell'=true) /\
  (∀(i:Nat) (x:RV),ys[i]?=some x->x.cells.length=sz/\∀(j:Nat) (q:RV),x.cells[j]?=some q->∃u,news[i*sz+j]?=some u/\RelV w (g9 X.B s.ob ρ w) q u):=by
 obtain ⟨A,cap,news,e,h,d,l,f⟩:=ar4 (P:=P) k g hy;refine ⟨A,cap,news,e,λ W b=>?_,d,l,f⟩;rw [h ys.length (zac _) W b,zbe (by omega)]
theorem bih {sz id ver lo n:Nat} {z':RV} {E:Bool} {F:List RV} {y:AV} {ys:List RV} {rd rd':List Nat} {t u e:TypeId} {inf:TypeInfo} {c:Call} {x v:Operand} {ok:Prop} (U:Gam X s ρ a w) (ho:o.op=.call c) (hc:c.callee=.builtin .copy)
 (J:c.args=#[x,v]) (h2:c.argTypes=#[t,u]) (ht:P.underlying t=some (.slice e)) (hi:P.info? e=some inf) (hd:inf.size=sz)
 (hx:RA X s ρ w (.own id ver lo n) (a.eval x)) (hr:l9 s.ob id ver=some (sz,z',E,true,F)) (hy:RA X s ρ w y (a.eval v)) (hs:src s.ob y=some (sz,ys,rd)) :
 qw P X a w s o ⟨ok,int .i64 ((Nat.min ys.length n:Nat):Int),upd id (ver,.row sz z' E true (spl F lo (ys.take n))) s.ob,rd',[id]⟩:=by
 unfold spl;subst hd;have z:=y8 hr;simp only at z;obtain ⟨A2,c2,news,Y,h6,ha,Z,I⟩:=ar4 (P:=P) U hs hy;obtain ⟨A,cap,h7,e2,e3,e4,e5⟩:=yb hx hr;simp only at e4;obtain ⟨m,Q⟩:∃m,m=Nat.min ys.length n:=⟨_,rfl⟩
 have G:m<=ys.length:=by rw [Q]; exact Nat.min_le_left _ _
 have hl:m<=n:=by rw [Q]; exact Nat.min_le_right _ _
 have h9:ys.take n=ys.take m:=by
  rw [Q];rcases Nat.le_total ys.length n with h | h
  ·rw [zbe h,zbe (by rw [show Nat.min ys.length n=ys.length from zae h]; exact zac _)]
  rw [show Nat.min ys.length n=n from Nat.min_eq_right h]
 rw [<- Q,h9];have hf:=h6 m G;rw [Y] at hf
 have B:∀r,(Builtin.copy_ #[t,u] o.type #[.slice A n cap,.slice A2 ys.length c2]).run P w=r->(execOp a.eval o).run P w=r.andThen λ q w'=>.ok (.value q) w':=by
  rintro r rfl;simp [execOp,ho,resolve,hc,J,h2,invoke,builtin,h7,Y]
 by_cases h0:m=0
 ·subst h0;have T:=hf w rfl;simp only [Nat.zero_mul,List.take_zero] at T
  have N:(Builtin.copy_ #[t,u] o.type #[.slice A n cap,.slice A2 ys.length c2]).run P w=.ok (goInt 0) w:=by
   cases A<;>simp [Builtin.copy_,run_underlying ht,Builtin.lenOf,sizeOf,typeInfo,hi,<- Q,T,storeCells]
  have d:=B _ N;simp only [Result.andThen_ok] at d;refine ⟨_,w,ρ,d,?_,.inl ⟨_,rfl,.r (.v _)⟩⟩;have e:d9 F lo (ys.take 0)=F:=by simp [d9]
  rw [e]
  rw [show upd id (ver,Ob.row inf.size z' E true F) s.ob=s.ob from by
   funext i;unfold upd;split
   ·rename_i h; rw [h,z]
   rfl]
  exact U
 have he:0<cap:=by omega
 obtain ⟨b,hn,ee,hp,f1,f2,f3,f4⟩:=e5 he;rcases U.obj id ver _ z with ⟨q1,q2,_⟩ | ⟨b',cs,e',fr,h4,hh,h1,R,H,M⟩
 ·rw [f1] at q2; cases q2
 rw [f1] at h4;cases h4
 have O:(news.take (m*inf.size)).length=m*inf.size:=by
  rw [zak,ha];exact zae (zad _ G)
 have L:(lo+m)*inf.size<=cs.size:=zap (zad _ (by omega)) H
 have k:lo*inf.size+(news.take (m*inf.size)).length<=cs.toList.length:=by
  rw [O,<- zaa];simpa using L
 have V:∀u∈news.take (m*inf.size),u.oneCell'=true:=λ u hu=>Z u (List.mem_of_mem_take hu);have S:=ahv (P:=P) b (lo*inf.size) e' fr (news.take (m*inf.size)) 0 cs w hh h1 (by simpa using k) V;have h8:=hf w rfl
 have N:(Builtin.copy_ #[t,u] o.type #[.slice A n cap,.slice A2 ys.length c2]).run P w=.ok (goInt m) (w.setRow b (d9 cs.toList (lo*inf.size) (news.take (m*inf.size))).toArray):=by
  simp only [zaj] at S;simp [Builtin.copy_,run_underlying ht,Builtin.lenOf,sizeOf,typeInfo,hi,<- Q,h8,f2,S,d9]
 have d:=B _ N;simp only [Result.andThen_ok] at d;have K:=uh (w:=w) (cs:=(d9 cs.toList (lo*inf.size) (news.take (m*inf.size))).toArray) hh;have g:(d9 cs.toList (lo*inf.size) (news.take (m*inf.size))).length=cs.size:=by rw [m7 k]; simp
 have W:lo+(ys.take m).length<=F.length:=by rw [zak,zae G]; omega
 have f:(d9 F lo (ys.take m)).length=F.length:=m7 W;have C:=Stays.modify (x':=.row inf.size z' E true (d9 F lo (ys.take m))) U z rfl f1 hh K (by simpa using g) ver (.inl ⟨rfl,rfl,by rw [f]; exact zac _⟩);refine ⟨_,_,ρ,d,U.modify z rfl f1 hh K (by simpa using g) ver (.inl ⟨rfl,rfl,by rw [f]; exact zac _⟩) (.inr ⟨rfl,⟨rfl,by rw [f]; exact zac _⟩,λ h=>h⟩) ?_,.inl ⟨_,rfl,.r (.v _)⟩⟩;refine .inr ⟨b,_,e',fr,f1,K.new,by simpa [g] using h1,R,by simpa [g,f] using H,λ i q D=>?_⟩;have h3:=λ p=>cg (l:=cs.toList) (m:=news.take (m*inf.size)) (i:=lo*inf.size) k p;rw [cg W,zak,zae G] at D;split at D
 ·rename_i h5;have D:=ave D;refine ⟨(I _ q D).1,λ j r hj=>?_⟩;obtain ⟨c,g1,g2⟩:=(I _ q D).2 j r hj;have hb:j<inf.size:=by have:=(zab.1 hj).1; have:=(I _ q D).1; omega
  have hk:(i-lo)*inf.size+j<m*inf.size:=by
   have:(i-lo+1)*inf.size<=m*inf.size:=zad _ (by omega);rw [zaa,zai] at this;omega
  have hg:i*inf.size=lo*inf.size+(i-lo)*inf.size:=by rw [<- zaa,show lo+(i-lo)=i by omega]
  refine ⟨c,?_,Z c (zan g1),g2.mono C.free⟩;rw [zah,h3,O,if_pos (by omega),zao,if_pos (by omega),show i*inf.size+j-lo*inf.size=(i-lo)*inf.size+j by omega,g1]
 rename_i h5;refine ⟨(M i q D).1,λ j r hj=>?_⟩;obtain ⟨c,g1,g2,g3⟩:=(M i q D).2 j r hj;have hb:j<inf.size:=by have:=(zab.1 hj).1; have:=(M i q D).1; omega
 refine ⟨c,?_,g2,g3.mono C.free⟩;rw [zah,h3,O,if_neg]
 ·simpa using g1
 rintro ⟨p1,p2⟩;apply h5;constructor
 ·rcases Nat.lt_or_ge i lo with h | h
  ·have:(i+1)*inf.size<=lo*inf.size:=zad _ h;rw [zaa,zai] at this;omega
  exact h
 rcases Nat.lt_or_ge i (lo+m) with h | h
 ·exact h
 have:(lo+m)*inf.size<=i*inf.size:=zad _ h;rw [zaa] at this;omega
theorem ao5 {t u ty e:TypeId} {inf:TypeInfo} {z:Value} {d:TypeId} (v:P.underlying t=some (.slice e)) (r:P.underlying u=some (.slice d)) (hi:P.info? e=some inf) (L:inf.zero=some z) (q:z.cells.size=inf.size)
 {A A2:Option Addr} {len cap m c2 g:Nat} {cur:Array Value} {e':TypeId} {olds news:List Value} (O:len<=cap) {fr:Nat×Nat} (J:0<cap->A=some ⟨g,0,none⟩/\w.heap[g]?=some (.cells cur e' fr)/\cap*inf.size<=cur.size) (D:0<cap->∀k,k<cur.size->¬(fr.1<=k/\k<fr.2))
 (n:∀W:World,W.heap=w.heap->(Builtin.firstCells inf.size len (.slice A len cap)).run P W=.ok olds.toArray W) (G:olds.length=len*inf.size)
 (b:∀W:World,W.heap=w.heap->(Builtin.firstCells inf.size m (.slice A2 m c2)).run P W=.ok news.toArray W) (B:news.length=m*inf.size) (F:∀u∈news,u.oneCell'=true)
 (h:len+m<=maxLen) (R:(len+m)*inf.bytes<=140737488355328) :
 (len+m<=cap/\(Builtin.append_ #[t,u] ty #[.slice A len cap,.slice A2 m c2]).run P w=.ok (.slice A (len+m) cap) (if 0<cap then w.setRow g (d9 cur.toList (len*inf.size) news).toArray else w)) \/
 (cap<len+m/\∃K E f,(Builtin.append_ #[t,u] ty #[.slice A len cap,.slice A2 m c2]).run P w=.ok (.slice (some ⟨w.heap.size,0,none⟩) (len+m) K) E/\len+m<=K/\K<=maxLen /\
  OneMore w E (.cells (olds++news++f).toArray e)/\(olds++news++f).length=K*inf.size):=by
 have p:len+m<=9223372036854775807:=by simp only [maxLen] at h; omega
 by_cases a:len+m<=cap
 ·refine .inl ⟨a,?_⟩;by_cases hc:0<cap
  ·obtain ⟨rfl,M,x⟩:=J hc
   have c:len*inf.size+news.length<=cur.size:=by
    rw [B,<- zaa]; exact zap (zad _ a) x
   have l:=ahv (P:=P) g (len*inf.size) e' fr news 0 cur w M (D hc) (by simpa using c) F;simp only [zaj] at l;simp [Builtin.append_,run_underlying v,run_underlying r,sizeOf,typeInfo,hi,Builtin.lenOf,a,b w rfl,ij,l,hc,d9]
  have N:cap=0:=by omega
  subst N;have I:len=0:=by omega
  have H:m=0:=by omega
  subst I; subst H;have j:news=[]:=zaw (by simpa using B);subst j;cases A<;>simp [Builtin.append_,run_underlying v,run_underlying r,sizeOf,typeInfo,hi,Builtin.lenOf,b w rfl,storeCells]
 refine .inr ⟨by omega,?_⟩;have c:Builtin.nextslicecap (len+m) cap*inf.bytes<=281474976710656:=growslice_fits (by omega) R;have s:=grownCap_ge w (len+m) cap e;have y:grownCap w (len+m) cap e<=maxLen:=grownCap_le_maxLen w (len+m) cap e h;refine ⟨grownCap w (len+m) cap e,w.drew.alloc (.cells (olds++news++(Builtin.zeroCells z.cells (grownCap w (len+m) cap e-(len+m))).toList).toArray e),(Builtin.zeroCells z.cells (grownCap w (len+m) cap e-(len+m))).toList,?_,s,y,tt _,?_⟩
 ·have o:¬(9223372036854775807<((len:Int)+(m:Int))):=by omega
  have i:¬(281474976710656<Builtin.nextslicecap (len+m) cap*inf.bytes):=by omega
  have Q:=b w.drew rfl;have C:=n w.drew rfl;simp [Builtin.append_,run_underlying v,run_underlying r,sizeOf,typeInfo,zeroValue,hi,L,Builtin.lenOf,a,o,i,Question.forced,Q,C,newRow,grownCap];congr 2;apply Array.ext';simp
 simp only [zaq,G,B,zaf,size_zeroCells,q,<- zaa];congr 1;omega
theorem a0w {d sz l:Nat} {V:RV} {I:Nat} {zz:RV} {y:AV} {ys:List RV} {rd:List Nat} {t u e f:TypeId} {inf:TypeInfo} {z:Value} {c:Call} {x v:Operand} {ok:Prop} (N:d<X.n) (D:Gam X s ρ a w) (Y:o.op=.call c) (hc:c.callee=.builtin .append)
 (C:c.args=#[x,v]) (H:c.argTypes=#[t,u]) (ht:P.underlying t=some (.slice e)) (hu:P.underlying u=some (.slice f)) (hi:P.info? e=some inf) (hz:inf.zero=some z) (M:z.cells.size=inf.size) (S:inf.size=sz) (Q:inf.bytes=l)
 (hx:RA X s ρ w (.nils I zz) (a.eval x)) (hy:RA X s ρ w y (a.eval v)) (hs:src s.ob y=some (sz,ys,rd)) (hb:ys.length*l<=140737488355328) (hm:ys.length<=maxLen) :
 qw P X a w s o (u9 s.ob d (.row sz V true true ys) (λ v=>.own d v 0 ys.length) ok rd []):=by
 subst S; subst Q;obtain ⟨A2,c2,news,E,p,J,F,G⟩:=am2 (P:=P) D hs hy;have R:a.eval x=.slice none 0 0:=by generalize a.eval x=c at hx; cases hx; rfl
 rw [E] at p
 have k:∀r,(Builtin.append_ #[t,u] o.type #[.slice none 0 0,.slice A2 ys.length c2]).run P w=r->(execOp a.eval o).run P w=r.andThen λ q T=>.ok (.value q) T:=by
  rintro r rfl;simp [execOp,Y,resolve,hc,C,H,invoke,builtin,R,E]
 rcases ao5 (P:=P) (w:=w) (ty:=o.type) (A:=none) (A2:=A2) (len:=0) (cap:=0) (m:=ys.length) (c2:=c2) (g:=0) (cur:=#[]) (e':=0) (fr:=(0,0)) (olds:=[]) (news:=news) ht hu hi hz M (zac _) (by simp) (by simp)
  (λ W _=>by simp [Builtin.firstCells]) (by simp) p J F (by omega) (by rw [zal]; exact hb) with ⟨hroom,hr⟩ | ⟨hgrow,K,T,rest,hr,hK1,hK2,hom,hlen⟩
 ·have h0:ys=[]:=zaw (by omega);subst h0;have b:=k _ hr;simp only [List.length_nil,zaj,Nat.lt_irrefl,if_false,Result.andThen_ok] at b;exact ⟨_,w,u5 ρ d none,b,D.nil d _ (D.pnn d (asm (by have:=D.small; omega))) (λ v o h=>ab2 h) _ _ _,.inl ⟨_,rfl,.own _ _ _ _ _ rfl (qt ⟨none,0,rfl,zac _,by simp,by simp,by simp⟩)⟩⟩
 have b:=k _ hr;simp only [Result.andThen_ok,zal] at b hK1 hK2;have L:=Stays.alloc D hom d (nv s.ob d) (λ v o h=>ab2 h) (.row inf.size V true true ys);refine aam N D hom b (.inr ⟨w.heap.size,_,e,(0,0),by simp [u5],hom.new,by simp,λ _=>rfl,?_,λ i q U=>⟨(G i q U).1,λ j r Z=>?_⟩⟩) (.own _ _ _ _ _ rfl (qt ⟨_,K,rfl,hK1,hK2,by simp,λ _=>?_⟩))
 ·simp only [zar,hlen];exact zad _ hK1
 ·obtain ⟨u,B,O⟩:=(G i q U).2 j r Z;refine ⟨u,?_,F u (zan B),O.mono L.free⟩;have:=(zab.1 B).1;simp only [zah,List.nil_append];rw [zbf this,B]
 exact ⟨w.heap.size,_,e,(0,0),by simp [u5],by simp,hom.new,by simp only [zar,hlen,zal]; exact zac _⟩
theorem a0v {sz N id ver len:Nat} {z':RV} {D:Bool} {S:List RV} {y:AV} {ys:List RV} {rd rd':List Nat} {t u e f:TypeId} {inf:TypeInfo} {z:Value} {c:Call} {x v:Operand} {ok:Prop} (G:Gam X s ρ a w) (ho:o.op=.call c) (hc:c.callee=.builtin .append)
 (Z:c.args=#[x,v]) (hw:c.argTypes=#[t,u]) (ht:P.underlying t=some (.slice e)) (hu:P.underlying u=some (.slice f)) (hi:P.info? e=some inf) (hz:inf.zero=some z) (gs:z.cells.size=inf.size) (gw:inf.size=sz) (gu:inf.bytes=N)
 (hx:RA X s ρ w (.own id ver 0 len) (a.eval x)) (hr:l9 s.ob id ver=some (sz,z',D,true,S)) (E:(D || !par id)=true) (hy:RA X s ρ w y (a.eval v)) (hs:src s.ob y=some (sz,ys,rd)) (hb:(len+ys.length)*N<=140737488355328) (hm:len+ys.length<=maxLen) :
 qw P X a w s o ⟨ok,.own id (ver+1) 0 (len+ys.length),upd id (ver+1,.row sz z' D true (S.take len++ys)) s.ob,rd',[id]⟩:=by
 subst gw; subst gu;have d:=y8 hr;simp only at d;obtain ⟨A2,c2,news,hn,W,g0,h6,Q⟩:=am2 (P:=P) G hs hy;obtain ⟨A1,gx,olds,h8,O,h7,gq,ha⟩:=am2 (P:=P) (y:=.own id ver 0 len) (ys:=(S.drop 0).take len) (rd:=[id]) (sz:=inf.size) G (by simp [src,hr]) hx;obtain ⟨A,cap,hk,e2,e3,Y,e5⟩:=yb hx hr;simp only [zal] at Y;have gd:((S.drop 0).take len).length=len:=by simp; omega
 rw [gd] at h8 O h7;rw [hk] at h8 O;simp only [List.drop_zero] at ha
 injection h8 with q1 _ q3
 subst q1; subst q3;rw [hn] at W
 have J:∀r,(Builtin.append_ #[t,u] o.type #[.slice A len cap,.slice A2 ys.length c2]).run P w=r->(execOp a.eval o).run P w=r.andThen λ q w'=>.ok (.value q) w':=by
  rintro r rfl;simp [execOp,ho,resolve,hc,Z,hw,invoke,builtin,hk,hn]
 have hp:0<cap->∃b cs e fr,ρ id=some b/\A=some ⟨b,0,none⟩/\w.heap[b]?=some (.cells cs e fr)/\(∀k,k<cs.size->¬(fr.1<=k/\k<fr.2))/\(D=true->fr=(0,0))/\cap*inf.size<=cs.size/\∀(i:Nat) (x:RV),S[i]?=some x->x.cells.length=inf.size/\∀(j:Nat) (y:RV),x.cells[j]?=some y->∃c,cs[i*inf.size+j]?=some c/\c.oneCell'=true/\RelV w (g9 X.B s.ob ρ w) y c:=λ h0=>by
  obtain ⟨b,cs,ee,fr,f1,f2,f3,f4⟩:=e5 h0;rcases G.obj id ver _ d with ⟨h1,h2,_⟩ | ⟨b',gb,e',hl,C,F,g3,g4,g5,g6⟩
  ·rw [f1] at h2; cases h2
  rw [f1] at C; cases C;rw [f3] at F; cases F;exact ⟨b,cs,ee,fr,f1,by simpa using f2,f3,g3,g4,by simpa using f4,g6⟩
 obtain ⟨g,cur,e',fr,hA⟩:∃g cur e' fr,(0<cap->A=some ⟨g,0,none⟩/\w.heap[g]?=some (.cells cur e' fr)/\cap*inf.size<=cur.size/\(∀k,k<cur.size->¬(fr.1<=k/\k<fr.2))/\(D=true->fr=(0,0))/\ρ id=some g/\∀(i:Nat) (x:RV),S[i]?=some x->x.cells.length=inf.size/\∀(j:Nat) (y:RV),x.cells[j]?=some y->∃c,cur[i*inf.size+j]?=some c/\c.oneCell'=true/\RelV w (g9 X.B s.ob ρ w) y c):=by
  by_cases h0:0<cap
  ·obtain ⟨b,cs,e,fr,h1,h2,h3,hf,hd,h4,h5⟩:=hp h0;exact ⟨b,cs,e,fr,λ _=>⟨h2,h3,h4,hf,hd,h1,h5⟩⟩
  exact ⟨0,#[],0,(0,0),λ h=>absurd h h0⟩
 rcases ao5 (P:=P) (w:=w) (ty:=o.type) (A:=A) (A2:=A2) (len:=len) (cap:=cap) (m:=ys.length) (c2:=c2) (g:=g) (cur:=cur) (e':=e') (olds:=olds) (news:=news) (fr:=fr) ht hu hi hz gs e2 (λ h=>⟨(hA h).1,(hA h).2.1,(hA h).2.2.1⟩) (λ h=>(hA h).2.2.2.1)
  O h7 W g0 h6 hm hb with ⟨hroom,hrn⟩ | ⟨hgrow,K,w',rest,hrn,hK1,hK2,hom,hlenK⟩
 ·have n:=J _ hrn;by_cases h0:0<cap
  ·obtain ⟨gv,hg,he,hf,hd,T,h9⟩:=hA h0;simp only [h0,if_true,Result.andThen_ok] at n
   have U:len*inf.size+news.length<=cur.toList.length:=by
    rw [g0,<- zaa]; simp only [zaf]; exact zap (zad _ hroom) he
   have R:=uh (w:=w) (cs:=(d9 cur.toList (len*inf.size) news).toArray) hg;have M:(d9 cur.toList (len*inf.size) news).length=cur.size:=by rw [m7 U]; simp
   have I:=Stays.modify (x':=.row inf.size z' D true (S.take len++ys)) G d rfl T hg R (by simpa using M) (ver+1) (.inr (zas _));refine ⟨_,_,ρ,n,G.modify d rfl T hg R (by simpa using M) (ver+1) (.inr (zas _)) (.inl (G.unpinned d E)) ?_,.inl ⟨_,rfl,.own _ _ _ _ _ rfl (qt ?_)⟩⟩
   ·refine .inr ⟨g,_,e',fr,T,R.new,by simpa [M] using hf,hd,?_,λ i q H=>?_⟩
    ·simp only [zar,M,zaq,zak,zae Y];exact zap (zad _ hroom) he
    have ge:=λ p=>cg (l:=cur.toList) (m:=news) (i:=len*inf.size) U p;rw [zbb,zak,zae Y] at H;split at H
    ·rename_i L;rw [zao,if_pos L] at H;refine ⟨(h9 i q H).1,λ j r V=>?_⟩;obtain ⟨c,C,F,g3⟩:=(h9 i q H).2 j r V;refine ⟨c,?_,F,g3.mono I.free⟩;have gy:j<inf.size:=by have:=(zab.1 V).1; have:=(h9 i q H).1; omega
     rw [zah,ge,if_neg]
     ·simpa using C
     have:(i+1)*inf.size<=len*inf.size:=zad _ L;rw [zaa,zai] at this;omega
    rename_i L;refine ⟨(Q _ q H).1,λ j r V=>?_⟩;obtain ⟨c,C,F⟩:=(Q _ q H).2 j r V;refine ⟨c,?_,h6 c (zan C),F.mono I.free⟩;have gn:=(zab.1 C).1
    have hh:len*inf.size+((i-len)*inf.size+j)=i*inf.size+j:=by
     rw [<- Nat.add_assoc,<- zaa,show len+(i-len)=i by omega]
    rw [zah,ge,if_pos (by omega),show i*inf.size+j-len*inf.size=(i-len)*inf.size+j by omega,C]
   refine ⟨A,cap,rfl,hroom,e3,by simp [zae Y],λ _=>⟨g,_,e',fr,T,by simpa using gv,R.new,?_⟩⟩;simp only [zar,M,zal];exact he
  have gl:cap=0:=by omega
  subst gl;have gp:len=0:=by omega
  have gg:ys=[]:=zaw (by omega);subst gp; subst gg;simp only [Nat.lt_irrefl,if_false,Result.andThen_ok] at n;cases D with
  | true=>exact ⟨_,w,u5 ρ id none,n,G.nil id (ver+1) (G.unpinned d E) (λ v o h=>by rw [d] at h; cases h; exact zas _) _ _ _,.inl ⟨_,rfl,.own _ _ _ _ _ rfl (qt ⟨A,0,rfl,zac _,by simp,by simp,by simp⟩)⟩⟩
  | false=>
    rcases G.obj id ver _ d with ⟨_,_,q3⟩ | ⟨b',gb,e2,hl,C,F,g3,g4,g5,g6⟩
    ·cases q3
    refine ⟨_,w,ρ,n,G.modify (x':=.row inf.size z' false true []) d rfl C F (Mods.same F) rfl (ver+1) (.inr (zas _)) (.inl (G.unpinned d E)) (.inr ⟨b',gb,e2,hl,C,F,g3,(λ h=>by cases h),by simp,by simp⟩),.inl ⟨_,rfl,.own _ _ _ _ _ rfl (qt ⟨A,0,rfl,zac _,by simp,by simp,by simp⟩)⟩⟩
 have n:=J _ hrn;simp only [Result.andThen_ok] at n;have I:=Stays.alloc G hom id (ver+1) (λ v o h=>by rw [d] at h; cases h; exact zas _) (.row inf.size z' D true (S.take len++ys));refine ⟨_,w',u5 ρ id (some w.heap.size),n,G.alloc hom id (ver+1) (G.unpinned d E) (λ v o h=>by rw [d] at h; cases h; exact zas _) _ (.inr ⟨w.heap.size,_,e,(0,0),by simp [u5],hom.new,by simp,λ _=>rfl,?_,λ i q H=>?_⟩),.inl ⟨_,rfl,.own _ _ _ _ _ rfl (qt ⟨_,K,rfl,hK1,hK2,by simp [zae Y],λ _=>⟨w.heap.size,_,e,(0,0),by simp [u5],by simp,hom.new,?_⟩⟩)⟩⟩
 ·simp only [zar,hlenK,zaq,zak,zae Y];exact zad _ hK1
 ·rw [zbb,zak,zae Y] at H;split at H
  ·rename_i L;have ga:((S.take len))[i]?=some q:=H;refine ⟨(ha i q ga).1,λ j r V=>?_⟩;obtain ⟨c,C,F⟩:=(ha i q ga).2 j r V;refine ⟨c,?_,gq c (zan C),F.mono I.free⟩;have:=(zab.1 C).1;rw [zah,zba,zbf this,C]
  rename_i L;refine ⟨(Q _ q H).1,λ j r V=>?_⟩;obtain ⟨c,C,F⟩:=(Q _ q H).2 j r V;refine ⟨c,?_,h6 c (zan C),F.mono I.free⟩;have gn:=(zab.1 C).1
  have hh:len*inf.size+((i-len)*inf.size+j)=i*inf.size+j:=by
   rw [<- Nat.add_assoc,<- zaa,show len+(i-len)=i by omega]
  rw [zah,zba,List.getElem?_append_right (by omega),h7,zbf (by omega),show i*inf.size+j-len*inf.size=(i-len)*inf.size+j by omega,C]
 simp only [zar,hlenK,zal];exact zac _
theorem arg:∀(l:List Value) (j off:Nat) (a:Array Value),off+j+l.length<=a.size ->
 ((l.zipIdx j).foldl (λ cs (p:Value×Nat)=>cs.setIfInBounds (off+p.2) p.1) a).toList=d9 a.toList (off+j) l
 | [],j,off,a,h=>by simp [d9]
 | v::l,j,off,a,h=>by
   simp only [zay] at h;rw [List.zipIdx_cons,List.foldl_cons,arg l (j+1) off _ (by simp; omega)];have e:=list_seg_step a.toList (off+j) v l (by simp; omega);simpa [d9,Array.toList_setIfInBounds,Nat.add_assoc] using e
theorem azl {sz:Nat}:∀(vs:List Value) (k:Nat) (a:Array Value),(∀v∈vs,v.cells.size=sz)->a.size=(k+vs.length)*sz ->
 ∃r,Instr.fill (λ i=>some (i*sz,sz)) a ((List.range' k vs.length).zip vs)=some r/\r.toList=a.toList.take (k*sz)++vs.flatMap (λ v=>v.cells.toList)
 | [],k,a,h,hs=>by
   refine ⟨a,by simp [Instr.fill],?_⟩;simp only [List.flatMap_nil,List.append_nil];rw [zbe];simp [hs]
 | v::vs,k,a,h,hs=>by
   have hv:=h v (by simp)
   have b:k*sz+v.cells.size<=a.size:=by
    rw [hs,hv];simp only [zay]
    calc k*sz+sz=(k+1)*sz:=by rw [zaa,zai]
     _<=(k+(vs.length+1))*sz:=zad _ (by omega)
   have e:=arg v.cells.toList 0 (k*sz) a (by simpa using b);simp only [zaj] at e
   have c:(v.cells.zipIdx.foldl (λ cs (p:Value×Nat)=>cs.setIfInBounds (k*sz+p.2) p.1) a).toList=d9 a.toList (k*sz) v.cells.toList:=by
    rw [<- e,<- Array.foldl_toList,Array.toList_zipIdx]
   have d:(d9 a.toList (k*sz) v.cells.toList).length=a.size:=by rw [m7 (by simpa using b)]; simp
   obtain ⟨r,f,l⟩:=azl vs (k+1) (v.cells.zipIdx.foldl (λ cs (p:Value×Nat)=>cs.setIfInBounds (k*sz+p.2) p.1) a) (λ u g=>h u (by simp [g])) (by
    rw [<- zaf,c,d,hs];simp only [zay];congr 1
    omega)
   refine ⟨r,?_,?_⟩
   ·simp only [zay,List.range'_succ,List.zip_cons_cons,Instr.fill];rw [if_neg (by simp [hv]; omega)];exact f
   rw [l,c];simp only [zbg,<- zba];congr 1
   have j:(a.toList.take (k*sz)++v.cells.toList).length=(k+1)*sz:=by
    rw [zaq,zak,zae (by simp; omega),zaf,hv,zaa,zai]
   exact List.take_left' j
theorem a2q {sz:Nat} (f:Value->List Value):∀(vs:List Value) (i j:Nat) (v:Value),(∀v∈vs,(f v).length=sz)->vs[i]?=some v->j<sz->(vs.flatMap f)[i*sz+j]?=(f v)[j]?
 | [],i,j,v,h,hi,hj=>by simp at hi
 | u::vs,0,j,v,h,hi,hj=>by
   simp at hi; subst hi;have:=h u (by simp);rw [Nat.zero_mul,zal,zbg,zbf (by omega)]
 | u::vs,i+1,j,v,h,hi,hj=>by
   simp at hi;have a:=h u (by simp);rw [zbg,List.getElem?_append_right (by rw [a,zaa]; omega),a,show (i+1)*sz+j-sz=i*sz+j by rw [zaa]; omega];exact a2q f vs i j v (λ v hv=>h v (by simp [hv])) hi hj
theorem azi {sz:Nat} (f:Value->List Value):∀(vs:List Value),(∀v∈vs,(f v).length=sz)->(vs.flatMap f).length=vs.length*sz
 | [],_=>by simp
 | u::vs,h=>by
   rw [zbg,zaq,h u (by simp),azi f vs (λ v hv=>h v (by simp [hv])),zay,zaa];omega
theorem azr (t:Gam X s ρ a w) {e:Env} {ob:Obs} {l:List Nat} (C:e=s.e) (b:s.ob=Ev.freeze ob l):∀{r:List (Nat×Operand)} {A:List Opd} {p:Prop} {ys:List RV} {u:List Nat},bf (λ p q=>opd p.2 q) r A=true->dr e ob true A=some (p,ys,u)->p ->
 (∀i∈u,i∈l)->ys.length=r.length/\∀(i:Nat) (y:RV) (q:Nat×Operand),ys[i]?=some y->r[i]?=some q->RelV w (g9 X.B s.ob ρ w) y (a.eval q.2)
 | [],[],p,ys,u,_,h,_,_=>by simp [dr] at h; simp [h.2.1.symm]
 | q::r,o::A,p,ys,u,hall,h,hp,hs=>by
   simp [bf] at hall;simp only [dr] at h;split at h
   ·rename_i y k L M j d J;cases h;obtain ⟨E,I⟩:=azr t C b hall.2 J hp.2 (λ i hi=>hs i (by simp [hi]));refine ⟨by simp [E],λ i F G hy n=>?_⟩;cases i with
    | succ i=>
      simp at hy n;exact I i F G hy n
    | zero=>
      simp at hy n;subst hy; subst n; subst C;have hx:=i9 t rfl hall.1 hp.1;generalize (o.ev s.e).bare=x at hx d;unfold AV.elt at d;split at d
      ·rename_i z;split at d
       ·rename_i K D f;cases d;generalize a.eval q.2=c at hx;cases hx;rename_i cs H g;refine .agg _ _ (by rw [uf f]; exact H) λ i y c hy hc=>?_;have v:i<z.length:=by have:=(zab.1 hy).1; have:=uf f; omega
        have m:z[i]?=some z[i]:=by simp [v]
        exact akb t b f (λ i hi=>hs i (by simp [hi])) i _ y c m hy (g i _ c m hc)
       cases d
      exact asa t d (λ i hi=>hs i (by simp [hi])) b hx
   cases h
 | [],_::_,_,_,_,h,_,_,_=>by cases h
 | _::_,[],_,_,_,h,_,_,_=>by cases h
theorem atd {R:Nat->Prop} {y:RV} {c:Value} {sz:Nat} (h:RelV w R y c) (i:y.good sz=true):c.cells.size=sz/\∀(j:Nat) (q:RV),y.cells[j]?=some q->∃u,c.cells[j]?=some u/\u.oneCell'=true/\RelV w R q u:=by
 simp only [RV.good,zbh,beq_iff_eq] at i;obtain ⟨d,e⟩:=i;cases h with
 | v x=>
   simp only [RV.cells,List.all_cons,List.all_nil,Bool.and_true,List.length_singleton] at d e;rw [awo e];refine ⟨by simpa using d,λ j q a=>?_⟩;cases j with
   | zero=>simp [RV.cells] at a; subst a; exact ⟨_,rfl,e,.v _⟩
   | succ j=>simp [RV.cells] at a
 | agg xs cs hl h=>
   simp only [RV.cells] at d e;refine ⟨by simp [Value.cells,hl,d],λ j q a=>?_⟩;have f:=(zab.1 a).1;simp only [RV.cells] at f a;have hc:cs[j]?=some cs[j]:=by simp [show j<cs.size by omega]
   have:=h j q _ a hc;refine ⟨_,hc,ax5 this ?_,this⟩;have:=(zab.1 a).2;rw [<- this];exact zam.1 e _ (zav _)
 | sl k xs A cap hc hm b o g hA hz hg' hr=>
   simp only [RV.cells,List.length_singleton] at d;refine ⟨by simpa [Value.cells] using d,λ j q a=>?_⟩;cases j with
   | zero=>simp [RV.cells] at a; subst a; exact ⟨_,rfl,rfl,.sl k xs A cap hc hm b o g hA hz hg' hr⟩
   | succ j=>simp [RV.cells] at a
theorem bij {d sz m:Nat} {z:RV} {t e:TypeId} {inf:TypeInfo} {V:Value} {g:Array (Nat×Operand)} {W:List Opd} {p:Prop} {ys:List RV} {A:List Nat} {ok:Prop} (Q:d<X.n) (hG:Gam X s ρ a w) (ho:o.op=.buildSlice t m g) (ht:P.underlying t=some (.slice e)) (hi:P.info? e=some inf)
 (hz:inf.zero=some V) (U:inf.size=sz) (hm:m=W.length) (B:bf (λ p q=>opd p.2 q) g.toList W=true) (R:g.toList.map (·.1)=List.range m) (h2:m*sz<=16777216) (Y:m<=16777216)
 (T:dr s.e s.ob true W=some (p,ys,A)) (hp:p) (b:ys.all (·.good sz)=true) (hd:d∉A) :
 qw P X a w s o (u9 (Ev.freeze s.ob A) d (.row sz z true true ys) (λ v=>.own d v 0 ys.length) ok A A):=by
 have E:=Gam.freeze (s:=s) A (ob:=s.ob) hG;obtain ⟨h3,C⟩:=azr (s:=⟨s.e,Ev.freeze s.ob A⟩) (ob:=s.ob) (l:=A) E rfl rfl B T hp (λ _ h=>h);subst U;have D:g.toList.length=m:=by rw [ul B,hm]
 have c:∀v∈g.toList.map (λ q=>a.eval q.2),v.cells.size=inf.size:=λ v hv=>by
  obtain ⟨i,hi⟩:=zbc.1 hv;rw [zau,zaz] at hi;obtain ⟨q,I,rfl⟩:=hi;have N:=(zab.1 I).1;have hy:ys[i]?=some (ys[i]'(by omega)):=by simp [show i<ys.length by omega]
  exact (atd (C i _ q hy I) (zam.1 b _ (zav _))).1
 have f:(g.map λ (i,x)=>(i,a.eval x)).toList=(List.range' 0 m).zip (g.toList.map λ q=>a.eval q.2):=by
  rw [<- List.range_eq_range',<- R];simp only [Array.toList_map];generalize g.toList=l
  induction l with
  | nil=>rfl
  | cons q l ih=>simp [ih]
 obtain ⟨r,k,H⟩:=azl (sz:=inf.size) (g.toList.map λ q=>a.eval q.2) 0 ((Array.range (m*inf.size)).map (λ i=>(if m*inf.size=0 then (#[]:Array Value) else V.cells)[i%(if m*inf.size=0 then (#[]:Array Value) else V.cells).size]!)) c (by simp [D])
 have F:(execOp a.eval o).run P w=.ok (.value (.slice (some ⟨w.heap.size,0,none⟩) m m)) (w.alloc (.cells r e)):=by
  rw [List.length_map,D] at k;simp only [execOp,ho,Instr.buildSlice,Sem.run_bind,run_underlying ht,Result.andThen_ok,sizeOf,typeInfo,run_program,hi,Sem.run_pure,if_neg (show ¬(m*inf.size>2^24) by omega)];by_cases Z:m*inf.size=0
  ·simp only [Z,if_true,f] at k |-;simp only [k,newRow,Sem.run_bind,run_newObj,Result.andThen_ok,Sem.run_pure]
   rfl
  simp only [Z,if_false,zeroValue,typeInfo,Sem.run_bind,run_program,hi,hz,Result.andThen_ok,Sem.run_pure,f] at k |-;simp only [k,newRow,Sem.run_bind,run_newObj,Result.andThen_ok,Sem.run_pure]
  rfl
 have K:ys.length=m:=by omega
 have J:r.size=m*inf.size:=by
  rw [<- zaf,H,zaq,azi (sz:=inf.size) _ _ (λ v hv=>by simpa using c v hv)];simp [D]
 have O:=Stays.alloc E (er (.cells r e)) d (nv (Ev.freeze s.ob A) d) (λ v o h=>ab2 h) (.row inf.size z true true ys)
 refine aam (s:=s) Q E (er _) F (.inr ⟨w.heap.size,r,e,(0,0),by simp [u5],(er _).new,by simp,λ _=>rfl,by rw [K,J]; exact zac _,λ i y hy=>⟨?_,λ j q hj=>?_⟩⟩)
  (.own _ _ _ _ _ rfl (qt ⟨_,m,by rw [K],by omega,?_,by simp,λ _=>⟨w.heap.size,r,e,(0,0),by simp [u5],by simp,(er _).new,by rw [zal,J]; exact zac _⟩⟩))
 ·have:=zam.1 b y (zan hy);simp only [RV.good,zbh,beq_iff_eq] at this;exact this.1
 ·have N:=(zab.1 hy).1;have I:g.toList[i]?=some (g.toList[i]'(by omega)):=by simp [show i<g.size by rw [<- zaf]; omega]
  have M:=zam.1 b y (zan hy);obtain ⟨g1,g2⟩:=atd (C i y _ hy I) M;obtain ⟨u,G,S,L⟩:=g2 j q hj;have h1:=(Array.getElem?_eq_some_iff.1 G).1;refine ⟨u,?_,S,L.mono O.free⟩;rw [<- zbi,H];simp only [Nat.zero_mul,List.take_zero,List.nil_append];rw [a2q (sz:=inf.size) _ _ i j (a.eval (g.toList[i]'(by omega)).2) (λ v hv=>by simpa using c v hv) (by rw [zau,I]; rfl) (by omega)];simpa using G
 simp only [maxLen]; omega
theorem bid {sz id ver lo n:Nat} {H:RV} {I:List RV} {t e:TypeId} {x:Operand} {ok:Prop} {rd':List Nat} (E:Gam X s ρ a w) (R:o.op=.convert t t x) (T:P.underlying t=some (.slice e)) (he:P.underlying e=some (.int .u8))
 (hx:RA X s ρ w (.own id ver lo n) (a.eval x)) (K:l9 s.ob id ver=some (sz,H,true,true,I)) (hn:0<n) :
 qw P X a w s o ⟨ok,.own id ver lo n,upd id (ver,.row sz H false true I) s.ob,rd',[id]⟩:=by
 have f:=y8 K;simp only at f;obtain ⟨A,cap,G,e2,e3,Y,Q⟩:=yb hx K;simp only at Y;obtain ⟨b,V,ee,W,B,Z,f3,f4⟩:=Q (by omega);rcases E.obj id ver _ f with ⟨q1,J,_⟩ | ⟨b',cs,e',fr,u,v,h0,p,D,z⟩
 ·rw [B] at J; cases J
 rw [B] at u;cases u;obtain rfl:fr=(0,0):=p rfl
 have F:w.shape? b=some (e',cs.size):=by
  unfold World.shape?;rw [v]
 have N:b<w.heap.size:=(Array.getElem?_eq_some_iff.1 v).1;obtain ⟨l,C⟩:∃l,w.freeze ⟨b,cs.size,none⟩ 1=l:=⟨_,rfl⟩
 have d:Mods w l b (.cells cs e' (cs.size,cs.size+1)):=by
  rw [<- C];unfold World.freeze;rw [if_neg (by decide)];refine ⟨rfl,rfl,rfl,by simp,?_,λ k L=>?_⟩
  ·simp only [Array.getElem?_modify,if_true,v,Option.map_some]
   rfl
  simp only [Array.getElem?_modify];rw [if_neg (λ e=>L e.symm)]
 have g:(convert t t (a.eval x)).run P w=.ok (a.eval x) l:=by
  rw [G,Z];simp [convert,run_underlying T,run_underlying he,markStringish,F];exact C
 have m:(execOp a.eval o).run P w=.ok (.value (a.eval x)) l:=by
  simp only [execOp,R,Sem.run_bind,g,Result.andThen_ok,Sem.run_pure]
 have r:=Stays.modify (x':=.row sz H false true I) E f rfl B v d rfl ver (.inl ⟨rfl,rfl,zac _⟩);refine ⟨_,l,ρ,m,E.modify f rfl B v d rfl ver (.inl ⟨rfl,rfl,zac _⟩) (.inl (E.unpinned f rfl)) ?_,.inl ⟨_,rfl,hx.stays r⟩⟩;refine .inr ⟨b,cs,e',_,B,d.new,λ k L=>(by simp; omega),λ h=>(by cases h),D,λ i y hy=>⟨(z i y hy).1,λ j q S=>?_⟩⟩;obtain ⟨c,O,U,M⟩:=(z i y hy).2 j q S;exact ⟨c,O,U,M.mono r.free⟩
theorem a0u {d:Nat} {z:RV} {t u e:TypeId} {inf:TypeInfo} {x:Operand} {b:ByteArray} {ok:Prop} (C:d<X.n) (E:Gam X s ρ a w) (G:o.op=.convert t u x) (I:P.underlying t=some .string) (H:P.underlying u=some (.slice e)) (K:P.underlying e=some (.int .u8))
 (hx:a.eval x=.string b) (J:b.size<=maxLen):qw P X a w s o (u9 s.ob d (.row 1 z false true (b.data.toList.map λ b=>.v (.int .u8 b.toNat))) (λ v=>.own d v 0 b.size) ok [] []):=by
 have p:=grownCap_ge w b.size 0 e;have D:=grownCap_le_maxLen w b.size 0 e J;have l:b.data.size=b.size:=rfl;generalize g:bytesRow b (grownCap w b.size 0 e)=f;have r:f.size=grownCap w b.size 0 e:=by rw [<- g]; simp [bytesRow,l]; omega
 have m:(execOp a.eval o).run P w=.ok (.value (.slice (some ⟨w.heap.size,0,none⟩) b.size (grownCap w b.size 0 e))) (w.drew.alloc (.cells f e (f.size,f.size+1))):=by
  have:=run_bytes_of_string (P:=P) w t u e b I H K;rw [g] at this;simp only [execOp,G,hx,Sem.run_bind,this,Result.andThen_ok,Sem.run_pure]
 have F:=Stays.alloc E (tt (.cells f e (f.size,f.size+1))) d (nv s.ob d) (λ v o h=>ab2 h) (.row 1 z false true (b.data.toList.map λ b=>.v (.int .u8 b.toNat)))
 refine aam C E (tt _) m (.inr ⟨w.heap.size,f,e,_,by simp [u5],(tt _).new,λ k L=>by simp; omega,by simp,by simp [l,r,p],λ i y hy=>?_⟩)
  (.own _ _ _ _ _ rfl (qt ⟨_,_,rfl,p,D,by simp [l],λ _=>⟨w.heap.size,f,e,_,by simp [u5],by simp,(tt _).new,by simp [r]⟩⟩))
 rw [zau,zaz] at hy;obtain ⟨c,hc,rfl⟩:=hy;refine ⟨rfl,λ j q B=>?_⟩;cases j with
 | succ j=>simp [RV.cells] at B
 | zero=>
   simp [RV.cells] at B;subst B;refine ⟨_,?_,rfl,.v _⟩;have A:=(zab.1 hc).1;simp only [zaf] at A;rw [<- g];unfold bytesRow;rw [Array.getElem?_append_left (by simp; omega)];simp at hc |-;exact ⟨c,by simpa using hc,rfl⟩
theorem bhg {a b:Value} (h:eqv a b=true):a.oneCell'=true:=by
 unfold eqv at h;split at h<;>first | rfl | cases h
theorem a2t {R:Nat->Prop} {v:Value} {q:RV} (h:eqr v q=true):v.oneCell'=true/\RelV w R q v:=by
 unfold eqr at h;split at h
 ·exact ⟨rfl,.sl _ [] none 0 (by simp) (by simp) 0 0 (λ _ _=>undef) (by simp) (by simp) (by simp) (by simp)⟩
 ·refine ⟨bhg h,?_⟩;rw [ath h];exact .v _
 cases h
theorem bej {z:Array Value} {n sz i j:Nat} (c:z.size=sz) (hi:i<n) (d:j<sz):(Builtin.zeroCells z n).toList[i*sz+j]?=z[j]?:=by
 have b:i*sz+j<n*z.size:=by
  have:(i+1)*sz<=n*sz:=zad _ (by omega);rw [zaa,zai] at this;rw [c];omega
 have a:(i*sz+j)%z.size=j:=by
  rw [c,zax,Nat.mul_add_mod,Nat.mod_eq_of_lt (by omega)]
 rw [zbi];simp [Builtin.zeroCells,b,a,show j<z.size by omega]
theorem bii {sz id ver lo n:Nat} {z z':RV} {E:Bool} {H:List RV} {rd':List Nat} {t e:TypeId} {inf:TypeInfo} {v:Value} {c:Call} {x:Operand} {ok:Prop} (hG:Gam X s ρ a w) (ho:o.op=.call c) (hc:c.callee=.builtin .clear)
 (K:c.args=#[x]) (h5:c.argTypes=#[t]) (ht:P.underlying t=some (.slice e)) (hi:P.info? e=some inf) (hk:inf.size=sz) (hz:inf.zero=some v) (h9:bf eqr v.cells.toList z.cells=true) (Q:v.cells.size=sz)
 (hx:RA X s ρ w (.own id ver lo n) (a.eval x)) (hr:l9 s.ob id ver=some (sz,z',E,true,H)) :
 qw P X a w s o ⟨ok,.undef,upd id (ver,.row sz z' E true (spl H lo (zat n z))) s.ob,rd',[id]⟩:=by
 unfold spl;subst hk;have F:=y8 hr;simp only at F;obtain ⟨A,cap,hd,e2,e3,e4,e5⟩:=yb hx hr;simp only at e4
 have G:∀r,(Builtin.clear_ #[t] o.type #[.slice A n cap]).run P w=r->(execOp a.eval o).run P w=r.andThen λ q w'=>.ok (.value q) w':=by
  rintro r rfl;simp [execOp,ho,resolve,hc,K,h5,invoke,builtin,hd]
 by_cases h0:n=0
 ·subst h0
  have T:(Builtin.clear_ #[t] o.type #[.slice A 0 cap]).run P w=.ok (.tuple #[]) w:=by
   cases A<;>simp [Builtin.clear_,run_underlying ht]
  have f:=G _ T;simp only [Result.andThen_ok] at f;refine ⟨_,w,ρ,f,?_,.inl ⟨_,rfl,.undef _⟩⟩;have e:d9 H lo (zat 0 z)=H:=by simp [d9]
  rw [e]
  rw [show upd id (ver,Ob.row inf.size z' E true H) s.ob=s.ob from by
   funext i;unfold upd;split
   ·rename_i h; rw [h,F]
   rfl]
  exact hG
 have hl:0<cap:=by omega
 obtain ⟨b,hs,ee,hw,f1,f2,f3,f4⟩:=e5 hl;rcases hG.obj id ver _ F with ⟨q1,q2,_⟩ | ⟨b',cs,e',fr,h8,hh,h4,V,I,S⟩
 ·rw [f1] at q2; cases q2
 rw [f1] at h8;cases h8;have hb:(Builtin.zeroCells v.cells n).toList.length=n*inf.size:=by rw [zaf,size_zeroCells,Q]
 have N:(lo+n)*inf.size<=cs.size:=zap (zad _ (by omega)) I
 have D:lo*inf.size+(Builtin.zeroCells v.cells n).toList.length<=cs.toList.length:=by
  rw [hb,<- zaa];simpa using N
 have hf:z.cells.length=inf.size:=by rw [<- ul h9]; simpa using Q
 have W:∀j y,z.cells[j]?=some y->∃u,v.cells[j]?=some u/\eqr u y=true:=λ j y J=>by
  have h7:=(zab.1 J).1;have hv:v.cells[j]?=some (v.cells[j]'(by omega)):=by simp [show j<v.cells.size by omega]
  exact ⟨_,hv,akw h9 (i:=j) (by rw [zbi]; exact hv) J⟩
 have h1:∀u∈(Builtin.zeroCells v.cells n).toList,u.oneCell'=true:=λ u hu=>by
  simp only [Builtin.zeroCells,Array.toList_map,List.mem_map] at hu;obtain ⟨i,hi,rfl⟩:=hu;have hg:i<n*v.cells.size:=by simpa using hi
  have he:0<v.cells.size:=by
   rcases zbd v.cells.size with h | h
   ·rw [h] at hg; omega
   exact h
  have hm:=Nat.mod_lt i he;have hy:z.cells[i%v.cells.size]?=some (z.cells[i%v.cells.size]'(by omega)):=by simp [show i%v.cells.size<z.cells.length by omega]
  obtain ⟨u,Z,g2⟩:=W _ _ hy
  have:v.cells[i%v.cells.size]! = u:=by
   rw [Array.getElem!_eq_getD,Array.getD_eq_getD_getElem?,Z]
   rfl
  rw [this];exact (a2t (w:=w) (R:=λ _=>True) g2).1
 have Y:=ahv (P:=P) b (lo*inf.size) e' fr (Builtin.zeroCells v.cells n).toList 0 cs w hh h4 (by simpa using D) h1
 have T:(Builtin.clear_ #[t] o.type #[.slice A n cap]).run P w=.ok (.tuple #[]) (w.setRow b (d9 cs.toList (lo*inf.size) (Builtin.zeroCells v.cells n).toList).toArray):=by
  simp only [zaj] at Y;rw [f2];obtain ⟨k,rfl⟩:∃k,n=k+1:=⟨n-1,by omega⟩
  simp [Builtin.clear_,run_underlying ht,zeroValue,typeInfo,hi,hz,Y,d9]
 have f:=G _ T;simp only [Result.andThen_ok] at f;generalize O:(Builtin.zeroCells v.cells n).toList=d at *;have L:=uh (w:=w) (cs:=(d9 cs.toList (lo*inf.size) d).toArray) hh;have C:(d9 cs.toList (lo*inf.size) d).length=cs.size:=by rw [m7 D]; simp
 have h2:lo+(zat n z).length<=H.length:=by rw [List.length_replicate]; omega
 have g:(d9 H lo (zat n z)).length=H.length:=m7 h2;have U:=Stays.modify (x':=.row inf.size z' E true (d9 H lo (zat n z))) hG F rfl f1 hh L (by simpa using C) ver (.inl ⟨rfl,rfl,by rw [g]; exact zac _⟩);refine ⟨_,_,ρ,f,hG.modify F rfl f1 hh L (by simpa using C) ver (.inl ⟨rfl,rfl,by rw [g]; exact zac _⟩) (.inr ⟨rfl,⟨rfl,by rw [g]; exact zac _⟩,λ h=>h⟩) ?_,.inl ⟨_,rfl,.undef _⟩⟩;refine .inr ⟨b,_,e',fr,f1,L.new,by simpa [C] using h4,V,by simpa [C,g] using I,λ i q M=>?_⟩;have h6:=λ p=>cg (l:=cs.toList) (m:=d) (i:=lo*inf.size) D p;rw [cg h2,List.length_replicate] at M;split at M
 ·rename_i ha;rw [List.getElem?_replicate,if_pos (by omega)] at M;cases M;refine ⟨hf,λ j r J=>?_⟩;have h7:=(zab.1 J).1;obtain ⟨u,Z,g2⟩:=W j r J
  have hp:(i-lo)*inf.size+j<n*inf.size:=by
   have:(i-lo+1)*inf.size<=n*inf.size:=zad _ (by omega);rw [zaa,zai] at this;omega
  have hn:i*inf.size=lo*inf.size+(i-lo)*inf.size:=by rw [<- zaa,show lo+(i-lo)=i by omega]
  have h3:=a2t (w:=w.setRow b (d9 cs.toList (lo*inf.size) d).toArray) (R:=g9 X.B (upd id (ver,.row inf.size z' E true (d9 H lo (zat n z))) s.ob) ρ (w.setRow b (d9 cs.toList (lo*inf.size) d).toArray)) g2;refine ⟨u,?_,h3.1,h3.2⟩;rw [zah,h6,if_pos (by omega),show i*inf.size+j-lo*inf.size=(i-lo)*inf.size+j by omega,<- O,bej Q (by omega) (by omega)];exact Z
 rename_i ha;refine ⟨(S i q M).1,λ j r J=>?_⟩;obtain ⟨c,Z,g2,g3⟩:=(S i q M).2 j r J;have h7:j<inf.size:=by have:=(zab.1 J).1; have:=(S i q M).1; omega
 refine ⟨c,?_,g2,g3.mono U.free⟩;rw [zah,h6,hb,if_neg]
 ·simpa using Z
 rintro ⟨p1,p2⟩;apply ha;constructor
 ·rcases Nat.lt_or_ge i lo with h | h
  ·have:(i+1)*inf.size<=lo*inf.size:=zad _ h;rw [zaa,zai] at this;omega
  exact h
 rcases Nat.lt_or_ge i (lo+n) with h | h
 ·exact h
 have:(lo+n)*inf.size<=i*inf.size:=zad _ h;rw [zaa] at this;omega
theorem bfp {g:Bool} (i:g=true) {t e:TypeId} {inf:TypeInfo} {n:Nat} {x:Operand} {u:AV} (z:Gam X s ρ a w) (l:o.op=.slice t x none none none) (r:P.underlying t=some (.array n e)) (hi:P.info? e=some inf)
 (A:inf.size=1) (p:RA X s ρ w u (a.eval x)) (c:(zy g n u s.ob).ok):o8 P X a w s ρ o (zy g n u s.ob).v:=by
 unfold zy at c |-;split at c
 ·rename_i id ver off;rcases hr:u3 s.ob id ver with _ | j
  ·rw [hr] at c; exact (c i).elim
  rw [hr] at c;obtain ⟨C,m⟩:=c i;have k:=lh hr;cases p;rename_i h;obtain ⟨b,f,hc⟩:=h.live k;obtain ⟨B,cs,e',d,q,y,_⟩:=z.obj id ver _ k;rw [f] at d;cases d
  skip
  refine ⟨.slice (some ⟨b,off,none⟩) n n,?_,.own _ _ _ _ _ rfl ⟨_,_,k,zac _,λ _=>⟨_,n,rfl,zac _,m,λ _=>⟨b,cs,e',(0,0),f,rfl,q,by omega⟩⟩⟩⟩;simp [execOp,l,Instr.sliceAt,run_underlying r,hc,Instr.sureAddr,Instr.sliceBounds,sizeOf,typeInfo,hi,ij]
 first | exact (c i).elim | exact (c.2 i).elim | exact c.2.elim
theorem bfc (G:Gam X s ρ a w) {y:AV} {c:Value} {sz:Nat} {ys:List RV} {rd:List Nat} (f:src s.ob y=some (sz,ys,rd)) (hy:RA X s ρ w y c):RelV w (λ _=>True) (.sl sz ys) c:=by
 unfold src at f;split at f
 ·cases f;cases hy;rename_i hy;exact hy.mono λ b _=>⟨trivial,rfl⟩
 ·cases f;cases hy;exact .sl _ [] none 0 (by simp) (by simp) 0 0 (λ _ _=>undef) (by simp) (by simp) (by simp) (by simp)
 ·split at f
  ·rename_i id ver lo len _ sz z E S m C;cases f;have k:=y8 C;simp only at k;obtain ⟨A,cap,rfl,P,I,u,r⟩:=yb hy C;simp only at u r;have h:((m.drop lo).take len).length=len:=by simp; omega
   have g:=RelV.sl (w:=w) (R:=λ _=>True) sz ((m.drop lo).take len) A cap (by omega) I;rw [h] at g
   have d:∀(i:Nat) (x:RV),((m.drop lo).take len)[i]?=some x->m[lo+i]?=some x:=λ i x hi=>by
    rw [zao] at hi;split at hi
    ·rwa [List.getElem?_drop] at hi
    cases hi
   rcases G.obj id ver _ k with ⟨n,v,_⟩ | ⟨b,cs,e,fr,n,v,K,Q,O,o⟩
   ·subst n;have:len=0:=by simp at u; omega
    subst this;exact g 0 0 (λ _ _=>undef) (by simp) (by simp) (by simp) (by simp)
   refine g b (lo*sz) (λ i j=>(cs[(lo+i)*sz+j]?).getD undef) (λ N=>?_) (λ i x hi=>(o _ x (d i x hi)).1) (λ i x j y hi p=>?_) (λ i x j y hi p=>?_)
   ·obtain ⟨L,F,e',D,B,H,J,M⟩:=r (by omega);rw [n] at B;cases B;exact ⟨H,trivial⟩
   ·obtain ⟨c,l,t,q⟩:=(o _ x (d i x hi)).2 j y p;rw [l];refine ⟨?_,t⟩;simp only [World.cell?,v,Option.isSome_none,Bool.false_eq_true,if_false,Option.getD_some];rw [<- l,zaa]
   obtain ⟨c,l,t,q⟩:=(o _ x (d i x hi)).2 j y p;rw [l];exact q.mono λ b _=>⟨trivial,rfl⟩
  cases f
 cases f
theorem a6b {t d e:TypeId} {x:Operand} {u:AV} {sz:Nat} {ys:List RV} {rd:List Nat} (H:Gam X s ρ a w) (C:o.op=.convert t d x) (p:P.underlying t=some (.slice e)) (y:P.underlying e=some (.int .u8)) (r:P.underlying d=some .string)
 (D:RA X s ρ w u (a.eval x)) (G:src s.ob u=some (sz,ys,rd)) (i:sz=1) (I:ys.all aki=true):o8 P X a w s ρ o (dj ⟨(ys.map zg).toArray⟩):=by
 have k:=bfc H G D;subst i;generalize hc:a.eval x=c at k;cases k;rename_i A cap J b o' g z E k K F;simp only [o8,execOp,C,hc];refine ⟨_,?_,iq _⟩
 have h:(convert t d (.slice A ys.length cap)).run P w=.ok (.string ⟨(ys.map zg).toArray⟩) w:=by
  rcases zbd ys.length with v | v
  ·have l:ys=[]:=zaw v;subst l;cases A with
   | none=>
     rw [run_convert_bytes_string w t d e none _ cap p y r];simp [Conv.bytesToString]
     rfl
   | some ad=>exact run_convert_bytes_back w t d e ad cap [] p y r (by simp)
  obtain ⟨rfl,_⟩:=E v
  have:=run_convert_bytes_back (P:=P) w t d e ⟨b,o',none⟩ cap (ys.map zg) p y r λ j n=>by
   simp only [List.length_map] at n;have hy:ys[j]?=some ys[j]:=by simp [n]
   have f:=zam.1 I ys[j] (zav n);simp only [List.getElem_map];generalize ys[j]=q at hy f;unfold aki at f;split at f
   ·rename_i m;have i:=(F j _ 0 _ hy rfl).1;have B:=k j _ 0 _ hy rfl;cases hgj:g j 0<;>rw [hgj] at B<;>cases B;rw [ij];rw [hgj] at i;simp only [Nat.mul_one,zaj] at i;rw [i];simp only [decide_eq_true_eq] at f;simp only [zg,UInt8.toNat_ofNat'];congr 2;omega
   cases f
  simpa using this
 simp only [Sem.run_bind,h,Result.andThen_ok,Sem.run_pure]
theorem bfw {g:Bool} (j:g=true) {d:Bool} {op:BinOp} {t ty e:TypeId} {x:Operand} {u:AV} (l:o.op=.binOp op t x (.const (.pointer none)) ty) (f:op=if d then .neq else .eql) (p:P.underlying t=some (.pointer e))
 (m:RA X s ρ w u (a.eval x)) (c:(acg g d u s.ob).ok):o8 P X a w s ρ o (acg g d u s.ob).v:=by
 have i:P.underlying t=some (.pointer (P.pointee t)):=by simp [Program.pointee,p]
 unfold acg at c |-;split at c
 ·split at c
  ·rename_i r q;cases m;rename_i hc h;obtain ⟨o',k⟩:=asf q;obtain ⟨b,_,hc⟩:=h.live k;simp only [o8,execOp,l,hc];refine ⟨_,?_,iq _⟩;subst f;cases d<;>simp [eqGuard,binOp,Act.eval,run_equal_pointer_nil w t _ i]
  first | exact (c j).elim | exact (c.2 j).elim
 ·have n:=n9 m;simp only [o8,execOp,l,n];refine ⟨_,?_,iq _⟩;subst f;cases d<;>simp [eqGuard,binOp,Act.eval,run_equal_pointer_nil w t _ i]
 first | exact (c j).elim | exact (c.2 j).elim
theorem azk {t:TypeId} {g:Bool} (B:g=true) (E:Gam X s ρ a w) {bo:Nat->Option (Nat×Nat)} (n:∀(p:Nat×Operand) (q:Nat×Nat×Opd),aa1 P t p q=true->bo p.1=some (q.1,q.2.1)) :
 ∀(z:List (Nat×Operand)) (u:List (Nat×Nat×Opd)) (j:List AV) (b:Array Value),bf (aa1 P t) z u=true->(jn g s.e j u).1->b.size=j.length ->
  (∀(i:Nat) (x:AV) (c:Value),j[i]?=some x->b[i]?=some c->RA X s ρ w x c) ->
  ∃r ys,Instr.fill bo b (z.map λ p=>(p.1,a.eval p.2))=some r/\(jn g s.e j u).2=.agg ys/\r.size=ys.length/\∀(i:Nat) (x:AV) (c:Value),ys[i]?=some x->r[i]?=some c->RA X s ρ w x c
 | [],[],j,b,_,_,hs,hr=>⟨b,j,by simp [Instr.fill],rfl,hs,hr⟩
 | p::z,(off,m,y)::u,j,b,d,hok,hs,hr=>by
   simp [bf] at d;obtain ⟨C,d⟩:=d;simp only [jn] at hok |-;obtain ⟨H,o,M⟩:=hok;obtain ⟨O,Q,R⟩:=o B;have f:=n p _ C;have l:opd p.2 y=true:=by simp [aa1] at C; exact C.1
   have hx:=i9 E B l H;obtain ⟨K,I⟩:=aw7 hx O;generalize (y.ev s.e).bare.cells=N at *;have D:=arg (a.eval p.2).cells.toList 0 off b (by simp; omega);simp only [zaj] at D
   have v:((a.eval p.2).cells.zipIdx.foldl (λ cs (q:Value×Nat)=>cs.setIfInBounds (off+q.2) q.1) b).toList=d9 b.toList off (a.eval p.2).cells.toList:=by
    rw [<- D,<- Array.foldl_toList,Array.toList_zipIdx]
   have A:(d9 b.toList off (a.eval p.2).cells.toList).length=b.size:=by rw [m7 (by simp; omega)]; simp
   obtain ⟨r,ys,G,J,F,L⟩:=azk B E n z u (d9 j off N) ((a.eval p.2).cells.zipIdx.foldl (λ cs (q:Value×Nat)=>cs.setIfInBounds (off+q.2) q.1) b) d M
    (by rw [<- zaf,v,A,m7 (by omega),hs]) (λ i x c hx hc=>by
     rw [cg (by omega)] at hx;rw [<- zbi,v,cg (by simp; omega)] at hc;simp only [zaf,K] at hc;split at hx
     ·rename_i k;rw [if_pos k] at hc;exact I _ x c hx (by simpa using hc)
     rename_i k;rw [if_neg k] at hc
     exact hr i x c hx (by simpa using hc))
   refine ⟨r,ys,?_,J,F,L⟩;simp only [List.map_cons,Instr.fill,f];rw [if_neg (by simp; omega)];exact G
 | [],_::_,_,_,h,_,_,_=>by cases h
 | _::_,[],_,_,h,_,_,_=>by cases h
theorem ay2 {b a:Type} (f:b->Option a) (d:a):∀(l:List b),(l.all λ x=>(f x).isSome)=true->l.mapM f=some (l.map λ x=>(f x).getD d)
 | [],_=>rfl
 | x::l,h=>by
   simp at h;obtain ⟨y,hy⟩:=Option.isSome_iff_exists.1 h.1;have:=ay2 f d l (by simpa using h.2);simp [List.mapM_cons,hy,this]
theorem a6f {g:Bool} (Q:g=true) {t:TypeId} {inf:TypeInfo} {z:Value} {d:TypeDesc} {l:List AV} {j:Array (Nat×Operand)} {A:List (Nat×Nat×Opd)} (S:Gam X s ρ a w) (L:o.op=.build t j) (hi:P.info? t=some inf) (I:inf.zero=some z)
 (B:bf eqz z.cells.toList l=true) (C:P.underlying t=some d) (m:au6 P d=true) (v:bf (aa1 P t) j.toList A=true) (H:(jn g s.e l A).1) :
 o8 P X a w s ρ o (jn g s.e l A).2:=by
 have h:(j.map λ (i,x)=>(i,a.eval x)).toList=j.toList.map λ p=>(p.1,a.eval p.2):=by simp
 have n:∀(i:Nat) (x:AV) (c:Value),l[i]?=some x->z.cells[i]?=some c->RA X s ρ w x c:=λ i x c hx hc=>au1 (akw B (by simpa using hc) hx);have D:z.cells.size=l.length:=by rw [<- ul B]; simp
 have y:∀(bo:Nat->Option (Nat×Nat)),(∀(p:Nat×Operand) (q:Nat×Nat×Opd),aa1 P t p q=true->bo p.1=some (q.1,q.2.1)) ->
  (∀r,Instr.fill bo z.cells (j.toList.map λ p=>(p.1,a.eval p.2))=some r->P.built t (j.toList.map λ p=>(p.1,a.eval p.2))=some r)->o8 P X a w s ρ o (jn g s.e l A).2:=by
  intro bo E T;obtain ⟨r,ys,K,N,J,O⟩:=azk (P:=P) (t:=t) Q S E j.toList A l z.cells v H D n;rw [N];have u:=run_build (P:=P) w t (j.map λ (i,x)=>(i,a.eval x)) r (by rw [h]; exact T r K);refine ⟨.agg r,?_,.agg _ _ J O⟩;simp only [execOp,L,Sem.run_bind,u,Result.andThen_ok,Sem.run_pure]
 cases d with
 | struct fs=>
   have M:=ay2 (λ f=>(P.info? f.type).map λ i=>(f.offset,i.size)) (0,0) fs.toList (by
    simp only [Option.isSome_map];rw [Array.all_toList]
    exact m)
   refine y (λ i=>(fs.toList.map λ x=>((P.info? x.type).map λ i=>(x.offset,i.size)).getD (0,0)).toArray[i]?) (λ p q b=>?_) (λ r G=>?_)
   ·simp only [aa1,C,zbh] at b;obtain ⟨_,b⟩:=b;split at b
    ·rename_i f R;split at b
     ·rename_i U F;simp at b;simp [R,F,b.1,b.2]
     cases b
    cases b
   unfold Program.built;simp only [hi,C,I,M];exact G
 | array k e=>
   cases hie:P.info? e with
   | none=>simp [au6,hie] at m
   | some ie=>
     refine y (λ i=>some (i*ie.size,ie.size)) (λ p q b=>?_) (λ r G=>?_)
     ·simp only [aa1,C,hie,zbh,beq_iff_eq] at b;rw [b.2.1,b.2.2]
     unfold Program.built;simp only [hi,C,I,hie];exact G
 | _=>cases m
end

end Go.Ev

import Derived.Test.YtpibfnekkfhkmaaGreatM0
open Nat renaming add_mul → zaa, mul_le_mul_right → zac, le_refl → zad, min_eq_left → zae, one_mul → zaf, add_zero → zaj, zero_add → zal, le_trans → zaq, mul_comm → zar, lt_or_ge → zat, lt_succ_self → zaw, eq_zero_or_pos → zbg
open List renaming getElem?_eq_some_iff → zab, getElem?_toArray → zah, length_take → zak, mem_of_getElem? → zam, getElem?_map → zan, getElem?_take → zao, all_eq_true → zap, take_of_length_le → zas, length_append → zau, size_toArray → zav, replicate → zax, getElem_mem → zaz, eq_nil_of_length_eq_zero → zba, length_cons → zbb, append_assoc → zbd, getElem?_append → zbe, mem_iff_getElem? → zbf, getElem?_append_left → zbh, flatMap_cons → zbi, length_replicate → zbk
open Array renaming length_toList → zai, getElem?_toList → zbc
open Option renaming map_eq_some_iff → zay
open Bool renaming and_eq_true → zbj
namespace Go.Ev
set_option maxRecDepth 100000
open Go
set_option linter.unusedSectionVars false
set_option linter.unnecessarySimpa false
set_option linter.unusedSimpArgs false
set_option linter.unusedVariables false
section
variable {P:Program} {X:Cx} {w w':World} {s:St} {ρ ρ':Pl→Option Nat} {a:Act} {o:Oper} {ob ob':Obs} {R R':Nat→Prop}
def jo (P:Program) (X:Cx) (a:Act) (w:World) (s:St) (o:Oper) (r:Rs):Prop:=
 ∃nx w' ρ',(execOp a.eval o).run P w=.ok nx w'∧Gam X ⟨s.e,r.ob⟩ ρ' a w'∧((∃c,nx=.value c∧RA X ⟨s.e,r.ob⟩ ρ' w' r.v c)∨(nx=.skip∧r.v=.undef))
theorem ma {α β:Type} {f:α→β→Bool}:∀{xs:List α} {ys:List β},u7 f xs ys=true→xs.length=ys.length
 | [],[],_=>rfl
 | x::xs,y::ys,h=>by simp [u7] at h; simp [ma h.2]
 | [],_::_,h=>by cases h
 | _::_,[],h=>by cases h
theorem aeo {α β:Type} {f:α→β→Bool}:∀{xs:List α} {ys:List β},u7 f xs ys=true→∀{i:Nat} {x:α} {y:β},xs[i]?=some x→ys[i]?=some y→f x y=true
 | [],[],_,i,x,y,hx,_=>by simp at hx
 | x::xs,y::ys,h,0,x',y',hx,hy=>by simp [u7] at h; simp at hx hy; subst hx; subst hy; exact h.1
 | x::xs,y::ys,h,i+1,x',y',hx,hy=>by simp [u7] at h; simp at hx hy; exact aeo h.2 hx hy
 | [],_::_,h,_,_,_,_,_=>by cases h
 | _::_,[],h,_,_,_,_,_=>by cases h
theorem sk {x:Obj} {x':Ob} {y:Nat→AV} {ok:Prop} {rd wr:List Nat} {d:Nat} {c:Value} {ob:Obs} (hd:d<X.n) (hG:Gam X ⟨s.e,ob⟩ ρ a w) (hw:OneMore w w' x) (hrun:(execOp a.eval o).run P w=.ok (.value c) w')
  (hob:dn w' (g8 X.B (upd d (nv ob d,x') ob) (o4 ρ d (some w.heap.size)) w') (upd d (nv ob d,x') ob) (o4 ρ d (some w.heap.size)) d x')
  (hy:RelA w' (g8 X.B (upd d (nv ob d,x') ob) (o4 ρ d (some w.heap.size)) w') (upd d (nv ob d,x') ob) (o4 ρ d (some w.heap.size)) (y (nv ob d)) c) (hna:x'.isAbs=false:=by rfl) :
  jo P X a w s o (o3 ob d x' y ok rd wr):=
 ⟨_,w',o4 ρ d (some w.heap.size),hrun,hG.alloc (s:=⟨s.e,ob⟩) hw d (nv ob d) (hG.pnn d (aqy (by have:=hG.small; omega))) (fun v o h=>zp h) x' hob hna,.inl ⟨c,rfl,hy⟩⟩
theorem lf {id v:Nat} {x:Ob} {X:Ob→Prop} (h:X x):At (upd id (v,x) ob) id v X:=⟨v,x,by simp [upd],zad _,fun _=>h⟩
theorem z8 (x:Obj):OneMore w (w.alloc x) x:=⟨rfl,rfl,rfl,rfl⟩
theorem pj (x:Obj):OneMore w (w.drew.alloc x) x:=⟨rfl,rfl,rfl,rfl⟩
theorem auu {c:Value} (h:c.oneCell'=true):c.cells=#[c]:=by cases c<;>first | rfl | cases h
theorem avw {x:RV} {c:Value} (h:RelV w R x c) (hx:x.one=true):c.oneCell'=true:=by
 cases h<;>first | exact hx | rfl | cases hx
theorem a6q {x:AV} {c:Value} (h:RelA w R ob ρ x c) (hx:x.one=true):c.oneCell'=true:=by
 cases h<;>first | rfl | cases hx; done | assumption | skip
 rename_i h;exact avw h hx
theorem a6r {x:AV} (hx:x.one=true):x.cells=[x]:=by
 unfold AV.cells;split<;>first | rfl | cases hx
theorem au9 {x:AV} {c:Value} (h:RelA w R ob ρ x c) (hx:x.boxable=true):c.cells.size=x.cells.length∧∀(i:Nat) (y:AV) (v:Value),x.cells[i]?=some y→c.cells[i]?=some v→RelA w R ob ρ y v:=by
 by_cases h1:x.one=true
 ·rw [auu (a6q h h1),a6r h1];refine ⟨rfl,fun i y v hy hv=>?_⟩;cases i with
  | zero=>simp at hy hv; subst hy; subst hv; exact h
  | succ i=>simp at hy
 ·unfold AV.boxable at hx;split at hx
  ·cases h;rename_i cs hl h;exact ⟨hl,h⟩
  ·cases h;rename_i h;cases h;rename_i cs hl h;refine ⟨by simp [Value.cells,AV.cells,hl],fun i y v hy hv=>?_⟩;simp only [AV.cells,zan,zay] at hy;obtain ⟨z,hz,rfl⟩:=hy;exact .r (h i z v hz hv)
  ·exact absurd hx h1
theorem bei {d:Nat} {x:AV} {e:TypeId} {y:Operand} {ok:Prop} (hdn:d<X.n) (hG:Gam X s ρ a w) (ho:o.op=.box e y) (hx:RA X s ρ w x (a.eval y)) (hb:x.boxable=true) :
  jo P X a w s o (o3 s.ob d (.box x.cells) (fun v=>.ptr d v 0) ok [] []):=by
 have hrun:(execOp a.eval o).run P w=.ok (.value (.pointer (some ⟨w.heap.size,0,none⟩))) (w.alloc (.cells (a.eval y).cells e)):=by
  simp only [execOp,ho,Instr.box,newVar,newRow,Sem.run_bind,run_newObj,Result.andThen_ok,Sem.run_pure]; rfl
 have hst:=Stays.alloc hG (z8 (.cells (a.eval y).cells e)) d (nv s.ob d) (fun v o h=>zp h) (.box x.cells);obtain ⟨h1,h2⟩:=au9 hx hb;refine sk hdn hG (z8 _) hrun ?_ (.ptr _ _ _ _ rfl (lf ⟨_,by simp [o4],rfl⟩));exact ⟨w.heap.size,(a.eval y).cells,e,by simp [o4],(z8 _).new,h1,fun i z c hi hc=>(h2 i z c hi hc).stays hst⟩
theorem a90 {d:Nat} {zs:List AV} {e:TypeId} {i:TypeInfo} {z:Value} {ok:Prop} (hdn:d<X.n) (hG:Gam X s ρ a w) (ho:o.op=.alloc e) (hi:P.info? e=some i) (hz:i.zero=some z) (hzs:u7 eqz z.cells.toList zs=true) :
  jo P X a w s o (o3 s.ob d (.box zs) (fun v=>.ptr d v 0) ok [] []):=by
 have hrun:(execOp a.eval o).run P w=.ok (.value (.pointer (some ⟨w.heap.size,0,none⟩))) (w.alloc (.cells z.cells e)):=by
  simp only [execOp,ho,Instr.alloc,zeroValue,typeInfo,newVar,newRow,Sem.run_bind,run_program,hi,hz,run_newObj,Result.andThen_ok,Sem.run_pure]; rfl
 refine sk hdn hG (z8 _) hrun ?_ (.ptr _ _ _ _ rfl (lf ⟨_,by simp [o4],rfl⟩));refine ⟨w.heap.size,z.cells,e,by simp [o4],(z8 _).new,by rw [← ma hzs]; simp,fun i x c hi hc=>?_⟩;exact atc (aeo hzs (by simpa using hc) hi)
theorem Mods.same {b:Nat} {y:Obj} (h:w.heap[b]?=some y):Mods w w b y:=⟨rfl,rfl,rfl,rfl,h,fun _ _=>rfl⟩
theorem ln {g:Nat} {old cs:Array Value} {t:TypeId} {fr:Nat×Nat} (hg:w.heap[g]?=some (.cells old t fr)):Mods w (w.setRow g cs) g (.cells cs t fr):=
 ⟨rfl,rfl,rfl,by simp [World.setRow],setRow_heap w g old cs t fr hg,fun k hk=>setRow_other w g k cs hk⟩
theorem abd (g o:Nat) (t:TypeId) (fr:Nat×Nat):∀(vs:List Value) (i:Nat) (cur:Array Value) (w:World),w.heap[g]?=some (.cells cur t fr)→(∀k,k<cur.size→¬(fr.1≤k∧k<fr.2))→o+i+vs.length≤cur.size→(∀v∈vs,v.oneCell'=true) →
  (storeCells ⟨g,o,none⟩ vs i).run P w=.ok () (w.setRow g (cur.toList.take (o+i)++vs++cur.toList.drop (o+i+vs.length)).toArray)
 | [],i,cur,w,hg,_,_,_=>by
  simp only [storeCells,List.append_nil,List.length_nil,zaj,List.take_append_drop,Array.toArray_toList];rw [setRow_self w g cur t fr hg]
  rfl
 | v::rest,i,cur,w,hg,hf,hl,h1=>by
  have hi:o+i<cur.size:=by simp at hl; omega
  have hadd:(⟨g,o,none⟩:Addr).add i=⟨g,o+i,none⟩:=dm g o i;have hcell:w.cell? ⟨g,o+i,none⟩=some cur[o+i]:=by simp [World.cell?,hg,hi]
  have hfro:w.frozen? ⟨g,o+i,none⟩=false:=by
   have:=hf (o+i) hi;simp only [World.frozen?,hg];simpa using this
  have hst:(store ((⟨g,o,none⟩:Addr).add i) v).run P w=.ok () (w.setRow g (cur.setIfInBounds (o+i) v)):=by
   rw [hadd,run_store P w _ v _ (h1 v (by simp)),hcell];simp [hfro,setCell_eq_setRow w g (o+i) cur t fr v hg]
  have ih:=abd g o t fr rest (i+1) (cur.setIfInBounds (o+i) v) (w.setRow g (cur.setIfInBounds (o+i) v)) (setRow_heap w g cur _ t _ hg) (by simpa using hf) (by simp at hl ⊢; omega) (fun x hx=>h1 x (by simp [hx]));simp only [storeCells,Sem.run_bind,hst,Result.andThen_ok,ih,setRow_setRow];congr 3;have e:=list_seg_step cur.toList (o+i) v rest (by simp at hl ⊢; omega);simpa [Array.toList_setIfInBounds,Nat.add_assoc] using e
theorem ann {t:TypeId} {inf:TypeInfo} {g o':Nat} {e:TypeId} {fr:Nat×Nat} {cur:Array Value} {c:Value} (hi:P.info? t=some inf) (hsz:c.cells.size=inf.size) (hg:w.heap[g]?=some (.cells cur e fr))
  (hf:∀k,k<cur.size→¬(fr.1≤k∧k<fr.2)) (hl:o'+c.cells.size≤cur.size) (h1:∀v∈c.cells.toList,v.oneCell'=true) :
  (Instr.storeAt t (.pointer (some ⟨g,o',none⟩)) c).run P w=.ok () (w.setRow g (d7 cur.toList o' c.cells.toList).toArray):=by
 have:=abd (P:=P) g o' e fr c.cells.toList 0 cur w hg hf (by simpa using hl) h1;simp only [zaj] at this;simp [Instr.storeAt,Instr.sureAddr,storeVar,sizeOf,typeInfo,hi,hsz,this,d7]
theorem k7 {α:Type} {l m:List α} {i:Nat} (h:i+m.length≤l.length):(d7 l i m).length=l.length:=by
 simp [d7]; omega
theorem z5 {α:Type} {l m:List α} {i:Nat} (h:i+m.length≤l.length) (j:Nat):(d7 l i m)[j]?=if i≤j∧j<i+m.length then m[j-i]? else l[j]?:=by
 unfold d7;rw [zbd,zbe,zak,zae (by omega)];by_cases h1:j<i
 ·rw [if_pos h1,zao,if_pos h1,if_neg (by omega)]
 ·rw [if_neg h1,zbe];by_cases h2:j-i<m.length
  ·rw [if_pos h2,if_pos (by omega)]
  ·rw [if_neg h2,if_neg (by omega),List.getElem?_drop];congr 1;omega
theorem bd8 {m off id ver:Nat} {y:AV} {cells:List AV} {t:TypeId} {inf:TypeInfo} {x v:Operand} {ok:Prop} (hG:Gam X s ρ a w) (ho:o.op=.store t x v) (hi:P.info? t=some inf) (hm:inf.size=m)
  (hx:RA X s ρ w (.ptr id ver off) (a.eval x)) (hy:RA X s ρ w y (a.eval v)) (hb:o7 s.ob id ver=some cells) (h1:y.cells.length=m) (h2:off+m≤cells.length) (h3:y.cells.all (·.one)=true) (hbx:y.boxable=true) :
  jo P X a w s o ⟨ok,.undef,upd id (ver,.box (d7 cells off y.cells)) s.ob,[id],[id]⟩:=by
 have hid:=il hb;cases hx;rename_i hc0 h;obtain ⟨b,hρ,hc⟩:=h.live hid;obtain ⟨b',cs,e,hρ',hh,hsz,hrel⟩:=hG.obj id ver _ hid;rw [hρ] at hρ';cases hρ';obtain ⟨k1,k2⟩:=au9 hy hbx
 have hone:∀u∈(a.eval v).cells.toList,u.oneCell'=true:=fun u hu=>by
  obtain ⟨i,hi⟩:=zbf.1 hu
  have hlt:i<y.cells.length:=by
   have:=(zab.1 hi).1;simp at this;omega
  have hz:y.cells[i]?=some y.cells[i]:=by simp [hlt]
  exact a6q (k2 i _ u hz (by simpa using hi)) (zap.1 h3 _ (zaz hlt))
 have hrun:=ann (P:=P) (w:=w) (o':=off) (c:=a.eval v) hi (by omega) hh (by simp) (by omega) hone;have hm':=ln (w:=w) (cs:=(d7 cs.toList off (a.eval v).cells.toList).toArray) hh;have hlen:(d7 cs.toList off (a.eval v).cells.toList).length=cs.size:=by rw [k7 (by simp; omega)]; simp
 have hst:=Stays.modify (x':=.box (d7 cells off y.cells)) hG hid rfl hρ hh hm' (by simpa using hlen) ver (.inl ⟨rfl,trivial⟩);refine ⟨.skip,_,ρ,?_,hG.modify hid rfl hρ hh hm' (by simpa using hlen) ver (.inl ⟨rfl,trivial⟩) (.inr ⟨rfl,trivial,fun _=>rfl⟩) ?_,.inr ⟨rfl,rfl⟩⟩
 ·simp only [execOp,ho,hc,Sem.run_bind,hrun,Result.andThen_ok,Sem.run_pure]
 ·refine ⟨b,_,e,hρ,hm'.new,?_,fun i z c hz hcz=>?_⟩
  ·rw [k7 (by omega)];simpa [hsz] using hlen
  ·have hz2:=z5 (l:=cells) (m:=y.cells) (i:=off) (by omega) i;rw [hz2] at hz;have hc2:=z5 (l:=cs.toList) (m:=(a.eval v).cells.toList) (i:=off) (by simp; omega) i;rw [zah,hc2] at hcz;simp only [zai,k1] at hcz;split at hz
   ·rename_i hij;rw [if_pos hij] at hcz;exact (k2 _ z c hz (by simpa using hcz)).stays hst
   ·rename_i hij;rw [if_neg hij] at hcz;exact (hrel i z c hz (by simpa using hcz)).stays hst
theorem pu {ob:Obs}:∀{xs:List AV} {ys:List RV} {fz:List Nat},rvs ob xs=some (ys,fz)→ys.length=xs.length
 | [],ys,fz,h=>by simp [rvs] at h; simp [h.1]
 | x::xs,ys,fz,h=>by
  simp only [rvs] at h;split at h
  ·rename_i y i zs j h1 h2;cases h;simp [pu h2]
  ·cases h
theorem ahj (hG:Gam X s ρ a w) {ob:Obs} {l:List Nat} (hob:s.ob=Ev.freeze ob l):∀{xs:List AV} {ys:List RV} {fz:List Nat},rvs ob xs=some (ys,fz)→(∀i∈fz,i∈l) →
  ∀(i:Nat) (x:AV) (y:RV) (c:Value),xs[i]?=some x→ys[i]?=some y→RA X s ρ w x c→RelV w (g8 X.B s.ob ρ w) y c
 | [],ys,fz,h,hs,i,x,y,c,hx,hy,hr=>by simp at hx
 | z::xs,ys,fz,h,hs,i,x,y,c,hx,hy,hr=>by
  simp only [rvs] at h;split at h
  ·rename_i y' k zs j h1 h2;cases h;cases i with
   | zero=>
    simp at hx hy;subst hx; subst hy;exact aqf hG h1 (fun p hp=>hs p (by simp [hp])) hob hr
   | succ i=>
    simp at hx hy;exact ahj hG hob h2 (fun p hp=>hs p (by simp [hp])) i x y c hx hy hr
  ·cases h
theorem a34 {x:RV} (h:x.one=true):x.cells=[x]:=by cases x<;>first | rfl | cases h
theorem a2e {q E:RV} {off:Nat} {ys:List RV} (hE:(match q with | .agg cs=>RV.agg (d7 cs off ys) | q=>ys.getD 0 q)=E) (h:off+ys.length≤q.cells.length) (h3:ys.all (·.one)=true):E.cells=d7 q.cells off ys:=by
 have plain:∀q:RV,q.cells=[q]→ys.getD 0 q=E→off+ys.length≤1→E.cells=d7 q.cells off ys:=by
  intro q hq hE h;rw [hq]
  match ys,h3,hE,h with
  | [],_,hE,h=>
   simp at hE; subst hE;rw [hq];simp [d7]
  | [y0],h3,hE,h=>
   simp at hE h3 h; subst hE; subst h;rw [a34 h3];simp [d7]
  | _::_::_,_,_,h=>simp at h; omega
 cases q with
 | agg cs=>simp only at hE; subst hE; rfl
 | v x=>exact plain _ rfl hE h
 | sl k xs=>exact plain _ rfl hE h
theorem bd7 {m idx off id ver sz:Nat} {z:RV} {app:Bool} {xs ys:List RV} {y:AV} {t:TypeId} {inf:TypeInfo} {x v:Operand} {ok:Prop} (hG:Gam X s ρ a w) (ho:o.op=.store t x v) (hi:P.info? t=some inf) (hm:inf.size=m)
  (hx:RA X s ρ w (.oel id ver idx off) (a.eval x)) (hy:RA X s ρ w y (a.eval v)) (hb:i9 s.ob id ver=some (sz,z,app,true,xs)) (hys:rvs s.ob y.cells=some (ys,[])) (h1:ys.length=m) (h2:off+m≤sz) (h3:ys.all (·.one)=true) (hbx:y.boxable=true) :
  jo P X a w s o ⟨ok,.undef,upd id (ver,.row sz z app true (xs.set idx (match xs.getD idx z with | .agg cs=>.agg (d7 cs off ys) | q=>ys.getD 0 q))) s.ob,[id],[id]⟩:=by
 have hid:=p6 hb;simp only at hid;cases hx;rename_i hc0 h;obtain ⟨hidx,hoff,b,hρ,hc⟩:=h.live hid;rcases hG.obj id ver _ hid with ⟨hnil,_⟩ | ⟨b',cs,e,fr,hρ',hh,hfr,happ,hsz,hel⟩
 ·rw [hnil] at hidx; simp at hidx
 rw [hρ] at hρ';cases hρ';obtain ⟨k1,k2⟩:=au9 hy hbx;have hl:=pu hys
 have hval:∀(i:Nat) (q:RV) (u:Value),ys[i]?=some q→(a.eval v).cells[i]?=some u→RelV w (g8 X.B s.ob ρ w) q u∧u.oneCell'=true:=fun i q u hq hu=>by
  have hlt:=(zab.1 hq).1;have hz:y.cells[i]?=some (y.cells[i]'(by omega)):=by simp [show i<y.cells.length by omega]
  have:=ahj hG (ob:=s.ob) (l:=[]) rfl hys (by simp) i _ q u hz hq (k2 i _ u hz hu);refine ⟨this,avw this ?_⟩;have hq2:=(zab.1 hq).2;rw [← hq2];exact zap.1 h3 _ (zaz hlt)
 have hx0:xs[idx]?=some (xs.getD idx z):=by simp [hidx]
 obtain ⟨hcl,hcc⟩:=hel idx _ hx0;have hfit:(idx+1)*sz≤cs.size:=zaq (zac _ hidx) hsz;rw [zaa,zaf] at hfit
 have hone:∀u∈(a.eval v).cells.toList,u.oneCell'=true:=fun u hu=>by
  obtain ⟨i,hi⟩:=zbf.1 hu;have hlt:=(zab.1 hi).1;simp at hlt;exact (hval i (ys[i]'(by omega)) u (by simp [show i<ys.length by omega]) (by simpa using hi)).2
 have hrun:=ann (P:=P) (w:=w) (o':=idx*sz+off) (c:=a.eval v) hi (by omega) hh hfr (by omega) hone;have hm':=ln (w:=w) (cs:=(d7 cs.toList (idx*sz+off) (a.eval v).cells.toList).toArray) hh;have hlen:(d7 cs.toList (idx*sz+off) (a.eval v).cells.toList).length=cs.size:=by rw [k7 (by simp; omega)]; simp
 generalize hE:(match xs.getD idx z with | .agg cs=>RV.agg (d7 cs off ys) | q=>ys.getD 0 q)=E;have hEc:E.cells=d7 (xs.getD idx z).cells off ys:=a2e hE (by rw [hcl]; omega) h3;have hst:=Stays.modify (x':=.row sz z app true (xs.set idx E)) hG hid rfl hρ hh hm' (by simpa using hlen) ver (.inl ⟨rfl,rfl,by simp⟩);refine ⟨.skip,_,ρ,?_,hG.modify hid rfl hρ hh hm' (by simpa using hlen) ver (.inl ⟨rfl,rfl,by simp⟩) (.inr ⟨rfl,⟨rfl,by simp⟩,fun h=>h⟩) ?_,.inr ⟨rfl,rfl⟩⟩
 ·simp only [execOp,ho,hc,Sem.run_bind,hrun,Result.andThen_ok,Sem.run_pure]
 ·refine .inr ⟨b,_,e,fr,hρ,hm'.new,by simpa [hlen] using hfr,happ,by simpa [hlen] using hsz,fun i q hq=>?_⟩;have hc2:=fun p=>z5 (l:=cs.toList) (m:=(a.eval v).cells.toList) (i:=idx*sz+off) (by simp; omega) p;rw [List.getElem?_set] at hq;by_cases hii:idx=i
  ·subst hii;rw [if_pos rfl,if_pos hidx] at hq;cases hq;rw [hEc];refine ⟨by rw [k7 (by omega)]; exact hcl,fun j r hj=>?_⟩;rw [z5 (by omega)] at hj;rw [zah,hc2];simp only [zai];by_cases hin:off≤j∧j<off+ys.length
   ·rw [if_pos hin] at hj;rw [if_pos (by omega)];have hlt:j-off<(a.eval v).cells.size:=by omega
    refine ⟨(a.eval v).cells[j-off],by rw [show idx*sz+j-(idx*sz+off)=j-off by omega]; simp [hlt],?_⟩;have:=hval (j-off) r (a.eval v).cells[j-off] hj (by simp [hlt]);exact ⟨this.2,this.1.mono hst.free⟩
   ·rw [if_neg hin] at hj;rw [if_neg (by omega)];obtain ⟨c,g1,g2,g3⟩:=hcc j r hj;exact ⟨c,by simpa using g1,g2,g3.mono hst.free⟩
  ·rw [if_neg hii] at hq;obtain ⟨g1,g2⟩:=hel i q hq;refine ⟨g1,fun j r hj=>?_⟩;obtain ⟨c,f1,f2,f3⟩:=g2 j r hj;have hjlt:j<sz:=by have:=(zab.1 hj).1; omega
   refine ⟨c,?_,f2,f3.mono hst.free⟩;rw [zah,hc2];simp only [zai];rw [if_neg]
   ·simpa using f1
   ·rintro ⟨p1,p2⟩;rcases Nat.lt_or_gt_of_ne hii with hlt | hlt
    ·have:(idx+1)*sz≤i*sz:=zac _ hlt;rw [zaa,zaf] at this;omega
    ·have:(i+1)*sz≤idx*sz:=zac _ hlt;rw [zaa,zaf] at this;omega
theorem akf {α:Type} {l:List α} {n i:Nat} {x:α} (h:(l.take n)[i]?=some x):l[i]?=some x:=by
 rw [zao] at h;split at h
 ·exact h
 ·cases h
theorem aqc (hG:Gam X s ρ a w) {y:AV} {c:Value} {sz:Nat} {ys:List RV} {rd:List Nat} (hs:src s.ob y=some (sz,ys,rd)) (hy:RA X s ρ w y c) :
  ∃(A:Option Addr) (cap:Nat) (news:List Value),c=.slice A ys.length cap∧(∀m,m≤ys.length→∀W:World,W.heap=w.heap→(Builtin.firstCells sz m c).run P W=.ok (news.take (m*sz)).toArray W)∧news.length=ys.length*sz∧(∀u∈news,u.oneCell'=true) ∧
   (∀(i:Nat) (x:RV),ys[i]?=some x→x.cells.length=sz∧∀(j:Nat) (q:RV),x.cells[j]?=some q→∃u,news[i*sz+j]?=some u∧RelV w (g8 X.B s.ob ρ w) q u):=by
 have key:∀(A:Option Addr) (cap b o':Nat) (g:Nat→Nat→Value),c=.slice A ys.length cap→(0<ys.length→A=some ⟨b,o',none⟩)→(∀(i:Nat) (x:RV),ys[i]?=some x→x.cells.length=sz) →
   (∀(i:Nat) (x:RV) (j:Nat) (q:RV),ys[i]?=some x→x.cells[j]?=some q→w.cell? ⟨b,o'+i*sz+j,none⟩=some (g i j)∧(g i j).oneCell'=true∧RelV w (g8 X.B s.ob ρ w) q (g i j)) →
   ∃(A:Option Addr) (cap:Nat) (news:List Value),c=.slice A ys.length cap∧(∀m,m≤ys.length→∀W:World,W.heap=w.heap→(Builtin.firstCells sz m c).run P W=.ok (news.take (m*sz)).toArray W)∧news.length=ys.length*sz∧(∀u∈news,u.oneCell'=true) ∧
   (∀(i:Nat) (x:RV),ys[i]?=some x→x.cells.length=sz∧∀(j:Nat) (q:RV),x.cells[j]?=some q→∃u,news[i*sz+j]?=some u∧RelV w (g8 X.B s.ob ρ w) q u):=by
  intro A cap b o' g hc hA hz hg;rcases zbg ys.length with h0 | h0
  ·have hy0:ys=[]:=zba h0;subst hy0;refine ⟨A,cap,[],hc,fun m hm W hW=>?_,by simp,by simp,by simp⟩;have hm0:m=0:=by simpa using hm
   subst hm0;rw [hc];cases A<;>simp [Builtin.firstCells,loadCells,loadCellsFrom]
  ·have hA':=hA h0;subst hA';rcases zbg sz with hs0 | hs0
   ·subst hs0;refine ⟨_,cap,[],hc,fun m hm W hW=>?_,by simp,by simp,fun i x hx=>⟨hz i x hx,fun j q hq=>?_⟩⟩
    ·rw [hc];simp [Builtin.firstCells,loadCells,loadCellsFrom]
    ·have:=hz i x hx;have:=(zab.1 hq).1;omega
   ·have hdiv:∀p,p<ys.length*sz→∃x q,ys[p/sz]?=some x∧x.cells[p%sz]?=some q:=fun p hp=>by
     have h1:p/sz<ys.length:=Nat.div_lt_of_lt_mul (by rw [zar]; exact hp);have h2:p%sz<sz:=Nat.mod_lt _ hs0;have hx:ys[p/sz]?=some ys[p/sz]:=by simp [h1]
     have hl:=hz _ _ hx;exact ⟨_,ys[p/sz].cells[p%sz]'(by omega),hx,by simp [show p%sz<ys[p/sz].cells.length by omega]⟩
    have hnews:∀p u,((List.range (ys.length*sz)).map fun p=>g (p/sz) (p%sz))[p]?=some u→u=g (p/sz) (p%sz)∧p<ys.length*sz:=fun p u hu=>by
     rw [zan,zay] at hu;obtain ⟨q,hq,rfl⟩:=hu;obtain ⟨hq1,hq2⟩:=zab.1 hq;rw [List.getElem_range] at hq2;subst hq2;rw [List.length_range] at hq1;exact ⟨rfl,hq1⟩
    refine ⟨_,cap,(List.range (ys.length*sz)).map fun p=>g (p/sz) (p%sz),hc,fun m hm W hW=>?_,by simp,fun u hu=>?_,fun i x hx=>⟨hz i x hx,fun j q hq=>⟨g i j,?_,(hg i x j q hx hq).2.2⟩⟩⟩
    ·rw [hc];refine run_firstCells_some W sz m ⟨b,o',none⟩ ys.length cap _ (by simp [zae hm]) fun p u hu=>?_;have hu:=akf hu;rw [show W.cell?=w.cell? from by funext x; simp only [World.cell?,hW]];obtain ⟨rfl,hp⟩:=hnews p u hu;obtain ⟨x,q,hx,hq⟩:=hdiv p hp;rw [dm,← (hg _ x _ q hx hq).1];congr 2;have:=Nat.div_add_mod p sz;rw [zar] at this;omega
    ·obtain ⟨p,hp⟩:=zbf.1 hu;obtain ⟨rfl,hp2⟩:=hnews p u hp;obtain ⟨x,q,hx,hq⟩:=hdiv p hp2;exact (hg _ x _ q hx hq).2.1
    ·have h1:=(zab.1 hx).1;have h2:=(zab.1 hq).1;have h3:=hz i x hx
     have hlt:i*sz+j<ys.length*sz:=by
      have:(i+1)*sz≤ys.length*sz:=zac _ h1;rw [zaa,zaf] at this;omega
     have hd:(i*sz+j)/sz=i:=by
      rw [zar,Nat.mul_add_div hs0,Nat.div_eq_of_lt (by omega),zaj]
     have hm:(i*sz+j)%sz=j:=by
      rw [zar,Nat.mul_add_mod,Nat.mod_eq_of_lt (by omega)]
     simp [hlt,hd,hm]
 unfold src at hs;split at hs
 ·cases hs;cases hy;rename_i hy;cases hy;rename_i A cap hm b o' g hcap hA hr hz hg;exact key A cap b o' g rfl (fun h=>(hA h).1) hz fun i x j q hx hq=>⟨(hg i x j q hx hq).1,(hg i x j q hx hq).2,hr i x j q hx hq⟩
 ·cases hs;cases hy;exact key none 0 0 0 (fun _ _=>undef) rfl (by simp) (by simp) (by simp)
 ·split at hs
  ·rename_i id ver lo len _ sz z app wr xs hr;cases hs;have hid:=p6 hr;simp only at hid;obtain ⟨A,cap,e1,e2,e3,e4,e5⟩:=pz hy hr;simp only at e4;have hlen:((xs.drop lo).take len).length=len:=by simp; omega
   have hget:∀(i:Nat) (x:RV),((xs.drop lo).take len)[i]?=some x→xs[lo+i]?=some x:=fun i x hi=>by
    rw [zao] at hi;split at hi
    ·rwa [List.getElem?_drop] at hi
    ·cases hi
   rcases hG.obj id ver _ hid with ⟨h1,h2,_⟩ | ⟨b,cs,e,fr,h1,h2,h3,h4,h5,h6⟩
   ·subst h1;have hl0:len=0:=by simp at e4; omega
    subst hl0;exact key A cap 0 0 (fun _ _=>undef) (by rw [e1]; simp) (by simp) (by simp) (by simp)
   ·refine key A cap b (lo*sz) (fun i j=>(cs[(lo+i)*sz+j]?).getD undef) (by rw [e1,hlen]) (fun h0=>?_) (fun i x hi=>(h6 _ x (hget i x hi)).1) (fun i x j q hi hj=>?_)
    ·rw [hlen] at h0;obtain ⟨b',cs',e',fr',f1,f2,f3,f4⟩:=e5 (by omega);rw [h1] at f1;cases f1;exact f2
    ·obtain ⟨u,g1,g2,g3⟩:=(h6 _ x (hget i x hi)).2 j q hj;rw [g1];refine ⟨?_,g2,g3⟩;simp only [World.cell?,h2,Option.isSome_none,Bool.false_eq_true,if_false,Option.getD_some];rw [← g1,zaa]
  ·cases hs
 ·cases hs
theorem akj (hG:Gam X s ρ a w) {y:AV} {c:Value} {sz:Nat} {ys:List RV} {rd:List Nat} (hs:src s.ob y=some (sz,ys,rd)) (hy:RA X s ρ w y c) :
  ∃(A:Option Addr) (cap:Nat) (news:List Value),c=.slice A ys.length cap∧(∀W:World,W.heap=w.heap→(Builtin.firstCells sz ys.length c).run P W=.ok news.toArray W)∧news.length=ys.length*sz∧(∀u∈news,u.oneCell'=true) ∧
   (∀(i:Nat) (x:RV),ys[i]?=some x→x.cells.length=sz∧∀(j:Nat) (q:RV),x.cells[j]?=some q→∃u,news[i*sz+j]?=some u∧RelV w (g8 X.B s.ob ρ w) q u):=by
 obtain ⟨A,cap,news,h1,h2,h3,h4,h5⟩:=aqc (P:=P) hG hs hy;refine ⟨A,cap,news,h1,fun W hW=>?_,h3,h4,h5⟩;rw [h2 ys.length (zad _) W hW,zas (by omega)]
theorem bee {sz id ver lo n:Nat} {z':RV} {app:Bool} {xs:List RV} {y:AV} {ys:List RV} {rd rd':List Nat} {t u e:TypeId} {inf:TypeInfo} {c:Call} {x v:Operand} {ok:Prop} (hG:Gam X s ρ a w) (ho:o.op=.call c) (hc:c.callee=.builtin .copy)
  (hargs:c.args=#[x,v]) (htys:c.argTypes=#[t,u]) (ht:P.underlying t=some (.slice e)) (hi:P.info? e=some inf) (hsz:inf.size=sz)
  (hx:RA X s ρ w (.own id ver lo n) (a.eval x)) (hr:i9 s.ob id ver=some (sz,z',app,true,xs)) (hy:RA X s ρ w y (a.eval v)) (hs:src s.ob y=some (sz,ys,rd)) :
  jo P X a w s o ⟨ok,int .i64 ((Nat.min ys.length n:Nat):Int),upd id (ver,.row sz z' app true (spl xs lo (ys.take n))) s.ob,rd',[id]⟩:=by
 unfold spl;subst hsz;have hid:=p6 hr;simp only at hid;obtain ⟨A2,c2,news,hcv,hnew,hnl,hn1,hnr⟩:=aqc (P:=P) hG hs hy;obtain ⟨A,cap,hx0,e2,e3,e4,e5⟩:=pz hx hr;simp only at e4;obtain ⟨m,hm⟩:∃m,m=Nat.min ys.length n:=⟨_,rfl⟩
 have hm1:m≤ys.length:=by rw [hm]; exact Nat.min_le_left _ _
 have hm2:m≤n:=by rw [hm]; exact Nat.min_le_right _ _
 have htk:ys.take n=ys.take m:=by
  rw [hm];rcases Nat.le_total ys.length n with h | h
  ·rw [zas h,zas (by rw [show Nat.min ys.length n=ys.length from zae h]; exact zad _)]
  ·rw [show Nat.min ys.length n=n from Nat.min_eq_right h]
 rw [← hm,htk];have hf:=hnew m hm1;rw [hcv] at hf
 have hrun0:∀r,(Builtin.copy_ #[t,u] o.type #[.slice A n cap,.slice A2 ys.length c2]).run P w=r→(execOp a.eval o).run P w=r.andThen fun q w'=>.ok (.value q) w':=by
  rintro r rfl;simp [execOp,ho,resolve,hc,hargs,htys,invoke,builtin,hx0,hcv]
 by_cases h0:m=0
 ·subst h0;have hf0:=hf w rfl;simp only [Nat.zero_mul,List.take_zero] at hf0
  have hrn:(Builtin.copy_ #[t,u] o.type #[.slice A n cap,.slice A2 ys.length c2]).run P w=.ok (goInt 0) w:=by
   cases A<;>simp [Builtin.copy_,run_underlying ht,Builtin.lenOf,sizeOf,typeInfo,hi,← hm,hf0,storeCells]
  have hrun:=hrun0 _ hrn;simp only [Result.andThen_ok] at hrun;refine ⟨_,w,ρ,hrun,?_,.inl ⟨_,rfl,.r (.v _)⟩⟩;have e:d7 xs lo (ys.take 0)=xs:=by simp [d7]
  rw [e]
  rw [show upd id (ver,Ob.row inf.size z' app true xs) s.ob=s.ob from by
   funext i;unfold upd;split
   ·rename_i h; rw [h,hid]
   ·rfl]
  exact hG
 ·have hn0:0<cap:=by omega
  obtain ⟨b,cs0,ee,fr0,f1,f2,f3,f4⟩:=e5 hn0;rcases hG.obj id ver _ hid with ⟨q1,q2,_⟩ | ⟨b',cs,e',fr,hρ,hh,hfr,happ,hszc,hel⟩
  ·rw [f1] at q2; cases q2
  rw [f1] at hρ;cases hρ
  have hvl:(news.take (m*inf.size)).length=m*inf.size:=by
   rw [zak,hnl];exact zae (zac _ hm1)
  have hfit0:(lo+m)*inf.size≤cs.size:=zaq (zac _ (by omega)) hszc
  have hfit:lo*inf.size+(news.take (m*inf.size)).length≤cs.toList.length:=by
   rw [hvl,← zaa];simpa using hfit0
  have hone:∀u∈news.take (m*inf.size),u.oneCell'=true:=fun u hu=>hn1 u (List.mem_of_mem_take hu);have hst:=abd (P:=P) b (lo*inf.size) e' fr (news.take (m*inf.size)) 0 cs w hh hfr (by simpa using hfit) hone;have hfw:=hf w rfl
  have hrn:(Builtin.copy_ #[t,u] o.type #[.slice A n cap,.slice A2 ys.length c2]).run P w=.ok (goInt m) (w.setRow b (d7 cs.toList (lo*inf.size) (news.take (m*inf.size))).toArray):=by
   simp only [zaj] at hst;simp [Builtin.copy_,run_underlying ht,Builtin.lenOf,sizeOf,typeInfo,hi,← hm,hfw,f2,hst,d7]
  have hrun:=hrun0 _ hrn;simp only [Result.andThen_ok] at hrun;have hm':=ln (w:=w) (cs:=(d7 cs.toList (lo*inf.size) (news.take (m*inf.size))).toArray) hh;have hlen:(d7 cs.toList (lo*inf.size) (news.take (m*inf.size))).length=cs.size:=by rw [k7 hfit]; simp
  have hxl:lo+(ys.take m).length≤xs.length:=by rw [zak,zae hm1]; omega
  have hxsl:(d7 xs lo (ys.take m)).length=xs.length:=k7 hxl;have hstay:=Stays.modify (x':=.row inf.size z' app true (d7 xs lo (ys.take m))) hG hid rfl f1 hh hm' (by simpa using hlen) ver (.inl ⟨rfl,rfl,by rw [hxsl]; exact zad _⟩);refine ⟨_,_,ρ,hrun,hG.modify hid rfl f1 hh hm' (by simpa using hlen) ver (.inl ⟨rfl,rfl,by rw [hxsl]; exact zad _⟩) (.inr ⟨rfl,⟨rfl,by rw [hxsl]; exact zad _⟩,fun h=>h⟩) ?_,.inl ⟨_,rfl,.r (.v _)⟩⟩;refine .inr ⟨b,_,e',fr,f1,hm'.new,by simpa [hlen] using hfr,happ,by simpa [hlen,hxsl] using hszc,fun i q hq=>?_⟩;have hsp:=fun p=>z5 (l:=cs.toList) (m:=news.take (m*inf.size)) (i:=lo*inf.size) hfit p;rw [z5 hxl,zak,zae hm1] at hq;split at hq
  ·rename_i hin;have hq:=akf hq;refine ⟨(hnr _ q hq).1,fun j r hj=>?_⟩;obtain ⟨c,g1,g2⟩:=(hnr _ q hq).2 j r hj;have hjl:j<inf.size:=by have:=(zab.1 hj).1; have:=(hnr _ q hq).1; omega
   have hlt:(i-lo)*inf.size+j<m*inf.size:=by
    have:(i-lo+1)*inf.size≤m*inf.size:=zac _ (by omega);rw [zaa,zaf] at this;omega
   have hadd:i*inf.size=lo*inf.size+(i-lo)*inf.size:=by rw [← zaa,show lo+(i-lo)=i by omega]
   refine ⟨c,?_,hn1 c (zam g1),g2.mono hstay.free⟩;rw [zah,hsp,hvl,if_pos (by omega),zao,if_pos (by omega),show i*inf.size+j-lo*inf.size=(i-lo)*inf.size+j by omega,g1]
  ·rename_i hin;refine ⟨(hel i q hq).1,fun j r hj=>?_⟩;obtain ⟨c,g1,g2,g3⟩:=(hel i q hq).2 j r hj;have hjl:j<inf.size:=by have:=(zab.1 hj).1; have:=(hel i q hq).1; omega
   refine ⟨c,?_,g2,g3.mono hstay.free⟩;rw [zah,hsp,hvl,if_neg]
   ·simpa using g1
   ·rintro ⟨p1,p2⟩;apply hin;constructor
    ·rcases zat i lo with h | h
     ·have:(i+1)*inf.size≤lo*inf.size:=zac _ h;rw [zaa,zaf] at this;omega
     ·exact h
    ·rcases zat i (lo+m) with h | h
     ·exact h
     ·have:(lo+m)*inf.size≤i*inf.size:=zac _ h;rw [zaa] at this;omega
theorem bef {sz id ver lo n:Nat} {z':RV} {app:Bool} {xs:List RV} {sv:ByteArray} {ys:List RV} {rd':List Nat} {t u e:TypeId} {inf:TypeInfo} {c:Call} {x v:Operand} {ok:Prop} (hG:Gam X s ρ a w) (ho:o.op=.call c) (hc:c.callee=.builtin .copy)
  (hargs:c.args=#[x,v]) (htys:c.argTypes=#[t,u]) (ht:P.underlying t=some (.slice e)) (hi:P.info? e=some inf) (hsz:inf.size=sz)
  (hx:RA X s ρ w (.own id ver lo n) (a.eval x)) (hr:i9 s.ob id ver=some (sz,z',app,true,xs)) (hy:a.eval v=.string sv) (h1z:sz=1) (hys:ys=sv.data.toList.map fun b=>RV.v (.int .u8 b.toNat)) :
  jo P X a w s o ⟨ok,int .i64 ((Nat.min ys.length n:Nat):Int),upd id (ver,.row sz z' app true (spl xs lo (ys.take n))) s.ob,rd',[id]⟩:=by
 unfold spl;subst hsz;have hid:=p6 hr;simp only at hid;have hcv:a.eval v=.string sv:=hy;have hsv:sv.size=ys.length:=by rw [hys,List.length_map,zai]; rfl
 obtain ⟨news,hne⟩:∃news:List Value,news=sv.data.toList.map fun b=>Value.int .u8 b.toNat:=⟨_,rfl⟩
 have hnew:∀m,m≤ys.length→∀W:World,W.heap=w.heap→(Builtin.firstCells inf.size m (.string sv)).run P W=.ok (news.take (m*inf.size)).toArray W:=fun m hm W _=>by
  rw [h1z,hne];simp [Builtin.firstCells];apply Array.ext';simp [List.map_take]
 have hnl:news.length=ys.length*inf.size:=by rw [h1z,hne,hys]; simp
 have hn1:∀u∈news,u.oneCell'=true:=by
  rw [hne];intro u hu;obtain ⟨c,_,rfl⟩:=List.mem_map.1 hu
  rfl
 have hnr:∀(i:Nat) (x:RV),ys[i]?=some x→x.cells.length=inf.size∧∀(j:Nat) (q:RV),x.cells[j]?=some q→∃u,news[i*inf.size+j]?=some u∧RelV w (g8 X.B s.ob ρ w) q u:=by
  rw [h1z,hne,hys];intro i x hx;rw [zan,zay] at hx;obtain ⟨c,hc,rfl⟩:=hx;refine ⟨rfl,fun j q hq=>?_⟩;cases j with
  | succ j=>simp [RV.cells] at hq
  | zero=>
   simp [RV.cells] at hq;subst hq;refine ⟨_,?_,.v _⟩;rw [Nat.mul_one,zaj,zan,hc]
   rfl
 obtain ⟨A,cap,hx0,e2,e3,e4,e5⟩:=pz hx hr;simp only at e4;obtain ⟨m,hm⟩:∃m,m=Nat.min ys.length n:=⟨_,rfl⟩
 have hm1:m≤ys.length:=by rw [hm]; exact Nat.min_le_left _ _
 have hm2:m≤n:=by rw [hm]; exact Nat.min_le_right _ _
 have htk:ys.take n=ys.take m:=by
  rw [hm];rcases Nat.le_total ys.length n with h | h
  ·rw [zas h,zas (by rw [show Nat.min ys.length n=ys.length from zae h]; exact zad _)]
  ·rw [show Nat.min ys.length n=n from Nat.min_eq_right h]
 rw [← hm,htk];have hf:=hnew m hm1
 have hrun0:∀r,(Builtin.copy_ #[t,u] o.type #[.slice A n cap,.string sv]).run P w=r→(execOp a.eval o).run P w=r.andThen fun q w'=>.ok (.value q) w':=by
  rintro r rfl;simp [execOp,ho,resolve,hc,hargs,htys,invoke,builtin,hx0,hcv]
 by_cases h0:m=0
 ·subst h0;have hf0:=hf w rfl;simp only [Nat.zero_mul,List.take_zero] at hf0
  have hrn:(Builtin.copy_ #[t,u] o.type #[.slice A n cap,.string sv]).run P w=.ok (goInt 0) w:=by
   cases A<;>simp [Builtin.copy_,run_underlying ht,Builtin.lenOf,hsv,sizeOf,typeInfo,hi,← hm,hf0,storeCells]
  have hrun:=hrun0 _ hrn;simp only [Result.andThen_ok] at hrun;refine ⟨_,w,ρ,hrun,?_,.inl ⟨_,rfl,.r (.v _)⟩⟩;have e:d7 xs lo (ys.take 0)=xs:=by simp [d7]
  rw [e]
  rw [show upd id (ver,Ob.row inf.size z' app true xs) s.ob=s.ob from by
   funext i;unfold upd;split
   ·rename_i h; rw [h,hid]
   ·rfl]
  exact hG
 ·have hn0:0<cap:=by omega
  obtain ⟨b,cs0,ee,fr0,f1,f2,f3,f4⟩:=e5 hn0;rcases hG.obj id ver _ hid with ⟨q1,q2,_⟩ | ⟨b',cs,e',fr,hρ,hh,hfr,happ,hszc,hel⟩
  ·rw [f1] at q2; cases q2
  rw [f1] at hρ;cases hρ
  have hvl:(news.take (m*inf.size)).length=m*inf.size:=by
   rw [zak,hnl];exact zae (zac _ hm1)
  have hfit0:(lo+m)*inf.size≤cs.size:=zaq (zac _ (by omega)) hszc
  have hfit:lo*inf.size+(news.take (m*inf.size)).length≤cs.toList.length:=by
   rw [hvl,← zaa];simpa using hfit0
  have hone:∀u∈news.take (m*inf.size),u.oneCell'=true:=fun u hu=>hn1 u (List.mem_of_mem_take hu);have hst:=abd (P:=P) b (lo*inf.size) e' fr (news.take (m*inf.size)) 0 cs w hh hfr (by simpa using hfit) hone;have hfw:=hf w rfl
  have hrn:(Builtin.copy_ #[t,u] o.type #[.slice A n cap,.string sv]).run P w=.ok (goInt m) (w.setRow b (d7 cs.toList (lo*inf.size) (news.take (m*inf.size))).toArray):=by
   simp only [zaj] at hst;simp [Builtin.copy_,run_underlying ht,Builtin.lenOf,hsv,sizeOf,typeInfo,hi,← hm,hfw,f2,hst,d7]
  have hrun:=hrun0 _ hrn;simp only [Result.andThen_ok] at hrun;have hm':=ln (w:=w) (cs:=(d7 cs.toList (lo*inf.size) (news.take (m*inf.size))).toArray) hh;have hlen:(d7 cs.toList (lo*inf.size) (news.take (m*inf.size))).length=cs.size:=by rw [k7 hfit]; simp
  have hxl:lo+(ys.take m).length≤xs.length:=by rw [zak,zae hm1]; omega
  have hxsl:(d7 xs lo (ys.take m)).length=xs.length:=k7 hxl;have hstay:=Stays.modify (x':=.row inf.size z' app true (d7 xs lo (ys.take m))) hG hid rfl f1 hh hm' (by simpa using hlen) ver (.inl ⟨rfl,rfl,by rw [hxsl]; exact zad _⟩);refine ⟨_,_,ρ,hrun,hG.modify hid rfl f1 hh hm' (by simpa using hlen) ver (.inl ⟨rfl,rfl,by rw [hxsl]; exact zad _⟩) (.inr ⟨rfl,⟨rfl,by rw [hxsl]; exact zad _⟩,fun h=>h⟩) ?_,.inl ⟨_,rfl,.r (.v _)⟩⟩;refine .inr ⟨b,_,e',fr,f1,hm'.new,by simpa [hlen] using hfr,happ,by simpa [hlen,hxsl] using hszc,fun i q hq=>?_⟩;have hsp:=fun p=>z5 (l:=cs.toList) (m:=news.take (m*inf.size)) (i:=lo*inf.size) hfit p;rw [z5 hxl,zak,zae hm1] at hq;split at hq
  ·rename_i hin;have hq:=akf hq;refine ⟨(hnr _ q hq).1,fun j r hj=>?_⟩;obtain ⟨c,g1,g2⟩:=(hnr _ q hq).2 j r hj;have hjl:j<inf.size:=by have:=(zab.1 hj).1; have:=(hnr _ q hq).1; omega
   have hlt:(i-lo)*inf.size+j<m*inf.size:=by
    have:(i-lo+1)*inf.size≤m*inf.size:=zac _ (by omega);rw [zaa,zaf] at this;omega
   have hadd:i*inf.size=lo*inf.size+(i-lo)*inf.size:=by rw [← zaa,show lo+(i-lo)=i by omega]
   refine ⟨c,?_,hn1 c (zam g1),g2.mono hstay.free⟩;rw [zah,hsp,hvl,if_pos (by omega),zao,if_pos (by omega),show i*inf.size+j-lo*inf.size=(i-lo)*inf.size+j by omega,g1]
  ·rename_i hin;refine ⟨(hel i q hq).1,fun j r hj=>?_⟩;obtain ⟨c,g1,g2,g3⟩:=(hel i q hq).2 j r hj;have hjl:j<inf.size:=by have:=(zab.1 hj).1; have:=(hel i q hq).1; omega
   refine ⟨c,?_,g2,g3.mono hstay.free⟩;rw [zah,hsp,hvl,if_neg]
   ·simpa using g1
   ·rintro ⟨p1,p2⟩;apply hin;constructor
    ·rcases zat i lo with h | h
     ·have:(i+1)*inf.size≤lo*inf.size:=zac _ h;rw [zaa,zaf] at this;omega
     ·exact h
    ·rcases zat i (lo+m) with h | h
     ·exact h
     ·have:(lo+m)*inf.size≤i*inf.size:=zac _ h;rw [zaa] at this;omega
theorem run_app {t u ty e:TypeId} {inf:TypeInfo} {z:Value} {d:TypeId} (ht:P.underlying t=some (.slice e)) (hu:P.underlying u=some (.slice d)) (hi:P.info? e=some inf) (hz:inf.zero=some z) (hzs:z.cells.size=inf.size)
  {A A2:Option Addr} {len cap m c2 g:Nat} {cur:Array Value} {e':TypeId} {olds news:List Value} (hlc:len≤cap) {fr:Nat×Nat} (hA:0<cap→A=some ⟨g,0,none⟩∧w.heap[g]?=some (.cells cur e' fr)∧cap*inf.size≤cur.size) (hfr:0<cap→∀k,k<cur.size→¬(fr.1≤k∧k<fr.2))
  (hold:∀W:World,W.heap=w.heap→(Builtin.firstCells inf.size len (.slice A len cap)).run P W=.ok olds.toArray W) (ho:olds.length=len*inf.size)
  (hnew:∀W:World,W.heap=w.heap→(Builtin.firstCells inf.size m (.slice A2 m c2)).run P W=.ok news.toArray W) (hn:news.length=m*inf.size) (h1:∀u∈news,u.oneCell'=true)
  (hmax:len+m≤maxLen) (hb:(len+m)*inf.bytes≤140737488355328) :
  (len+m≤cap∧(Builtin.append_ #[t,u] ty #[.slice A len cap,.slice A2 m c2]).run P w=.ok (.slice A (len+m) cap) (if 0<cap then w.setRow g (d7 cur.toList (len*inf.size) news).toArray else w)) ∨
  (cap<len+m∧∃K w' rest,(Builtin.append_ #[t,u] ty #[.slice A len cap,.slice A2 m c2]).run P w=.ok (.slice (some ⟨w.heap.size,0,none⟩) (len+m) K) w'∧len+m≤K∧K≤maxLen ∧
   OneMore w w' (.cells (olds++news++rest).toArray e)∧(olds++news++rest).length=K*inf.size):=by
 have hsmall:len+m≤9223372036854775807:=by simp only [maxLen] at hmax; omega
 by_cases hroom:len+m≤cap
 ·refine .inl ⟨hroom,?_⟩;by_cases hc:0<cap
  ·obtain ⟨rfl,hg,hsz⟩:=hA hc
   have hfit:len*inf.size+news.length≤cur.size:=by
    rw [hn,← zaa]; exact zaq (zac _ hroom) hsz
   have hst:=abd (P:=P) g (len*inf.size) e' fr news 0 cur w hg (hfr hc) (by simpa using hfit) h1;simp only [zaj] at hst;simp [Builtin.append_,run_underlying ht,run_underlying hu,sizeOf,typeInfo,hi,Builtin.lenOf,hroom,hnew w rfl,dm,hst,hc,d7]
  ·have h0:cap=0:=by omega
   subst h0;have hl:len=0:=by omega
   have hm:m=0:=by omega
   subst hl; subst hm;have hnil:news=[]:=zba (by simpa using hn);subst hnil;cases A<;>simp [Builtin.append_,run_underlying ht,run_underlying hu,sizeOf,typeInfo,hi,Builtin.lenOf,hnew w rfl,storeCells]
 ·refine .inr ⟨by omega,?_⟩;have hfit:Builtin.nextslicecap (len+m) cap*inf.bytes≤281474976710656:=growslice_fits (by omega) hb;have hge:=grownCap_ge w (len+m) cap e;have hcm:grownCap w (len+m) cap e≤maxLen:=grownCap_le_maxLen w (len+m) cap e hmax;refine ⟨grownCap w (len+m) cap e,w.drew.alloc (.cells (olds++news++(Builtin.zeroCells z.cells (grownCap w (len+m) cap e-(len+m))).toList).toArray e),(Builtin.zeroCells z.cells (grownCap w (len+m) cap e-(len+m))).toList,?_,hge,hcm,pj _,?_⟩
  ·have h63':¬(9223372036854775807<((len:Int)+(m:Int))):=by omega
   have hfit':¬(281474976710656<Builtin.nextslicecap (len+m) cap*inf.bytes):=by omega
   have hf:=hnew w.drew rfl;have hfo:=hold w.drew rfl;simp [Builtin.append_,run_underlying ht,run_underlying hu,sizeOf,typeInfo,zeroValue,hi,hz,Builtin.lenOf,hroom,h63',hfit',Question.forced,hf,hfo,newRow,grownCap];congr 2;apply Array.ext';simp
  ·simp only [zau,ho,hn,zai,size_zeroCells,hzs,← zaa];congr 1;omega
theorem ayq {d sz bytes:Nat} {z':RV} {sz':Nat} {zz:RV} {y:AV} {ys:List RV} {rd:List Nat} {t u e f:TypeId} {inf:TypeInfo} {z:Value} {c:Call} {x v:Operand} {ok:Prop} (hdn:d<X.n) (hG:Gam X s ρ a w) (ho:o.op=.call c) (hc:c.callee=.builtin .append)
  (hargs:c.args=#[x,v]) (htys:c.argTypes=#[t,u]) (ht:P.underlying t=some (.slice e)) (hu:P.underlying u=some (.slice f)) (hi:P.info? e=some inf) (hz:inf.zero=some z) (hzs:z.cells.size=inf.size) (hsz:inf.size=sz) (hby:inf.bytes=bytes)
  (hx:RA X s ρ w (.nils sz' zz) (a.eval x)) (hy:RA X s ρ w y (a.eval v)) (hs:src s.ob y=some (sz,ys,rd)) (hb:ys.length*bytes≤140737488355328) (hm:ys.length≤maxLen) :
  jo P X a w s o (o3 s.ob d (.row sz z' true true ys) (fun v=>.own d v 0 ys.length) ok rd []):=by
 subst hsz; subst hby;obtain ⟨A2,c2,news,hcv,hnew,hnl,hn1,hnr⟩:=akj (P:=P) hG hs hy;have hx0:a.eval x=.slice none 0 0:=by generalize a.eval x=c at hx; cases hx; rfl
 rw [hcv] at hnew
 have hrun0:∀r,(Builtin.append_ #[t,u] o.type #[.slice none 0 0,.slice A2 ys.length c2]).run P w=r→(execOp a.eval o).run P w=r.andThen fun q w'=>.ok (.value q) w':=by
  rintro r rfl;simp [execOp,ho,resolve,hc,hargs,htys,invoke,builtin,hx0,hcv]
 rcases run_app (P:=P) (w:=w) (ty:=o.type) (A:=none) (A2:=A2) (len:=0) (cap:=0) (m:=ys.length) (c2:=c2) (g:=0) (cur:=#[]) (e':=0) (fr:=(0,0)) (olds:=[]) (news:=news) ht hu hi hz hzs (zad _) (by simp) (by simp)
   (fun W _=>by simp [Builtin.firstCells]) (by simp) hnew hnl hn1 (by omega) (by rw [zal]; exact hb) with ⟨hroom,hr⟩ | ⟨hgrow,K,w',rest,hr,hK1,hK2,hom,hlen⟩
 ·have h0:ys=[]:=zba (by omega);subst h0;have hrun:=hrun0 _ hr;simp only [List.length_nil,zaj,Nat.lt_irrefl,if_false,Result.andThen_ok] at hrun;exact ⟨_,w,o4 ρ d none,hrun,hG.nil d _ (hG.pnn d (aqy (by have:=hG.small; omega))) (fun v o h=>zp h) _ _ _,.inl ⟨_,rfl,.own _ _ _ _ _ rfl (lf ⟨none,0,rfl,zad _,by simp,by simp,by simp⟩)⟩⟩
 ·have hrun:=hrun0 _ hr;simp only [Result.andThen_ok,zal] at hrun hK1 hK2;have hst:=Stays.alloc hG hom d (nv s.ob d) (fun v o h=>zp h) (.row inf.size z' true true ys);refine sk hdn hG hom hrun (.inr ⟨w.heap.size,_,e,(0,0),by simp [o4],hom.new,by simp,fun _=>rfl,?_,fun i q hq=>⟨(hnr i q hq).1,fun j r hj=>?_⟩⟩) (.own _ _ _ _ _ rfl (lf ⟨_,K,rfl,hK1,hK2,by simp,fun _=>?_⟩))
  ·simp only [zav,hlen];exact zac _ hK1
  ·obtain ⟨u,hu1,hu2⟩:=(hnr i q hq).2 j r hj;refine ⟨u,?_,hn1 u (zam hu1),hu2.mono hst.free⟩;have:=(zab.1 hu1).1;simp only [zah,List.nil_append];rw [zbh this,hu1]
  ·exact ⟨w.heap.size,_,e,(0,0),by simp [o4],by simp,hom.new,by simp only [zav,hlen,zal]; exact zad _⟩
theorem ayp {sz bytes id ver len:Nat} {z':RV} {app:Bool} {xs:List RV} {y:AV} {ys:List RV} {rd rd':List Nat} {t u e f:TypeId} {inf:TypeInfo} {z:Value} {c:Call} {x v:Operand} {ok:Prop} (hG:Gam X s ρ a w) (ho:o.op=.call c) (hc:c.callee=.builtin .append)
  (hargs:c.args=#[x,v]) (htys:c.argTypes=#[t,u]) (ht:P.underlying t=some (.slice e)) (hu:P.underlying u=some (.slice f)) (hi:P.info? e=some inf) (hz:inf.zero=some z) (hzs:z.cells.size=inf.size) (hsz:inf.size=sz) (hby:inf.bytes=bytes)
  (hx:RA X s ρ w (.own id ver 0 len) (a.eval x)) (hr:i9 s.ob id ver=some (sz,z',app,true,xs)) (happ:(app || !par id)=true) (hy:RA X s ρ w y (a.eval v)) (hs:src s.ob y=some (sz,ys,rd)) (hb:(len+ys.length)*bytes≤140737488355328) (hm:len+ys.length≤maxLen) :
  jo P X a w s o ⟨ok,.own id (ver+1) 0 (len+ys.length),upd id (ver+1,.row sz z' app true (xs.take len++ys)) s.ob,rd',[id]⟩:=by
 subst hsz; subst hby;have hid:=p6 hr;simp only at hid;obtain ⟨A2,c2,news,hcv,hnew,hnl,hn1,hnr⟩:=akj (P:=P) hG hs hy;obtain ⟨A1,cap1,olds,hc1,hold,hol,ho1,hor⟩:=akj (P:=P) (y:=.own id ver 0 len) (ys:=(xs.drop 0).take len) (rd:=[id]) (sz:=inf.size) hG (by simp [src,hr]) hx;obtain ⟨A,cap,hx0,e2,e3,e4,e5⟩:=pz hx hr;simp only [zal] at e4;have hlen:((xs.drop 0).take len).length=len:=by simp; omega
 rw [hlen] at hc1 hold hol;rw [hx0] at hc1 hold;simp only [List.drop_zero] at hor
 injection hc1 with q1 _ q3
 subst q1; subst q3;rw [hcv] at hnew
 have hrun0:∀r,(Builtin.append_ #[t,u] o.type #[.slice A len cap,.slice A2 ys.length c2]).run P w=r→(execOp a.eval o).run P w=r.andThen fun q w'=>.ok (.value q) w':=by
  rintro r rfl;simp [execOp,ho,resolve,hc,hargs,htys,invoke,builtin,hx0,hcv]
 have hblk:0<cap→∃b cs e fr,ρ id=some b∧A=some ⟨b,0,none⟩∧w.heap[b]?=some (.cells cs e fr)∧(∀k,k<cs.size→¬(fr.1≤k∧k<fr.2))∧(app=true→fr=(0,0))∧cap*inf.size≤cs.size∧∀(i:Nat) (x:RV),xs[i]?=some x→x.cells.length=inf.size∧∀(j:Nat) (y:RV),x.cells[j]?=some y→∃c,cs[i*inf.size+j]?=some c∧c.oneCell'=true∧RelV w (g8 X.B s.ob ρ w) y c:=fun h0=>by
  obtain ⟨b,cs,ee,fr,f1,f2,f3,f4⟩:=e5 h0;rcases hG.obj id ver _ hid with ⟨h1,h2,_⟩ | ⟨b',cs',e',fr',g1,g2,g3,g4,g5,g6⟩
  ·rw [f1] at h2; cases h2
  ·rw [f1] at g1; cases g1;rw [f3] at g2; cases g2;exact ⟨b,cs,ee,fr,f1,by simpa using f2,f3,g3,g4,by simpa using f4,g6⟩
 obtain ⟨g,cur,e',fr,hA⟩:∃g cur e' fr,(0<cap→A=some ⟨g,0,none⟩∧w.heap[g]?=some (.cells cur e' fr)∧cap*inf.size≤cur.size∧(∀k,k<cur.size→¬(fr.1≤k∧k<fr.2))∧(app=true→fr=(0,0))∧ρ id=some g∧∀(i:Nat) (x:RV),xs[i]?=some x→x.cells.length=inf.size∧∀(j:Nat) (y:RV),x.cells[j]?=some y→∃c,cur[i*inf.size+j]?=some c∧c.oneCell'=true∧RelV w (g8 X.B s.ob ρ w) y c):=by
  by_cases h0:0<cap
  ·obtain ⟨b,cs,e,fr,h1,h2,h3,hf,hf2,h4,h5⟩:=hblk h0;exact ⟨b,cs,e,fr,fun _=>⟨h2,h3,h4,hf,hf2,h1,h5⟩⟩
  ·exact ⟨0,#[],0,(0,0),fun h=>absurd h h0⟩
 rcases run_app (P:=P) (w:=w) (ty:=o.type) (A:=A) (A2:=A2) (len:=len) (cap:=cap) (m:=ys.length) (c2:=c2) (g:=g) (cur:=cur) (e':=e') (olds:=olds) (news:=news) (fr:=fr) ht hu hi hz hzs e2 (fun h=>⟨(hA h).1,(hA h).2.1,(hA h).2.2.1⟩) (fun h=>(hA h).2.2.2.1)
   hold hol hnew hnl hn1 hm hb with ⟨hroom,hrn⟩ | ⟨hgrow,K,w',rest,hrn,hK1,hK2,hom,hlenK⟩
 ·have hrun:=hrun0 _ hrn;by_cases h0:0<cap
  ·obtain ⟨hA1,hg,hA3,hf,hf2,hρ,hel⟩:=hA h0;simp only [h0,if_true,Result.andThen_ok] at hrun
   have hfit:len*inf.size+news.length≤cur.toList.length:=by
    rw [hnl,← zaa]; simp only [zai]; exact zaq (zac _ hroom) hA3
   have hm':=ln (w:=w) (cs:=(d7 cur.toList (len*inf.size) news).toArray) hg;have hsl:(d7 cur.toList (len*inf.size) news).length=cur.size:=by rw [k7 hfit]; simp
   have hst:=Stays.modify (x':=.row inf.size z' app true (xs.take len++ys)) hG hid rfl hρ hg hm' (by simpa using hsl) (ver+1) (.inr (zaw _));refine ⟨_,_,ρ,hrun,hG.modify hid rfl hρ hg hm' (by simpa using hsl) (ver+1) (.inr (zaw _)) (.inl (hG.unpinned hid happ)) ?_,.inl ⟨_,rfl,.own _ _ _ _ _ rfl (lf ?_)⟩⟩
   ·refine .inr ⟨g,_,e',fr,hρ,hm'.new,by simpa [hsl] using hf,hf2,?_,fun i q hq=>?_⟩
    ·simp only [zav,hsl,zau,zak,zae e4];exact zaq (zac _ hroom) hA3
    ·have hsp:=fun p=>z5 (l:=cur.toList) (m:=news) (i:=len*inf.size) hfit p;rw [zbe,zak,zae e4] at hq;split at hq
     ·rename_i hil;rw [zao,if_pos hil] at hq;refine ⟨(hel i q hq).1,fun j r hj=>?_⟩;obtain ⟨c,g1,g2,g3⟩:=(hel i q hq).2 j r hj;refine ⟨c,?_,g2,g3.mono hst.free⟩;have hjl:j<inf.size:=by have:=(zab.1 hj).1; have:=(hel i q hq).1; omega
      rw [zah,hsp,if_neg]
      ·simpa using g1
      ·have:(i+1)*inf.size≤len*inf.size:=zac _ hil;rw [zaa,zaf] at this;omega
     ·rename_i hil;refine ⟨(hnr _ q hq).1,fun j r hj=>?_⟩;obtain ⟨c,g1,g2⟩:=(hnr _ q hq).2 j r hj;refine ⟨c,?_,hn1 c (zam g1),g2.mono hst.free⟩;have hpl:=(zab.1 g1).1
      have hadd:len*inf.size+((i-len)*inf.size+j)=i*inf.size+j:=by
       rw [← Nat.add_assoc,← zaa,show len+(i-len)=i by omega]
      rw [zah,hsp,if_pos (by omega),show i*inf.size+j-len*inf.size=(i-len)*inf.size+j by omega,g1]
   ·refine ⟨A,cap,rfl,hroom,e3,by simp [zae e4],fun _=>⟨g,_,e',fr,hρ,by simpa using hA1,hm'.new,?_⟩⟩;simp only [zav,hsl,zal];exact hA3
  ·have hc0:cap=0:=by omega
   subst hc0;have hl0:len=0:=by omega
   have hy0:ys=[]:=zba (by omega);subst hl0; subst hy0;simp only [Nat.lt_irrefl,if_false,Result.andThen_ok] at hrun;cases app with
   | true=>exact ⟨_,w,o4 ρ id none,hrun,hG.nil id (ver+1) (hG.unpinned hid happ) (fun v o h=>by rw [hid] at h; cases h; exact zaw _) _ _ _,.inl ⟨_,rfl,.own _ _ _ _ _ rfl (lf ⟨A,0,rfl,zad _,by simp,by simp,by simp⟩)⟩⟩
   | false=>
    rcases hG.obj id ver _ hid with ⟨_,_,q3⟩ | ⟨b',cs',e2,fr',g1,g2,g3,g4,g5,g6⟩
    ·cases q3
    ·refine ⟨_,w,ρ,hrun,hG.modify (x':=.row inf.size z' false true []) hid rfl g1 g2 (Mods.same g2) rfl (ver+1) (.inr (zaw _)) (.inl (hG.unpinned hid happ)) (.inr ⟨b',cs',e2,fr',g1,g2,g3,(fun h=>by cases h),by simp,by simp⟩),.inl ⟨_,rfl,.own _ _ _ _ _ rfl (lf ⟨A,0,rfl,zad _,by simp,by simp,by simp⟩)⟩⟩
 ·have hrun:=hrun0 _ hrn;simp only [Result.andThen_ok] at hrun;have hst:=Stays.alloc hG hom id (ver+1) (fun v o h=>by rw [hid] at h; cases h; exact zaw _) (.row inf.size z' app true (xs.take len++ys));refine ⟨_,w',o4 ρ id (some w.heap.size),hrun,hG.alloc hom id (ver+1) (hG.unpinned hid happ) (fun v o h=>by rw [hid] at h; cases h; exact zaw _) _ (.inr ⟨w.heap.size,_,e,(0,0),by simp [o4],hom.new,by simp,fun _=>rfl,?_,fun i q hq=>?_⟩),.inl ⟨_,rfl,.own _ _ _ _ _ rfl (lf ⟨_,K,rfl,hK1,hK2,by simp [zae e4],fun _=>⟨w.heap.size,_,e,(0,0),by simp [o4],by simp,hom.new,?_⟩⟩)⟩⟩
  ·simp only [zav,hlenK,zau,zak,zae e4];exact zac _ hK1
  ·rw [zbe,zak,zae e4] at hq;split at hq
   ·rename_i hil;have hq':((xs.take len))[i]?=some q:=hq;refine ⟨(hor i q hq').1,fun j r hj=>?_⟩;obtain ⟨c,g1,g2⟩:=(hor i q hq').2 j r hj;refine ⟨c,?_,ho1 c (zam g1),g2.mono hst.free⟩;have:=(zab.1 g1).1;rw [zah,zbd,zbh this,g1]
   ·rename_i hil;refine ⟨(hnr _ q hq).1,fun j r hj=>?_⟩;obtain ⟨c,g1,g2⟩:=(hnr _ q hq).2 j r hj;refine ⟨c,?_,hn1 c (zam g1),g2.mono hst.free⟩;have hpl:=(zab.1 g1).1
    have hadd:len*inf.size+((i-len)*inf.size+j)=i*inf.size+j:=by
     rw [← Nat.add_assoc,← zaa,show len+(i-len)=i by omega]
    rw [zah,zbd,List.getElem?_append_right (by omega),hol,zbh (by omega),show i*inf.size+j-len*inf.size=(i-len)*inf.size+j by omega,g1]
  ·simp only [zav,hlenK,zal];exact zad _
theorem ape:∀(l:List Value) (j off:Nat) (cells:Array Value),off+j+l.length≤cells.size →
  ((l.zipIdx j).foldl (fun cs (p:Value×Nat)=>cs.setIfInBounds (off+p.2) p.1) cells).toList=d7 cells.toList (off+j) l
 | [],j,off,cells,h=>by simp [d7]
 | v::l,j,off,cells,h=>by
  simp only [zbb] at h;rw [List.zipIdx_cons,List.foldl_cons,ape l (j+1) off _ (by simp; omega)];have e:=list_seg_step cells.toList (off+j) v l (by simp; omega);simpa [d7,Array.toList_setIfInBounds,Nat.add_assoc] using e
theorem axh {sz:Nat}:∀(vs:List Value) (k:Nat) (cells:Array Value),(∀v∈vs,v.cells.size=sz)→cells.size=(k+vs.length)*sz →
  ∃r,Instr.fill (fun i=>some (i*sz,sz)) cells ((List.range' k vs.length).zip vs)=some r∧r.toList=cells.toList.take (k*sz)++vs.flatMap (fun v=>v.cells.toList)
 | [],k,cells,h,hs=>by
  refine ⟨cells,by simp [Instr.fill],?_⟩;simp only [List.flatMap_nil,List.append_nil];rw [zas];simp [hs]
 | v::vs,k,cells,h,hs=>by
  have hv:=h v (by simp)
  have hfit:k*sz+v.cells.size≤cells.size:=by
   rw [hs,hv];simp only [zbb]
   calc k*sz+sz=(k+1)*sz:=by rw [zaa,zaf]
    _≤(k+(vs.length+1))*sz:=zac _ (by omega)
  have hf:=ape v.cells.toList 0 (k*sz) cells (by simpa using hfit);simp only [zaj] at hf
  have hfa:(v.cells.zipIdx.foldl (fun cs (p:Value×Nat)=>cs.setIfInBounds (k*sz+p.2) p.1) cells).toList=d7 cells.toList (k*sz) v.cells.toList:=by
   rw [← hf,← Array.foldl_toList,Array.toList_zipIdx]
  have hsl:(d7 cells.toList (k*sz) v.cells.toList).length=cells.size:=by rw [k7 (by simpa using hfit)]; simp
  obtain ⟨r,h1,h2⟩:=axh vs (k+1) (v.cells.zipIdx.foldl (fun cs (p:Value×Nat)=>cs.setIfInBounds (k*sz+p.2) p.1) cells) (fun u hu=>h u (by simp [hu])) (by
   rw [← zai,hfa,hsl,hs];simp only [zbb];congr 1
   omega)
  refine ⟨r,?_,?_⟩
  ·simp only [zbb,List.range'_succ,List.zip_cons_cons,Instr.fill];rw [if_neg (by simp [hv]; omega)];exact h1
  ·rw [h2,hfa];simp only [zbi,← zbd];congr 1
   have hA:(cells.toList.take (k*sz)++v.cells.toList).length=(k+1)*sz:=by
    rw [zau,zak,zae (by simp; omega),zai,hv,zaa,zaf]
   exact List.take_left' hA
theorem az7 {sz:Nat} (f:Value→List Value):∀(vs:List Value) (i j:Nat) (v:Value),(∀v∈vs,(f v).length=sz)→vs[i]?=some v→j<sz→(vs.flatMap f)[i*sz+j]?=(f v)[j]?
 | [],i,j,v,h,hi,hj=>by simp at hi
 | u::vs,0,j,v,h,hi,hj=>by
  simp at hi; subst hi;have:=h u (by simp);rw [Nat.zero_mul,zal,zbi,zbh (by omega)]
 | u::vs,i+1,j,v,h,hi,hj=>by
  simp at hi;have hu:=h u (by simp);rw [zbi,List.getElem?_append_right (by rw [hu,zaa]; omega),hu,show (i+1)*sz+j-sz=i*sz+j by rw [zaa]; omega];exact az7 f vs i j v (fun v hv=>h v (by simp [hv])) hi hj
theorem axd {sz:Nat} (f:Value→List Value):∀(vs:List Value),(∀v∈vs,(f v).length=sz)→(vs.flatMap f).length=vs.length*sz
 | [],_=>by simp
 | u::vs,h=>by
  rw [zbi,zau,h u (by simp),axd f vs (fun v hv=>h v (by simp [hv])),zbb,zaa];omega
theorem axm (hG:Gam X s ρ a w) {e:Env} {ob:Obs} {l:List Nat} (he:e=s.e) (hob:s.ob=Ev.freeze ob l):∀{ps:List (Nat×Operand)} {qs:List Opd} {p:Prop} {ys:List RV} {fz:List Nat},u7 (fun p q=>opd p.2 q) ps qs=true→be e ob true qs=some (p,ys,fz)→p →
  (∀i∈fz,i∈l)→ys.length=ps.length∧∀(i:Nat) (y:RV) (q:Nat×Operand),ys[i]?=some y→ps[i]?=some q→RelV w (g8 X.B s.ob ρ w) y (a.eval q.2)
 | [],[],p,ys,fz,_,h,_,_=>by simp [be] at h; simp [h.2.1.symm]
 | q::ps,o::qs,p,ys,fz,hall,h,hp,hs=>by
  simp [u7] at hall;simp only [be] at h;split at h
  ·rename_i y k p' zs j h1 h2;cases h;obtain ⟨g1,g2⟩:=axm hG he hob hall.2 h2 hp.2 (fun i hi=>hs i (by simp [hi]));refine ⟨by simp [g1],fun i y' q' hy hq=>?_⟩;cases i with
   | succ i=>
    simp at hy hq;exact g2 i y' q' hy hq
   | zero=>
    simp at hy hq;subst hy; subst hq; subst he;have hx:=g9 hG rfl hall.1 hp.1;generalize (o.ev s.e).bare=x at hx h1;unfold AV.elt at h1;split at h1
    ·rename_i xs;split at h1
     ·rename_i ys' fz' hrv;cases h1;generalize a.eval q.2=c at hx;cases hx;rename_i cs hl hrel;refine .agg _ _ (by rw [pu hrv]; exact hl) fun i y c hy hc=>?_;have hlt:i<xs.length:=by have:=(zab.1 hy).1; have:=pu hrv; omega
      have hxi:xs[i]?=some xs[i]:=by simp [hlt]
      exact ahj hG hob hrv (fun i hi=>hs i (by simp [hi])) i _ y c hxi hy (hrel i _ c hxi hc)
     ·cases h1
    ·exact aqf hG h1 (fun i hi=>hs i (by simp [hi])) hob hx
  ·cases h
 | [],_::_,_,_,_,h,_,_,_=>by cases h
 | _::_,[],_,_,_,h,_,_,_=>by cases h
theorem arm {R:Nat→Prop} {y:RV} {c:Value} {sz:Nat} (h:RelV w R y c) (hg:y.good sz=true):c.cells.size=sz∧∀(j:Nat) (q:RV),y.cells[j]?=some q→∃u,c.cells[j]?=some u∧u.oneCell'=true∧RelV w R q u:=by
 simp only [RV.good,zbj,beq_iff_eq] at hg;obtain ⟨g1,g2⟩:=hg;cases h with
 | v x=>
  simp only [RV.cells,List.all_cons,List.all_nil,Bool.and_true,List.length_singleton] at g1 g2;rw [auu g2];refine ⟨by simpa using g1,fun j q hj=>?_⟩;cases j with
  | zero=>simp [RV.cells] at hj; subst hj; exact ⟨_,rfl,g2,.v _⟩
  | succ j=>simp [RV.cells] at hj
 | agg xs cs hl h=>
  simp only [RV.cells] at g1 g2;refine ⟨by simp [Value.cells,hl,g1],fun j q hj=>?_⟩;have hlt:=(zab.1 hj).1;simp only [RV.cells] at hlt hj;have hc:cs[j]?=some cs[j]:=by simp [show j<cs.size by omega]
  have:=h j q _ hj hc;refine ⟨_,hc,avw this ?_,this⟩;have:=(zab.1 hj).2;rw [← this];exact zap.1 g2 _ (zaz _)
 | sl k xs A cap hc hm b o g hA hz hg' hr=>
  simp only [RV.cells,List.length_singleton] at g1;refine ⟨by simpa [Value.cells] using g1,fun j q hj=>?_⟩;cases j with
  | zero=>simp [RV.cells] at hj; subst hj; exact ⟨_,rfl,rfl,.sl k xs A cap hc hm b o g hA hz hg' hr⟩
  | succ j=>simp [RV.cells] at hj
theorem beh {d sz m:Nat} {z:RV} {t e:TypeId} {inf:TypeInfo} {zv:Value} {ps:Array (Nat×Operand)} {qs:List Opd} {p:Prop} {ys:List RV} {fz:List Nat} {ok:Prop} (hdn:d<X.n) (hG:Gam X s ρ a w) (ho:o.op=.buildSlice t m ps) (ht:P.underlying t=some (.slice e)) (hi:P.info? e=some inf)
  (hz:inf.zero=some zv) (hsz:inf.size=sz) (hm:m=qs.length) (hall:u7 (fun p q=>opd p.2 q) ps.toList qs=true) (hix:ps.toList.map (·.1)=List.range m) (h24:m*sz≤16777216) (hm24:m≤16777216)
  (hel:be s.e s.ob true qs=some (p,ys,fz)) (hp:p) (hgood:ys.all (·.good sz)=true) (hd:d∉fz) :
  jo P X a w s o (o3 (Ev.freeze s.ob fz) d (.row sz z true true ys) (fun v=>.own d v 0 ys.length) ok fz fz):=by
 have hG':=Gam.freeze (s:=s) fz (ob:=s.ob) hG;obtain ⟨hyl,hrel⟩:=axm (s:=⟨s.e,Ev.freeze s.ob fz⟩) (ob:=s.ob) (l:=fz) hG' rfl rfl hall hel hp (fun _ h=>h);subst hsz;have hpl:ps.toList.length=m:=by rw [ma hall,hm]
 have hcell:∀v∈ps.toList.map (fun q=>a.eval q.2),v.cells.size=inf.size:=fun v hv=>by
  obtain ⟨i,hi⟩:=zbf.1 hv;rw [zan,zay] at hi;obtain ⟨q,hq,rfl⟩:=hi;have hlt:=(zab.1 hq).1;have hy:ys[i]?=some (ys[i]'(by omega)):=by simp [show i<ys.length by omega]
  exact (arm (hrel i _ q hy hq) (zap.1 hgood _ (zaz _))).1
 have hparts:(ps.map fun (i,x)=>(i,a.eval x)).toList=(List.range' 0 m).zip (ps.toList.map fun q=>a.eval q.2):=by
  rw [← List.range_eq_range',← hix];simp only [Array.toList_map];generalize ps.toList=l
  induction l with
  | nil=>rfl
  | cons q l ih=>simp [ih]
 obtain ⟨r,hr1,hr2⟩:=axh (sz:=inf.size) (ps.toList.map fun q=>a.eval q.2) 0 ((Array.range (m*inf.size)).map (fun i=>(if m*inf.size=0 then (#[]:Array Value) else zv.cells)[i%(if m*inf.size=0 then (#[]:Array Value) else zv.cells).size]!)) hcell (by simp [hpl])
 have hrun:(execOp a.eval o).run P w=.ok (.value (.slice (some ⟨w.heap.size,0,none⟩) m m)) (w.alloc (.cells r e)):=by
  rw [List.length_map,hpl] at hr1;simp only [execOp,ho,Instr.buildSlice,Sem.run_bind,run_underlying ht,Result.andThen_ok,sizeOf,typeInfo,run_program,hi,Sem.run_pure,if_neg (show ¬(m*inf.size>2^24) by omega)];by_cases h0:m*inf.size=0
  ·simp only [h0,if_true,Sem.run_pure,Result.andThen_ok,hparts] at hr1 ⊢;simp only [hr1,newRow,Sem.run_bind,run_newObj,Result.andThen_ok,Sem.run_pure]
   rfl
  ·simp only [h0,if_false,zeroValue,typeInfo,Sem.run_bind,run_program,hi,hz,Result.andThen_ok,Sem.run_pure,hparts] at hr1 ⊢;simp only [hr1,newRow,Sem.run_bind,run_newObj,Result.andThen_ok,Sem.run_pure]
   rfl
 have hym:ys.length=m:=by omega
 have hrl:r.size=m*inf.size:=by
  rw [← zai,hr2,zau,axd (sz:=inf.size) _ _ (fun v hv=>by simpa using hcell v hv)];simp [hpl]
 have hst:=Stays.alloc hG' (z8 (.cells r e)) d (nv (Ev.freeze s.ob fz) d) (fun v o h=>zp h) (.row inf.size z true true ys)
 refine sk (s:=s) hdn hG' (z8 _) hrun (.inr ⟨w.heap.size,r,e,(0,0),by simp [o4],(z8 _).new,by simp,fun _=>rfl,by rw [hym,hrl]; exact zad _,fun i y hy=>⟨?_,fun j q hj=>?_⟩⟩)
  (.own _ _ _ _ _ rfl (lf ⟨_,m,by rw [hym],by omega,?_,by simp,fun _=>⟨w.heap.size,r,e,(0,0),by simp [o4],by simp,(z8 _).new,by rw [zal,hrl]; exact zad _⟩⟩))
 ·have:=zap.1 hgood y (zam hy);simp only [RV.good,zbj,beq_iff_eq] at this;exact this.1
 ·have hlt:=(zab.1 hy).1;have hq:ps.toList[i]?=some (ps.toList[i]'(by omega)):=by simp [show i<ps.size by rw [← zai]; omega]
  have hgd:=zap.1 hgood y (zam hy);obtain ⟨g1,g2⟩:=arm (hrel i y _ hy hq) hgd;obtain ⟨u,hu1,hu2,hu3⟩:=g2 j q hj;have hjl:=(Array.getElem?_eq_some_iff.1 hu1).1;refine ⟨u,?_,hu2,hu3.mono hst.free⟩;rw [← zbc,hr2];simp only [Nat.zero_mul,List.take_zero,List.nil_append];rw [az7 (sz:=inf.size) _ _ i j (a.eval (ps.toList[i]'(by omega)).2) (fun v hv=>by simpa using hcell v hv) (by rw [zan,hq]; rfl) (by omega)];simpa using hu1
 ·simp only [maxLen]; omega
theorem bea {sz id ver lo n:Nat} {z':RV} {xs:List RV} {t e:TypeId} {x:Operand} {ok:Prop} {rd':List Nat} (hG:Gam X s ρ a w) (ho:o.op=.convert t t x) (ht:P.underlying t=some (.slice e)) (he:P.underlying e=some (.int .u8))
  (hx:RA X s ρ w (.own id ver lo n) (a.eval x)) (hr:i9 s.ob id ver=some (sz,z',true,true,xs)) (hn:0<n) :
  jo P X a w s o ⟨ok,.own id ver lo n,upd id (ver,.row sz z' false true xs) s.ob,rd',[id]⟩:=by
 have hid:=p6 hr;simp only at hid;obtain ⟨A,cap,hx0,e2,e3,e4,e5⟩:=pz hx hr;simp only at e4;obtain ⟨b,cs0,ee,fr0,f1,f2,f3,f4⟩:=e5 (by omega);rcases hG.obj id ver _ hid with ⟨q1,q2,_⟩ | ⟨b',cs,e',fr,hρ,hh,hfr,happ,hszc,hel⟩
 ·rw [f1] at q2; cases q2
 rw [f1] at hρ;cases hρ;obtain rfl:fr=(0,0):=happ rfl
 have hsh:w.shape? b=some (e',cs.size):=by
  unfold World.shape?;rw [hh]
 have hlt:b<w.heap.size:=(Array.getElem?_eq_some_iff.1 hh).1;obtain ⟨w',hw'⟩:∃w',w.freeze ⟨b,cs.size,none⟩ 1=w':=⟨_,rfl⟩
 have hmod:Mods w w' b (.cells cs e' (cs.size,cs.size+1)):=by
  rw [← hw'];unfold World.freeze;rw [if_neg (by decide)];refine ⟨rfl,rfl,rfl,by simp,?_,fun k hk=>?_⟩
  ·simp only [Array.getElem?_modify,if_true,hh,Option.map_some]
   rfl
  ·simp only [Array.getElem?_modify];rw [if_neg (fun e=>hk e.symm)]
 have hrun0:(convert t t (a.eval x)).run P w=.ok (a.eval x) w':=by
  rw [hx0,f2];simp [convert,run_underlying ht,run_underlying he,markStringish,hsh];exact hw'
 have hrun:(execOp a.eval o).run P w=.ok (.value (a.eval x)) w':=by
  simp only [execOp,ho,Sem.run_bind,hrun0,Result.andThen_ok,Sem.run_pure]
 have hst:=Stays.modify (x':=.row sz z' false true xs) hG hid rfl f1 hh hmod rfl ver (.inl ⟨rfl,rfl,zad _⟩);refine ⟨_,w',ρ,hrun,hG.modify hid rfl f1 hh hmod rfl ver (.inl ⟨rfl,rfl,zad _⟩) (.inl (hG.unpinned hid rfl)) ?_,.inl ⟨_,rfl,hx.stays hst⟩⟩;refine .inr ⟨b,cs,e',_,f1,hmod.new,fun k hk=>(by simp; omega),fun h=>(by cases h),hszc,fun i y hy=>⟨(hel i y hy).1,fun j q hj=>?_⟩⟩;obtain ⟨c,g1,g2,g3⟩:=(hel i y hy).2 j q hj;exact ⟨c,g1,g2,g3.mono hst.free⟩
theorem ayo {d:Nat} {z:RV} {t u e:TypeId} {inf:TypeInfo} {x:Operand} {b:ByteArray} {ok:Prop} (hdn:d<X.n) (hG:Gam X s ρ a w) (ho:o.op=.convert t u x) (ht:P.underlying t=some .string) (hu:P.underlying u=some (.slice e)) (he:P.underlying e=some (.int .u8))
  (hx:a.eval x=.string b) (hb:b.size≤maxLen):jo P X a w s o (o3 s.ob d (.row 1 z false true (b.data.toList.map fun b=>.v (.int .u8 b.toNat))) (fun v=>.own d v 0 b.size) ok [] []):=by
 have hge:=grownCap_ge w b.size 0 e;have hcm:=grownCap_le_maxLen w b.size 0 e hb;have hbs:b.data.size=b.size:=rfl;generalize hcells:bytesRow b (grownCap w b.size 0 e)=cells;have hcs:cells.size=grownCap w b.size 0 e:=by rw [← hcells]; simp [bytesRow,hbs]; omega
 have hrun:(execOp a.eval o).run P w=.ok (.value (.slice (some ⟨w.heap.size,0,none⟩) b.size (grownCap w b.size 0 e))) (w.drew.alloc (.cells cells e (cells.size,cells.size+1))):=by
  have:=run_bytes_of_string (P:=P) w t u e b ht hu he;rw [hcells] at this;simp only [execOp,ho,hx,Sem.run_bind,this,Result.andThen_ok,Sem.run_pure]
 have hst:=Stays.alloc hG (pj (.cells cells e (cells.size,cells.size+1))) d (nv s.ob d) (fun v o h=>zp h) (.row 1 z false true (b.data.toList.map fun b=>.v (.int .u8 b.toNat)))
 refine sk hdn hG (pj _) hrun (.inr ⟨w.heap.size,cells,e,_,by simp [o4],(pj _).new,fun k hk=>by simp; omega,by simp,by simp [hbs,hcs,hge],fun i y hy=>?_⟩)
  (.own _ _ _ _ _ rfl (lf ⟨_,_,rfl,hge,hcm,by simp [hbs],fun _=>⟨w.heap.size,cells,e,_,by simp [o4],by simp,(pj _).new,by simp [hcs]⟩⟩))
 rw [zan,zay] at hy;obtain ⟨c,hc,rfl⟩:=hy;refine ⟨rfl,fun j q hj=>?_⟩;cases j with
 | succ j=>simp [RV.cells] at hj
 | zero=>
  simp [RV.cells] at hj;subst hj;refine ⟨_,?_,rfl,.v _⟩;have hlt:=(zab.1 hc).1;simp only [zai] at hlt;rw [← hcells];unfold bytesRow;rw [Array.getElem?_append_left (by simp; omega)];simp at hc ⊢;exact ⟨c,by simpa using hc,rfl⟩
theorem bdl {a b:Value} (h:eqv a b=true):a.oneCell'=true:=by
 unfold eqv at h;split at h<;>first | rfl | cases h
theorem atd {R:Nat→Prop} {v:Value} {q:RV} (h:eqr v q=true):v.oneCell'=true∧RelV w R q v:=by
 unfold eqr at h;split at h
 ·exact ⟨rfl,.sl _ [] none 0 (by simp) (by simp) 0 0 (fun _ _=>undef) (by simp) (by simp) (by simp) (by simp)⟩
 ·refine ⟨bdl h,?_⟩;rw [arq h];exact .v _
 ·cases h
theorem beb {d sz bytes:Nat} {z:RV} {t e:TypeId} {inf:TypeInfo} {v:Value} {x y:Operand} {k k':IntKind} {l c:Int} {ok:Prop} (hdn:d<X.n) (hG:Gam X s ρ a w) (ho:o.op=.makeSlice t x y) (ht:P.underlying t=some (.slice e)) (hi:P.info? e=some inf) (hz:inf.zero=some v)
  (hsz:inf.size=sz) (hby:inf.bytes=bytes) (hzz:u7 eqr v.cells.toList z.cells=true) (hvs:v.cells.size=sz) (hx:a.eval x=.int k l) (hy:a.eval y=.int k' c) (h0:0≤l) (hlc:l≤c) (hc:c≤maxLen) (hb:c*bytes≤281474976710656) :
  jo P X a w s o (o3 s.ob d (.row sz z true true (ag8 l z)) (fun v=>.own d v 0 l.toNat) ok [] []):=by
 subst hsz; subst hby;have hmx:(c:Int)≤9223372036854775807:=by simp only [maxLen] at hc; omega
 have hrun0:=run_make (P:=P) w t e inf v ht hi hz k k' l c h0 hlc (by rw [Int.mul_comm]; exact hb) hmx
 have hrun:(execOp a.eval o).run P w=.ok (.value (.slice (some ⟨w.heap.size,0,none⟩) l.toNat c.toNat)) (w.alloc (.cells (madeCells v.cells (c.toNat*inf.size)) e)):=by
  simp only [execOp,ho,hx,hy,Sem.run_bind,hrun0,Result.andThen_ok,Sem.run_pure]
 have hsize:=size_madeCells v.cells (c.toNat*inf.size)
 refine sk hdn hG (z8 _) hrun (.inr ⟨w.heap.size,_,e,(0,0),by simp [o4],(z8 _).new,by simp,fun _=>rfl,?_,fun i q hq=>?_⟩)
  (.own _ _ _ _ _ rfl (lf ⟨_,_,rfl,by omega,by simp only [maxLen] at hc ⊢; omega,by simp [ag8],fun _=>⟨w.heap.size,_,e,(0,0),by simp [o4],by simp,(z8 _).new,by rw [hsize,zal]; exact zad _⟩⟩))
 ·rw [hsize];simp only [ag8,zbk];exact zac _ (by omega)
 ·simp only [ag8,List.getElem?_replicate] at hq;split at hq
  ·rename_i hil;cases hq;have hzl:z.cells.length=inf.size:=by rw [← ma hzz]; simpa using hvs
   refine ⟨hzl,fun j q hj=>?_⟩;have hjl:=(zab.1 hj).1;have hvj:v.cells[j]?=some (v.cells[j]'(by omega)):=by simp [show j<v.cells.size by omega]
   have he:=aeo hzz (i:=j) (by rw [zbc]; exact hvj) hj
   have hcell:(madeCells v.cells (c.toNat*inf.size))[i*inf.size+j]?=some (v.cells[j]'(by omega)):=by
    have hlt:i*inf.size+j<c.toNat*inf.size:=by
     have:(i+1)*inf.size≤c.toNat*inf.size:=zac _ (by omega);rw [zaa,zaf] at this;omega
    have hmod:(i*inf.size+j)%v.cells.size=j:=by
     rw [hvs,zar,Nat.mul_add_mod,Nat.mod_eq_of_lt (by omega)]
    simp [madeCells,hlt,hmod,show j<v.cells.size by omega]
   exact ⟨_,hcell,atd he⟩
  ·cases hq
theorem ba0 {z:Array Value} {n sz i j:Nat} (hz:z.size=sz) (hi:i<n) (hj:j<sz):(Builtin.zeroCells z n).toList[i*sz+j]?=z[j]?:=by
 have hlt:i*sz+j<n*z.size:=by
  have:(i+1)*sz≤n*sz:=zac _ (by omega);rw [zaa,zaf] at this;rw [hz];omega
 have hmod:(i*sz+j)%z.size=j:=by
  rw [hz,zar,Nat.mul_add_mod,Nat.mod_eq_of_lt (by omega)]
 rw [zbc];simp [Builtin.zeroCells,hlt,hmod,show j<z.size by omega]
theorem beg {sz id ver lo n:Nat} {z z':RV} {app:Bool} {xs:List RV} {rd':List Nat} {t e:TypeId} {inf:TypeInfo} {v:Value} {c:Call} {x:Operand} {ok:Prop} (hG:Gam X s ρ a w) (ho:o.op=.call c) (hc:c.callee=.builtin .clear)
  (hargs:c.args=#[x]) (htys:c.argTypes=#[t]) (ht:P.underlying t=some (.slice e)) (hi:P.info? e=some inf) (hsz:inf.size=sz) (hz:inf.zero=some v) (hzz:u7 eqr v.cells.toList z.cells=true) (hvs:v.cells.size=sz)
  (hx:RA X s ρ w (.own id ver lo n) (a.eval x)) (hr:i9 s.ob id ver=some (sz,z',app,true,xs)) :
  jo P X a w s o ⟨ok,.undef,upd id (ver,.row sz z' app true (spl xs lo (zax n z))) s.ob,rd',[id]⟩:=by
 unfold spl;subst hsz;have hid:=p6 hr;simp only at hid;obtain ⟨A,cap,hx0,e2,e3,e4,e5⟩:=pz hx hr;simp only at e4
 have hrun0:∀r,(Builtin.clear_ #[t] o.type #[.slice A n cap]).run P w=r→(execOp a.eval o).run P w=r.andThen fun q w'=>.ok (.value q) w':=by
  rintro r rfl;simp [execOp,ho,resolve,hc,hargs,htys,invoke,builtin,hx0]
 by_cases h0:n=0
 ·subst h0
  have hrn:(Builtin.clear_ #[t] o.type #[.slice A 0 cap]).run P w=.ok (.tuple #[]) w:=by
   cases A<;>simp [Builtin.clear_,run_underlying ht]
  have hrun:=hrun0 _ hrn;simp only [Result.andThen_ok] at hrun;refine ⟨_,w,ρ,hrun,?_,.inl ⟨_,rfl,.undef _⟩⟩;have e:d7 xs lo (zax 0 z)=xs:=by simp [d7]
  rw [e]
  rw [show upd id (ver,Ob.row inf.size z' app true xs) s.ob=s.ob from by
   funext i;unfold upd;split
   ·rename_i h; rw [h,hid]
   ·rfl]
  exact hG
 ·have hn0:0<cap:=by omega
  obtain ⟨b,cs0,ee,fr0,f1,f2,f3,f4⟩:=e5 hn0;rcases hG.obj id ver _ hid with ⟨q1,q2,_⟩ | ⟨b',cs,e',fr,hρ,hh,hfr,happ,hszc,hel⟩
  ·rw [f1] at q2; cases q2
  rw [f1] at hρ;cases hρ;have hvl:(Builtin.zeroCells v.cells n).toList.length=n*inf.size:=by rw [zai,size_zeroCells,hvs]
  have hfit0:(lo+n)*inf.size≤cs.size:=zaq (zac _ (by omega)) hszc
  have hfit:lo*inf.size+(Builtin.zeroCells v.cells n).toList.length≤cs.toList.length:=by
   rw [hvl,← zaa];simpa using hfit0
  have hzl:z.cells.length=inf.size:=by rw [← ma hzz]; simpa using hvs
  have hvj:∀j y,z.cells[j]?=some y→∃u,v.cells[j]?=some u∧eqr u y=true:=fun j y hj=>by
   have hjl:=(zab.1 hj).1;have hv:v.cells[j]?=some (v.cells[j]'(by omega)):=by simp [show j<v.cells.size by omega]
   exact ⟨_,hv,aeo hzz (i:=j) (by rw [zbc]; exact hv) hj⟩
  have hone:∀u∈(Builtin.zeroCells v.cells n).toList,u.oneCell'=true:=fun u hu=>by
   simp only [Builtin.zeroCells,Array.toList_map,List.mem_map] at hu;obtain ⟨i,hi,rfl⟩:=hu;have hil:i<n*v.cells.size:=by simpa using hi
   have hv0:0<v.cells.size:=by
    rcases zbg v.cells.size with h | h
    ·rw [h] at hil; omega
    ·exact h
   have hm:=Nat.mod_lt i hv0;have hy:z.cells[i%v.cells.size]?=some (z.cells[i%v.cells.size]'(by omega)):=by simp [show i%v.cells.size<z.cells.length by omega]
   obtain ⟨u,g1,g2⟩:=hvj _ _ hy
   have:v.cells[i%v.cells.size]! = u:=by
    rw [Array.getElem!_eq_getD,Array.getD_eq_getD_getElem?,g1]
    rfl
   rw [this];exact (atd (w:=w) (R:=fun _=>True) g2).1
  have hst:=abd (P:=P) b (lo*inf.size) e' fr (Builtin.zeroCells v.cells n).toList 0 cs w hh hfr (by simpa using hfit) hone
  have hrn:(Builtin.clear_ #[t] o.type #[.slice A n cap]).run P w=.ok (.tuple #[]) (w.setRow b (d7 cs.toList (lo*inf.size) (Builtin.zeroCells v.cells n).toList).toArray):=by
   simp only [zaj] at hst;rw [f2];obtain ⟨k,rfl⟩:∃k,n=k+1:=⟨n-1,by omega⟩
   simp [Builtin.clear_,run_underlying ht,zeroValue,typeInfo,hi,hz,hst,d7]
  have hrun:=hrun0 _ hrn;simp only [Result.andThen_ok] at hrun;generalize hvals:(Builtin.zeroCells v.cells n).toList=vals at *;have hm':=ln (w:=w) (cs:=(d7 cs.toList (lo*inf.size) vals).toArray) hh;have hlen:(d7 cs.toList (lo*inf.size) vals).length=cs.size:=by rw [k7 hfit]; simp
  have hxl:lo+(zax n z).length≤xs.length:=by rw [zbk]; omega
  have hxsl:(d7 xs lo (zax n z)).length=xs.length:=k7 hxl;have hstay:=Stays.modify (x':=.row inf.size z' app true (d7 xs lo (zax n z))) hG hid rfl f1 hh hm' (by simpa using hlen) ver (.inl ⟨rfl,rfl,by rw [hxsl]; exact zad _⟩);refine ⟨_,_,ρ,hrun,hG.modify hid rfl f1 hh hm' (by simpa using hlen) ver (.inl ⟨rfl,rfl,by rw [hxsl]; exact zad _⟩) (.inr ⟨rfl,⟨rfl,by rw [hxsl]; exact zad _⟩,fun h=>h⟩) ?_,.inl ⟨_,rfl,.undef _⟩⟩;refine .inr ⟨b,_,e',fr,f1,hm'.new,by simpa [hlen] using hfr,happ,by simpa [hlen,hxsl] using hszc,fun i q hq=>?_⟩;have hsp:=fun p=>z5 (l:=cs.toList) (m:=vals) (i:=lo*inf.size) hfit p;rw [z5 hxl,zbk] at hq;split at hq
  ·rename_i hin;rw [List.getElem?_replicate,if_pos (by omega)] at hq;cases hq;refine ⟨hzl,fun j r hj=>?_⟩;have hjl:=(zab.1 hj).1;obtain ⟨u,g1,g2⟩:=hvj j r hj
   have hlt:(i-lo)*inf.size+j<n*inf.size:=by
    have:(i-lo+1)*inf.size≤n*inf.size:=zac _ (by omega);rw [zaa,zaf] at this;omega
   have hadd:i*inf.size=lo*inf.size+(i-lo)*inf.size:=by rw [← zaa,show lo+(i-lo)=i by omega]
   have hr2:=atd (w:=w.setRow b (d7 cs.toList (lo*inf.size) vals).toArray) (R:=g8 X.B (upd id (ver,.row inf.size z' app true (d7 xs lo (zax n z))) s.ob) ρ (w.setRow b (d7 cs.toList (lo*inf.size) vals).toArray)) g2;refine ⟨u,?_,hr2.1,hr2.2⟩;rw [zah,hsp,if_pos (by omega),show i*inf.size+j-lo*inf.size=(i-lo)*inf.size+j by omega,← hvals,ba0 hvs (by omega) (by omega)];exact g1
  ·rename_i hin;refine ⟨(hel i q hq).1,fun j r hj=>?_⟩;obtain ⟨c,g1,g2,g3⟩:=(hel i q hq).2 j r hj;have hjl:j<inf.size:=by have:=(zab.1 hj).1; have:=(hel i q hq).1; omega
   refine ⟨c,?_,g2,g3.mono hstay.free⟩;rw [zah,hsp,hvl,if_neg]
   ·simpa using g1
   ·rintro ⟨p1,p2⟩;apply hin;constructor
    ·rcases zat i lo with h | h
     ·have:(i+1)*inf.size≤lo*inf.size:=zac _ h;rw [zaa,zaf] at this;omega
     ·exact h
    ·rcases zat i (lo+n) with h | h
     ·exact h
     ·have:(lo+n)*inf.size≤i*inf.size:=zac _ h;rw [zaa] at this;omega
theorem bbv {g:Bool} (hg:g=true) {t e:TypeId} {inf:TypeInfo} {n:Nat} {x:Operand} {u:AV} (hG:Gam X s ρ a w) (ho:o.op=.slice t x none none none) (ht:P.underlying t=some (.array n e)) (hi:P.info? e=some inf)
  (h1:inf.size=1) (hu:RA X s ρ w u (a.eval x)) (hok:(xd g n u s.ob).ok):m6 P X a w s ρ o (xd g n u s.ob).v:=by
 unfold xd at hok ⊢;split at hok
 ·rename_i id ver off;rcases hr:o7 s.ob id ver with _ | cells
  ·rw [hr] at hok; exact (hok hg).elim
  ·rw [hr] at hok;obtain ⟨k1,k2⟩:=hok hg;have hb:=il hr;cases hu;rename_i h;obtain ⟨b,hρ,hc⟩:=h.live hb;obtain ⟨b',cs,e',hρ',hh,hsz,_⟩:=hG.obj id ver _ hb;rw [hρ] at hρ';cases hρ'
   skip
   refine ⟨.slice (some ⟨b,off,none⟩) n n,?_,.own _ _ _ _ _ rfl ⟨_,_,hb,zad _,fun _=>⟨_,n,rfl,zad _,k2,fun _=>⟨b,cs,e',(0,0),hρ,rfl,hh,by omega⟩⟩⟩⟩;simp [execOp,ho,Instr.sliceAt,run_underlying ht,hc,Instr.sureAddr,Instr.sliceBounds,sizeOf,typeInfo,hi,dm]
 ·first | exact (hok hg).elim | exact (hok.2 hg).elim | exact hok.2.elim
theorem bbj (hG:Gam X s ρ a w) {y:AV} {c:Value} {sz:Nat} {ys:List RV} {rd:List Nat} (hs:src s.ob y=some (sz,ys,rd)) (hy:RA X s ρ w y c):RelV w (fun _=>True) (.sl sz ys) c:=by
 unfold src at hs;split at hs
 ·cases hs;cases hy;rename_i hy;exact hy.mono fun b _=>⟨trivial,rfl⟩
 ·cases hs;cases hy;exact .sl _ [] none 0 (by simp) (by simp) 0 0 (fun _ _=>undef) (by simp) (by simp) (by simp) (by simp)
 ·split at hs
  ·rename_i id ver lo len _ sz z app wr xs hr;cases hs;have hid:=p6 hr;simp only at hid;obtain ⟨A,cap,rfl,e2,e3,e4,e5⟩:=pz hy hr;simp only at e4 e5;have hlen:((xs.drop lo).take len).length=len:=by simp; omega
   have key:=RelV.sl (w:=w) (R:=fun _=>True) sz ((xs.drop lo).take len) A cap (by omega) e3;rw [hlen] at key
   have hget:∀(i:Nat) (x:RV),((xs.drop lo).take len)[i]?=some x→xs[lo+i]?=some x:=fun i x hi=>by
    rw [zao] at hi;split at hi
    ·rwa [List.getElem?_drop] at hi
    ·cases hi
   rcases hG.obj id ver _ hid with ⟨h1,h2,_⟩ | ⟨b,cs,e,fr,h1,h2,h3,h4,h5,h6⟩
   ·subst h1;have:len=0:=by simp at e4; omega
    subst this;exact key 0 0 (fun _ _=>undef) (by simp) (by simp) (by simp) (by simp)
   ·refine key b (lo*sz) (fun i j=>(cs[(lo+i)*sz+j]?).getD undef) (fun h0=>?_) (fun i x hi=>(h6 _ x (hget i x hi)).1) (fun i x j y hi hj=>?_) (fun i x j y hi hj=>?_)
    ·obtain ⟨b',cs',e',fr',f1,f2,f3,f4⟩:=e5 (by omega);rw [h1] at f1;cases f1;exact ⟨f2,trivial⟩
    ·obtain ⟨c,g1,g2,g3⟩:=(h6 _ x (hget i x hi)).2 j y hj;rw [g1];refine ⟨?_,g2⟩;simp only [World.cell?,h2,Option.isSome_none,Bool.false_eq_true,if_false,Option.getD_some];rw [← g1,zaa]
    ·obtain ⟨c,g1,g2,g3⟩:=(h6 _ x (hget i x hi)).2 j y hj;rw [g1];exact g3.mono fun b _=>⟨trivial,rfl⟩
  ·cases hs
 ·cases hs
theorem a3v {t d e:TypeId} {x:Operand} {u:AV} {sz:Nat} {ys:List RV} {rd:List Nat} (hG:Gam X s ρ a w) (ho:o.op=.convert t d x) (ht:P.underlying t=some (.slice e)) (he:P.underlying e=some (.int .u8)) (hd:P.underlying d=some .string)
  (hu:RA X s ρ w u (a.eval x)) (hs:src s.ob u=some (sz,ys,rd)) (h1:sz=1) (hb:ys.all ahu=true):m6 P X a w s ρ o (a02 ⟨(ys.map we).toArray⟩):=by
 have hr:=bbj hG hs hu;subst h1;generalize hc:a.eval x=c at hr;cases hr;rename_i A cap hm b o' g hcap hA hr hz hg;simp only [m6,execOp,ho,hc];refine ⟨_,?_,dq _⟩
 have hrun:(convert t d (.slice A ys.length cap)).run P w=.ok (.string ⟨(ys.map we).toArray⟩) w:=by
  rcases zbg ys.length with h0 | h0
  ·have hy0:ys=[]:=zba h0;subst hy0;cases A with
   | none=>
    rw [run_convert_bytes_string w t d e none _ cap ht he hd];simp [Conv.bytesToString]
    rfl
   | some ad=>exact run_convert_bytes_back w t d e ad cap [] ht he hd (by simp)
  ·obtain ⟨rfl,_⟩:=hA h0
   have:=run_convert_bytes_back (P:=P) w t d e ⟨b,o',none⟩ cap (ys.map we) ht he hd fun j hj=>by
    simp only [List.length_map] at hj;have hy:ys[j]?=some ys[j]:=by simp [hj]
    have hby:=zap.1 hb ys[j] (zaz hj);simp only [List.getElem_map];generalize ys[j]=q at hy hby;unfold ahu at hby;split at hby
    ·rename_i m;have h1:=(hg j _ 0 _ hy rfl).1;have h2:=hr j _ 0 _ hy rfl;cases hgj:g j 0<;>rw [hgj] at h2<;>cases h2;rw [dm];rw [hgj] at h1;simp only [Nat.mul_one,zaj] at h1;rw [h1];simp only [decide_eq_true_eq] at hby;simp only [we,UInt8.toNat_ofNat'];congr 2;omega
    ·cases hby
   simpa using this
 simp only [Sem.run_bind,hrun,Result.andThen_ok,Sem.run_pure]
theorem bb4 {g:Bool} (hg:g=true) {neg:Bool} {op:BinOp} {t ty e:TypeId} {x:Operand} {u:AV} (ho:o.op=.binOp op t x (.const (.pointer none)) ty) (hop:op=if neg then .neq else .eql) (ht:P.underlying t=some (.pointer e))
  (hu:RA X s ρ w u (a.eval x)) (hok:(aae g neg u s.ob).ok):m6 P X a w s ρ o (aae g neg u s.ob).v:=by
 have hte:P.underlying t=some (.pointer (P.pointee t)):=by simp [Program.pointee,ht]
 unfold aae at hok ⊢;split at hok
 ·split at hok
  ·rename_i r hr;cases hu;rename_i hc h;obtain ⟨o',ho'⟩:=aqm hr;obtain ⟨b,_,hc⟩:=h.live ho';simp only [m6,execOp,ho,hc];refine ⟨_,?_,dq _⟩;subst hop;cases neg<;>simp [eqGuard,binOp,Act.eval,run_equal_pointer_nil w t _ hte]
  ·first | exact (hok hg).elim | exact (hok.2 hg).elim
 ·have h1:=k9 hu;simp only [m6,execOp,ho,h1];refine ⟨_,?_,dq _⟩;subst hop;cases neg<;>simp [eqGuard,binOp,Act.eval,run_equal_pointer_nil w t _ hte]
 ·first | exact (hok hg).elim | exact (hok.2 hg).elim
theorem axg {t:TypeId} {g:Bool} (hg:g=true) (hG:Gam X s ρ a w) {x8:Nat→Option (Nat×Nat)} (hpl:∀(p:Nat×Operand) (q:Nat×Nat×Opd),yj P t p q=true→x8 p.1=some (q.1,q.2.1)) :
  ∀(ps:List (Nat×Operand)) (qs:List (Nat×Nat×Opd)) (zs:List AV) (cells:Array Value),u7 (yj P t) ps qs=true→(ep g s.e zs qs).1→cells.size=zs.length →
   (∀(i:Nat) (x:AV) (c:Value),zs[i]?=some x→cells[i]?=some c→RA X s ρ w x c) →
   ∃r ys,Instr.fill x8 cells (ps.map fun p=>(p.1,a.eval p.2))=some r∧(ep g s.e zs qs).2=.agg ys∧r.size=ys.length∧∀(i:Nat) (x:AV) (c:Value),ys[i]?=some x→r[i]?=some c→RA X s ρ w x c
 | [],[],zs,cells,_,_,hs,hr=>⟨cells,zs,by simp [Instr.fill],rfl,hs,hr⟩
 | p::ps,(off,m,y)::qs,zs,cells,hall,hok,hs,hr=>by
  simp [u7] at hall;obtain ⟨hp,hall⟩:=hall;simp only [ep] at hok ⊢;obtain ⟨h1,h234,h5⟩:=hok;obtain ⟨h2,h3,h4⟩:=h234 hg;have hplace:=hpl p _ hp;have hopd:opd p.2 y=true:=by simp [yj] at hp; exact hp.1
  have hx:=g9 hG hg hopd h1;obtain ⟨k1,k2⟩:=au9 hx h2;generalize (y.ev s.e).bare.cells=xs at *;have hf:=ape (a.eval p.2).cells.toList 0 off cells (by simp; omega);simp only [zaj] at hf
  have hfa:((a.eval p.2).cells.zipIdx.foldl (fun cs (q:Value×Nat)=>cs.setIfInBounds (off+q.2) q.1) cells).toList=d7 cells.toList off (a.eval p.2).cells.toList:=by
   rw [← hf,← Array.foldl_toList,Array.toList_zipIdx]
  have hsl:(d7 cells.toList off (a.eval p.2).cells.toList).length=cells.size:=by rw [k7 (by simp; omega)]; simp
  obtain ⟨r,ys,g1,g2,g3,g4⟩:=axg hg hG hpl ps qs (d7 zs off xs) ((a.eval p.2).cells.zipIdx.foldl (fun cs (q:Value×Nat)=>cs.setIfInBounds (off+q.2) q.1) cells) hall h5
   (by rw [← zai,hfa,hsl,k7 (by omega),hs]) (fun i x c hx hc=>by
    rw [z5 (by omega)] at hx;rw [← zbc,hfa,z5 (by simp; omega)] at hc;simp only [zai,k1] at hc;split at hx
    ·rename_i hij;rw [if_pos hij] at hc;exact k2 _ x c hx (by simpa using hc)
    ·rename_i hij;rw [if_neg hij] at hc
     exact hr i x c hx (by simpa using hc))
  refine ⟨r,ys,?_,g2,g3,g4⟩;simp only [List.map_cons,Instr.fill,hplace];rw [if_neg (by simp; omega)];exact g1
 | [],_::_,_,_,h,_,_,_=>by cases h
 | _::_,[],_,_,h,_,_,_=>by cases h
theorem awu {α β:Type} (f:α→Option β) (d:β):∀(l:List α),(l.all fun x=>(f x).isSome)=true→l.mapM f=some (l.map fun x=>(f x).getD d)
 | [],_=>rfl
 | x::l,h=>by
  simp at h;obtain ⟨y,hy⟩:=Option.isSome_iff_exists.1 h.1;have:=awu f d l (by simpa using h.2);simp [List.mapM_cons,hy,this]
theorem a3z {g:Bool} (hg:g=true) {t:TypeId} {inf:TypeInfo} {z:Value} {d:TypeDesc} {zs:List AV} {ps:Array (Nat×Operand)} {qs:List (Nat×Nat×Opd)} (hG:Gam X s ρ a w) (ho:o.op=.build t ps) (hi:P.info? t=some inf) (hz:inf.zero=some z)
  (hzs:u7 eqz z.cells.toList zs=true) (hd:P.underlying t=some d) (hdd:atj P d=true) (hall:u7 (yj P t) ps.toList qs=true) (hok:(ep g s.e zs qs).1) :
  m6 P X a w s ρ o (ep g s.e zs qs).2:=by
 have hparts:(ps.map fun (i,x)=>(i,a.eval x)).toList=ps.toList.map fun p=>(p.1,a.eval p.2):=by simp
 have hzrel:∀(i:Nat) (x:AV) (c:Value),zs[i]?=some x→z.cells[i]?=some c→RA X s ρ w x c:=fun i x c hx hc=>atc (aeo hzs (by simpa using hc) hx);have hzl:z.cells.size=zs.length:=by rw [← ma hzs]; simp
 have key:∀(x8:Nat→Option (Nat×Nat)),(∀(p:Nat×Operand) (q:Nat×Nat×Opd),yj P t p q=true→x8 p.1=some (q.1,q.2.1)) →
   (∀r,Instr.fill x8 z.cells (ps.toList.map fun p=>(p.1,a.eval p.2))=some r→P.built t (ps.toList.map fun p=>(p.1,a.eval p.2))=some r)→m6 P X a w s ρ o (ep g s.e zs qs).2:=by
  intro x8 hpl hb;obtain ⟨r,ys,g1,g2,g3,g4⟩:=axg (P:=P) (t:=t) hg hG hpl ps.toList qs zs z.cells hall hok hzl hzrel;rw [g2];have hrun:=run_build (P:=P) w t (ps.map fun (i,x)=>(i,a.eval x)) r (by rw [hparts]; exact hb r g1);refine ⟨.agg r,?_,.agg _ _ g3 g4⟩;simp only [execOp,ho,Sem.run_bind,hrun,Result.andThen_ok,Sem.run_pure]
 cases d with
 | struct fs=>
  have hm:=awu (fun f=>(P.info? f.type).map fun i=>(f.offset,i.size)) (0,0) fs.toList (by
   simp only [Option.isSome_map];rw [Array.all_toList]
   exact hdd)
  refine key (fun i=>(fs.toList.map fun x=>((P.info? x.type).map fun i=>(x.offset,i.size)).getD (0,0)).toArray[i]?) (fun p q hp=>?_) (fun r hr=>?_)
  ·simp only [yj,hd,zbj] at hp;obtain ⟨_,hp⟩:=hp;split at hp
   ·rename_i f hf;split at hp
    ·rename_i i' hi';simp at hp;simp [hf,hi',hp.1,hp.2]
    ·cases hp
   ·cases hp
  ·unfold Program.built;simp only [hi,hd,hz,hm];exact hr
 | array k e=>
  cases hie:P.info? e with
  | none=>simp [atj,hie] at hdd
  | some ie=>
   refine key (fun i=>some (i*ie.size,ie.size)) (fun p q hp=>?_) (fun r hr=>?_)
   ·simp only [yj,hd,hie,zbj,beq_iff_eq] at hp;rw [hp.2.1,hp.2.2]
   ·unfold Program.built;simp only [hi,hd,hz,hie];exact hr
 | _=>cases hdd
end

end Go.Ev

import Derived.Deep.RegionLaw
import Derived.Deep.RegionHeld3
import Derived.Test.YtpibfnekkfhkmaaGreatM8
open Nat renaming reduceBEq → zB, reduceEqDiff → zE, reduceAdd → zA, reduceSub → zS, reduceLT → zL, reduceLeDiff → zD, reduceMul → zM
open Go.Proofs.Tryz renaming prog → P0
open Go.Proofs.Tryz
open List renaming getElem?_eq_some_iff → zaa, mem_append → zab, mem_cons → zac, mem_of_getElem? → zad, length_nil → zah, length_map → zai, mem_iff_getElem? → zaj, length_cons → zak, mem_map → zal, nodup_cons → zan, drop_eq_getElem_cons → zao, nil_append → zaq, getElem?_append_left → zar, getElem?_take → zas, take_append_drop → zat, length_append → zau, cons_append → zav, setIfInBounds_toArray → zaw, getElem?_toArray → zax, getElem?_inj → zay, mem_or_eq_of_mem_set → zaz, length_drop → zba, getElem?_set → zbb, getElem?_eq_getElem → zbc, flatten_cons → zbd, map_cons → zbe, mem_filter → zbf, getElem?_drop → zbh, append_assoc → zbi, pairwise_iff_getElem → zbj, findIdx?_cons → zbk, map_append → zbm, mem_singleton → zbn, mem_of_mem_take → zbo, mem_of_mem_drop → zbp, length_pos_iff → zbq, exists_cons_of_ne_nil → zbr, getElem?_modify → zbs, filter_sublist → zbt, length_eq_zero_iff → zbu, getLast?_eq_some_getLast → zbv
open Int renaming reduceToNat → zae
open Nat renaming le_refl → zaf
open BitVec renaming ofInt → zam
open Array renaming getElem?_eq_some_iff → zap
open Option renaming toList_some → zbg
open Bool renaming false_eq_true → zbl
namespace Go.Ev
set_option maxHeartbeats 8000000
set_option maxRecDepth 100000
noncomputable section
open Go Go.RowKit
set_option linter.unusedSectionVars false
set_option linter.unnecessarySimpa false
set_option linter.unusedVariables false
theorem ard:(Go.Proofs.Tryz.prog.info? 120).map (λ i=>(i.zero,i.size,i.bytes))=some (some (.agg #[.int .u64 0,.int .i64 0,.int .i64 0]),3,24):=by kernel_rfl
theorem bb3:(Go.Proofs.Tryz.prog.info? 176).map (λ i=>(i.zero,i.size,i.bytes))=some (some (.slice none 0 0),1,24):=by kernel_rfl
variable {P:Program}
theorem apb {t:TypeId} {z:Option Value} {s b:Nat} (h:(P.info? t).map (λ i=>(i.zero,i.size,i.bytes))=some (z,s,b)):∃i,P.info? t=some i/\i.zero=z/\i.size=s/\i.bytes=b:=by
 rcases hi:P.info? t with _ | i
 ·rw [hi] at h; simp at h
 rw [hi] at h;simp at h;exact ⟨i,rfl,h.1,h.2.1,h.2.2⟩
theorem aub {c:Array Oper} {o:Oper} {a:Act} {w:World} {K:Act->World->Prop} {Q:Exit->Act->World->Prop} {E:Prop} (b:o.guard=none) (h:Oper.wp P o a w K Q):if Region.wanted o (yielded c a.tmps)=true then Oper.wp P o a w K Q else E:=by
 rw [if_pos (by simp [Region.wanted,b])];exact h
theorem aw3 {p:Prop} (h:Unit->p):p:=h ()
theorem bjr {w:World} {b cap:Nat} {og:Option Nat} {gs:List Nat} {ns:List (List Ky)} {n:Int} (h:TL w b og gs cap ns n) (k:Ky) (r s:Nat) (l:List Ky) (hN:Nod ns k r) (hl:ns[r-1]?=some l) (hP:Plc l k s) (hs:l[s]?≠some k) (hlen:l.length<32) (hn0:0<=n) (hn1:n<9223372036854775807) :
 Calls P0 64 #[.pointer (some ⟨b,0,none⟩),k.val] w λ e w'=>e=.returned (.bool true) /\
 ∃gs',TL w' b og gs' cap (ns.set (r-1) (l.take s++k::l.drop s)) (n+1)/\Keeps (Ft b og gs) w w'/\∀x,Ft b og gs' x->Ft b og gs x\/w.heap.size<=x:=by
 obtain ⟨g,rfl⟩:=h.some_ hl;have hat:r-1<ns.length:=(zaa.1 hl).1;generalize hr:r-1=i at *;obtain ⟨c0,c1,f0,f1,hlt⟩:=h.root;have hne:((ns.length:Int) == 0)=false:=by rw [beq_eq_false_iff_ne]; omega
 have hk0:∀x,Keeps (λ _=>False) w (w.alloc x):=λ x=>ck;have i0:(0:Int)<=(i:Int):=by omega
 have i1:(i:Int)<(ns.length:Int):=by omega
 obtain ⟨iK,hiK,hzK,hsK,hbK⟩:=apb ard;simp only [Ky.val]
 go_enter func64,Go.Proofs.Tryz.ntmps64
 go_wp2_with fail
 have h1:=h.keeps (hk0 (.cells #[.int .u64 k.c,.int .i64 k.v,.int .i64 k.d] 120)) (λ _ _ q=>q);have b1:KB (w.alloc (.cells #[.int .u64 k.c,.int .i64 k.v,.int .i64 k.d] 120)) w.heap.size k:=ac3 rfl;refine (ayt h1 k r hN).mono ?_;rintro e w2 ⟨rfl,T⟩;rw [hr];have h2:=h1.keeps (T λ _=>False) (λ _ _ q=>q);have b2:=b1.keeps (T λ _=>False) (λ q=>q);obtain ⟨d0,d1,f2,f3,_⟩:=h2.root;obtain ⟨S,c,Y,U,d2,f4⟩:=h2.node hl;obtain ⟨k0,k1,k2⟩:=b2.cells
 go_wp2_with fail
 refine (azj U k s hP).mono ?_;rintro e w3 ⟨rfl,P⟩;rw [decide_eq_false hs];have O:=h2.keeps (P λ _=>False) (λ _ _ q=>q);have b3:=b2.keeps (P λ _=>False) (λ q=>q);have hrow3:aan w3 S l c:=U.loc ((P λ _=>False).block S U.lt λ q=>q);clear d0 d1 f2 f3 d2 f4 k0 k1 k2;obtain ⟨k0,k1,k2⟩:=b3.cells
 go_wp2_with (at_builtin; refine aw3 ?_)
 intro _;obtain ⟨cs,e',hg3,hsz,hf,hlc,hc,hcm⟩:=hrow3;have hl3:S<w3.heap.size:=(zap.1 hg3).1
 refine wpList_plain rfl λ K hK=>axe (.tmp 41) (.tmp 43) _ _ rfl Go.Proofs.Tryz.underlying176 Go.Proofs.Tryz.underlying176 hiK hzK (by rw [hsK]; rfl) hsK hbK S l.length c rfl hc (by rw [ww hl3]; exact hg3) hsz hlc rfl (kc k)
  (aem (ac3 rfl) rfl λ j u R=>by simpa [kc] using R) rfl (by simp [kc,Value.oneCell']) (by simp only [maxLen]; omega) hcm (by omega) ?_
 intro B E W e2 w4 Q hc2 hlc2 hcm2 hg4 hsz2 hf2 hK4;refine hK _ _ ?_;have hsl:s<=l.length:=hP.le;have w1:IntKind.i64.wrap ((s:Int)+1)=(s:Int)+1:=a5 ⟨by omega,by omega⟩;have j0:(0:Int)<=(s:Int):=by omega
 have j1:(s:Int)<=(l.length:Int)+1:=by omega
 have j2:(0:Int)<=(s:Int)+1:=by omega
 have j3:(s:Int)+1<=(l.length:Int)+1:=by omega
 go_wp2_with fail
 have X:(flat l++kc k) <+: W.toList:=by
  exact a1r (fv l) hf (λ j R=>hf2 j (by rw [show (kc k).length=3 from rfl] at R; omega)) (by rw [show (kc k).length=3 from rfl]; omega)
 have hone:∀u∈(W.toList.drop (s*3)).take ((l.length-s)*3),u.oneCell'=true:=a1b X (λ u hu=>by
  rcases zab.1 hu with hu | hu
  ·exact ari u hu
  simp [kc] at hu; rcases hu with rfl | rfl | rfl<;>rfl) (by rw [zau,fv,show (kc k).length=3 from rfl]; omega)
 go_region_held3 (λ _=>True) (trivial) ((refine aub rfl (axd (.tmp 48) (.tmp 51) _ _ rfl Go.Proofs.Tryz.underlying176 hiK hsK B ((s+1)*3) (s*3) (l.length-s) hg4 rfl rfl (by simp only [Nat.min_def]; split<;>omega) (λ hm=>⟨if_neg (by omega),if_neg (by omega)⟩) (by omega) (by omega) hone ?_); intro Z C hK5))
 have hnd:=h.nb;have H:S∈gs:=zad Y;simp only [zbg,zav,zaq,zan,zac,not_or] at hnd;obtain ⟨⟨n1,n2⟩,n3,n4⟩:=hnd;have l1:=h.lt g (.inr (.inl rfl));have l2:=h.lt S (.inr (.inr H))
 have z2:w.heap.size+1<=w3.heap.size:=by
  have a1:=(T λ _=>False).size;have a2:=(P λ _=>False).size;have a3:(w.alloc (.cells #[.int .u64 k.c,.int .i64 k.v,.int .i64 k.d] 120)).heap.size=w.heap.size+1:=ao0;omega
 have z3:(w3.alloc (.cells #[.int .u64 k.c,.int .i64 k.v,.int .i64 k.d] 120)).heap.size=w3.heap.size+1:=ao0;rw [z3] at Q;have D:∀x,x<w3.heap.size->x≠S->x≠B:=λ x h1 h2 O=>by rcases Q with q | q<;>omega
 have A:∀x,x<w3.heap.size->x≠S->Z.heap[x]?=w3.heap[x]?:=λ x h1 h2=>by
  rw [hK5.block x (Nat.lt_of_lt_of_le (by rw [z3]; omega) hK4.size) (D x h1 h2),show w4.drew.heap=w4.heap from rfl,hK4.block x (by rw [z3]; omega) h2,ww h1]
 have m1:b≠S:=λ q=>n2 (q▸H);have m2:g≠S:=λ q=>n3 (q▸H);have hgb:¬b=B:=D b (by omega) m1;have hgg:¬g=B:=D g (by omega) m2;have hgh:¬w.heap.size=B:=D _ (by omega) (by omega);have N:¬B=b:=λ q=>hgb q.symm;have M:¬B=g:=λ q=>hgg q.symm;have hgh':¬B=w.heap.size:=λ q=>hgh q.symm;have hbg:¬b=g:=n1;have hbg':¬g=b:=λ q=>n1 q.symm;obtain ⟨p0,p1,q0,q1,_⟩:=O.root;obtain ⟨_,_,_,_,p2,q2⟩:=O.node hl;have e0:=(dw (A b (by omega) m1) 0).trans p0;have e1:=(dw (A b (by omega) m1) 1).trans p1;have r0:=(ui (A b (by omega) m1) 0).trans q0;have r1:=(ui (A b (by omega) m1) 1).trans q1;have e3:=(dw (A g (by omega) m2) i).trans p2;have r2:=(ui (A g (by omega) m2) i).trans q2
 have e4:=(dw (A w.heap.size (by omega) (by omega)) 0).trans k0;have e5:=(dw (A w.heap.size (by omega) (by omega)) 1).trans k1;have e6:=(dw (A w.heap.size (by omega) (by omega)) 2).trans k2
 have hz5:(d9 W.toList ((s+1)*3) ((W.toList.drop (s*3)).take ((l.length-s)*3))).toArray.size=W.size:=by
  rw [List.size_toArray,m7 (by simp; omega)]; simp
 obtain ⟨v0,e7⟩:=yi C (o:=s*3) (by omega);obtain ⟨v1,e8⟩:=yi C (o:=s*3+1) (by omega);obtain ⟨v2,e9⟩:=yi C (o:=s*3+2) (by omega);have r3:=om (o:=s*3) C;have r4:=om (o:=s*3+1) C;have r5:=om (o:=s*3+2) C;have wn:IntKind.i64.wrap (n+1)=n+1:=a5 ⟨by omega,by omega⟩;have j4:(s:Int)<(l.length:Int)+1:=by omega
 have j5:¬((32:Int)<(l.length:Int)+1):=by omega
 clear k0 k1 k2 p0 p1 q0 q1 p2 q2
 go_wp2_with fail
 ·go_ret
  obtain ⟨ho0,ho⟩:=O.out g rfl;obtain ⟨co,eo,F,hco2,hco4⟩:=ho;obtain ⟨eb,heb⟩:=O.hd;have G0:=(A g (by omega) m2).trans F;have B0:=(A b (by omega) m1).trans heb;have G1:=bd (o:=s*3) (v:=.int .u64 k.c) C;have G2:=bd (o:=s*3+1) (v:=.int .i64 k.v) G1;have G3:=bd (o:=s*3+2) (v:=.int .i64 k.d) G2
  have O1:∀x,x≠B->(((Z.setCell ⟨B,s*3,none⟩ (.int .u64 k.c)).setCell ⟨B,s*3+1,none⟩ (.int .i64 k.v)).setCell ⟨B,s*3+2,none⟩ (.int .i64 k.d)).heap[x]?=Z.heap[x]?:=λ x hx=>by
   rw [z7 G2 hx,z7 G1 hx,z7 C hx]
  have K1:Keeps (· = B) Z (((Z.setCell ⟨B,s*3,none⟩ (.int .u64 k.c)).setCell ⟨B,s*3+1,none⟩ (.int .i64 k.v)).setCell ⟨B,s*3+2,none⟩ (.int .i64 k.d)):=((z8 (I:=(· = B)) C rfl).trans (z8 (I:=(· = B)) G1 rfl)).trans (z8 (I:=(· = B)) G2 rfl);generalize ((Z.setCell ⟨B,s*3,none⟩ (.int .u64 k.c)).setCell ⟨B,s*3+1,none⟩ (.int .i64 k.v)).setCell ⟨B,s*3+2,none⟩ (.int .i64 k.d)=w6 at *;have C0:=(O1 g hgg).trans G0;have C1:=(O1 b hgb).trans B0;have V:(l.take s++k::l.drop s).length=l.length+1:=by simp; omega
  have F1:=bd (o:=i) (v:=.slice (some ⟨B,0,none⟩) (l.length+1) (s+1)) C0;have O2:∀x,x≠g->(w6.setCell ⟨g,i,none⟩ (.slice (some ⟨B,0,none⟩) (l.length+1) (s+1))).heap[x]?=w6.heap[x]?:=λ x hx=>z7 C0 hx;have K2:=z8 (o:=i) (v:=.slice (some ⟨B,0,none⟩) (l.length+1) (s+1)) (I:=λ x=>Ft b (some g) gs x\/w.heap.size<=x) C0 (.inl (.inr (.inl rfl)));generalize w6.setCell ⟨g,i,none⟩ (.slice (some ⟨B,0,none⟩) (l.length+1) (s+1))=w7 at *;have D1:=(O2 b hbg).trans C1;have F2:=bd (o:=1) (v:=.int .i64 (n+1)) D1;have O3:∀x,x≠b->(w7.setCell ⟨b,1,none⟩ (.int .i64 (n+1))).heap[x]?=w7.heap[x]?:=λ x hx=>z7 D1 hx
  have K3:=z8 (o:=1) (v:=.int .i64 (n+1)) (I:=λ x=>Ft b (some g) gs x\/w.heap.size<=x) D1 (.inl (.inl rfl));generalize w7.setCell ⟨b,1,none⟩ (.int .i64 (n+1))=w8 at *
  have L:Ft b (some g) gs B\/w.heap.size<=B:=by
   rcases Q with q | q
   ·exact .inl (.inr (.inr (q▸H)))
   exact .inr (by omega)
  refine ⟨rfl,gs.set i B,O.put hat ⟨eb,F2⟩ ⟨co,eo,F,?_⟩ (c2:=(s+1)) ?_ (λ j x R hx=>?_) ?_,vr ?_,λ x hx=>?_⟩
  ·rw [O3 g hbg',F1,V]
  ·refine ⟨_,e2,by rw [O3 B N,O2 B M]; exact G3,by simp; simp at hz5; omega,?_,by rw [V]; omega,by omega,by omega⟩;intro j u R;have hpi:_ <+: d9 _ _ [Value.int .u64 k.c,Value.int .i64 k.v,Value.int .i64 k.d]:=aja hsl X;rw [<- a3p _ _ _ _ _ (by rw [m7 (by simp; omega)]; simp; omega)] at hpi;obtain ⟨t,ht⟩:=hpi;have:j<(flat (l.take s++k::l.drop s)).length:=(zaa.1 R).1;simp only [zaw,zax];rw [<- ht,zar this];exact R
  ·have G:x∈gs:=zad hx;have x1:x≠b:=λ q=>n2 (q▸G);have x2:x≠g:=λ q=>n3 (q▸G)
   have x3:x≠S:=λ q=>by
    subst q;have:=(zay (zaa.1 hx).1 n4).1 (hx.trans Y.symm);exact R this
   have x4:=O.lt x (.inr (.inr G));rw [O3 x x1,O2 x x2,O1 x (D x x4 x3),A x x4 x3]
  ·rcases Q with q | q
   ·exact .inl (q▸Y)
   refine .inr ⟨N,M,λ hm=>?_⟩;have:=O.lt B (.inr (.inr hm));omega
  ·have kd:Keeps (λ x=>Ft b (some g) gs x\/w.heap.size<=x) w4 w4.drew:=⟨rfl,rfl,rfl,zaf _,λ _ _ _=>rfl⟩
   have k4:=hK4.mono (J:=λ x=>Ft b (some g) gs x\/w.heap.size<=x) λ x hx=>.inl (.inr (.inr (hx▸H)));have k5:=hK5.mono (J:=λ x=>Ft b (some g) gs x\/w.heap.size<=x) λ x hx=>hx▸L;have k6:=K1.mono (J:=λ x=>Ft b (some g) gs x\/w.heap.size<=x) λ x hx=>hx▸L;exact (((((((((ck.trans (T _)).trans (P _)).trans ck).trans k4).trans kd).trans k5).trans k6).trans K2).trans K3)
  rcases hx with q | q | q
  ·exact .inl (.inl q)
  ·exact .inl (.inr (.inl q))
  rcases zaz q with q | q
  ·exact .inl (.inr (.inr q))
  exact q▸L
 go_ret
 obtain ⟨ho0,ho⟩:=O.out g rfl;obtain ⟨co,eo,F,hco2,hco4⟩:=ho;obtain ⟨eb,heb⟩:=O.hd;have G0:=(A g (by omega) m2).trans F;have B0:=(A b (by omega) m1).trans heb;have G1:=bd (o:=s*3) (v:=.int .u64 k.c) C;have G2:=bd (o:=s*3+1) (v:=.int .i64 k.v) G1;have G3:=bd (o:=s*3+2) (v:=.int .i64 k.d) G2
 have O1:∀x,x≠B->(((Z.setCell ⟨B,s*3,none⟩ (.int .u64 k.c)).setCell ⟨B,s*3+1,none⟩ (.int .i64 k.v)).setCell ⟨B,s*3+2,none⟩ (.int .i64 k.d)).heap[x]?=Z.heap[x]?:=λ x hx=>by
  rw [z7 G2 hx,z7 G1 hx,z7 C hx]
 have K1:Keeps (· = B) Z (((Z.setCell ⟨B,s*3,none⟩ (.int .u64 k.c)).setCell ⟨B,s*3+1,none⟩ (.int .i64 k.v)).setCell ⟨B,s*3+2,none⟩ (.int .i64 k.d)):=((z8 (I:=(· = B)) C rfl).trans (z8 (I:=(· = B)) G1 rfl)).trans (z8 (I:=(· = B)) G2 rfl);generalize ((Z.setCell ⟨B,s*3,none⟩ (.int .u64 k.c)).setCell ⟨B,s*3+1,none⟩ (.int .i64 k.v)).setCell ⟨B,s*3+2,none⟩ (.int .i64 k.d)=w6 at *;have C0:=(O1 g hgg).trans G0;have C1:=(O1 b hgb).trans B0;have V:(l.take s++k::l.drop s).length=l.length+1:=by simp; omega
 have F1:=bd (o:=i) (v:=.slice (some ⟨B,0,none⟩) (l.length+1) E) C0;have O2:∀x,x≠g->(w6.setCell ⟨g,i,none⟩ (.slice (some ⟨B,0,none⟩) (l.length+1) E)).heap[x]?=w6.heap[x]?:=λ x hx=>z7 C0 hx;have K2:=z8 (o:=i) (v:=.slice (some ⟨B,0,none⟩) (l.length+1) E) (I:=λ x=>Ft b (some g) gs x\/w.heap.size<=x) C0 (.inl (.inr (.inl rfl)));generalize w6.setCell ⟨g,i,none⟩ (.slice (some ⟨B,0,none⟩) (l.length+1) E)=w7 at *;have D1:=(O2 b hbg).trans C1;have F2:=bd (o:=1) (v:=.int .i64 (n+1)) D1;have O3:∀x,x≠b->(w7.setCell ⟨b,1,none⟩ (.int .i64 (n+1))).heap[x]?=w7.heap[x]?:=λ x hx=>z7 D1 hx;have K3:=z8 (o:=1) (v:=.int .i64 (n+1)) (I:=λ x=>Ft b (some g) gs x\/w.heap.size<=x) D1 (.inl (.inl rfl))
 generalize w7.setCell ⟨b,1,none⟩ (.int .i64 (n+1))=w8 at *
 have L:Ft b (some g) gs B\/w.heap.size<=B:=by
  rcases Q with q | q
  ·exact .inl (.inr (.inr (q▸H)))
  exact .inr (by omega)
 refine ⟨rfl,gs.set i B,O.put hat ⟨eb,F2⟩ ⟨co,eo,F,?_⟩ (c2:=E) ?_ (λ j x R hx=>?_) ?_,vr ?_,λ x hx=>?_⟩
 ·rw [O3 g hbg',F1,V]
 ·refine ⟨_,e2,by rw [O3 B N,O2 B M]; exact G3,by simp; simp at hz5; omega,?_,by rw [V]; omega,by omega,by omega⟩;intro j u R;have hpi:_ <+: d9 _ _ [Value.int .u64 k.c,Value.int .i64 k.v,Value.int .i64 k.d]:=aja hsl X;rw [<- a3p _ _ _ _ _ (by rw [m7 (by simp; omega)]; simp; omega)] at hpi;obtain ⟨t,ht⟩:=hpi;have:j<(flat (l.take s++k::l.drop s)).length:=(zaa.1 R).1;simp only [zaw,zax];rw [<- ht,zar this];exact R
 ·have G:x∈gs:=zad hx;have x1:x≠b:=λ q=>n2 (q▸G);have x2:x≠g:=λ q=>n3 (q▸G)
  have x3:x≠S:=λ q=>by
   subst q;have:=(zay (zaa.1 hx).1 n4).1 (hx.trans Y.symm);exact R this
  have x4:=O.lt x (.inr (.inr G));rw [O3 x x1,O2 x x2,O1 x (D x x4 x3),A x x4 x3]
 ·rcases Q with q | q
  ·exact .inl (q▸Y)
  refine .inr ⟨N,M,λ hm=>?_⟩;have:=O.lt B (.inr (.inr hm));omega
 ·have kd:Keeps (λ x=>Ft b (some g) gs x\/w.heap.size<=x) w4 w4.drew:=⟨rfl,rfl,rfl,zaf _,λ _ _ _=>rfl⟩
  have k4:=hK4.mono (J:=λ x=>Ft b (some g) gs x\/w.heap.size<=x) λ x hx=>.inl (.inr (.inr (hx▸H)));have k5:=hK5.mono (J:=λ x=>Ft b (some g) gs x\/w.heap.size<=x) λ x hx=>hx▸L;have k6:=K1.mono (J:=λ x=>Ft b (some g) gs x\/w.heap.size<=x) λ x hx=>hx▸L;exact (((((((((ck.trans (T _)).trans (P _)).trans ck).trans k4).trans kd).trans k5).trans k6).trans K2).trans K3)
 rcases hx with q | q | q
 ·exact .inl (.inl q)
 ·exact .inl (.inr (.inl q))
 rcases zaz q with q | q
 ·exact .inl (.inr (.inr q))
 exact q▸L

open Go Go.RowKit
theorem a08 {w:World} {b g cap:Nat} {gs:List Nat} {ns:List (List Ky)} {n:Int} (L:TL w b (some g) gs cap ns n) (i:Nat) (l:List Ky) (hl:ns[i]?=some l) (M:l.length=33) (Q:ns.length+1<=1000000) :
 Calls P0 113 #[.pointer (some ⟨b,0,none⟩),.int .i64 (i:Int)] w λ e w'=>(∃v,e=.returned v) /\
 ∃og' gs' cap',TL w' b og' gs' cap' (ns.take i++l.take 16::l.drop 16::ns.drop (i+1)) n/\Keeps (Ft b (some g) gs) w w'/\∀x,Ft b og' gs' x->Ft b (some g) gs x\/w.heap.size<=x:=by
 have hat:i<ns.length:=(zaa.1 hl).1;obtain ⟨c0,c1,f0,f1,hlt⟩:=L.root;obtain ⟨D,c,W,hrow,d2,f4⟩:=L.node hl;have i0:(0:Int)<=(i:Int):=by omega
 have i1:(i:Int)<(ns.length:Int):=by omega
 obtain ⟨iK,hiK,hzK,hsK,hbK⟩:=apb ard;obtain ⟨iR,hiR,hzR,hsR,hbR⟩:=apb bb3;obtain ⟨cs,e',hg3,hsz,hf,hlc,hc,hcm⟩:=hrow;have h16:(16:Int)<=(l.length:Int):=by omega
 have h16':¬c=16:=by omega
 have h16c:(16:Int)<=(c:Int):=by omega
 go_enter func113,Go.Proofs.Tryz.ntmps113
 go_wp2_with (at_builtin; refine aw3 ?_)
 intro _;have hnd:=L.nb;have P:D∈gs:=zad W;simp only [zbg,zav,zaq,zan,zac,not_or] at hnd;obtain ⟨⟨n1,n2⟩,n3,n4⟩:=hnd;have l1:=L.lt g (.inr (.inl rfl));have l2:=L.lt D (.inr (.inr P));have m1:b≠D:=λ q=>n2 (q▸P);have m2:g≠D:=λ q=>n3 (q▸P)
 refine wpList_plain rfl λ K hK=>bel (.tmp 13) (.tmp 15) _ _ rfl Go.Proofs.Tryz.underlying176 Go.Proofs.Tryz.underlying176 hiK hzK (by rw [hsK]; rfl) hsK hbK rfl rfl (by omega) (flat (l.drop 16))
  (aem (by rw [ww l2]; exact hg3) (by rw [fv,zba,M]) λ j u R=>hf (16*3+j) u (by rw [awv (by omega)]; exact R)) (by rw [fv,zba,M]) ari (by simp [maxLen]) (by omega) ?_
 intro E csR w2 hR1 hR2 hR3 hR4 hR5 hK2;refine hK _ _ ?_;rw [ao0] at hR3 |-
 have z2:w.heap.size+1+1<=w2.heap.size:=by
  have:=(zap.1 hR3).1;omega
 have k2:∀I,Keeps I w w2:=λ I=>ck.trans (hK2 I);have S:=L.keeps (k2 λ _=>False) (λ _ _ q=>q);obtain ⟨p0,p1,q0,q1,_⟩:=S.root;obtain ⟨ho0,co,eo,hco1,hco2,Z⟩:=S.out g rfl
 go_wp2_with (at_builtin; refine aw3 ?_)
 intro _
 refine wpList_plain rfl λ K hK=>axe (.tmp 21) (.tmp 22) _ _ rfl Go.Proofs.Tryz.underlying173 Go.Proofs.Tryz.underlying173 hiR hzR (by rw [hsR]; rfl) hsR hbR g ns.length cap rfl ho0 (by rw [ww (by omega)]; exact hco1) (by omega) L.le rfl [.slice none 0 0]
  (aem (ac3 rfl) rfl λ j u R=>by simpa using R) rfl (by intro u T; simp at T; subst T; rfl) (by simp only [maxLen]; omega) L.mx (by omega) ?_
 intro G A C e2 w4 N hc2 hlc2 hcm2 hg4 hsz2 hf2 hK4;refine hK _ _ ?_;have z4:(w2.alloc (.cells #[.slice none 0 0] 176)).heap.size=w2.heap.size+1:=ao0;rw [z4] at N;have hGb:¬G=b:=λ q=>by rcases N with r | r; exact n1 (q▸r); omega
 have X:¬b=G:=λ q=>hGb q.symm
 have hs4:∀x,x<w2.heap.size->x≠g->w4.heap[x]?=w2.heap[x]?:=λ x h1 S=>by
  rw [hK4.block x (by omega) S,ww h1]
 obtain ⟨eb,heb⟩:=S.hd;have B4:=(hs4 b (by omega) n1).trans heb;obtain ⟨vb,b0⟩:=yi (o:=0) B4 (by simp);have b1:=om (o:=0) B4
 go_wp2_with fail
 have F5:=bd (o:=0) (v:=.slice (some ⟨G,0,none⟩) (ns.length+1) A) B4;have O5:∀x,x≠b->(w4.setCell ⟨b,0,none⟩ (.slice (some ⟨G,0,none⟩) (ns.length+1) A)).heap[x]?=w4.heap[x]?:=λ x hx=>z7 B4 hx;have K5:=z8 (o:=0) (v:=.slice (some ⟨G,0,none⟩) (ns.length+1) A) (I:=(· = b)) B4 rfl;generalize w4.setCell ⟨b,0,none⟩ (.slice (some ⟨G,0,none⟩) (ns.length+1) A)=w5 at *;have G5:=(O5 G hGb).trans hg4;have c5:w5.cell? ⟨b,0,none⟩=some (.slice (some ⟨G,0,none⟩) (ns.length+1) A):=by simp [World.cell?,F5]
 have w1:IntKind.i64.wrap ((i:Int)+1)=(i:Int)+1:=a5 ⟨by omega,by omega⟩;have w2':IntKind.i64.wrap ((i:Int)+2)=(i:Int)+2:=a5 ⟨by omega,by omega⟩;have j1:(0:Int)<=(i:Int)+1:=by omega
 have j2:(i:Int)+1<=(ns.length:Int)+1:=by omega
 have j3:(0:Int)<=(i:Int)+2:=by omega
 have j4:(i:Int)+2<=(ns.length:Int)+1:=by omega
 have hcs1:∀u∈(C.toList.drop (i+1)).take ((ns.length-i-1)*1),u.oneCell'=true:=by
  intro u T;obtain ⟨j,R⟩:=zaj.1 T;rw [zas] at R;split at R
  ·rw [zbh,Array.getElem?_toList,hf2 _ (by omega)] at R;rcases zab.1 (zad R) with q | q
   ·obtain ⟨z,U⟩:=zaj.1 q;rw [zas] at U;split at U
    ·rename_i hzl;obtain ⟨_,hy,_⟩:=Z z (gs[z]'(by rw [L.len]; omega)) ns[z] (by simp) (by simp);rw [Array.getElem?_toList,hy] at U;cases U
     rfl
    cases U
   simp at q; subst q; rfl
  cases R
 go_region_held3 (λ w'=>w'.cell? ⟨b,0,none⟩=some (.slice (some ⟨G,0,none⟩) (ns.length+1) A)) (first | assumption | exact (dw (V.block b (zap.1 F5).1 X) 0).trans c5)
  ((refine aub rfl (axd (.tmp 32) (.tmp 39) _ _ rfl Go.Proofs.Tryz.underlying173 hiR hsR G (i+2) (i+1) (ns.length-i-1) G5 rfl rfl (by simp only [Nat.min_def]; split<;>omega) (λ Q=>⟨if_neg (by omega),if_neg (by omega)⟩) (by omega) (by omega) hcs1 ?_); intro w6 H V))
 generalize Value.slice (if A=((i:Int)+2).toNat then some ⟨G,0,none⟩ else some ⟨G,((i:Int)+2).toNat,none⟩) (ns.length+1-((i:Int)+2).toNat) (A-((i:Int)+2).toNat)=V32;have nc1:¬A=i+1:=by omega
 have hB6:w6.heap[b]?=w5.heap[b]?:=V.block b (zap.1 F5).1 X;have c6:w6.cell? ⟨b,0,none⟩=some (.slice (some ⟨G,0,none⟩) (ns.length+1) A):=(dw hB6 0).trans c5
 have hz6:(d9 C.toList (i+2) ((C.toList.drop (i+1)).take ((ns.length-i-1)*1))).toArray.size=C.size:=by
  rw [List.size_toArray,m7 (by simp; omega)]; simp
 obtain ⟨u0,d0⟩:=yi H (o:=i) (by omega);obtain ⟨u1,d1⟩:=yi H (o:=i+1) (by omega);have t0:=om (o:=i) H;have t1:=om (o:=i+1) H;have j5:(i:Int)<(ns.length:Int)+1:=by omega
 have j6:(i:Int)+1<(ns.length:Int)+1:=by omega
 go_wp2_with fail
 go_region_held3 (λ w'=>w'.cell? ⟨b,0,none⟩=some (.slice (some ⟨G,0,none⟩) (ns.length+1) A)) (go_keep) (fail)
 refine bodyPost_end (results_none rfl _ _ _) rfl ?_;have G7:=bd (o:=i) (v:=.slice (some ⟨D,0,none⟩) 16 16) H;have G8:=bd (o:=i+1) (v:=.slice (some ⟨w.heap.size+1,0,none⟩) 17 E) G7
 have O8:∀x,x≠G->((w6.setCell ⟨G,i,none⟩ (.slice (some ⟨D,0,none⟩) 16 16)).setCell ⟨G,i+1,none⟩ (.slice (some ⟨w.heap.size+1,0,none⟩) 17 E)).heap[x]?=w6.heap[x]?:=λ x hx=>by
  rw [z7 G7 hx,z7 H hx]
 have K8:Keeps (· = G) w6 ((w6.setCell ⟨G,i,none⟩ (.slice (some ⟨D,0,none⟩) 16 16)).setCell ⟨G,i+1,none⟩ (.slice (some ⟨w.heap.size+1,0,none⟩) 17 E)):=(z8 (I:=(· = G)) H rfl).trans (z8 (I:=(· = G)) G7 rfl);generalize (w6.setCell ⟨G,i,none⟩ (.slice (some ⟨D,0,none⟩) 16 16)).setCell ⟨G,i+1,none⟩ (.slice (some ⟨w.heap.size+1,0,none⟩) 17 E)=w8 at *;have O:(ns.take i++l.take 16::l.drop 16::ns.drop (i+1)).length=ns.length+1:=by simp; omega
 have hs8:∀x,x<w2.heap.size->x≠g->x≠b->w8.heap[x]?=w2.heap[x]?:=λ x h1 S h3=>by
  have hxG:x≠G:=λ q=>by rcases N with r | r; exact S (q.trans r); omega
  have s4:=hK4.size;have s5:=K5.size;rw [O8 x hxG,V.block x (show x<w5.heap.size by omega) hxG,show w5.drew.heap=w5.heap from rfl,O5 x h3,hs4 x h1 S]
 have hGf:G∉gs:=λ Q=>by
  rcases N with r | r
  ·exact n3 (r▸Q)
  have:=S.lt G (.inr (.inr Q)); omega
 have kd:Keeps (λ x=>Ft b (some g) gs x\/w.heap.size<=x) w8 w8.drew:=⟨rfl,rfl,rfl,zaf _,λ _ _ _=>rfl⟩
 have hI2:Ft b (some g) gs G\/w.heap.size<=G:=by
  rcases N with q | q
  ·exact .inl (.inr (.inl (by rw [q])))
  exact .inr (by omega)
 refine ⟨⟨_,rfl⟩,some G,gs.take i++D::(w.heap.size+1)::gs.drop (i+1),A,⟨⟨eb,?_⟩,by rw [O]; exact hlc2,hcm2,by simp,λ G' hG'=>?_,?_,?_⟩,?_,λ x hx=>?_⟩
 ·show w8.heap[b]? = _;rw [O8 b X,hB6,F5,O]
  rfl
 ·cases hG';refine ⟨hc2,_,_,G8,by simp at hz6 |-; omega,λ j x F hx B=>?_⟩;have R:j<ns.length+1:=by rw [<- O]; exact (zaa.1 B).1
  rw [bku (by rw [L.len]; exact hat)] at hx;rw [bku hat] at B;simp only [zaw,zax,zbb,List.length_set];have hspl:(d9 C.toList (i+2) ((C.toList.drop (i+1)).take ((ns.length-i-1)*1))).length=C.size:=by simpa using hz6
  have hmid:∀z,z<ns.length->∀x F,gs[z]?=some x->ns[z]?=some F->x≠D->∃c,C[z]?=some (.slice (some ⟨x,0,none⟩) F.length c)/\aan w8.drew x F c:=λ z U x F h1' h2' hx'=>by
   obtain ⟨c',q1,q2⟩:=Z z x F h1' h2';refine ⟨c',?_,q2.loc ?_⟩
   ·rw [hf2 z (by omega),zar (by simp; have:=(zap.1 q1).1; omega),zas,if_pos (by omega)];simpa using q1
   have hxm:x∈gs:=zad h1';exact hs8 x (S.lt x (.inr (.inr hxm))) (λ q=>n3 (q▸hxm)) (λ q=>n2 (q▸hxm))
  have hne:∀z x,gs[z]?=some x->z≠i->x≠D:=λ z x U hzi q=>by
   subst q;exact hzi ((zay (zaa.1 U).1 n4).1 (U.trans W.symm))
  have hsa:=cg (l:=C.toList) (m:=(C.toList.drop (i+1)).take ((ns.length-i-1)*1)) (i:=i+2) (by simp; omega);have hsl:((C.toList.drop (i+1)).take ((ns.length-i-1)*1)).length=ns.length-i-1:=by simp; omega
  by_cases p1:j<i
  ·rw [if_pos p1] at hx B;rw [if_neg (by omega),if_neg (by omega),hsa,if_neg (by omega)];simpa using hmid j (by omega) x F hx B (hne j x hx (by omega))
  rw [if_neg p1] at hx B;by_cases p2:j=i
  ·rw [if_pos p2] at hx B;cases hx; cases B;subst p2;rw [if_neg (by omega),if_pos rfl,if_pos (by omega)];refine ⟨16,by simp [M],⟨cs,e',?_,by omega,λ q u T=>hf q u (awu T),by simp only [List.length_take]; omega,by omega,by simp [maxLen]⟩⟩;show w8.heap[D]? = _;rw [hs8 D (by omega) m2.symm m1.symm,(k2 λ _=>False).block D l2 (λ q=>q)];exact hg3
  rw [if_neg p2] at hx B;by_cases p3:j=i+1
  ·rw [if_pos p3] at hx B;cases hx; cases B;subst p3;rw [if_pos rfl,if_pos (by omega)];refine ⟨E,by simp [M],⟨csR,120,?_,hR4,λ q u T=>?_,by simp [M]; omega,by omega,hR2⟩⟩
   ·show w8.heap[w.heap.size+1]? = _;rw [hs8 (w.heap.size+1) (by omega) (by omega) (by omega)];exact hR3
   rw [hR5 q ?_]
   ·exact T
   have:=(zaa.1 T).1;rw [fv,zba,M] at this;omega
  rw [if_neg p3] at hx B;rw [if_neg (by omega),if_neg (by omega),hsa,if_pos (by omega),zas,if_pos (by omega),zbh,show i+1+(j-(i+2))=j-1 by omega];simpa using hmid (j-1) (by omega) x F hx B (hne (j-1) x hx (by omega))
 ·simp [L.len]
 ·have h9:=L.lt;have hnb:w.heap.size+1∉gs:=λ Q=>by have:=L.lt _ (.inr (.inr Q)); omega
  simp only [zbg,zav,zaq,zan,zac,not_or]
  have Y:∀x,x∈gs.take i++D::(w.heap.size+1)::gs.drop (i+1)->x∈gs\/x=w.heap.size+1:=λ x hx=>by
   rcases zab.1 hx with q | q
   ·exact .inl (zbo q)
   rcases zac.1 q with q | q
   ·exact .inl (q▸P)
   rcases zac.1 q with q | q
   ·exact .inr q
   exact .inl (zbp q)
  refine ⟨⟨X,λ Q=>?_⟩,λ Q=>?_,?_⟩
  ·rcases Y b Q with q | q
   ·exact n2 q
   omega
  ·rcases Y G Q with q | q
   ·exact hGf q
   rcases N with r | r<;>omega
  have hperm:(gs.take i++D::(w.heap.size+1)::gs.drop (i+1)).Perm ((w.heap.size+1)::gs):=by
   have e1:gs=gs.take i++D::gs.drop (i+1):=by
    have hi:i<gs.length:=by rw [L.len]; exact hat
    have:gs[i]=D:=by rw [zbc hi] at W; exact Option.some.inj W
    rw [<- this,List.getElem_cons_drop,zat]
   have e2:(gs.take i++D::(w.heap.size+1)::gs.drop (i+1))=(gs.take i++[D])++(w.heap.size+1)::gs.drop (i+1):=by simp
   rw [e2];refine List.perm_middle.trans ?_;refine List.Perm.cons _ ?_;rw [zbi];exact e1▸List.Perm.refl _
  exact hperm.nodup_iff.2 (zan.2 ⟨hnb,n4⟩)
 ·have k4:=hK4.mono (J:=λ x=>Ft b (some g) gs x\/w.heap.size<=x) λ x hx=>.inl (.inr (.inl (by rw [hx])));have k5:=K5.mono (J:=λ x=>Ft b (some g) gs x\/w.heap.size<=x) λ x hx=>.inl (.inl hx);have kd5:Keeps (λ x=>Ft b (some g) gs x\/w.heap.size<=x) w5 w5.drew:=⟨rfl,rfl,rfl,zaf _,λ _ _ _=>rfl⟩
  have k6:=V.mono (J:=λ x=>Ft b (some g) gs x\/w.heap.size<=x) λ x hx=>hx▸hI2;have k8:=K8.mono (J:=λ x=>Ft b (some g) gs x\/w.heap.size<=x) λ x hx=>hx▸hI2;exact vr ((((((((k2 _).trans ck).trans k4).trans k5).trans kd5).trans k6).trans k8).trans kd)
 rcases hx with q | q | q
 ·exact .inl (.inl q)
 ·cases q; exact hI2
 rcases zab.1 q with q | q
 ·exact .inl (.inr (.inr (zbo q)))
 rcases zac.1 q with q | q
 ·exact .inl (.inr (.inr (q▸P)))
 rcases zac.1 q with q | q
 ·exact .inr (by omega)
 exact .inl (.inr (.inr (zbp q)))

open Go Go.RowKit
theorem bjq {w:World} {b cap:Nat} {og:Option Nat} {gs:List Nat} {ns:List (List Ky)} {n:Int} (h:TL w b og gs cap ns n) (k:Ky) (r s:Nat) (l:List Ky) (hN:Nod ns k r) (hl:ns[r-1]?=some l) (hP:Plc l k s) (hs:l[s]?≠some k) (hlen:l.length<=32) (hlen2:32<=l.length) (hm:ns.length+1<=1000000) (hn0:0<=n) (hn1:n<9223372036854775807) :
 Calls P0 64 #[.pointer (some ⟨b,0,none⟩),k.val] w λ e w'=>e=.returned (.bool true) /\
 ∃T D F,TL w' b T D F (ns.take (r-1)++(l.take s++k::l.drop s).take 16::(l.take s++k::l.drop s).drop 16::ns.drop (r-1+1)) (n+1)/\Keeps (Ft b og gs) w w'/\∀x,Ft b T D x->Ft b og gs x\/w.heap.size<=x:=by
 obtain ⟨g,rfl⟩:=h.some_ hl;have hat:r-1<ns.length:=(zaa.1 hl).1;generalize hr:r-1=i at *;obtain ⟨c0,c1,f0,f1,hlt⟩:=h.root;have hne:((ns.length:Int) == 0)=false:=by rw [beq_eq_false_iff_ne]; omega
 have hk0:∀x,Keeps (λ _=>False) w (w.alloc x):=λ x=>ck;have i0:(0:Int)<=(i:Int):=by omega
 have i1:(i:Int)<(ns.length:Int):=by omega
 obtain ⟨iK,hiK,hzK,hsK,hbK⟩:=apb ard;simp only [Ky.val]
 go_enter func64,Go.Proofs.Tryz.ntmps64
 go_wp2_with fail
 have h1:=h.keeps (hk0 (.cells #[.int .u64 k.c,.int .i64 k.v,.int .i64 k.d] 120)) (λ _ _ q=>q);have b1:KB (w.alloc (.cells #[.int .u64 k.c,.int .i64 k.v,.int .i64 k.d] 120)) w.heap.size k:=ac3 rfl;refine (ayt h1 k r hN).mono ?_;rintro e w2 ⟨rfl,X⟩;rw [hr];have h2:=h1.keeps (X λ _=>False) (λ _ _ q=>q);have b2:=b1.keeps (X λ _=>False) (λ q=>q);obtain ⟨d0,d1,f2,f3,_⟩:=h2.root;obtain ⟨W,c,hg',Z,d2,f4⟩:=h2.node hl;obtain ⟨k0,k1,k2⟩:=b2.cells
 go_wp2_with fail
 refine (azj Z k s hP).mono ?_;rintro e w3 ⟨rfl,S⟩;rw [decide_eq_false hs];have R:=h2.keeps (S λ _=>False) (λ _ _ q=>q);have b3:=b2.keeps (S λ _=>False) (λ q=>q);have hrow3:aan w3 W l c:=Z.loc ((S λ _=>False).block W Z.lt λ q=>q);clear d0 d1 f2 f3 d2 f4 k0 k1 k2;obtain ⟨k0,k1,k2⟩:=b3.cells
 go_wp2_with (at_builtin; refine aw3 ?_)
 intro _;obtain ⟨cs,e',hg3,hsz,hf,hlc,hc,hcm⟩:=hrow3;have hl3:W<w3.heap.size:=(zap.1 hg3).1
 refine wpList_plain rfl λ K hK=>axe (.tmp 41) (.tmp 43) _ _ rfl Go.Proofs.Tryz.underlying176 Go.Proofs.Tryz.underlying176 hiK hzK (by rw [hsK]; rfl) hsK hbK W l.length c rfl hc (by rw [ww hl3]; exact hg3) hsz hlc rfl (kc k)
  (aem (ac3 rfl) rfl λ j u V=>by simpa [kc] using V) rfl (by simp [kc,Value.oneCell']) (by simp only [maxLen]; omega) hcm (by omega) ?_
 intro B G cs2 e2 w4 U hc2 hlc2 hcm2 hg4 hsz2 hf2 hK4;refine hK _ _ ?_;have hsl:s<=l.length:=hP.le;have w1:IntKind.i64.wrap ((s:Int)+1)=(s:Int)+1:=a5 ⟨by omega,by omega⟩;have j0:(0:Int)<=(s:Int):=by omega
 have j1:(s:Int)<=(l.length:Int)+1:=by omega
 have j2:(0:Int)<=(s:Int)+1:=by omega
 have j3:(s:Int)+1<=(l.length:Int)+1:=by omega
 go_wp2_with fail
 have hpre:(flat l++kc k) <+: cs2.toList:=by
  exact a1r (fv l) hf (λ j V=>hf2 j (by rw [show (kc k).length=3 from rfl] at V; omega)) (by rw [show (kc k).length=3 from rfl]; omega)
 have hone:∀u∈(cs2.toList.drop (s*3)).take ((l.length-s)*3),u.oneCell'=true:=a1b hpre (λ u hu=>by
  rcases zab.1 hu with hu | hu
  ·exact ari u hu
  simp [kc] at hu; rcases hu with rfl | rfl | rfl<;>rfl) (by rw [zau,fv,show (kc k).length=3 from rfl]; omega)
 go_region_held3 (λ _=>True) (trivial) ((refine aub rfl (axd (.tmp 48) (.tmp 51) _ _ rfl Go.Proofs.Tryz.underlying176 hiK hsK B ((s+1)*3) (s*3) (l.length-s) hg4 rfl rfl (by simp only [Nat.min_def]; split<;>omega) (λ hm=>⟨if_neg (by omega),if_neg (by omega)⟩) (by omega) (by omega) hone ?_); intro w5 C hK5))
 have hnd:=h.nb;have N:W∈gs:=zad hg';simp only [zbg,zav,zaq,zan,zac,not_or] at hnd;obtain ⟨⟨n1,n2⟩,n3,n4⟩:=hnd;have l1:=h.lt g (.inr (.inl rfl));have l2:=h.lt W (.inr (.inr N))
 have z2:w.heap.size+1<=w3.heap.size:=by
  have a1:=(X λ _=>False).size;have a2:=(S λ _=>False).size;have a3:(w.alloc (.cells #[.int .u64 k.c,.int .i64 k.v,.int .i64 k.d] 120)).heap.size=w.heap.size+1:=ao0;omega
 have z3:(w3.alloc (.cells #[.int .u64 k.c,.int .i64 k.v,.int .i64 k.d] 120)).heap.size=w3.heap.size+1:=ao0;rw [z3] at U;have E:∀x,x<w3.heap.size->x≠W->x≠B:=λ x h1 h2 R=>by rcases U with q | q<;>omega
 have A:∀x,x<w3.heap.size->x≠W->w5.heap[x]?=w3.heap[x]?:=λ x h1 h2=>by
  rw [hK5.block x (Nat.lt_of_lt_of_le (by rw [z3]; omega) hK4.size) (E x h1 h2),show w4.drew.heap=w4.heap from rfl,hK4.block x (by rw [z3]; omega) h2,ww h1]
 have m1:b≠W:=λ q=>n2 (q▸N);have m2:g≠W:=λ q=>n3 (q▸N);have hgb:¬b=B:=E b (by omega) m1;have hgg:¬g=B:=E g (by omega) m2;have hgh:¬w.heap.size=B:=E _ (by omega) (by omega);have Q:¬B=b:=λ q=>hgb q.symm;have P:¬B=g:=λ q=>hgg q.symm;have hgh':¬B=w.heap.size:=λ q=>hgh q.symm;have hbg:¬b=g:=n1;have hbg':¬g=b:=λ q=>n1 q.symm;obtain ⟨p0,p1,q0,q1,_⟩:=R.root;obtain ⟨_,_,_,_,p2,q2⟩:=R.node hl;have e0:=(dw (A b (by omega) m1) 0).trans p0;have e1:=(dw (A b (by omega) m1) 1).trans p1;have r0:=(ui (A b (by omega) m1) 0).trans q0;have r1:=(ui (A b (by omega) m1) 1).trans q1;have e3:=(dw (A g (by omega) m2) i).trans p2;have r2:=(ui (A g (by omega) m2) i).trans q2
 have e4:=(dw (A w.heap.size (by omega) (by omega)) 0).trans k0;have e5:=(dw (A w.heap.size (by omega) (by omega)) 1).trans k1;have e6:=(dw (A w.heap.size (by omega) (by omega)) 2).trans k2
 have hz5:(d9 cs2.toList ((s+1)*3) ((cs2.toList.drop (s*3)).take ((l.length-s)*3))).toArray.size=cs2.size:=by
  rw [List.size_toArray,m7 (by simp; omega)]; simp
 obtain ⟨v0,e7⟩:=yi C (o:=s*3) (by omega);obtain ⟨v1,e8⟩:=yi C (o:=s*3+1) (by omega);obtain ⟨v2,e9⟩:=yi C (o:=s*3+2) (by omega);have r3:=om (o:=s*3) C;have r4:=om (o:=s*3+1) C;have r5:=om (o:=s*3+2) C;have wn:IntKind.i64.wrap (n+1)=n+1:=a5 ⟨by omega,by omega⟩;have j4:(s:Int)<(l.length:Int)+1:=by omega
 have j5:(32:Int)<(l.length:Int)+1:=by omega
 clear k0 k1 k2 p0 p1 q0 q1 p2 q2
 go_wp2_with fail
 ·obtain ⟨ho0,ho⟩:=R.out g rfl;obtain ⟨co,eo,H,hco2,hco4⟩:=ho;obtain ⟨eb,heb⟩:=R.hd;have G0:=(A g (by omega) m2).trans H;have B0:=(A b (by omega) m1).trans heb;have G1:=bd (o:=s*3) (v:=.int .u64 k.c) C;have G2:=bd (o:=s*3+1) (v:=.int .i64 k.v) G1;have G3:=bd (o:=s*3+2) (v:=.int .i64 k.d) G2
  have O1:∀x,x≠B->(((w5.setCell ⟨B,s*3,none⟩ (.int .u64 k.c)).setCell ⟨B,s*3+1,none⟩ (.int .i64 k.v)).setCell ⟨B,s*3+2,none⟩ (.int .i64 k.d)).heap[x]?=w5.heap[x]?:=λ x hx=>by
   rw [z7 G2 hx,z7 G1 hx,z7 C hx]
  have K1:Keeps (· = B) w5 (((w5.setCell ⟨B,s*3,none⟩ (.int .u64 k.c)).setCell ⟨B,s*3+1,none⟩ (.int .i64 k.v)).setCell ⟨B,s*3+2,none⟩ (.int .i64 k.d)):=((z8 (I:=(· = B)) C rfl).trans (z8 (I:=(· = B)) G1 rfl)).trans (z8 (I:=(· = B)) G2 rfl);generalize ((w5.setCell ⟨B,s*3,none⟩ (.int .u64 k.c)).setCell ⟨B,s*3+1,none⟩ (.int .i64 k.v)).setCell ⟨B,s*3+2,none⟩ (.int .i64 k.d)=w6 at *;have C0:=(O1 g hgg).trans G0;have C1:=(O1 b hgb).trans B0;have M:(l.take s++k::l.drop s).length=l.length+1:=by simp; omega
  have F1:=bd (o:=i) (v:=.slice (some ⟨B,0,none⟩) (l.length+1) (s+1)) C0;have O2:∀x,x≠g->(w6.setCell ⟨g,i,none⟩ (.slice (some ⟨B,0,none⟩) (l.length+1) (s+1))).heap[x]?=w6.heap[x]?:=λ x hx=>z7 C0 hx;have K2:=z8 (o:=i) (v:=.slice (some ⟨B,0,none⟩) (l.length+1) (s+1)) (I:=λ x=>Ft b (some g) gs x\/w.heap.size<=x) C0 (.inl (.inr (.inl rfl)));generalize w6.setCell ⟨g,i,none⟩ (.slice (some ⟨B,0,none⟩) (l.length+1) (s+1))=w7 at *;have D1:=(O2 b hbg).trans C1;have F2:=bd (o:=1) (v:=.int .i64 (n+1)) D1;have O3:∀x,x≠b->(w7.setCell ⟨b,1,none⟩ (.int .i64 (n+1))).heap[x]?=w7.heap[x]?:=λ x hx=>z7 D1 hx
  have K3:=z8 (o:=1) (v:=.int .i64 (n+1)) (I:=λ x=>Ft b (some g) gs x\/w.heap.size<=x) D1 (.inl (.inl rfl));generalize w7.setCell ⟨b,1,none⟩ (.int .i64 (n+1))=w8 at *
  have O:Ft b (some g) gs B\/w.heap.size<=B:=by
   rcases U with q | q
   ·exact .inl (.inr (.inr (q▸N)))
   exact .inr (by omega)
  have Y:∃D,TL w8 b (some g) D cap (ns.set i (l.take s++k::l.drop s)) (n+1)/\Keeps (Ft b (some g) gs) w w8/\∀x,Ft b (some g) D x->Ft b (some g) gs x\/w.heap.size<=x:=by
   refine ⟨gs.set i B,R.put hat ⟨eb,F2⟩ ⟨co,eo,H,?_⟩ (c2:=(s+1)) ?_ (λ j x V hx=>?_) ?_,vr ?_,λ x hx=>?_⟩
   ·rw [O3 g hbg',F1,M]
   ·refine ⟨_,e2,by rw [O3 B Q,O2 B P]; exact G3,by simp; simp at hz5; omega,?_,by rw [M]; omega,by omega,by omega⟩;intro j u V;have hpi:_ <+: d9 _ _ [Value.int .u64 k.c,Value.int .i64 k.v,Value.int .i64 k.d]:=aja hsl hpre;rw [<- a3p _ _ _ _ _ (by rw [m7 (by simp; omega)]; simp; omega)] at hpi;obtain ⟨t,ht⟩:=hpi;have:j<(flat (l.take s++k::l.drop s)).length:=(zaa.1 V).1;simp only [zaw,zax];rw [<- ht,zar this];exact V
   ·have L:x∈gs:=zad hx;have x1:x≠b:=λ q=>n2 (q▸L);have x2:x≠g:=λ q=>n3 (q▸L)
    have x3:x≠W:=λ q=>by
     subst q;have:=(zay (zaa.1 hx).1 n4).1 (hx.trans hg'.symm);exact V this
    have x4:=R.lt x (.inr (.inr L));rw [O3 x x1,O2 x x2,O1 x (E x x4 x3),A x x4 x3]
   ·rcases U with q | q
    ·exact .inl (q▸hg')
    refine .inr ⟨Q,P,λ hm=>?_⟩;have:=R.lt B (.inr (.inr hm));omega
   ·have kd:Keeps (λ x=>Ft b (some g) gs x\/w.heap.size<=x) w4 w4.drew:=⟨rfl,rfl,rfl,zaf _,λ _ _ _=>rfl⟩
    have k4:=hK4.mono (J:=λ x=>Ft b (some g) gs x\/w.heap.size<=x) λ x hx=>.inl (.inr (.inr (hx▸N)));have k5:=hK5.mono (J:=λ x=>Ft b (some g) gs x\/w.heap.size<=x) λ x hx=>hx▸O;have k6:=K1.mono (J:=λ x=>Ft b (some g) gs x\/w.heap.size<=x) λ x hx=>hx▸O;exact (((((((((ck.trans (X _)).trans (S _)).trans ck).trans k4).trans kd).trans k5).trans k6).trans K2).trans K3)
   rcases hx with q | q | q
   ·exact .inl (.inl q)
   ·exact .inl (.inr (.inl q))
   rcases zaz q with q | q
   ·exact .inl (.inr (.inr q))
   exact q▸O
  obtain ⟨gs2,T8,K8',F8⟩:=Y;have hl8:(ns.set i (l.take s++k::l.drop s))[i]?=some (l.take s++k::l.drop s):=by simp [hat]
  refine (a08 T8 i _ hl8 (by rw [M]; omega) (by simpa using hm)).mono ?_;rintro e w9 ⟨⟨v,rfl⟩,T,D,F,T9,K9,F9⟩
  go_wp2_with fail
  go_ret
  refine ⟨rfl,T,D,F,?_,?_,λ x hx=>?_⟩
  ·have ta:(ns.set i (l.take s++k::l.drop s)).take i=ns.take i:=by rw [List.take_set_of_le (zaf _)]
   have da:(ns.set i (l.take s++k::l.drop s)).drop (i+1)=ns.drop (i+1):=by rw [List.drop_set_of_lt (by omega)]
   rw [ta,da] at T9;exact T9
  ·refine vr ((K8'.mono λ x hx=>.inl hx).trans (K9.mono λ x hx=>F8 x hx))
  rcases F9 x hx with q | q
  ·exact F8 x q
  have:=K8'.size; exact .inr (by omega)
 obtain ⟨ho0,ho⟩:=R.out g rfl;obtain ⟨co,eo,H,hco2,hco4⟩:=ho;obtain ⟨eb,heb⟩:=R.hd;have G0:=(A g (by omega) m2).trans H;have B0:=(A b (by omega) m1).trans heb;have G1:=bd (o:=s*3) (v:=.int .u64 k.c) C;have G2:=bd (o:=s*3+1) (v:=.int .i64 k.v) G1;have G3:=bd (o:=s*3+2) (v:=.int .i64 k.d) G2
 have O1:∀x,x≠B->(((w5.setCell ⟨B,s*3,none⟩ (.int .u64 k.c)).setCell ⟨B,s*3+1,none⟩ (.int .i64 k.v)).setCell ⟨B,s*3+2,none⟩ (.int .i64 k.d)).heap[x]?=w5.heap[x]?:=λ x hx=>by
  rw [z7 G2 hx,z7 G1 hx,z7 C hx]
 have K1:Keeps (· = B) w5 (((w5.setCell ⟨B,s*3,none⟩ (.int .u64 k.c)).setCell ⟨B,s*3+1,none⟩ (.int .i64 k.v)).setCell ⟨B,s*3+2,none⟩ (.int .i64 k.d)):=((z8 (I:=(· = B)) C rfl).trans (z8 (I:=(· = B)) G1 rfl)).trans (z8 (I:=(· = B)) G2 rfl);generalize ((w5.setCell ⟨B,s*3,none⟩ (.int .u64 k.c)).setCell ⟨B,s*3+1,none⟩ (.int .i64 k.v)).setCell ⟨B,s*3+2,none⟩ (.int .i64 k.d)=w6 at *;have C0:=(O1 g hgg).trans G0;have C1:=(O1 b hgb).trans B0;have M:(l.take s++k::l.drop s).length=l.length+1:=by simp; omega
 have F1:=bd (o:=i) (v:=.slice (some ⟨B,0,none⟩) (l.length+1) G) C0;have O2:∀x,x≠g->(w6.setCell ⟨g,i,none⟩ (.slice (some ⟨B,0,none⟩) (l.length+1) G)).heap[x]?=w6.heap[x]?:=λ x hx=>z7 C0 hx;have K2:=z8 (o:=i) (v:=.slice (some ⟨B,0,none⟩) (l.length+1) G) (I:=λ x=>Ft b (some g) gs x\/w.heap.size<=x) C0 (.inl (.inr (.inl rfl)));generalize w6.setCell ⟨g,i,none⟩ (.slice (some ⟨B,0,none⟩) (l.length+1) G)=w7 at *;have D1:=(O2 b hbg).trans C1;have F2:=bd (o:=1) (v:=.int .i64 (n+1)) D1;have O3:∀x,x≠b->(w7.setCell ⟨b,1,none⟩ (.int .i64 (n+1))).heap[x]?=w7.heap[x]?:=λ x hx=>z7 D1 hx;have K3:=z8 (o:=1) (v:=.int .i64 (n+1)) (I:=λ x=>Ft b (some g) gs x\/w.heap.size<=x) D1 (.inl (.inl rfl))
 generalize w7.setCell ⟨b,1,none⟩ (.int .i64 (n+1))=w8 at *
 have O:Ft b (some g) gs B\/w.heap.size<=B:=by
  rcases U with q | q
  ·exact .inl (.inr (.inr (q▸N)))
  exact .inr (by omega)
 have Y:∃D,TL w8 b (some g) D cap (ns.set i (l.take s++k::l.drop s)) (n+1)/\Keeps (Ft b (some g) gs) w w8/\∀x,Ft b (some g) D x->Ft b (some g) gs x\/w.heap.size<=x:=by
  refine ⟨gs.set i B,R.put hat ⟨eb,F2⟩ ⟨co,eo,H,?_⟩ (c2:=G) ?_ (λ j x V hx=>?_) ?_,vr ?_,λ x hx=>?_⟩
  ·rw [O3 g hbg',F1,M]
  ·refine ⟨_,e2,by rw [O3 B Q,O2 B P]; exact G3,by simp; simp at hz5; omega,?_,by rw [M]; omega,by omega,by omega⟩;intro j u V;have hpi:_ <+: d9 _ _ [Value.int .u64 k.c,Value.int .i64 k.v,Value.int .i64 k.d]:=aja hsl hpre;rw [<- a3p _ _ _ _ _ (by rw [m7 (by simp; omega)]; simp; omega)] at hpi;obtain ⟨t,ht⟩:=hpi;have:j<(flat (l.take s++k::l.drop s)).length:=(zaa.1 V).1;simp only [zaw,zax];rw [<- ht,zar this];exact V
  ·have L:x∈gs:=zad hx;have x1:x≠b:=λ q=>n2 (q▸L);have x2:x≠g:=λ q=>n3 (q▸L)
   have x3:x≠W:=λ q=>by
    subst q;have:=(zay (zaa.1 hx).1 n4).1 (hx.trans hg'.symm);exact V this
   have x4:=R.lt x (.inr (.inr L));rw [O3 x x1,O2 x x2,O1 x (E x x4 x3),A x x4 x3]
  ·rcases U with q | q
   ·exact .inl (q▸hg')
   refine .inr ⟨Q,P,λ hm=>?_⟩;have:=R.lt B (.inr (.inr hm));omega
  ·have kd:Keeps (λ x=>Ft b (some g) gs x\/w.heap.size<=x) w4 w4.drew:=⟨rfl,rfl,rfl,zaf _,λ _ _ _=>rfl⟩
   have k4:=hK4.mono (J:=λ x=>Ft b (some g) gs x\/w.heap.size<=x) λ x hx=>.inl (.inr (.inr (hx▸N)));have k5:=hK5.mono (J:=λ x=>Ft b (some g) gs x\/w.heap.size<=x) λ x hx=>hx▸O;have k6:=K1.mono (J:=λ x=>Ft b (some g) gs x\/w.heap.size<=x) λ x hx=>hx▸O;exact (((((((((ck.trans (X _)).trans (S _)).trans ck).trans k4).trans kd).trans k5).trans k6).trans K2).trans K3)
  rcases hx with q | q | q
  ·exact .inl (.inl q)
  ·exact .inl (.inr (.inl q))
  rcases zaz q with q | q
  ·exact .inl (.inr (.inr q))
  exact q▸O
 obtain ⟨gs2,T8,K8',F8⟩:=Y;have hl8:(ns.set i (l.take s++k::l.drop s))[i]?=some (l.take s++k::l.drop s):=by simp [hat]
 refine (a08 T8 i _ hl8 (by rw [M]; omega) (by simpa using hm)).mono ?_;rintro e w9 ⟨⟨v,rfl⟩,T,D,F,T9,K9,F9⟩
 go_wp2_with fail
 go_ret
 refine ⟨rfl,T,D,F,?_,?_,λ x hx=>?_⟩
 ·have ta:(ns.set i (l.take s++k::l.drop s)).take i=ns.take i:=by rw [List.take_set_of_le (zaf _)]
  have da:(ns.set i (l.take s++k::l.drop s)).drop (i+1)=ns.drop (i+1):=by rw [List.drop_set_of_lt (by omega)]
  rw [ta,da] at T9;exact T9
 ·refine vr ((K8'.mono λ x hx=>.inl hx).trans (K9.mono λ x hx=>F8 x hx))
 rcases F9 x hx with q | q
 ·exact F8 x q
 have:=K8'.size; exact .inr (by omega)

open Go Go.RowKit

open Go Go.RowKit

open Go Go.RowKit

open Go
theorem as6 (a:Ky):kl a a=false:=by simp [kl]
variable {b a:Ky}
theorem alk {c:Ky} (d:kl a b=true) (e:kl b c=true):kl a c=true:=by
 unfold kl at *;split at d<;>split at e<;>split<;>(try split at d)<;>(try split at e)<;>(try split)<;>simp at * <;> omega
theorem bkq (d:kl a b=false) (c:kl b a=false):a=b:=by
 rcases a with ⟨i,h,f⟩
 rcases b with ⟨e,g,j⟩
 unfold kl at *;simp only [Ky.mk.injEq];split at d<;>split at c<;>(try split at d)<;>(try split at c)<;>simp at * <;> omega
theorem bd7 (c:kl b a=false):a=b\/kl a b=true:=by
 cases h:kl a b
 ·exact .inl (bkq h c)
 exact .inr rfl
abbrev Srt (l:List Ky):Prop:=l.Pairwise λ a b=>kl a b=true
structure Good (ns:List (List Ky)):Prop where
 ne:∀l∈ns,l≠[]/\l.length<=32
 so:Srt ns.flatten
def nk (k:Ky):List Ky->Bool
 | q::_=>kl k q
 | []=>true
def p6 (ns:List (List Ky)) (k:Ky):Nat:=ns.findIdx (nk k)
def plc (l:List Ky) (k:Ky):Nat:=l.findIdx λ q=>!kl q k
variable {j:Nat}
theorem a55 {l:List Ky} (h:Srt l) {i:Nat} (c:i<j) (d:l[i]?=some a) (e:l[j]?=some b):kl a b=true:=by
 obtain ⟨hi,rfl⟩:=zaa.1 d;obtain ⟨f,rfl⟩:=zaa.1 e;exact zbj.1 h i j hi f c
theorem bj0 {l:List Ky} (h:Srt l) (k:Ky):Plc l k (plc l k):=by
 refine ⟨List.findIdx_le_length,λ i q hi b=>?_,λ i q hi b=>?_⟩
 ·obtain ⟨d,rfl⟩:=zaa.1 b;have:=List.not_of_lt_findIdx hi;simpa using this
 obtain ⟨d,rfl⟩:=zaa.1 b;have c:plc l k<l.length:=by omega
 have a:kl l[plc l k] k=false:=by
  have:=List.findIdx_getElem (w:=c);simp only [Bool.not_eq_true'] at this;exact this
 by_cases f:plc l k=i
 ·subst f; exact a
 have e:=a55 h (show plc l k<i by omega) (zbc c) (zbc d);cases h2:kl l[i] k
 ·rfl
 rw [alk e h2] at a; cases a
theorem Good.node {ns:List (List Ky)} (h:Good ns) {i:Nat} {l:List Ky} (a:ns[i]?=some l):Srt l:=(List.pairwise_flatten.1 h.so).1 l (zad a)
theorem Good.apart {ns:List (List Ky)} (h:Good ns) {i:Nat} {l m:List Ky} (a:i<j) (b:ns[i]?=some l) (d:ns[j]?=some m):∀x∈l,∀y∈m,kl x y=true:=by
 obtain ⟨hi,rfl⟩:=zaa.1 b;obtain ⟨c,rfl⟩:=zaa.1 d;exact zbj.1 (List.pairwise_flatten.1 h.so).2 i j hi c a
theorem Good.len {ns:List (List Ky)} (h:∀l∈ns,l≠[]):ns.length<=ns.flatten.length:=by
 induction ns with
 | nil=>simp
 | cons l ns ih=>
   have b:l≠[]:=h l (by simp);have c:=ih λ l a=>h l (by simp [a]);have d:0<l.length:=zbq.2 b;simp only [zak,zbd,zau];omega
theorem awa {ns:List (List Ky)} (h:Good ns) (j:ns.flatten.length<=1000000) (k:Ky):Nod ns k (p6 ns k):=by
 refine ⟨List.findIdx_le_length,?_,λ i l a=>?_,λ i q x hi c=>?_,λ i q x hi c=>?_⟩
 ·have:=Good.len λ l a=>(h.ne l a).1;simp only [maxLen];omega
 ·have:=h.ne l (zad a);exact ⟨this.1,by simp only [maxLen]; omega⟩
 ·obtain ⟨a,hx⟩:=zaa.1 c;have:=List.not_of_lt_findIdx hi;rw [hx] at this;simpa [nk] using this
 obtain ⟨a,hx⟩:=zaa.1 c;have d:p6 ns k<ns.length:=by omega
 have b:nk k ns[p6 ns k]=true:=List.findIdx_getElem (w:=d);by_cases g:p6 ns k=i
 ·have:ns[p6 ns k]=q::x:=by subst g; exact hx
  rw [this] at b;exact b
 rcases hq0:ns[p6 ns k] with _ | ⟨e,m⟩
 ·exact absurd hq0 (h.ne _ (List.getElem_mem d)).1
 rw [hq0] at b;have f:=h.apart (show p6 ns k<i by omega) ((zbc d).trans (by rw [hq0])) c e (by simp) q (by simp);exact alk b f
def my (ns:List (List Ky)) (k:Ky):List (List Ky)×Bool:=
 if ns=[] then ([[k]],true) else
  if (ns.getD (p6 ns k-1) [])[plc (ns.getD (p6 ns k-1) []) k]?=some k then (ns,false) else
   if (ns.getD (p6 ns k-1) []).length<32 then
    (ns.set (p6 ns k-1) ((ns.getD (p6 ns k-1) []).take (plc (ns.getD (p6 ns k-1) []) k)++k::(ns.getD (p6 ns k-1) []).drop (plc (ns.getD (p6 ns k-1) []) k)),true)
   else
    (ns.take (p6 ns k-1)++((ns.getD (p6 ns k-1) []).take (plc (ns.getD (p6 ns k-1) []) k)++k::(ns.getD (p6 ns k-1) []).drop (plc (ns.getD (p6 ns k-1) []) k)).take 16 ::
     ((ns.getD (p6 ns k-1) []).take (plc (ns.getD (p6 ns k-1) []) k)++k::(ns.getD (p6 ns k-1) []).drop (plc (ns.getD (p6 ns k-1) []) k)).drop 16::ns.drop (p6 ns k-1+1),true)
structure Spt (ns:List (List Ky)) (k:Ky) (i s:Nat) (l:List Ky):Prop where
 nx:p6 ns k-1=i
 nd:Nod ns k (p6 ns k)
 at_:ns[i]?=some l
 gd:ns.getD i []=l
 px:plc l k=s
 pl:Plc l k s
 ahead:∀x∈(ns.take i).flatten,kl x k=true
 behind:∀x∈(ns.drop (i+1)).flatten,kl k x=true
 all:ns.flatten=(ns.take i).flatten++(l++(ns.drop (i+1)).flatten)
 ne:l≠[]
 le:l.length<=32
theorem spt {ns:List (List Ky)} (h:Good ns) (z:ns.flatten.length<=1000000) (k:Ky) (y:ns≠[]):∃i s l,Spt ns k i s l:=by
 have hN:=awa h z k;have u:0<ns.length:=zbq.2 y;have hi:p6 ns k-1<ns.length:=by have:=hN.le; omega
 have b:ns[p6 ns k-1]?=some ns[p6 ns k-1]:=zbc hi;obtain ⟨l,e⟩:∃l,ns[p6 ns k-1]=l:=⟨_,rfl⟩
 rw [e] at b;have c:=h.ne l (zad b);refine ⟨p6 ns k-1,plc l k,l,rfl,hN,b,by simp [List.getD,b],rfl,bj0 (h.node b) k,λ x hx=>?_,λ x hx=>?_,?_,c.1,c.2⟩
 ·obtain ⟨m,n,d⟩:=List.mem_flatten.1 hx;obtain ⟨j,a⟩:=zaj.1 n;rw [zas] at a;split at a
  ·rename_i o;obtain ⟨q,t,rfl⟩:=zbr c.1;have f:=h.apart o a b x d q (by simp);have r:=hN.lo (p6 ns k-1) q t (by omega) b;rcases bd7 r with rfl | v
   ·exact f
   exact alk f v
  cases a
 ·obtain ⟨m,n,d⟩:=List.mem_flatten.1 hx;obtain ⟨j,a⟩:=zaj.1 n;rw [zbh] at a;have g:=(h.ne m (zad a)).1;obtain ⟨q,t,rfl⟩:=zbr g;have f:=hN.hi _ q t (by omega) a;rcases zac.1 d with rfl | p
  ·exact f
  have r:=h.node a;exact alk f (List.rel_of_pairwise_cons r p)
 have w:ns=ns.take (p6 ns k-1)++l::ns.drop (p6 ns k-1+1):=by
  rw [<- e,List.getElem_cons_drop,zat]
 conv=>lhs; rw [w]
 simp
theorem a0q {ns:List (List Ky)} {i:Nat} (hi:i<ns.length) (m:List Ky):(ns.set i m).flatten=(ns.take i).flatten++(m++(ns.drop (i+1)).flatten):=by
 rw [List.set_eq_take_append_cons_drop,if_pos hi];simp

section
variable {ns:List (List Ky)} {k:Ky} {i s:Nat} {l:List Ky}
theorem Spt.mem (h:Good ns) (a:Spt ns k i s l):l[s]?=some k↔k∈ns.flatten:=by
 constructor
 ·intro m;rw [a.all];exact zab.2 (.inr (zab.2 (.inl (zad m))))
 intro f;rw [a.all] at f;rcases zab.1 f with q | q
 ·have:=a.ahead k q; rw [as6] at this; cases this
 rcases zab.1 q with q | q
 ·obtain ⟨j,d⟩:=zaj.1 q;rcases Nat.lt_trichotomy j s with b | b | b
  ·have:=a.pl.lo j k b d; rw [as6] at this; cases this
  ·exact b▸d
  have g:=(zaa.1 d).1;have c:l[s]?=some (l[s]'(by omega)):=by simp [show s<l.length by omega]
  have e:=a55 (h.node a.at_) b c d;rw [a.pl.hi s _ (zaf _) c] at e;cases e
 have:=a.behind k q; rw [as6] at this; cases this
theorem Spt.lt (a:Spt ns k i s l):i<ns.length:=(zaa.1 a.at_).1
theorem Spt.lo_ (b:Spt ns k i s l):∀x∈l.take s,kl x k=true:=λ x hx=>by
 obtain ⟨j,a⟩:=zaj.1 hx;rw [zas] at a;split at a
 ·rename_i c; exact b.pl.lo j x c a
 cases a
theorem Spt.hi_ (h:Good ns) (a:Spt ns k i s l) (e:l[s]?≠some k):∀x∈l.drop s,kl k x=true:=λ x hx=>by
 obtain ⟨j,b⟩:=zaj.1 hx;rw [zbh] at b;have d:=a.pl.hi (s+j) x (by omega) b;rcases bd7 d with rfl | c
 ·exact absurd ((a.mem h).2 (by rw [a.all]; exact zab.2 (.inr (zab.2 (.inl (zad b)))))) e
 exact c
theorem Spt.ins (h:Good ns) (d:Spt ns k i s l) (p:l[s]?≠some k):Srt ((ns.take i).flatten++((l.take s++k::l.drop s)++(ns.drop (i+1)).flatten)):=by
 have c:=h.so;rw [d.all] at c;have e:∀(X Z:List Ky),X++(l.take s++k::l.drop s++Z)=(X++l.take s)++k::(l.drop s++Z):=λ X Z=>by simp
 have o:∀(X Z:List Ky),X++(l++Z)=(X++l.take s)++(l.drop s++Z):=λ X Z=>by
  rw [zbi,<- zbi (l.take s),zat]
 rw [e];rw [o] at c;rw [Srt,List.pairwise_append] at c |-;obtain ⟨m,n,j⟩:=c;have lo:∀x∈(ns.take i).flatten++l.take s,kl x k=true:=λ x hx=>(zab.1 hx).elim (d.ahead x) (d.lo_ x);have hi:∀x∈l.drop s++(ns.drop (i+1)).flatten,kl k x=true:=λ x hx=>(zab.1 hx).elim (d.hi_ h p x) (d.behind x);refine ⟨m,List.pairwise_cons.2 ⟨hi,n⟩,λ a g b f=>?_⟩;rcases zac.1 f with rfl | f
 ·exact lo a g
 exact j a g b f
end
structure PutL (ns ns':List (List Ky)) (k:Ky) (f:Bool):Prop where
 good:Good ns'
 flag:f=!decide (k∈ns.flatten)
 mem:∀x,x∈ns'.flatten↔x=k\/x∈ns.flatten
 len:ns'.flatten.length=ns.flatten.length+f.toNat
theorem a1m {ns:List (List Ky)} (h:Good ns) (p:ns.flatten.length<=1000000) (k:Ky):PutL ns (my ns k).1 k (my ns k).2:=by
 by_cases j:ns=[]
 ·subst j;refine ⟨⟨by simp [my],by simp [my,Srt]⟩,by simp [my],by simp [my],by simp [my]⟩
 obtain ⟨i,s,l,a⟩:=spt h p k j;have c:=a.mem h;unfold my;rw [if_neg j,a.nx,a.gd,a.px];by_cases d:l[s]?=some k
 ·rw [if_pos d];refine ⟨h,by simp [c.1 d],λ x=>⟨.inr,?_⟩,by simp⟩;rintro (rfl | hx)
  ·exact c.1 d
  exact hx
 rw [if_neg d];have g:k∉ns.flatten:=λ q=>d (c.2 q);have o:=a.ins h d
 have f:∀N:List (List Ky),(∀m∈N,m≠[]/\m.length<=32)->N.flatten=(ns.take i).flatten++((l.take s++k::l.drop s)++(ns.drop (i+1)).flatten)->PutL ns N k true:=λ N hN n=>by
  refine ⟨⟨hN,by rw [n]; exact o⟩,by simp [g],λ x=>?_,?_⟩
  ·rw [n,a.all]
   conv=>rhs; rw [<- zat s l]
   simp only [zab,zac];constructor
   ·rintro (q | (q | q | q) | q)<;>simp [q]
   rintro (q | q | (q | q) | q)<;>simp [q]
  rw [n,a.all]
  conv=>rhs; rw [<- zat s l]
  simp only [zau,zak,Bool.toNat_true];omega
 have b:(l.take s++k::l.drop s).length=l.length+1:=by
  have:=a.pl.le;simp;omega
 split
 ·refine f _ (λ m c=>?_) (a0q a.lt _);rcases zaz c with q | rfl
  ·exact h.ne m q
  exact ⟨by simp,by rw [b]; omega⟩
 refine f _ (λ m c=>?_) ?_
 ·rcases zab.1 c with q | q
  ·exact h.ne m (zbo q)
  have r:=a.le;rcases zac.1 q with rfl | q
  ·refine ⟨λ e=>?_,by rw [List.length_take]; omega⟩;have:=congrArg List.length e;rw [List.length_take,b] at this;simp at this
  rcases zac.1 q with rfl | q
  ·refine ⟨λ e=>?_,by rw [zba,b]; omega⟩;have:=congrArg List.length e;rw [zba,b] at this;simp at this;omega
  exact h.ne m (zbp q)
 rw [List.flatten_append,zbd,zbd,<- zbi (List.take 16 _),zat]
structure DelL (ns ns':List (List Ky)) (k:Ky) (f:Bool):Prop where
 good:Good ns'
 flag:f=decide (k∈ns.flatten)
 mem:∀x,x∈ns'.flatten↔x≠k/\x∈ns.flatten
 len:ns'.flatten.length+f.toNat=ns.flatten.length

open Go Go.RowKit
def tr (ns:List (List Ky)):AbsT:=bmi ns ns.flatten.length
variable {og:Option Nat} {gs:List Nat}
theorem auy {b:Nat} {a:Option Nat} {d:List Nat} {w:World} (h:∀x,Ft b a d x->Ft b og gs x\/w.heap.size<=x) (g:(b::(a.toList++d)).Nodup):∀j c,fpt a d j=some c->(∃k,fpt og gs k=some c)\/w.heap.size<=c:=λ j c i=>by
 have f:=ahy.1 ⟨j,i⟩;rcases h c (.inr f) with e | e
 ·rcases e with rfl | e
  ·exfalso;have:=(zan.1 g).1;apply this;rcases f with q | q
   ·exact zab.2 (.inl (by rw [q]; simp))
   exact zab.2 (.inr q)
  exact .inl (ahy.2 e)
 exact .inr e
theorem aze {w a:World} {b:Nat} (h:Keeps (Ft b og gs) w a):Keeps (λ x=>x=b\/∃j,fpt og gs j=some x) w a:=h.mono λ x hx=>by
 rcases hx with q | q
 ·exact .inl q
 exact .inr (ahy.2 q)
theorem bmr {ns:List (List Ky)} (h:Good ns) (D:ns.flatten.length<=100000) (k:Ky):a8 P0 64 [.ptr 1000000 0 0,k.av] [.abs (tr ns)] (bl (my ns k).2) [.abs (tr (my ns k).1)]:=by
 refine a3h rfl λ w b φ C=>?_;obtain ⟨og,gs,cap,x,rfl⟩:=C;have y:=a1m h (by omega) k;by_cases u:ns=[]
 ·subst u;refine (bjt x k).mono ?_;rintro e z ⟨rfl,m,d,g,a,o,t⟩;exact ⟨rfl,fpt m d,⟨m,d,g,a,rfl⟩,aze o,auy t a.nb⟩
 obtain ⟨i,s,l,f⟩:=spt h (by omega) k u;have A:=Good.len λ l r=>(h.ne l r).1;have p:=f.nd;have n:=f.at_;rw [<- f.nx] at n;by_cases q:l[s]?=some k
 ·refine (bjs x k _ s l p n f.pl q).mono ?_;rintro e z ⟨rfl,a,o⟩
  have v:my ns k=(ns,false):=by
   unfold my;rw [if_neg u,f.nx,f.gd,f.px,if_pos q]
  rw [v];exact ⟨rfl,fpt og gs,⟨og,gs,cap,a,rfl⟩,o _,λ j c B=>.inl ⟨j,B⟩⟩
 by_cases r:l.length<32
 ·refine (bjr x k _ s l p n f.pl q r (by omega) (by omega)).mono ?_;rintro e z ⟨rfl,d,a,o,t⟩
  have v:my ns k=(ns.set (p6 ns k-1) (l.take s++k::l.drop s),true):=by
   unfold my;rw [if_neg u,f.nx,f.gd,f.px,if_neg q,if_pos r]
  rw [v] at y |-;refine ⟨rfl,fpt og d,⟨og,d,cap,?_,rfl⟩,aze o,auy t a.nb⟩;have:=y.len;simp only [Bool.toNat_true] at this;rw [this];exact a
 refine (bjq x k _ s l p n f.pl q f.le (by omega) (by omega) (by omega) (by omega)).mono ?_;rintro e z ⟨rfl,m,d,g,a,o,t⟩
 have v:my ns k=(ns.take (p6 ns k-1)++(l.take s++k::l.drop s).take 16::(l.take s++k::l.drop s).drop 16::ns.drop (p6 ns k-1+1),true):=by
  unfold my;rw [if_neg u,f.nx,f.gd,f.px,if_neg q,if_neg r]
 rw [v] at y |-;refine ⟨rfl,fpt m d,⟨m,d,g,?_,rfl⟩,aze o,auy t a.nb⟩;have:=y.len;simp only [Bool.toNat_true] at this;rw [this];exact a
theorem bmy (w:World):Calls P0 61 #[] w λ e A=>e=.returned (.pointer (some ⟨w.heap.size,0,none⟩))/\TL A w.heap.size none [] 0 [] 0/\∀I,Keeps I w A:=by
 go_enter func61,Go.Proofs.Tryz.ntmps61
 go_wp2_with fail
 go_ret
 refine ⟨rfl,⟨⟨_,ac3 rfl⟩,by simp,by simp,by simp,by simp,rfl,by simp⟩,λ I=>ck⟩
theorem bmz:a8 P0 61 [] [] (.ptr 1000000 0 0) [.abs (tr [])]:=by
 intro w d ρ B y E F q r;have hc:d=#[]:=by simpa using q
 subst hc;refine (bmy w).mono ?_;rintro e C ⟨rfl,t,u⟩;have A:∀b,¬ng (ob0 []) ρ b:=λ b ⟨_,_,h,_⟩=>by simp [ob0,obs] at h
 have a:∀(g:AbsT) id x,ob0 [Ob.abs g] id=some x->id=1000000/\x=(0,.abs g):=λ g id x hx=>by
  obtain ⟨l,m,D⟩:=aad hx
  have:id-1000000=0:=by
   have:=(zaa.1 m).1;simpa using this
  have a:id=1000000:=by omega
  subst a;have k:ob0 [Ob.abs g] 1000000=some (0,.abs g):=by simp [ob0,obs,upd]
  rw [k] at hx;exact ⟨rfl,(Option.some.inj hx).symm⟩
 obtain ⟨ρ',l,m⟩:∃ρ':Pl->Option Nat,ρ' (.o 1000000)=some w.heap.size/\∀j,ρ' (.s 1000000 j)=none:=⟨fun | .o i=>if i=1000000 then some w.heap.size else none | .s i j=>none,by simp,by simp⟩
 refine ⟨_,ρ',rfl,⟨λ id v o hx=>?_,λ id n x x' c hx p _ _=>?_,u _,λ id v o c hx f=>?_,λ id c z=>?_⟩,?_⟩
 ·obtain ⟨rfl,hx⟩:=a _ id _ hx;cases hx;refine ⟨w.heap.size,l,none,[],0,t,?_⟩;funext j;rw [m];cases j<;>rfl
 ·rw [(a _ id _ hx).1,(a _ n _ p).1]
 ·obtain ⟨rfl,hx⟩:=a _ id _ hx;cases hx;rcases f with f | ⟨_,j,f⟩
  ·rw [l] at f; cases f; exact .inr (zaf _)
  rw [m] at f; cases f
 ·simp [pu,obs] at z
 exact .ptr 1000000 0 0 _ rfl ⟨0,.abs (tr []),by simp [ob0,obs,upd],zaf _,λ _=>⟨w.heap.size,l,rfl⟩⟩

structure Pt where
 k:Int
 x:Int
 y:Int
 v:Int
deriving DecidableEq
def Pt.rv (p:Pt):RV:=.agg [.v (.int .i64 p.k),.v (.int .i64 p.x),.v (.int .i64 p.y),.v (.int .i64 p.v)]
def Pt.av (p:Pt):AV:=.r p.rv
def Pt.val (p:Pt):Value:=.agg #[.int .i64 p.k,.int .i64 p.x,.int .i64 p.y,.int .i64 p.v]
def Pt.ok (p:Pt):Prop:=(1<=p.k/\p.k<=2147483648)/\inW p.x p.y/\(-2147483648<=p.v/\p.v<=2147483647)
instance (p:Pt):Decidable p.ok:=inferInstanceAs (Decidable (_/\_/\_))
def Pt.w (p:Pt) (r:Nat):Nat:=arw p.x p.y r
structure MapL (l:List (Value×Value)) (es:List MapEntry) (c:Nat):Prop where
 kv:es.map (λ e=>(e.key,e.val))=l
 nd:(es.map (·.born)).Nodup
 lt:∀e∈es,e.born<c
theorem MapL.len {l:List (Value×Value)} {es:List MapEntry} {c:Nat} (h:MapL l es c):es.length=l.length:=by rw [<- h.kv]; simp
theorem ay3:MapL [] [] 0:=⟨rfl,by simp,by simp⟩
section
variable {α:Type} (kd:IntKind) (kf:α->Int) (vf:α->Value)
def ent (a:α):Value×Value:=(.int kd (kf a),vf a)
theorem ay0 {l:List α} {k:Int}:∀{es:List MapEntry} (i:Nat),es.map (λ e=>(e.key,e.val))=l.map (ent kd kf vf) ->
 mt (.int kd k) es i=some ((l.findIdx? λ a=>k == kf a).bind λ j=>(l[j]?).map λ a=>(i+j,vf a)):=by
 induction l with
 | nil=>
   intro es i h;have:es=[]:=by simpa using h
   subst this
   rfl
 | cons a l ih=>
   intro es i h;cases es with
   | nil=>simp at h
   | cons e es=>
     simp only [zbe,List.cons.injEq,ent,Prod.mk.injEq] at h;obtain ⟨⟨g,f⟩,m⟩:=h;simp only [mt,g,aew,if_true];by_cases c:k=kf a
     ·simp [c,zbk,f]
     have d:(k == kf a)=false:=by simp [c]
     rw [d];simp only;rw [ih (i+1) m,zbk];simp only [d,zbl,if_false];congr 1;cases hf:l.findIdx? λ a=>k == kf a with
     | none=>rfl
     | some j=>
       simp only [Option.map_some,Option.bind_some,List.getElem?_cons_succ];congr 1;funext b;congr 1;omega
variable {kd kf vf}
theorem ali {l:List α} {es:List MapEntry} {c:Nat} {k:Int} {v:Value} (h:MapL (l.map (ent kd kf vf)) es c) (i:∀a∈l,k≠kf a) :
 okK es (.int kd k)=true/\lkB es (.int kd k)=false/\(∀z,lkR es (.int kd k) z=z)/\MapL (l.map (ent kd kf vf)++[(.int kd k,v)]) (qc es c (.int kd k) v) (qd es c (.int kd k))/\ahf es (.int kd k)=es:=by
 have f:mt (.int kd k) es 0=some none:=by
  rw [ay0 kd kf vf 0 h.kv,show (l.findIdx? λ a=>k == kf a)=none from List.findIdx?_eq_none_iff.2 λ a j=>by simp [i a j]]
  rfl
 refine ⟨by simp [okK,f],by simp [lkB,f],λ z=>by simp [lkR,f],?_,by simp [ahf,f]⟩;simp only [qc,qd,f];refine ⟨by simp [h.kv],?_,?_⟩
 ·rw [zbm,List.nodup_append];refine ⟨h.nd,by simp,λ b m n g=>?_⟩;simp at g;obtain ⟨e,d,rfl⟩:=zal.1 m;have:=h.lt e d;omega
 intro e d;rcases zab.1 d with d | d
 ·have:=h.lt e d; omega
 simp at d; subst d; simp
theorem as2 {c d:Type} (f:c->d) (g:c->c) (e:d->d) (h:∀b,f (g b)=e (f b)) (l:List c) (i:Nat):(l.modify i g).map f=(l.map f).modify i e:=by
 induction l generalizing i with
 | nil=>simp
 | cons a l ih=>cases i with
   | zero=>simp [h]
   | succ i=>simp [ih]
theorem agh {b c:Type} (f:b->c) (l:List b) (i:Nat):(l.eraseIdx i).map f=(l.map f).eraseIdx i:=by
 induction l generalizing i with
 | nil=>simp
 | cons a l ih=>cases i with
   | zero=>simp
   | succ i=>simp [ih]
theorem ayx {l:List α} {es:List MapEntry} {c:Nat} {k:Int} {v:Value} {i:Nat} {a:α} (h:MapL (l.map (ent kd kf vf)) es c) (hi:(l.findIdx? λ a=>k == kf a)=some i) (q:l[i]?=some a) :
 okK es (.int kd k)=true/\lkB es (.int kd k)=true/\(∀z,lkR es (.int kd k) z=pe (vf a))/\MapL ((l.map (ent kd kf vf)).set i (.int kd k,v)) (qc es c (.int kd k) v) (qd es c (.int kd k))/\MapL ((l.eraseIdx i).map (ent kd kf vf)) (ahf es (.int kd k)) c:=by
 have f:mt (.int kd k) es 0=some (some (i,vf a)):=by
  rw [ay0 kd kf vf 0 h.kv,hi];simp [q]
 have g:=(zaa.1 q).1;simp only [qc,qd,ahf,f];refine ⟨by simp [okK,f],by simp [lkB,f],λ z=>by simp [lkR,f],⟨?_,?_,?_⟩,⟨?_,?_,?_⟩⟩
 ·rw [as2 (λ e:MapEntry=>(e.key,e.val)) _ (λ _=>(.int kd k,v)) (λ b=>rfl),h.kv];apply List.ext_getElem?;intro j;rw [zbs,zbb];by_cases d:i=j
  ·subst d;simp [g]
  simp [d]
 ·have:(es.modify i λ e=>{ e with key:=.int kd k,val:=v }).map (·.born)=es.map (·.born):=by
   rw [as2 (λ e:MapEntry=>e.born) (λ e=>{ e with key:=Value.int kd k,val:=v }) id (λ b=>rfl)];apply List.ext_getElem?;intro j;rw [zbs];split<;>simp
  rw [this];exact h.nd
 ·intro e n;obtain ⟨j,p⟩:=zaj.1 n;rw [zbs] at p;obtain ⟨r,o,m⟩:=Option.map_eq_some_iff.1 p;have:=h.lt r (zad o);rw [<- m];split<;>exact this
 ·rw [agh,h.kv,agh]
 ·rw [agh];exact h.nd.sublist (List.eraseIdx_sublist _ _)
 intro e n;exact h.lt e ((List.eraseIdx_sublist _ _).mem n)
end

abbrev ptE:Pt->Value×Value:=ent .i64 (·.k) Pt.val
structure PM (L:List Pt) (es:List MapEntry) (c:Nat):Prop where
 m:MapL (L.map ptE) es c
 nd:(L.map (·.k)).Nodup
def bn7 (k:Int) (L:List Pt):List Pt:=L.filter λ q=>q.k != k
theorem bdx {L:List Pt} {es:List MapEntry} {c:Nat} (h:PM L es c) {k:Int} (b:∀q∈L,q.k≠k):okK es (.int .i64 k)=true/\lkB es (.int .i64 k)=false/\(∀z,lkR es (.int .i64 k) z=z)/\ahf es (.int .i64 k)=es:=by
 obtain ⟨g,d,f,l,j⟩:=ali (v:=.int .i64 0) h.m (λ a i e=>b a i e.symm);exact ⟨g,d,f,j⟩
variable {p:Pt}
theorem a7i {L:List Pt} {es:List MapEntry} {c:Nat} (h:PM L es c) (f:∀q∈L,q.k≠p.k):okK es (.int .i64 p.k)=true/\PM (L++[p]) (qc es c (.int .i64 p.k) p.val) (qd es c (.int .i64 p.k)):=by
 obtain ⟨i,n,o,j,r⟩:=ali (v:=p.val) h.m (λ a d e=>f a d e.symm);refine ⟨i,by rw [zbm]; exact j,?_⟩;rw [zbm,List.nodup_append];refine ⟨h.nd,by simp,λ a d b g=>?_⟩;simp at g;subst g;obtain ⟨q,l,rfl⟩:=zal.1 d;exact f q l
theorem bjx {L:List Pt} {es:List MapEntry} {c:Nat} (h:PM L es c):es.length=L.length:=by rw [h.m.len]; simp
abbrev cnE:Nat×Int->Value×Value:=ent .u64 (λ q=>(q.1:Int)) (λ q=>.int .i64 q.2)
structure CM (f:Nat->Nat) (es:List MapEntry) (c:Nat):Prop where
 ex:∃ws:List (Nat×Int),MapL (ws.map cnE) es c/\(ws.map (·.1)).Nodup/\∀w n,(w,n)∈ws↔n=(f w:Int)/\0<f w
theorem blj:CM (λ _=>0) [] 0:=⟨[],ay3,by simp,by simp⟩
variable {w:Nat} {ws:List (Nat×Int)}
theorem a2r (b:(ws.map (·.1)).Nodup) {n:Int} (h:(w,n)∈ws):∃i,(ws.findIdx? λ a=>((w:Int)) == ((a.1:Nat):Int))=some i/\ws[i]?=some (w,n):=by
 induction ws with
 | nil=>simp at h
 | cons a ws ih=>
   rw [zbe,zan] at b;by_cases d:a=(w,n)
   ·subst d;exact ⟨0,by simp [zbk],rfl⟩
   have c:(w,n)∈ws:=by
    rcases zac.1 h with h | h
    ·exact absurd h.symm d
    exact h
   obtain ⟨i,g,f⟩:=ih b.2 c;have j:a.1≠w:=λ e=>b.1 (zal.2 ⟨_,c,e.symm⟩);refine ⟨i+1,?_,by simpa using f⟩;rw [zbk,g];have:(((w:Int)) == ((a.1:Nat):Int))=false:=by simp; omega
   simp [this]
variable {f:Nat->Nat}
theorem a4t (h:∀w n,(w,n)∈ws↔n=(f w:Int)/\0<f w) (c:f w=0):∀a∈ws,(w:Int)≠((a.1:Nat):Int):=λ a b e=>by
 have e':w=a.1:=by omega
 subst e';have:=((h a.1 a.2).1 b).2;omega
theorem blm {es:List MapEntry} {c:Nat} (h:CM f es c) (w:Nat):okK es (.int .u64 w)=true/\lkR es (.int .u64 w) (.v (.int .i64 0))=.v (.int .i64 (f w)):=by
 obtain ⟨ws,e,j,d⟩:=h.ex;by_cases g:f w=0
 ·obtain ⟨b,l,a,_⟩:=ali (v:=.int .i64 0) e (a4t d g);exact ⟨b,by rw [a,g]; rfl⟩
 obtain ⟨i,hi,k⟩:=a2r j ((d w (f w)).2 ⟨rfl,by omega⟩);obtain ⟨b,l,a,_⟩:=ayx (v:=.int .i64 0) e hi k;exact ⟨b,by rw [a]; rfl⟩
theorem a7x (h:(ws.map (·.1)).Nodup) {i:Nat} {n m:Int} (hi:ws[i]?=some (w,n)):((ws.set i (w,m)).map (·.1)).Nodup/\∀u k,(u,k)∈ws.set i (w,m)↔(u=w/\k=m)\/(u≠w/\(u,k)∈ws):=by
 have e:(ws.set i (w,m)).map (·.1)=ws.map (·.1):=by
  apply List.ext_getElem?;intro j;rw [List.getElem?_map,zbb,List.getElem?_map];by_cases a:i=j
  ·subst a;have:=(zaa.1 hi).1;rw [if_pos rfl,if_pos this,hi]
   rfl
  simp [a]
 refine ⟨by rw [e]; exact h,λ u k=>?_⟩;have c:=(zaa.1 hi).1;constructor
 ·intro f;obtain ⟨j,b⟩:=zaj.1 f;rw [zbb] at b;by_cases a:i=j
  ·subst a;simp [c] at b;exact .inl ⟨b.1.symm,b.2.symm⟩
  simp [a] at b;refine .inr ⟨λ e=>?_,zad b⟩;subst e;have l:(ws.map (·.1))[i]?=some u:=by simp [hi]
  have g:(ws.map (·.1))[j]?=some u:=by simp [b]
  exact a (anl h l g)
 rintro (⟨rfl,rfl⟩ | ⟨d,f⟩)
 ·exact zaj.2 ⟨i,by simp [c]⟩
 obtain ⟨j,b⟩:=zaj.1 f;refine zaj.2 ⟨j,?_⟩;rw [zbb];by_cases a:i=j
 ·subst a;rw [hi] at b;cases b;exact absurd rfl d
 simp [a,b]
def upw (f:Nat->Nat) (w n:Nat):Nat->Nat:=λ u=>if u=w then n else f u
theorem bli {es:List MapEntry} {c:Nat} (h:CM f es c) (w n:Nat) (B:0<n):CM (upw f w n) (qc es c (.int .u64 w) (.int .i64 n)) (qd es c (.int .u64 w)):=by
 obtain ⟨ws,p,o,d⟩:=h.ex;by_cases l:f w=0
 ·obtain ⟨t,y,s,j,_⟩:=ali (v:=.int .i64 n) p (a4t d l);refine ⟨ws++[(w,(n:Int))],by simpa [ent] using j,?_,λ u k=>?_⟩
  ·rw [zbm,List.nodup_append];refine ⟨o,by simp,λ a g b r=>?_⟩;simp at r;subst r;obtain ⟨q,z,rfl⟩:=zal.1 g;have:=a4t d l q z;omega
  simp only [zab,zbn,Prod.mk.injEq,d,upw];by_cases e:u=w
  ·subst e; simp [l]; omega
  simp [e]
 obtain ⟨i,hi,g⟩:=a2r o ((d w (f w)).2 ⟨rfl,by omega⟩);obtain ⟨t,y,s,j,_⟩:=ayx (v:=.int .i64 n) p hi g;obtain ⟨A,x⟩:=a7x (m:=(n:Int)) o g;refine ⟨ws.set i (w,(n:Int)),?_,A,λ u k=>?_⟩
 ·rw [List.map_set]; exact j
 rw [x];simp only [d,upw];by_cases e:u=w
 ·subst e; simp; omega
 simp [e]

theorem asy {f:Type} {l:List f} (h:l.Nodup) {i:Nat} {x:f} (hi:l[i]?=some x) (g:l[j]?=some x):i=j:=by
 obtain ⟨e,b⟩:=zaa.1 hi;obtain ⟨d,c⟩:=zaa.1 g;rcases Nat.lt_trichotomy i j with a | rfl | a
 ·exact absurd (by rw [b,c]) (zbj.1 h i j e d a)
 ·rfl
 exact absurd (by rw [b,c]) (zbj.1 h j i d e a)
def cnt (L:List Pt) (r:Nat):Nat->Nat:=λ w=>L.countP λ p=>p.w r == w
theorem bhq (L:List Pt) (p:Pt) (r:Nat):cnt (L++[p]) r=upw (cnt L r) (p.w r) (cnt L r (p.w r)+1):=by
 funext w;simp only [cnt,upw,List.countP_append,List.countP_cons,List.countP_nil,Nat.zero_add];by_cases h:p.w r=w
 ·subst h; simp
 have:¬w=p.w r:=λ e=>h e.symm;simp [h,this]
def Pt.ky (p:Pt) (r:Nat):Ky:=⟨p.w r,p.v,p.k⟩
theorem Pt.w_res (h:p.ok) {r:Nat} (b:r<13):aei (p.w r)=true/\z9 (p.w r)=r/\p.w r<18446744073709551616:=by
 have a:=mf p.x p.y r h.2.1.1 h.2.1.2 (by omega);exact ⟨awc a,(aqh r _ a).2,aou r _ a⟩
theorem Pt.ky_inj {q:Pt} (d:p.ok) (i:q.ok) {r s:Nat} (g:r<13) (c:s<13) (h:p.ky r=q.ky s):r=s/\p.k=q.k:=by
 simp only [Pt.ky,Ky.mk.injEq] at h;obtain ⟨l,j,f⟩:=h;have e:p.w r=q.w s:=by omega
 have a:=(Pt.w_res d g).2.1;have b:=(Pt.w_res i c).2.1;rw [e,b] at a;exact ⟨a.symm,f⟩
structure TK (K:Ky->Prop) (n:Nat) (ns:List (List Ky)):Prop where
 g:Good ns
 m:∀x,x∈ns.flatten↔K x
 l:ns.flatten.length=n
variable {n:Nat} {K:Ky->Prop}
theorem TK.put {ns:List (List Ky)} (h:TK K n ns) (d:n<=100000) {k:Ky} (c:¬K k):TK (λ x=>x=k\/K x) (n+1) (my ns k).1/\(my ns k).2=true:=by
 have a:=a1m h.g (by rw [h.l]; omega) k;have b:(my ns k).2=true:=by rw [a.flag]; simp [h.m,c]
 refine ⟨⟨a.good,λ x=>by rw [a.mem,h.m],?_⟩,b⟩;rw [a.len,h.l,b]
 rfl
theorem TK.congr {a:Ky->Prop} {ns:List (List Ky)} (h:TK K n ns) (b:∀x,K x↔a x):TK a n ns:=⟨h.g,λ x=>(h.m x).trans (b x),h.l⟩
def KL (L:List Pt) (x:Ky):Prop:=∃p,p∈L/\∃r,r<13/\x=p.ky r
def nsP (ns:List (List Ky)) (p:Pt):Nat->List (List Ky)
 | 0=>ns
 | r+1=>(my (nsP ns p r) (p.ky r)).1
theorem asx {L:List Pt} {p:Pt} {n:Nat} {ns:List (List Ky)} (b:p.ok) (f:∀q∈L,q.ok/\q.k≠p.k) (h:TK (KL L) n ns) (i:n<=50000):∀r,r<=13->TK (λ x=>KL L x\/∃s,s<r/\x=p.ky s) (n+r) (nsP ns p r)
 | 0,_=>h.congr λ x=>by simp
 | r+1,hr=>by
   have j:=asx b f h i r (by omega)
   have d:¬(KL L (p.ky r)\/∃s,s<r/\p.ky r=p.ky s):=by
    rintro (⟨q,g,s,a,e⟩ | ⟨s,a,e⟩)
    ·exact (f q g).2 (Pt.ky_inj b (f q g).1 (by omega) a e).2.symm
    have:=(Pt.ky_inj b b (by omega) (by omega) e).1; omega
   refine ((j.put (by omega) d).1).congr λ x=>?_;constructor
   ·rintro (rfl | h | ⟨s,a,rfl⟩)
    ·exact .inr ⟨r,by omega,rfl⟩
    ·exact .inl h
    exact .inr ⟨s,by omega,rfl⟩
   rintro (h | ⟨s,a,rfl⟩)
   ·exact .inr (.inl h)
   by_cases c:s=r
   ·subst c; exact .inl rfl
   exact .inr (.inr ⟨s,by omega,rfl⟩)

def amb:Mk P0 f65:={ x:=_ }
def ae9:Mk P0 f63:={ x:=_ }
theorem ajp:a0c 63 2 ae9:=apf func63
theorem bem (p:Pt) (r:Int) (h:p.ok) (a:0<=r/\r<=12):a8 P0 65 [p.av,int .i64 r] [] (uw (p.w r.toNat)) []:=by
 refine amb.t func65 ?_
 push_cast [amb,Pt.av,Pt.rv,zah]
 refine a6 (bnq p.x p.y r h.2.1 a) rfl trivial ?_
 push_cast [cel]
 refine b5 (as':=[cel r (g8 p.x p.y r.toNat)]) rfl ?_;refine a6 (biq r (g8 p.x p.y r.toNat) a.1 (mf p.x p.y r.toNat h.2.1.1 h.2.1.2 (by omega))) rfl trivial ?_
 push_cast [uw]
 rfl
def z5 (es:List MapEntry) (c:Nat) (ns:List (List Ky)) (a:Nat->List MapEntry) (cc:Nat->Nat):List Ob:=
 [.box [.mp 1000001 0,.ptr 1000002 0 0,.mp 1000003 0,.mp 1000004 0,.mp 1000005 0,.mp 1000006 0,.mp 1000007 0,.mp 1000008 0,.mp 1000009 0,.mp 1000010 0,.mp 1000011 0,.mp 1000012 0,.mp 1000013 0,.mp 1000014 0,.mp 1000015 0],.map es c,.abs (tr ns),.map (a 0) (cc 0),.map (a 1) (cc 1),.map (a 2) (cc 2),.map (a 3) (cc 3),.map (a 4) (cc 4),.map (a 5) (cc 5),.map (a 6) (cc 6),.map (a 7) (cc 7),.map (a 8) (cc 8),.map (a 9) (cc 9),.map (a 10) (cc 10),.map (a 11) (cc 11),.map (a 12) (cc 12)]
theorem a05 (a b:List (List Ky)):(tr a).size=(tr b).size:=rfl
def stg {c:Type} (a b:Nat->c) (r j:Nat):c:=if j<r then a j else b j
theorem bml {c:Type} (b a:Nat->c):stg b a 0=a:=by funext j; simp [stg]
structure StL (L:List Pt) (es:List MapEntry) (c:Nat) (ns:List (List Ky)) (ce:Nat->List MapEntry) (cc:Nat->Nat):Prop where
 ok:∀q∈L,q.ok
 le:L.length<=2000
 pm:PM L es c
 tk:TK (KL L) (13*L.length) ns
 cm:∀r,r<13->CM (cnt L r) (ce r) (cc r)
section
variable {L:List Pt} {es:List MapEntry} {c:Nat} {ns:List (List Ky)} {ce:Nat->List MapEntry} {cc:Nat->Nat}
theorem bla (h:StL L es c ns ce cc) (k:Int) (b:∀q∈L,q.k≠k):a8 P0 63 [.ptr 1000000 0 0,int .i64 k] (z5 es c ns ce cc) (bl false) (z5 es c ns ce cc):=by
 obtain ⟨d,e,a,f⟩:=bdx h.pm b;refine ajp rfl (by simp [z5]) ?_
 push_cast [ae9,z5,zak,zah,d,e,a]
 repeat refine sI ?_
end

def apx:Mk P0 f108:={ x:=_ }
def am7:Mk P0 f109:={ x:=_ }
def avw:Mk P0 f62:={ x:=_ }
theorem a7s (n:Int):a8 P0 108 [int .i64 n] [] (bl (decide (0<=n/\n<1073741824))) []:=by
 refine apx.t func108 ?_
 push_cast [apx,zah]
 by_cases h:0<=n<;>by_cases a:n<1073741824<;>simp [h,a,push_cast]
theorem bgq (n:Int):a8 P0 109 [int .i64 n] [] (bl (decide (1<=n/\n<=2147483648))) []:=by
 refine am7.t func109 ?_
 push_cast [am7,zah]
 by_cases h:1<=n<;>by_cases a:n<=2147483648<;>simp [h,a,push_cast]
theorem bgd (p:Pt):a8 P0 62 [p.av] [] (bl (decide p.ok)) []:=by
 refine avw.t func62 ?_
 push_cast [avw,Pt.av,Pt.rv,zah]
 refine a6 (bgq p.k) rfl trivial ?_
 push_cast
 by_cases h:1<=p.k/\p.k<=2147483648
 ·rw [decide_eq_true h]
  push_cast
  refine ⟨by kernel_rfl,?_⟩;refine a6 (a7s p.x) rfl trivial ?_
  push_cast
  by_cases hx:0<=p.x/\p.x<1073741824
  ·rw [decide_eq_true hx]
   push_cast
   refine ⟨by kernel_rfl,?_⟩;refine a6 (a7s p.y) rfl trivial ?_
   push_cast
   by_cases hy:0<=p.y/\p.y<1073741824
   ·rw [decide_eq_true hy];by_cases c:-2147483648<=p.v<;>by_cases b:p.v<=2147483647<;>simp [c,b,h,hx,hy,Pt.ok,inW,push_cast]
   rw [decide_eq_false hy,decide_eq_false (p:=p.ok) (λ a=>hy a.2.1.2)]
   push_cast
  rw [decide_eq_false hx,decide_eq_false (p:=p.ok) (λ a=>hx a.2.1.1)]
  push_cast
 rw [decide_eq_false h,decide_eq_false (p:=p.ok) (λ a=>h a.1)]
 push_cast

def ae8:Mk P0 f36:={ x:=_ }
theorem ajo:a0c 36 2 ae8:=apf func36
def aza (L:List Pt) (p:Pt) (a:Nat->List MapEntry) (cc:Nat->Nat) (r:Nat):List MapEntry:=qc (a r) (cc r) (.int .u64 (p.w r)) (.int .i64 ((cnt L r (p.w r):Int)+1))
def azb (p:Pt) (a:Nat->List MapEntry) (cc:Nat->Nat) (r:Nat):Nat:=qd (a r) (cc r) (.int .u64 (p.w r))
theorem StL.put {L:List Pt} {es:List MapEntry} {c:Nat} {ns:List (List Ky)} {d:Nat->List MapEntry} {cc:Nat->Nat} (h:StL L es c ns d cc) (f:p.ok) (e:∀q∈L,q.k≠p.k) (i:L.length<2000) :
 StL (L++[p]) (qc es c (.int .i64 p.k) p.val) (qd es c (.int .i64 p.k)) (nsP ns p 13) (aza L p d cc) (azb p d cc):=by
 refine ⟨λ q a=>?_,by simp; omega,(a7i h.pm e).2,?_,λ r b=>?_⟩
 ·rcases zab.1 a with a | a
  ·exact h.ok q a
  rw [zbn.1 a]; exact f
 ·have:=asx f (λ q a=>⟨h.ok q a,e q a⟩) h.tk (by omega) 13 (zaf _);rw [zau,List.length_singleton,Nat.mul_add];refine this.congr λ x=>?_;unfold KL;constructor
  ·rintro (⟨q,a,r,b,rfl⟩ | ⟨s,g,rfl⟩)
   ·exact ⟨q,List.mem_append_left _ a,r,b,rfl⟩
   exact ⟨p,by simp,s,g,rfl⟩
  rintro ⟨q,a,r,b,rfl⟩;rcases zab.1 a with a | a
  ·exact .inl ⟨q,a,r,b,rfl⟩
  rw [zbn.1 a]; exact .inr ⟨r,b,rfl⟩
 rw [bhq];have:=bli (h.cm r b) (p.w r) (cnt L r (p.w r)+1) (by omega);exact this
theorem bgr {L:List Pt} {ns:List (List Ky)} (a:p.ok) (b:∀q∈L,q.ok/\q.k≠p.k) (h:TK (KL L) n ns) (g:n<=50000) {r:Nat} (d:r<13):(my (nsP ns p r) (p.ky r)).2=true:=by
 have:=asx a b h g r (by omega);refine (this.put (by omega) ?_).2;rintro (⟨q,f,s,c,e⟩ | ⟨s,c,e⟩)
 ·exact (b q f).2 (Pt.ky_inj a (b q f).1 d c e).2.symm
 have:=(Pt.ky_inj a a d (by omega) e).1;omega
section
variable {L:List Pt} {es es1:List MapEntry} {c c1:Nat} {ns ns1:List (List Ky)} {ce ce1:Nat->List MapEntry} {cc cc1:Nat->Nat}
theorem ba7 {b:Bool} (h:StL L es1 c1 ns1 ce1 cc1) (f:p.ok) (C:∀q∈L,q.k≠p.k) (E:L.length<2000)
 (i:a8 P0 63 [.ptr 1000000 0 0,int .i64 p.k] (z5 es c ns ce cc) (bl b) (z5 es1 c1 ns1 ce1 cc1))
 (F:okK es (.int .i64 p.k)=true) (z:∃v,lkR es (.int .i64 p.k) (.agg [.v (.int .i64 0),.v (.int .i64 0),.v (.int .i64 0),.v (.int .i64 0)])=Pt.rv v) (t:lkB es (.int .i64 p.k)=true\/(lkB es (.int .i64 p.k)=false/\es.length<2000)) :
 a8 P0 36 [.ptr 1000000 0 0,p.av] (z5 es c ns ce cc) (bl true) (z5 (qc es1 c1 (.int .i64 p.k) p.val) (qd es1 c1 (.int .i64 p.k)) (nsP ns1 p 13) (aza L p ce1 cc1) (azb p ce1 cc1)):=by
 obtain ⟨M,_⟩:=a7i h.pm C;have G:=asx f (λ q s=>⟨h.ok q s,C q s⟩) h.tk (by omega);obtain ⟨v,z⟩:=z;refine ajo rfl (by simp [z5]) ?_
 push_cast [ae8,z5,Pt.av,Pt.rv,zak,zah,F,z]
 repeat refine sI ?_
 refine b5 (as':=[p.av]) rfl ?_;refine a6 (bgd p) rfl trivial ?_;rw [decide_eq_true f]
 push_cast
 refine b7 (λ hc=>?_) (λ hc=>?_)
 ·exfalso;rcases t with t | ⟨t,O⟩<;>simp [t] at hc;omega
 simp only [z5] at i
 push_cast
 refine a6 i rfl ⟨rfl,trivial,a05 _ _,trivial,trivial,trivial,trivial,trivial,trivial,trivial,trivial,trivial,trivial,trivial,trivial,trivial,trivial⟩ ?_;have N:∀a b c d:Int,toV (.r (.agg [.v (.int .i64 a),.v (.int .i64 b),.v (.int .i64 c),.v (.int .i64 d)]))=some (Pt.val ⟨a,b,c,d⟩):=λ _ _ _ _=>rfl
 push_cast [M,N]
 repeat refine sI ?_
 refine b9 [(51,false),(0,false),(3,false),(7,false)] (λ vs pos o=>∃r:Nat,r<=13/\vs=[int .i64 r,.ptr 1000000 0 0,.ptr 2000000 0 0,.fn (.func 64) [.ptr 1000002 0 0] 1]/\pos=z5 (qc es1 c1 (.int .i64 p.k) p.val) (qd es1 c1 (.int .i64 p.k)) (nsP ns1 p r) (stg (aza L p ce1 cc1) ce1 r) (stg (azb p ce1 cc1) cc1 r)/\o=[.box [int .i64 p.k,int .i64 p.x,int .i64 p.y,int .i64 p.v]])
  (λ vs _ _=>match vs with | .r (.v (.int _ j))::_=>(13-j).toNat | _=>0) rfl ?_ ?_
 ·push_cast
  refine ⟨0,by omega,?_⟩;simp only [bml,nsP,z5];exact ⟨rfl,rfl⟩
 rintro vs pos o ⟨r,R,rfl,e,rfl⟩;by_cases u:r=13
 ·subst u;have n:z5 (qc es1 c1 (.int .i64 p.k) p.val) (qd es1 c1 (.int .i64 p.k)) (nsP ns1 p 13) (stg (aza L p ce1 cc1) ce1 13) (stg (azb p ce1 cc1) cc1 13)=z5 (qc es1 c1 (.int .i64 p.k) p.val) (qd es1 c1 (.int .i64 p.k)) (nsP ns1 p 13) (aza L p ce1 cc1) (azb p ce1 cc1):=rfl;rw [n] at e;subst e
  push_cast [z5,show decide ((13:Int)<13)=false from rfl]
 have m:r<13:=by omega
 have B:=h.cm r m;obtain ⟨J,K⟩:=blm B (p.w r);have Q:=(Pt.w_res f m).2.2;have D:=G r (by omega);have P:(my (nsP ns1 p r) (p.ky r)).2=true:=(bgr f (λ q s=>⟨h.ok q s,C q s⟩) h.tk (by omega) m)
 have H:cnt L r (p.w r)<=2000:=Nat.le_trans List.countP_le_length (by omega);have I:IntKind.i64.wrap ((cnt L r (p.w r):Int)+1)=(cnt L r (p.w r):Int)+1:=a5 (by omega);have A:=bmr D.g (by rw [D.l]; omega) (p.ky r)
 rcases (show r=0\/r=1\/r=2\/r=3\/r=4\/r=5\/r=6\/r=7\/r=8\/r=9\/r=10\/r=11\/r=12 by omega) with rfl | rfl | rfl | rfl | rfl | rfl | rfl | rfl | rfl | rfl | rfl | rfl | rfl<;>(
  simp only [z5,stg,Nat.reduceLT,↓reduceIte] at e;subst e
  push_cast [Int.reduceLT,decide_true]
  refine b5 (as':=[p.av,int .i64 _]) rfl ?_;refine a6 (bem p _ f (by decide)) rfl trivial ?_
  push_cast [zae,uw]
  repeat refine sI ?_
  refine b5 (as':=[.ptr 1000000 0 0,(p.ky _).av]) rfl ?_;refine a6 A rfl ⟨a05 _ _,trivial⟩ ?_
  push_cast [J,K,I,zae]
  repeat refine sI ?_
  refine ⟨⟨_+1,by decide,rfl,?_⟩,by decide⟩;simp only [z5,stg,Nat.reduceLT,Nat.reduceAdd,↓reduceIte]
  rfl)
end

section
variable {L:List Pt} {es:List MapEntry} {c:Nat} {ns:List (List Ky)} {ce:Nat->List MapEntry} {cc:Nat->Nat}
end
def SS (L:List Pt) (os:List Ob):Prop:=∃es c ns a cc,StL L es c ns a cc/\os=z5 es c ns a cc
def has (L:List Pt) (k:Int):Bool:=L.any λ q=>q.k == k
theorem a2l {L:List Pt} {k:Int}:has L k=false↔∀p∈L,p.k≠k:=by simp [has]
def SF (L:List Pt):Fam where
 S:=SS L
 N:=16
 n:=15
 pos:=by decide
 len:=by rintro os ⟨es,c,ns,b,cc,h,rfl⟩; rfl
 flat:=by
  rintro os ⟨es,c,ns,b,cc,h,rfl⟩ o a;simp only [z5,zac,List.not_mem_nil,or_false] at a;rcases a with rfl | rfl | rfl | rfl | rfl | rfl | rfl | rfl | rfl | rfl | rfl | rfl | rfl | rfl | rfl | rfl
  ·exact ⟨by simp [jt,pb,bj],rfl⟩
  all_goals exact ⟨trivial,rfl⟩
 shut:=by
  rintro os ⟨es,c,ns,b,cc,h,rfl⟩ o a;simp only [z5,zac,List.not_mem_nil,or_false] at a;rcases a with rfl | rfl | rfl | rfl | rfl | rfl | rfl | rfl | rfl | rfl | rfl | rfl | rfl | rfl | rfl | rfl
  ·simp [imO,imL,imV,vd]
  all_goals rfl
 root:=by
  rintro os ⟨es,c,ns,b,cc,h,rfl⟩;exact ⟨_,rfl,rfl⟩
def sT (L:List Pt):AbsT:=(SF L).T

def am1:Mk P0 f32:={ x:=_ }
def pz:Nat->List Ob
 | 0=>[.box [.mp 2000001 0,.ptr 2000002 0 0,.r (.v (.map none)),.r (.v (.map none)),.r (.v (.map none)),.r (.v (.map none)),.r (.v (.map none)),.r (.v (.map none)),.r (.v (.map none)),.r (.v (.map none)),.r (.v (.map none)),.r (.v (.map none)),.r (.v (.map none)),.r (.v (.map none)),.r (.v (.map none))],.map [] 0,.abs (tr [])]
 | 1=>[.box [.mp 2000001 0,.ptr 2000002 0 0,.mp 2000003 0,.r (.v (.map none)),.r (.v (.map none)),.r (.v (.map none)),.r (.v (.map none)),.r (.v (.map none)),.r (.v (.map none)),.r (.v (.map none)),.r (.v (.map none)),.r (.v (.map none)),.r (.v (.map none)),.r (.v (.map none)),.r (.v (.map none))],.map [] 0,.abs (tr []),.map [] 0]
 | 2=>[.box [.mp 2000001 0,.ptr 2000002 0 0,.mp 2000003 0,.mp 2000004 0,.r (.v (.map none)),.r (.v (.map none)),.r (.v (.map none)),.r (.v (.map none)),.r (.v (.map none)),.r (.v (.map none)),.r (.v (.map none)),.r (.v (.map none)),.r (.v (.map none)),.r (.v (.map none)),.r (.v (.map none))],.map [] 0,.abs (tr []),.map [] 0,.map [] 0]
 | 3=>[.box [.mp 2000001 0,.ptr 2000002 0 0,.mp 2000003 0,.mp 2000004 0,.mp 2000005 0,.r (.v (.map none)),.r (.v (.map none)),.r (.v (.map none)),.r (.v (.map none)),.r (.v (.map none)),.r (.v (.map none)),.r (.v (.map none)),.r (.v (.map none)),.r (.v (.map none)),.r (.v (.map none))],.map [] 0,.abs (tr []),.map [] 0,.map [] 0,.map [] 0]
 | 4=>[.box [.mp 2000001 0,.ptr 2000002 0 0,.mp 2000003 0,.mp 2000004 0,.mp 2000005 0,.mp 2000006 0,.r (.v (.map none)),.r (.v (.map none)),.r (.v (.map none)),.r (.v (.map none)),.r (.v (.map none)),.r (.v (.map none)),.r (.v (.map none)),.r (.v (.map none)),.r (.v (.map none))],.map [] 0,.abs (tr []),.map [] 0,.map [] 0,.map [] 0,.map [] 0]
 | 5=>[.box [.mp 2000001 0,.ptr 2000002 0 0,.mp 2000003 0,.mp 2000004 0,.mp 2000005 0,.mp 2000006 0,.mp 2000007 0,.r (.v (.map none)),.r (.v (.map none)),.r (.v (.map none)),.r (.v (.map none)),.r (.v (.map none)),.r (.v (.map none)),.r (.v (.map none)),.r (.v (.map none))],.map [] 0,.abs (tr []),.map [] 0,.map [] 0,.map [] 0,.map [] 0,.map [] 0]
 | 6=>[.box [.mp 2000001 0,.ptr 2000002 0 0,.mp 2000003 0,.mp 2000004 0,.mp 2000005 0,.mp 2000006 0,.mp 2000007 0,.mp 2000008 0,.r (.v (.map none)),.r (.v (.map none)),.r (.v (.map none)),.r (.v (.map none)),.r (.v (.map none)),.r (.v (.map none)),.r (.v (.map none))],.map [] 0,.abs (tr []),.map [] 0,.map [] 0,.map [] 0,.map [] 0,.map [] 0,.map [] 0]
 | 7=>[.box [.mp 2000001 0,.ptr 2000002 0 0,.mp 2000003 0,.mp 2000004 0,.mp 2000005 0,.mp 2000006 0,.mp 2000007 0,.mp 2000008 0,.mp 2000009 0,.r (.v (.map none)),.r (.v (.map none)),.r (.v (.map none)),.r (.v (.map none)),.r (.v (.map none)),.r (.v (.map none))],.map [] 0,.abs (tr []),.map [] 0,.map [] 0,.map [] 0,.map [] 0,.map [] 0,.map [] 0,.map [] 0]
 | 8=>[.box [.mp 2000001 0,.ptr 2000002 0 0,.mp 2000003 0,.mp 2000004 0,.mp 2000005 0,.mp 2000006 0,.mp 2000007 0,.mp 2000008 0,.mp 2000009 0,.mp 2000010 0,.r (.v (.map none)),.r (.v (.map none)),.r (.v (.map none)),.r (.v (.map none)),.r (.v (.map none))],.map [] 0,.abs (tr []),.map [] 0,.map [] 0,.map [] 0,.map [] 0,.map [] 0,.map [] 0,.map [] 0,.map [] 0]
 | 9=>[.box [.mp 2000001 0,.ptr 2000002 0 0,.mp 2000003 0,.mp 2000004 0,.mp 2000005 0,.mp 2000006 0,.mp 2000007 0,.mp 2000008 0,.mp 2000009 0,.mp 2000010 0,.mp 2000011 0,.r (.v (.map none)),.r (.v (.map none)),.r (.v (.map none)),.r (.v (.map none))],.map [] 0,.abs (tr []),.map [] 0,.map [] 0,.map [] 0,.map [] 0,.map [] 0,.map [] 0,.map [] 0,.map [] 0,.map [] 0]
 | 10=>[.box [.mp 2000001 0,.ptr 2000002 0 0,.mp 2000003 0,.mp 2000004 0,.mp 2000005 0,.mp 2000006 0,.mp 2000007 0,.mp 2000008 0,.mp 2000009 0,.mp 2000010 0,.mp 2000011 0,.mp 2000012 0,.r (.v (.map none)),.r (.v (.map none)),.r (.v (.map none))],.map [] 0,.abs (tr []),.map [] 0,.map [] 0,.map [] 0,.map [] 0,.map [] 0,.map [] 0,.map [] 0,.map [] 0,.map [] 0,.map [] 0]
 | 11=>[.box [.mp 2000001 0,.ptr 2000002 0 0,.mp 2000003 0,.mp 2000004 0,.mp 2000005 0,.mp 2000006 0,.mp 2000007 0,.mp 2000008 0,.mp 2000009 0,.mp 2000010 0,.mp 2000011 0,.mp 2000012 0,.mp 2000013 0,.r (.v (.map none)),.r (.v (.map none))],.map [] 0,.abs (tr []),.map [] 0,.map [] 0,.map [] 0,.map [] 0,.map [] 0,.map [] 0,.map [] 0,.map [] 0,.map [] 0,.map [] 0,.map [] 0]
 | 12=>[.box [.mp 2000001 0,.ptr 2000002 0 0,.mp 2000003 0,.mp 2000004 0,.mp 2000005 0,.mp 2000006 0,.mp 2000007 0,.mp 2000008 0,.mp 2000009 0,.mp 2000010 0,.mp 2000011 0,.mp 2000012 0,.mp 2000013 0,.mp 2000014 0,.r (.v (.map none))],.map [] 0,.abs (tr []),.map [] 0,.map [] 0,.map [] 0,.map [] 0,.map [] 0,.map [] 0,.map [] 0,.map [] 0,.map [] 0,.map [] 0,.map [] 0,.map [] 0]
 | _=>[.box [.mp 2000001 0,.ptr 2000002 0 0,.mp 2000003 0,.mp 2000004 0,.mp 2000005 0,.mp 2000006 0,.mp 2000007 0,.mp 2000008 0,.mp 2000009 0,.mp 2000010 0,.mp 2000011 0,.mp 2000012 0,.mp 2000013 0,.mp 2000014 0,.mp 2000015 0],.map [] 0,.abs (tr []),.map [] 0,.map [] 0,.map [] 0,.map [] 0,.map [] 0,.map [] 0,.map [] 0,.map [] 0,.map [] 0,.map [] 0,.map [] 0,.map [] 0,.map [] 0]
theorem bjw:PM [] [] 0:=⟨ay3,by simp⟩
theorem bi0:TK (KL []) 0 []:=⟨⟨by simp,by simp [Srt]⟩,λ x=>by simp [KL],rfl⟩
theorem bfb:StL [] [] 0 [] (λ _=>[]) (λ _=>0):=
 ⟨by simp,by simp,bjw,bi0,λ r a=>by
  have:cnt [] r=λ _=>0:=by funext w; simp [cnt]
  rw [this]; exact blj⟩
theorem bkd:a8 P0 32 [] [] (.ptr 1000000 0 0) (z5 [] 0 [] (λ _=>[]) (λ _=>0)):=by
 refine am1.t func32 ?_
 push_cast [am1,zah]
 repeat refine sI ?_
 refine a6 bmz rfl trivial ?_
 push_cast
 repeat refine sI ?_
 refine b9 [(7,false),(1,false)] (λ vs pos b=>∃r:Nat,r<=13/\vs=[int .i64 r,.ptr 2000000 0 0]/\pos=[]/\b=pz r)
  (λ vs _ _=>match vs with | .r (.v (.int _ j))::_=>(13-j).toNat | _=>0) rfl ?_ ?_
 ·push_cast
  refine ⟨0,by omega,?_⟩;simp only [pz];exact ⟨rfl,trivial⟩
 rintro vs pos b ⟨r,c,rfl,rfl,a⟩;rcases (show r=0\/r=1\/r=2\/r=3\/r=4\/r=5\/r=6\/r=7\/r=8\/r=9\/r=10\/r=11\/r=12\/r=13 by omega) with rfl | rfl | rfl | rfl | rfl | rfl | rfl | rfl | rfl | rfl | rfl | rfl | rfl | rfl
 ·simp only [pz] at a;subst a
  push_cast [show decide ((0:Int)<13)=true from rfl,zae]
  repeat refine sI ?_
  refine ⟨⟨0+1,by omega,rfl,rfl⟩,by decide⟩
 ·simp only [pz] at a;subst a
  push_cast [show decide ((1:Int)<13)=true from rfl,zae]
  repeat refine sI ?_
  refine ⟨⟨1+1,by omega,rfl,rfl⟩,by decide⟩
 ·simp only [pz] at a;subst a
  push_cast [show decide ((2:Int)<13)=true from rfl,zae]
  repeat refine sI ?_
  refine ⟨⟨2+1,by omega,rfl,rfl⟩,by decide⟩
 ·simp only [pz] at a;subst a
  push_cast [show decide ((3:Int)<13)=true from rfl,zae]
  repeat refine sI ?_
  refine ⟨⟨3+1,by omega,rfl,rfl⟩,by decide⟩
 ·simp only [pz] at a;subst a
  push_cast [show decide ((4:Int)<13)=true from rfl,zae]
  repeat refine sI ?_
  refine ⟨⟨4+1,by omega,rfl,rfl⟩,by decide⟩
 ·simp only [pz] at a;subst a
  push_cast [show decide ((5:Int)<13)=true from rfl,zae]
  repeat refine sI ?_
  refine ⟨⟨5+1,by omega,rfl,rfl⟩,by decide⟩
 ·simp only [pz] at a;subst a
  push_cast [show decide ((6:Int)<13)=true from rfl,zae]
  repeat refine sI ?_
  refine ⟨⟨6+1,by omega,rfl,rfl⟩,by decide⟩
 ·simp only [pz] at a;subst a
  push_cast [show decide ((7:Int)<13)=true from rfl,zae]
  repeat refine sI ?_
  refine ⟨⟨7+1,by omega,rfl,rfl⟩,by decide⟩
 ·simp only [pz] at a;subst a
  push_cast [show decide ((8:Int)<13)=true from rfl,zae]
  repeat refine sI ?_
  refine ⟨⟨8+1,by omega,rfl,rfl⟩,by decide⟩
 ·simp only [pz] at a;subst a
  push_cast [show decide ((9:Int)<13)=true from rfl,zae]
  repeat refine sI ?_
  refine ⟨⟨9+1,by omega,rfl,rfl⟩,by decide⟩
 ·simp only [pz] at a;subst a
  push_cast [show decide ((10:Int)<13)=true from rfl,zae]
  repeat refine sI ?_
  refine ⟨⟨10+1,by omega,rfl,rfl⟩,by decide⟩
 ·simp only [pz] at a;subst a
  push_cast [show decide ((11:Int)<13)=true from rfl,zae]
  repeat refine sI ?_
  refine ⟨⟨11+1,by omega,rfl,rfl⟩,by decide⟩
 ·simp only [pz] at a;subst a
  push_cast [show decide ((12:Int)<13)=true from rfl,zae]
  repeat refine sI ?_
  refine ⟨⟨12+1,by omega,rfl,rfl⟩,by decide⟩
 simp only [pz] at a;subst a
 push_cast [show decide ((13:Int)<13)=false from rfl]
 rfl
theorem bd4:a8 P0 32 [] [] (.ptr 1000000 0 0) [.abs (sT [])]:=
 bgo (F:=SF []) ⟨_,_,_,_,_,bfb,rfl⟩ bkd

def aaw:Mk P0 f71:={ x:=_ }
def ac6:Mk P0 f107:={ x:=_ }
structure Sa where
 w:Int
 n:Int
 s:Int
 lo:Int
 hi:Int
deriving DecidableEq
def Sa.cs (s:Sa):List AV:=[int .u64 s.w,int .i64 s.n,int .i64 s.s,int .i64 s.lo,int .i64 s.hi]
def Sa.rv (s:Sa):RV:=.agg [.v (.int .u64 s.w),.v (.int .i64 s.n),.v (.int .i64 s.s),.v (.int .i64 s.lo),.v (.int .i64 s.hi)]
def Sa.add (s:Sa) (v:Int):Sa:=⟨s.w,IntKind.i64.wrap (s.n+1),IntKind.i64.wrap (s.s+v),if s.n=0 then v else s.lo,v⟩
theorem bhy (k:Ky) (s:Sa):a8 P0 71 [k.av,.ptr 1000000 0 0] [.box s.cs] (.tup []) [.box (s.add k.v).cs]:=by
 refine aaw.t func71 ?_
 push_cast [aaw,Ky.av,Ky.rv,Sa.cs,Sa.add,zak,zah]
 refine b7 (λ h=>?_) (λ h=>?_)
 ·have a:s.n=0:=by simpa using h
  push_cast [a,if_true]
 have a:s.n≠0:=by simpa using h
 push_cast [a,if_false]
theorem bes (k:Ky) (w:Int) (s:Sa):a8 P0 107 [k.av,.ptr 1000000 0 0,.ptr 1000001 0 0] [.box [int .u64 w],.box [.fn (.func 71) [.ptr 1000002 0 0] 0],.box s.cs] (bl (k.c == w)) [.box [int .u64 w],.box [.fn (.func 71) [.ptr 1000002 0 0] 0],.box (if k.c == w then s.add k.v else s).cs]:=by
 refine ac6.t func107 ?_
 push_cast [ac6,Ky.av,Ky.rv,Sa.cs,zak,zah]
 have a:(k.c != w)=!(k.c == w):=rfl;cases hk:(k.c == w) with
 | false=>
   push_cast [a,hk,Bool.not_false,zbl,if_false]
 | true=>
   push_cast [a,hk,Bool.not_true,if_true]
   refine ⟨by kernel_rfl,?_⟩;refine b5 (as':=[k.av,.ptr 1000000 0 0]) rfl ?_;refine a6 (bhy k s) rfl ⟨rfl,trivial⟩ ?_
   push_cast [Sa.cs]

def yt:Mk P0 f106:={ x:=_ }
theorem aat:a0c 106 3 yt:=apf func106
def agq:Mk P0 f59:={ x:=_ }
def ac7:Mk P0 f38:={ x:=_ }
theorem aiq:a0c 38 2 ac7:=apf func38
def kz:RV:=.agg [.v (.int .u64 0),.v (.int .i64 0),.v (.int .i64 0)]
theorem ay7 {l:List Ky} {i:Nat} {k:Ky} (a:l[i]?=some k):(l.map Ky.rv).getD ((i:Int)).toNat (.agg [.v (.int .u64 0),.v (.int .i64 0),.v (.int .i64 0)])=.agg [.v (.int .u64 k.c),.v (.int .i64 k.v),.v (.int .i64 k.d)]:=by
 simp [List.getD,a,Ky.rv]
def tc (lo:Ky) (w:Int) (r:List Ky):List Ky:=(r.filter λ k=>!kl k lo).takeWhile λ k=>k.c == w
variable {r:List Ky} {lo:Ky}
theorem be9 {k:Ky} {w:Int} (h:kl k lo=true):tc lo w (k::r)=tc lo w r:=by simp [tc,h]
theorem be7 {k:Ky} {w:Int} (h:kl k lo=false) (a:(k.c == w)=true):tc lo w (k::r)=k::tc lo w r:=by simp [tc,h,a]
theorem be8 {k:Ky} {w:Int} (h:kl k lo=false) (a:(k.c == w)=false):tc lo w (k::r)=[]:=by simp [tc,h,a]
def aeu (s:Sa) (l:List Ky):Sa:=l.foldl (λ s k=>s.add k.v) s
def ccO (w:Int) (s:Sa):List Ob:=[.box [int .u64 w],.box [.fn (.func 71) [.ptr 1000002 0 0] 0],.box s.cs]
def ccF:AV:=.fn (.func 107) [.ptr 1000000 0 0,.ptr 1000001 0 0] 0
theorem bha (ns:List (List Ky)) (n:Int) (lo:Ky) (r:Nat) (h:Nod ns lo r) (E:ns≠[]) (I:ns.flatten.length<=100000) (w:Int) (s:Sa) :
 a8 P0 106 [.rp (bz ns n),lo.av,ccF] (ccO w s) (.tup []) (ccO w (aeu s (tc lo w (ns.drop (r-1)).flatten))):=by
 refine aat rfl (by simp [ccO]) ?_;have x:((ns.length:Int) == 0)=false:=by simp [E]
 have t:ab9 P0 107=true:=rfl
 push_cast [yt,ccO,ccF,Sa.cs,bz,Ky.av,Ky.rv,Ky.cs,kz,zak,zah,zai,x]
 refine a6 (a7y ns n lo r h) rfl trivial ?_
 push_cast [zai]
 generalize B:aeu s (tc lo w (ns.drop (r-1)).flatten)=R
 refine b9 [(0,false),(2,false),(4,false),(6,false)] (λ vs pos d=>∃(a:Nat) (s':Sa),a<=ns.length/\R=aeu s' (tc lo w (ns.drop a).flatten) /\
  vs=[.rp (bz ns n),ccF,.ptr 2000000 0 0,int .i64 a]/\pos=ccO w s'/\d=[.box lo.cs])
  (λ vs _ _=>match vs with | [_,_,_,.r (.v (.int _ a))]=>(ns.length-a).toNat | _=>0) rfl ?_ ?_
 ·push_cast [bz,ccO,ccF,Ky.cs,Sa.cs,kz]
  have:=h.le;exact ⟨r-1,s,by omega,B.symm,by simp⟩
 rintro vs pos d ⟨a,F,H,m,rfl,rfl,rfl⟩
 push_cast [bz,ccO,ccF,Sa.cs,Ky.cs,zai]
 refine b7 (λ p=>?_) (λ p=>?_)
 ·have f:a<ns.length:=by simpa using p
  obtain ⟨l,u⟩:∃l,ns[a]?=some l:=⟨ns[a],by simp [f]⟩
  have o:=(h.ne a l u).2
  have C:ns.drop a=l::ns.drop (a+1):=by
   rw [zao f,(zaa.1 u).2]
  rw [C,zbd] at m;have D:(ns.map eh).getD ((a:Int)).toNat (.sl 3 [])=.sl 3 (l.map Ky.rv):=by simp [List.getD,u,eh]
  have y:IntKind.i64.wrap ((a:Int)+1)=(a:Int)+1:=a5 ⟨by omega,by have:=h.len; simp only [maxLen] at this; omega⟩
  push_cast [bz,zai,D]
  refine And.intro ⟨by omega,by omega⟩ ?_
  refine b9 [(0,false),(2,false),(4,false),(6,false),(33,false),(34,false),(35,false)] (λ vs pos d=>∃(j:Nat) (s':Sa),j<=l.length/\R=aeu s' (tc lo w (l.drop j++(ns.drop (a+1)).flatten)) /\
   vs=[.rp (bz ns n),ccF,.ptr 2000000 0 0,int .i64 a,.r (eh l),int .i64 l.length,int .i64 j]/\pos=ccO w s'/\d=[.box lo.cs])
   (λ vs _ _=>match vs with | [_,_,_,_,_,_,.r (.v (.int _ a))]=>(l.length-a).toNat | _=>0) rfl ?_ ?_
  ·push_cast [bz,eh,ccO,ccF,Ky.cs,Sa.cs]
   exact ⟨0,F,by omega,m,by simp⟩
  rintro vs pos d ⟨j,i,G,b,rfl,rfl,rfl⟩
  push_cast [bz,eh,ccO,ccF,Ky.cs,Sa.cs,zai]
  refine b7 (λ z=>?_) (λ z=>?_)
  ·have e:j<l.length:=by simpa using z
   have g:IntKind.i64.wrap ((j:Int)+1)=(j:Int)+1:=a5 ⟨by omega,by simp only [maxLen] at o; omega⟩;obtain ⟨k,A⟩:∃k,l[j]?=some k:=⟨l[j],by simp [e]⟩
   have q:l.drop j=k::l.drop (j+1):=by
    rw [zao e,(zaa.1 A).2]
   rw [q,zav] at b
   push_cast [bz,eh,zai,ay7 A]
   refine And.intro ⟨by omega,by omega⟩ (a6 (ay6 k lo) rfl trivial ?_);rcases hkl:kl k lo with _ | _
   ·push_cast [bz,Ky.cs,Sa.cs,eh,zai,ay7 A,t,Bool.not_false]
    refine b5 (as':=[k.av,.ptr 1000000 0 0,.ptr 1000001 0 0]) rfl ?_;refine a6 (bes k w i) rfl ⟨rfl,rfl,rfl,trivial⟩ ?_;rcases hkw:(k.c == w) with _ | _
    ·rw [be8 hkl hkw] at b
     push_cast [bz,Ky.cs,Sa.cs,eh,kz,zai,zbl,if_false]
     rw [b]
     rfl
    rw [be7 hkl hkw] at b
    push_cast [bz,Ky.cs,Sa.cs,eh,kz,zai,g,if_true]
    exact ⟨⟨j+1,i.add k.v,by omega,b,by simp⟩,by omega⟩
   rw [be9 hkl] at b
   push_cast [bz,Ky.cs,Sa.cs,eh,zai,Bool.not_true,g]
   exact ⟨⟨j+1,i,by omega,b,by simp⟩,by omega⟩
  have e:¬j<l.length:=by simpa using z
  rw [List.drop_eq_nil_of_le (by omega),zaq] at b
  push_cast [bz,eh,zai,y]
  exact ⟨⟨a+1,i,by omega,b,by simp⟩,by omega⟩
 have f:¬a<ns.length:=by simpa using p
 rw [List.drop_eq_nil_of_le (by omega)] at m
 push_cast [bz,zai]
 rw [m]
 rfl

theorem a8s {ns:List (List Ky)} (h:Good ns) (c:ns.flatten.length<=100000) (n:Int) (lo:Ky) (w:Int) (s:Sa) :
 a8 P0 106 [.rp (bz ns n),lo.av,ccF] (ccO w s) (.tup []) (ccO w (aeu s (tc lo w ns.flatten))):=by
 by_cases b:ns=[]
 ·subst b;refine aat rfl (by simp [ccO]) ?_
  push_cast [yt,ccO,ccF,Sa.cs,bz,Ky.av,Ky.rv,Ky.cs,kz,zah,zak,List.map_nil]
  rfl
 have:=bha ns n lo _ (awa h (by omega) _) b c w s;obtain ⟨i,q,l,a⟩:=spt h (by omega) lo b;rw [a.nx] at this
 have d:ns.drop i=l::ns.drop (i+1):=by
  rw [zao a.lt,(zaa.1 a.at_).2]
 have e:tc lo w ns.flatten=tc lo w (ns.drop i).flatten:=by
  rw [a.all,d,zbd];unfold tc
  conv=>lhs; rw [List.filter_append]
  have:List.filter (λ k=>!kl k lo) (List.take i ns).flatten=[]:=by
   rw [List.filter_eq_nil_iff];intro x hx;simp [a.ahead x hx]
  rw [this,zaq]
 rw [e];exact this
def bly:AV:=.fn (.func 107) [.ptr 1000001 0 0,.ptr 1000002 0 0] 0
def a40 (w:Int) (s:Sa):List Ob:=[.box [int .u64 w],.box [.fn (.func 71) [.ptr 1000003 0 0] 0],.box s.cs]
theorem bhb {ns:List (List Ky)} (h:Good ns) (a:ns.flatten.length<=100000) (lo:Ky) (w:Int) (s:Sa) :
 a8 P0 106 [.ptr 1000000 0 0,lo.av,bly] (.abs (tr ns)::a40 w s) (.tup []) (.abs (tr ns)::a40 w (aeu s (tc lo w ns.flatten))):=
 bmc (T:=tr ns) (po:=ccO w s) (a8s h a ns.flatten.length lo w s) rfl rfl rfl rfl
  (by simp [a40,jt,Sa.cs,pb,bj,ft]) (by simp [ccO,jt,Sa.cs,pb,bj,ft]) (by simp [bj,pb])
theorem ber {ns:List (List Ky)} (h:Good ns) (a:ns.flatten.length<=100000) (w:Int) (s:Sa) :
 a8 P0 59 [.ptr 1000000 0 0,int .u64 w,.fn (.func 71) [.ptr 1000001 0 0] 0] [.abs (tr ns),.box s.cs] (.tup []) [.abs (tr ns),.box (aeu s (tc ⟨w,-9223372036854775808,-9223372036854775808⟩ w ns.flatten)).cs]:=by
 refine agq.t func59 ?_
 push_cast [agq,Sa.cs,zak,zah]
 refine ⟨by kernel_rfl,?_⟩;refine b5 (as':=[.ptr 1000000 0 0,Ky.av ⟨w,-9223372036854775808,-9223372036854775808⟩,bly]) rfl ?_;refine a6 (bhb h a _ w s) rfl ⟨rfl,rfl,rfl,rfl,trivial⟩ ?_
 push_cast [a40,Sa.cs]

def atw (s:Sa):AV:=if s.n=0 then .tup [.r (Sa.rv ⟨0,0,0,0,0⟩),bl false] else .tup [.r s.rv,bl true]
section
variable {L:List Pt} {es:List MapEntry} {c:Nat} {ns:List (List Ky)} {ce:Nat->List MapEntry} {cc:Nat->Nat}
def a3s (ns:List (List Ky)) (w:Int):Sa:=aeu ⟨w,0,0,0,0⟩ (tc ⟨w,-9223372036854775808,-9223372036854775808⟩ w ns.flatten)
theorem bhx (h:StL L es c ns ce cc) (w:Int):a8 P0 38 [.ptr 1000000 0 0,int .u64 w] (z5 es c ns ce cc) (atw (a3s ns w)) (z5 es c ns ce cc):=by
 have d:=ber h.tk.g (by rw [h.tk.l]; have:=h.le; omega) w ⟨w,0,0,0,0⟩;refine aiq rfl (by simp [z5]) ?_
 push_cast [ac7,z5,zak,zah]
 repeat refine sI ?_
 refine a6 d rfl ⟨rfl,rfl,trivial⟩ ?_;unfold a3s;generalize aeu ⟨w,0,0,0,0⟩ (tc ⟨w,-9223372036854775808,-9223372036854775808⟩ w ns.flatten)=q
 push_cast [Sa.cs]
 refine b7 (λ b=>?_) (λ b=>?_)
 ·have a:q.n=0:=by simpa using b
  push_cast [atw,a,if_true,Sa.rv]
 have a:q.n≠0:=by simpa using b
 push_cast [atw,a,if_false,Sa.rv]
end

def inC (w:Nat) (p:Pt):Bool:=(List.range 13).any λ r=>p.w r == w
def mem (L:List Pt) (w:Nat):List Pt:=L.filter (inC w)
def abp (M:List Pt):Int:=(M.map (·.v)).sum
def loV:List Pt->Int
 | []=>0
 | p::l=>l.foldl (λ a q=>min a q.v) p.v
def hiV:List Pt->Int
 | []=>0
 | p::l=>l.foldl (λ a q=>max a q.v) p.v
theorem akk:inC w p=true↔∃r,r<13/\p.w r=w:=by simp [inC]
theorem ayz:∀(l:List Pt) (a:Int),(l.foldl (λ a q=>min a q.v) a<=a/\∀q∈l,l.foldl (λ a q=>min a q.v) a<=q.v)/\(l.foldl (λ a q=>min a q.v) a=a\/∃q∈l,l.foldl (λ a q=>min a q.v) a=q.v)
 | [],a=>by simp
 | p::l,a=>by
   obtain ⟨⟨f,d⟩,b⟩:=ayz l (min a p.v);simp only [List.foldl_cons];refine ⟨⟨by omega,λ q c=>?_⟩,?_⟩
   ·rcases zac.1 c with rfl | c
    ·omega
    exact d q c
   rcases b with b | ⟨q,c,b⟩
   ·rcases (show min a p.v=a\/min a p.v=p.v by omega) with e | e
    ·exact .inl (b.trans e)
    exact .inr ⟨p,by simp,b.trans e⟩
   exact .inr ⟨q,by simp [c],b⟩
theorem ay1:∀(l:List Pt) (a:Int),(a<=l.foldl (λ a q=>max a q.v) a/\∀q∈l,q.v<=l.foldl (λ a q=>max a q.v) a)/\(l.foldl (λ a q=>max a q.v) a=a\/∃q∈l,l.foldl (λ a q=>max a q.v) a=q.v)
 | [],a=>by simp
 | p::l,a=>by
   obtain ⟨⟨f,d⟩,b⟩:=ay1 l (max a p.v);simp only [List.foldl_cons];refine ⟨⟨by omega,λ q c=>?_⟩,?_⟩
   ·rcases zac.1 c with rfl | c
    ·omega
    exact d q c
   rcases b with b | ⟨q,c,b⟩
   ·rcases (show max a p.v=a\/max a p.v=p.v by omega) with e | e
    ·exact .inl (b.trans e)
    exact .inr ⟨p,by simp,b.trans e⟩
   exact .inr ⟨q,by simp [c],b⟩
variable {M:List Pt}
theorem a78 (h:M≠[]):(∃q∈M,q.v=loV M)/\∀q∈M,loV M<=q.v:=by
 rcases M with _ | ⟨p,l⟩
 ·exact absurd rfl h
 obtain ⟨⟨d,c⟩,a⟩:=ayz l p.v;refine ⟨?_,λ q b=>?_⟩
 ·rcases a with a | ⟨q,b,a⟩
  ·exact ⟨p,by simp,a.symm⟩
  exact ⟨q,by simp [b],a.symm⟩
 rcases zac.1 b with rfl | b
 ·exact d
 exact c q b
theorem a8n (h:M≠[]):(∃q∈M,q.v=hiV M)/\∀q∈M,q.v<=hiV M:=by
 rcases M with _ | ⟨p,l⟩
 ·exact absurd rfl h
 obtain ⟨⟨d,c⟩,a⟩:=ay1 l p.v;refine ⟨?_,λ q b=>?_⟩
 ·rcases a with a | ⟨q,b,a⟩
  ·exact ⟨p,by simp,a.symm⟩
  exact ⟨q,by simp [b],a.symm⟩
 rcases zac.1 b with rfl | b
 ·exact d
 exact c q b
theorem as7:kl a b=true↔a.c<b.c\/(a.c=b.c/\(a.v<b.v\/(a.v=b.v/\a.d<b.d))):=by
 unfold kl;split
 ·rw [decide_eq_true_iff]; omega
 split
 ·rw [decide_eq_true_iff]; omega
 rw [decide_eq_true_iff]; omega
theorem bd6:kl a b=false↔¬(a.c<b.c\/(a.c=b.c/\(a.v<b.v\/(a.v=b.v/\a.d<b.d)))):=by
 rw [<- as7]; simp
theorem bix {w:Int}:∀{M:List Ky},Srt M->(∀k∈M,w<=k.c)->M.takeWhile (λ k=>k.c == w)=M.filter λ k=>k.c == w
 | [],_,_=>rfl
 | x::M,h,hw=>by
   have a:=List.pairwise_cons.1 h;rw [List.takeWhile_cons,List.filter_cons];rcases hx:(x.c == w) with _ | _
   ·simp only [zbl,if_false];rw [eq_comm,List.filter_eq_nil_iff];intro y hy hc;have:=as7.1 (a.1 y hy);have b:=hw x (by simp);simp at hx hc;omega
   simp only [if_true];rw [bix a.2 λ k d=>hw k (by simp [d])]
theorem bmj {K:List Ky} (h:Srt K) (w:Int) (e:∀k∈K,-9223372036854775808<=k.v/\-9223372036854775808<=k.d):tc ⟨w,-9223372036854775808,-9223372036854775808⟩ w K=K.filter λ k=>k.c == w:=by
 unfold tc;rw [bix (h.sublist zbt),List.filter_filter]
 ·apply List.filter_congr;intro k a;have:=e k a;rcases hc:(k.c == w) with _ | _
  ·rfl
  simp at hc;rw [Bool.true_and,Bool.not_eq_true',bd6];simp only;omega
 intro k a;obtain ⟨f,b⟩:=zbf.1 a;have:=e k f;rw [Bool.not_eq_true',bd6] at b;simp only at b;omega
def ajk (F:List Ky):Int:=(F.map (·.v)).sum
theorem a24:∀(F:List Ky) (s:Sa),0<=s.n->s.n+F.length<=100000->-2147483648*s.n<=s.s->s.s<=2147483648*s.n->(∀k∈F,-2147483648<=k.v/\k.v<=2147483648) ->
 aeu s F=⟨s.w,s.n+F.length,s.s+ajk F,if s.n=0 then ((F.head?).map (·.v)).getD s.lo else s.lo,((F.getLast?).map (·.v)).getD s.hi⟩
 | [],s,_,_,_,_,_=>by simp [aeu,ajk]
 | k::F,s,h1,h2,h3,h4,h5=>by
   have f:=h5 k (by simp);simp only [zak] at h2;have a:IntKind.i64.wrap (s.n+1)=s.n+1:=a5 (by omega);have b:IntKind.i64.wrap (s.s+k.v)=s.s+k.v:=a5 (by omega);have c:=a24 F (s.add k.v) (by simp only [Sa.add,a]; omega) (by simp only [Sa.add,a]; omega) (by simp only [Sa.add,a,b]; omega) (by simp only [Sa.add,a,b]; omega) λ q d=>h5 q (by simp [d]);have e:aeu s (k::F)=aeu (s.add k.v) F:=rfl;rw [e,c];simp only [Sa.add,a,b,Sa.mk.injEq,zak,ajk,zbe,List.sum_cons,List.head?_cons,Option.map_some,Option.getD_some,true_and];refine ⟨by omega,by omega,?_,?_⟩
   ·rw [if_neg (by omega)]
   rw [List.getLast?_cons];cases hF:F.getLast? <;> simp
theorem a5v {F G:List Ky} (h:F.Perm G):ajk F=ajk G:=by
 induction h with
 | nil=>rfl
 | cons x _ ih=>simp only [ajk,zbe,List.sum_cons] at ih |-; omega
 | swap x y l=>simp only [ajk,zbe,List.sum_cons]; omega
 | trans _ _ h1 h2=>exact h1.trans h2
def apl (L:List Pt) (w:Nat):Sa:=if mem L w=[] then ⟨w,0,0,0,0⟩ else ⟨w,(mem L w).length,abp (mem L w),loV (mem L w),hiV (mem L w)⟩
theorem a0k {w:Int} (h:(M.map (·.k)).Nodup):(M.map λ p=>(⟨w,p.v,p.k⟩:Ky)).Nodup:=by
 have:(M.map (·.k))=(M.map λ p=>(⟨w,p.v,p.k⟩:Ky)).map (·.d):=by simp
 rw [this] at h;exact (List.pairwise_map.1 h).imp λ {a b} c e=>c (by rw [e])
theorem bf4 {L:List Pt} {es:List MapEntry} {c:Nat} {ns:List (List Ky)} {ce:Nat->List MapEntry} {cc:Nat->Nat} (h:StL L es c ns ce cc) (w:Nat):a3s ns w=apl L w:=by
 have V:∀k∈ns.flatten,∃p∈L,∃r,r<13/\k=p.ky r:=λ k f=>(h.tk.m k).1 f
 have S:∀k∈ns.flatten,-2147483648<=k.v/\k.v<=2147483647/\1<=k.d:=λ k f=>by
  obtain ⟨p,i,r,J,rfl⟩:=V k f;have:=h.ok p i;exact ⟨this.2.2.1,this.2.2.2,this.1.1⟩
 unfold a3s;rw [bmj h.tk.g.so w λ k f=>by have:=S k f; omega];generalize M:(ns.flatten.filter λ k=>k.c == (w:Int))=F;have s:Srt F:=by rw [<- M]; exact h.tk.g.so.sublist zbt
 have o:∀k,k∈F↔k∈(mem L w).map λ p=>(⟨w,p.v,p.k⟩:Ky):=λ k=>by
  rw [<- M,zbf,h.tk.m,zal];constructor
  ·rintro ⟨⟨p,i,r,J,rfl⟩,hc⟩;have H:p.w r=w:=Int.ofNat.inj (by simpa [Pt.ky] using hc);exact ⟨p,zbf.2 ⟨i,akk.2 ⟨r,J,H⟩⟩,by simp [Pt.ky,H]⟩
  rintro ⟨p,i,rfl⟩;obtain ⟨i,hi⟩:=zbf.1 i;obtain ⟨r,J,e⟩:=akk.1 hi;exact ⟨⟨p,i,r,J,by simp [Pt.ky,e]⟩,by simp⟩
 have D:((mem L w).map (·.k)).Nodup:=by
  have:((mem L w).map (·.k)).Sublist (L.map (·.k)):=zbt.map _;exact this.nodup h.pm.nd
 have B:F.Nodup:=s.imp λ {a b} E e=>by subst e; rw [as6] at E; cases E
 have T:F.Perm ((mem L w).map λ p=>(⟨w,p.v,p.k⟩:Ky)):=(List.perm_ext_iff_of_nodup B (a0k D)).2 o;have j:=T.length_eq;rw [zai] at j;have h0:(mem L w).length<=L.length:=List.length_filter_le ..;have:=h.le
 have K:∀k∈F,-2147483648<=k.v/\k.v<=2147483648:=λ k f=>by
  rw [<- M] at f;have:=S k (zbf.1 f).1;omega
 rw [a24 F ⟨w,0,0,0,0⟩ (by simp) (by simp only; omega) (by simp) (by simp) K]
 have I:ajk F=abp (mem L w):=by
  rw [a5v T];simp [ajk,abp,List.map_map,Function.comp_def]
 unfold apl;by_cases u:mem L w=[]
 ·have t:F=[]:=zbu.1 (by rw [j,u]; rfl);rw [if_pos u];subst t;simp [ajk]
 rw [if_neg u];have t:F≠[]:=λ e=>u (zbu.1 (by rw [<- j,e]; rfl));obtain ⟨x,F',rfl⟩:=zbr t;obtain ⟨Z,W⟩:=a78 u;obtain ⟨u1,Y⟩:=a8n u
 have hv:∀k∈x::F',∃p∈mem L w,k.v=p.v:=λ k f=>by
  obtain ⟨p,i,rfl⟩:=zal.1 ((o k).1 f);exact ⟨p,i,rfl⟩
 have A:∀p∈mem L w,∃k∈x::F',k.v=p.v:=λ p i=>⟨_,(o _).2 (zal.2 ⟨p,i,rfl⟩),rfl⟩
 have hc:∀k∈x::F',k.c=w:=λ k f=>by
  obtain ⟨p,i,rfl⟩:=zal.1 ((o k).1 f)
  rfl
 have hs:=List.pairwise_cons.1 s
 have P:x.v=loV (mem L w):=by
  obtain ⟨p,i,e⟩:=hv x (by simp);obtain ⟨q,O,e2⟩:=Z;obtain ⟨k,f,R⟩:=A q O;have U:=W p i;rcases zac.1 f with rfl | n
  ·omega
  have:=as7.1 (hs.1 k n);have X:=hc x (by simp);have c2:=hc k f;omega
 obtain ⟨y,hy⟩:∃y,(x::F').getLast?=some y:=⟨(x::F').getLast (by simp),zbv (by simp)⟩
 have C:y∈x::F':=List.mem_of_getLast? hy
 have N:y.v=hiV (mem L w):=by
  obtain ⟨p,i,e⟩:=hv y C;obtain ⟨q,O,e2⟩:=u1;obtain ⟨k,f,R⟩:=A q O;have U:=Y p i
  obtain ⟨G,Q⟩:∃G,x::F'=G++[y]:=⟨(x::F').dropLast,by
   have e:=zbv (l:=x::F') (by simp);rw [hy] at e;rw [Option.some.inj e]
   exact (List.dropLast_concat_getLast (by simp)).symm⟩
  have z:=s;rw [Q] at z f;rcases zab.1 f with n | n
  ·have:=as7.1 ((List.pairwise_append.1 z).2.2 k n y (by simp));have X:=hc y C;have c2:=hc k (by rw [Q]; simp [n]);omega
  rw [zbn.1 n] at R;omega
 rw [hy];simp only [if_true,List.head?_cons,Option.map_some,Option.getD_some,P,N,I,j,Int.zero_add]
def ahp (L:List Pt) (w:Nat):AV:=if mem L w=[] then .tup [.r (Sa.rv ⟨0,0,0,0,0⟩),bl false] else .tup [.r (apl L w).rv,bl true]
theorem bcy (L:List Pt) (w:Nat):atw (apl L w)=ahp L w:=by
 unfold atw ahp apl;by_cases a:mem L w=[]
 ·simp [a]
 have:(mem L w).length≠0:=λ e=>a (zbu.1 e);rw [if_neg a,if_neg (by simp only; omega),if_neg a]
theorem blx (L:List Pt) (w:Nat):a8 P0 38 [.ptr 1000000 0 0,int .u64 w] [.abs (sT L)] (ahp L w) [.abs (sT L)]:=by
 have:=bbi (P:=P0) (f:=38) (F:=SF L) (F':=SF L) rfl («as»:=[int .u64 w]) (res:=ahp L w) (ex:=[]) (λ os h=>by
  obtain ⟨es,c,ns,a,cc,h,rfl⟩:=h;refine ⟨_,⟨_,_,_,_,_,h,rfl⟩,?_⟩;rw [List.append_nil,<- bcy,<- bf4 h]
  exact bhx h w) rfl (by simp) (by unfold ahp; split<;>simp [bj,pb,ft,uc,Sa.rv])
 have e:∀F,imV F (ahp L w)=ahp L w:=λ F=>by unfold ahp; split<;>rfl
 rw [e] at this;exact this

def apv:Mk P0 f18:={ x:=_ }
def pts (l:List Pt):RV:=.sl 4 (l.map Pt.rv)
theorem a1o {l:List Pt} {i:Nat} (h:l[i]?=some p) (z:RV):(l.map Pt.rv).getD ((i:Int)).toNat z=.agg [.v (.int .i64 p.k),.v (.int .i64 p.x),.v (.int .i64 p.y),.v (.int .i64 p.v)]:=by
 simp [List.getD,h,Pt.rv]

def abf:Mk P0 f17:={ x:=_ }
def aej (a:List Int):RV:=.sl 1 (a.map λ x=>.v (.int .i64 x))
theorem als {a:List Int} {i:Nat} {x:Int} (h:a[i]?=some x) (z:RV):(a.map λ x=>RV.v (.int .i64 x)).getD ((i:Int)).toNat z=.v (.int .i64 x):=by
 simp [List.getD,h]
def gPt (a b:Int) (l:List Pt):Pt:=match l.getLast? with
 | some p=>if a/1099511627776%4≠0 then ⟨l.length+1,min (p.x+a%1024) 1073741823,min (p.y+b%1024) 1073741823,b/1073741824%256-99⟩ else ⟨l.length+1,a%1073741824,b%1073741824,b/1073741824%256-99⟩
 | none=>⟨l.length+1,a%1073741824,b%1073741824,b/1073741824%256-99⟩
def nf:List Int->List Pt->List Pt
 | a::b::r,l=>if l.length<40 then nf r (l++[gPt a b l]) else l
 | _,l=>l
def GP (l:List Pt):Prop:=∀(j:Nat) (p:Pt),l[j]?=some p->p.k=(j:Int)+1/\p.ok
theorem bnl (a b:Int) (l:List Pt):(gPt a b l).k=(l.length:Int)+1:=by
 unfold gPt;split
 ·split<;>rfl
 rfl
theorem bk4 {a b:Int} {l:List Pt} (h:GP l) (d:l.length<40):(gPt a b l).ok:=by
 unfold gPt;split
 ·rename_i p c;rw [List.getLast?_eq_getElem?] at c;have:=(h _ p c).2.2.1;unfold inW at this;split
  ·refine ⟨by simp only; omega,?_,by simp only; omega⟩;simp only [inW];omega
  refine ⟨by simp only; omega,?_,by simp only; omega⟩;simp only [inW];omega
 refine ⟨by simp only; omega,?_,by simp only; omega⟩;simp only [inW];omega
theorem atc {a b:Int} {l:List Pt} (h:GP l) (e:l.length<40):GP (l++[gPt a b l]):=by
 intro j p c;rcases Nat.lt_trichotomy j l.length with d | d | d
 ·rw [zar d] at c;exact h j p c
 ·subst d;rw [List.getElem?_append_right (zaf _),Nat.sub_self] at c;simp at c;subst c;exact ⟨bnl ..,bk4 h e⟩
 rw [List.getElem?_eq_none (by simp; omega)] at c;cases c
theorem m30 (a:Int):IntKind.i64.wrap ((zam IntKind.i64.bits a &&& zam IntKind.i64.bits 1073741823).toNat)=a%1073741824:=al6 a 1073741823 30 (by decide) (by decide)
theorem m8 (a:Int):IntKind.i64.wrap ((zam IntKind.i64.bits a &&& zam IntKind.i64.bits 255).toNat)=a%256:=al6 a 255 8 (by decide) (by decide)
theorem m2 (a:Int):IntKind.i64.wrap ((zam IntKind.i64.bits a &&& zam IntKind.i64.bits 3).toNat)=a%4:=al6 a 3 2 (by decide) (by decide)
theorem m10 (a:Int):IntKind.i64.wrap ((zam IntKind.i64.bits a &&& zam IntKind.i64.bits 1023).toNat)=a%1024:=al6 a 1023 10 (by decide) (by decide)
theorem a3o (b:Int):b.fdiv (2^min (Int.toNat 30) IntKind.i64.bits)=b/1073741824:=Int.fdiv_eq_ediv_of_nonneg b (by decide)
theorem bap (b:Int):b.fdiv (2^min (Int.toNat 40) IntKind.i64.bits)=b/1099511627776:=Int.fdiv_eq_ediv_of_nonneg b (by decide)
theorem w99 (b:Int):IntKind.i64.wrap (b%256-99)=b%256-99:=a5 (by omega)
theorem beb (d:List Int) (hx:∀x∈d,-9223372036854775808<=x/\x<=9223372036854775807) {res:AV} {ro:List Ob}
 (m:(nf d []=[]/\res=.nils 4 (Pt.rv ⟨0,0,0,0⟩)/\ro=[])\/(nf d []≠[]/\res=.own 1000000 0 0 (nf d []).length/\ro=[.row 4 (Pt.rv ⟨0,0,0,0⟩) true true ((nf d []).map Pt.rv)])) :
 a8 P0 17 [.r (aej d)] [] res ro:=by
 refine abf.t func17 ?_;have O:100<=maxLen:=by decide
 simp only [abf,aej,push_cast]
 refine b9 [(4,false),(0,false),(3,false)] (λ vs pos o=>∃(i:Nat) (c:List Pt),i=2*c.length/\i<=80/\GP c/\nf d []=nf (d.drop i) c/\(c=[]/\vs=[int .i64 i,.r (aej d),.nils 4 (Pt.rv ⟨0,0,0,0⟩)]/\pos=[]/\o=[] \/
  c≠[]/\vs=[int .i64 i,.r (aej d),.own 2000000 0 0 c.length]/\pos=[]/\o=[.row 4 (Pt.rv ⟨0,0,0,0⟩) true true (c.map Pt.rv)]))
  (λ vs _ _=>match vs with | .r (.v (.int _ j))::_=>(80-j).toNat | _=>0) rfl ?_ ?_
 ·simp only [aej,Pt.rv,push_cast,↓reduceIte,reduceCtorEq,zE,zA];exact ⟨0,[],rfl,by omega,by simp [GP],rfl,.inl ⟨rfl,rfl⟩⟩
 rintro vs pos o ⟨i,c,hi,R,g,C,s⟩;have w:IntKind.i64.wrap ((i:Int)+1)=(i:Int)+1:=a5 (by omega);have u:IntKind.i64.wrap ((i:Int)+2)=(i:Int)+2:=a5 (by omega);rcases s with ⟨rfl,rfl,rfl,rfl⟩ | ⟨J,rfl,rfl,rfl⟩
 ·have T:i=0:=hi;have e:decide ((i:Int)>0)=false:=by simp at hi |-; omega
  simp only [aej,Pt.rv,w,push_cast,↓reduceIte,reduceCtorEq,zE];refine b7 (λ h=>?_) (λ h=>?_)
  ·have P:i<80:=by
    simp at h;omega
   have l:i+1<d.length:=by
    simp at h;omega
   obtain ⟨a,B⟩:∃a,d[i]?=some a:=⟨d[i],by simp⟩
   obtain ⟨b,F⟩:∃b,d[i+1]?=some b:=⟨d[i+1],by simp [l]⟩
   have A:∀z,(d.map λ x=>RV.v (.int .i64 x)).getD ((i:Int)).toNat z=.v (.int .i64 a):=als B;have E:∀z,(d.map λ x=>RV.v (.int .i64 x)).getD ((i:Int)+1).toNat z=.v (.int .i64 b):=λ z=>by simpa using als F z
   have D:IntKind.i64.wrap (IntKind.i64.wrap ((i:Int).tdiv 2)+1)=1:=by simp at hi; subst hi; decide
   simp only [w,u,e,A,E,D,m30,m8,a3o,w99,push_cast,↓reduceIte,reduceCtorEq,zE,zA,zL,zD,zM]
   have I:d.drop i=a::b::d.drop (i+2):=by
    rw [zao (by omega),(zaa.1 B).2,zao l,(zaa.1 F).2]
   repeat refine And.intro (by first | decide | omega | (simp +contextual; done) | kernel_rfl) ?_
   refine ⟨⟨i+2,[gPt a b []],by rw [show i=0 from hi]; rfl,by rw [show i=0 from hi]; decide,atc g (by decide),?_,.inr ⟨by simp,rfl,rfl⟩⟩,by omega⟩;rw [C,I,nf,if_pos (by simp)]
   rfl
  have l:¬i+1<d.length:=by
   intro l;simp at h;have:=h (by omega);omega
  have f:nf d []=[]:=by
   rw [C];have:i=0:=hi;subst this;rcases d with _ | ⟨a,_ | ⟨b,r⟩⟩
   ·rfl
   ·rfl
   simp at l
  rcases m with ⟨_,rfl,rfl⟩ | ⟨M,_,_⟩
  ·simp only [Pt.rv,push_cast,↓reduceIte,reduceCtorEq,zE,zA]
  exact absurd f M
 obtain ⟨q,L⟩:∃q,c.getLast?=some q:=⟨c.getLast J,zbv J⟩
 have Q:0<c.length:=zbq.2 J;have e:decide ((i:Int)>0)=true:=by simp; omega
 have G:c[c.length-1]?=some q:=by rw [<- List.getLast?_eq_getElem?]; exact L
 have K:IntKind.i64.wrap ((c.length:Int)-1)=((c.length-1:Nat):Int):=by rw [a5 (by omega)]; omega
 have H:∀z,(c.map Pt.rv).getD (((c.length-1:Nat):Int)).toNat z=.agg [.v (.int .i64 q.k),.v (.int .i64 q.x),.v (.int .i64 q.y),.v (.int .i64 q.v)]:=a1o G;have p:∀z,(c.map Pt.rv).getD (0+(((c.length-1:Nat):Int)).toNat) z=.agg [.v (.int .i64 q.k),.v (.int .i64 q.x),.v (.int .i64 q.y),.v (.int .i64 q.v)]:=λ z=>by rw [Nat.zero_add]; exact H z
 simp only [aej,Pt.rv,w,push_cast,↓reduceIte,reduceCtorEq,zE];refine b7 (λ h=>?_) (λ h=>?_)
 ·have P:i<80:=by
   simp at h;omega
  have l:i+1<d.length:=by
   simp at h;omega
  obtain ⟨a,B⟩:∃a,d[i]?=some a:=⟨d[i],by simp⟩
  obtain ⟨b,F⟩:∃b,d[i+1]?=some b:=⟨d[i+1],by simp [l]⟩
  have A:∀z,(d.map λ x=>RV.v (.int .i64 x)).getD ((i:Int)).toNat z=.v (.int .i64 a):=als B;have E:∀z,(d.map λ x=>RV.v (.int .i64 x)).getD ((i:Int)+1).toNat z=.v (.int .i64 b):=λ z=>by simpa using als F z
  have D:IntKind.i64.wrap (IntKind.i64.wrap ((i:Int).tdiv 2)+1)=c.length+1:=by
   rw [show (i:Int).tdiv 2=c.length by rw [hi]; simp,show IntKind.i64.wrap (c.length:Int)=c.length from a5 (by omega)];exact a5 (by omega)
  have I:d.drop i=a::b::d.drop (i+2):=by
   rw [zao (by omega),(zaa.1 B).2,zao l,(zaa.1 F).2]
  simp only [w,e,A,E,m30,m2,bap,push_cast,↓reduceIte,reduceCtorEq,zE,zA,zL]
  repeat refine And.intro (by first | decide | omega | (simp +contextual; done) | kernel_rfl) ?_
  have N:=(g _ q G).2.2.1;unfold inW at N;have S:IntKind.i64.wrap (q.x+a%1024)=q.x+a%1024:=a5 (by omega);have U:IntKind.i64.wrap (q.y+b%1024)=q.y+b%1024:=a5 (by omega);refine b7 (λ hc=>?_) (λ hc=>?_)
  ·simp only [S,U,w,u,K,p,A,E,D,m8,m10,a3o,w99,push_cast,↓reduceIte,reduceCtorEq,zE,zA,zL,zD]
   repeat refine And.intro (by first | decide | omega | (simp +contextual; done) | kernel_rfl) ?_
   refine ⟨⟨i+2,c++[gPt a b c],by simp; omega,by omega,atc g (by omega),?_,.inr ⟨by simp,?_⟩⟩,by omega⟩
   ·rw [C,I,nf,if_pos (by omega)]
   have n:a/1099511627776%4≠0:=by simpa using hc
   simp [gPt,L,n,Pt.rv]
  simp only [w,u,E,D,m8,a3o,w99,push_cast,↓reduceIte,reduceCtorEq,zE,zA,zL,zD]
  repeat refine And.intro (by first | decide | omega | (simp +contextual; done) | kernel_rfl) ?_
  refine ⟨⟨i+2,c++[gPt a b c],by simp; omega,by omega,atc g (by omega),?_,.inr ⟨by simp,?_⟩⟩,by omega⟩
  ·rw [C,I,nf,if_pos (by omega)]
  have n:¬a/1099511627776%4≠0:=by simpa using hc
  simp [gPt,L,n,Pt.rv]
 have l:¬(i+1<d.length/\i<80):=by
  rintro ⟨V,W⟩;simp at h;have:=h (by omega);omega
 have f:nf d []=c:=by
  rw [C];rcases hx':d.drop i with _ | ⟨a,_ | ⟨b,r⟩⟩
  ·rfl
  ·rfl
  have:=congrArg List.length hx';simp at this;rw [nf,if_neg (by omega)]
 rcases m with ⟨M,_,_⟩ | ⟨_,rfl,rfl⟩
 ·exact absurd (f.symm.trans M) J
 rw [f];simp only [Pt.rv,push_cast,↓reduceIte,reduceCtorEq,zE,zA,zL,zD]
theorem a2n:∀(c:List Int) (l:List Pt),GP l->GP (nf c l)
 | [],l,h=>h
 | [_],l,h=>h
 | a::b::r,l,h=>by
   rw [nf];split
   ·exact a2n r _ (atc h (by assumption))
   exact h
theorem a2m:∀(c:List Int) (l:List Pt),l.length<=40->(nf c l).length<=40
 | [],l,h=>h
 | [_],l,h=>h
 | a::b::r,l,h=>by
   rw [nf];split
   ·exact a2m r _ (by simp; omega)
   exact h
theorem bbd (a:List Int) (hx:∀x∈a,-9223372036854775808<=x/\x<=9223372036854775807) :
 a8 P0 17 [.r (aej a)] [] (.own 1000000 0 0 (nf a []).length) [.row 4 (Pt.rv ⟨0,0,0,0⟩) true true ((nf a []).map Pt.rv)]:=by
 by_cases h:nf a []=[]
 ·rw [h];exact aed (beb a hx (.inl ⟨h,rfl,rfl⟩))
 exact beb a hx (.inr ⟨h,rfl,rfl⟩)

theorem azy (L:List Pt) (w:Nat) (h:mem L w≠[]):a8 P0 38 [.ptr 1000000 0 0,int .u64 w] [.abs (sT L)] (.tup [.r (.agg [.v (.int .u64 w),.v (.int .i64 (mem L w).length),.v (.int .i64 (abp (mem L w))),.v (.int .i64 (loV (mem L w))),.v (.int .i64 (hiV (mem L w)))]),bl true]) [.abs (sT L)]:=by
 have:=blx L w;unfold ahp apl at this;rw [if_neg h,if_neg h] at this;exact this

theorem bb4 (h:p.ok) {r:Nat} (d:r<13) (c:z9 w=r):inC w p=decide (p.w r=w):=by
 cases e:inC w p with
 | true=>
   obtain ⟨s,b,a⟩:=akk.1 e;have:=(Pt.w_res h b).2.1;rw [a,c] at this;subst this;simp [a]
 | false=>
   rw [eq_comm,decide_eq_false_iff_not];intro a;rw [akk.2 ⟨r,d,a⟩] at e;cases e


end
end Go.Ev

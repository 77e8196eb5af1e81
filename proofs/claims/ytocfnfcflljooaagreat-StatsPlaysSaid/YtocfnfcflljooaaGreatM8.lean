import Derived.Deep.RegionLaw
import Derived.Deep.RegionHeld3
import Derived.Test.YtocfnfcflljooaaGreatM7
open Nat renaming reduceBEq → zB, reduceEqDiff → zE, reduceAdd → zA, reduceSub → zS, reduceLT → zL, reduceLeDiff → zD, reduceMul → zM
open Go.Proofs.Tryz renaming prog → P0
open Go.Proofs.Tryz
open List renaming getElem?_eq_some_iff → zaa, mem_cons → zab, mem_append → zac, mem_of_getElem? → zad, mem_iff_getElem? → zag, length_cons → zah, length_nil → zai, length_map → zaj, nodup_cons → zak, mem_map → zal, nil_append → zam, length_append → zao, length_drop → zap, append_nil → zaq, mem_filter → zar, cons_append → zas, getElem?_take → zat, map_cons → zau, getElem?_append_left → zax, getElem?_inj → zay, mem_or_eq_of_mem_set → zaz, take_append_drop → zba, length → zbb, drop_eq_getElem_cons → zbc, findIdx?_cons → zbe, setIfInBounds_toArray → zbh, getElem?_toArray → zbi, getElem?_drop → zbj, getElem?_set → zbk, length_take → zbl, getElem?_eq_getElem → zbm, drop_eq_nil_of_le → zbn, eraseIdx_sublist → zbo, flatten_cons → zbp, filter_cons → zbq, append_assoc → zbs, length_eraseIdx → zbt, getElem?_eraseIdx → zbu, mem_of_mem_eraseIdx → zbv, pairwise_iff_getElem → zbw, length_pos_iff → zbx, pairwise_cons → zby, map_append → zbz, filter_eq_self → zca, filter_sublist → zcb, mem_singleton → zcc, mem_of_mem_take → zcd, mem_of_mem_drop → zce, getElem_cons_drop → zcf, exists_cons_of_ne_nil → zch, pairwise_append → zci, getElem?_modify → zcj, length_eq_zero_iff → zck, getLast?_eq_some_getLast → zcl
open Int renaming reduceToNat → zae
open Nat renaming le_refl → zaf, reduceLT → zbg
open Array renaming getElem?_eq_some_iff → zan, getElem?_toList → zbr, getElem?_setIfInBounds → zcg
open BitVec renaming ofInt → zav
open Option renaming toList_some → zaw
open Bool renaming toNat_true → zbd, false_eq_true → zbf
namespace Go.Ev
set_option maxHeartbeats 8000000
set_option maxRecDepth 100000
noncomputable section
open Go Go.RowKit
set_option linter.unusedSectionVars false
set_option linter.unnecessarySimpa false
set_option linter.unusedSimpArgs false
set_option linter.unusedVariables false
theorem abb:(Go.Proofs.Tryz.prog.info? 55).map (λ i=>(i.zero,i.size,i.bytes))=some (some (.agg #[.int .u64 0,.int .i64 0,.int .i64 0]),3,24):=by kernel_rfl
theorem anm:(Go.Proofs.Tryz.prog.info? 53).map (λ i=>(i.zero,i.size,i.bytes))=some (some (.slice none 0 0),1,24):=by kernel_rfl
variable {P:Program}
theorem xo {t:TypeId} {z:Option Value} {s b:Nat} (h:(P.info? t).map (λ i=>(i.zero,i.size,i.bytes))=some (z,s,b)):∃i,P.info? t=some i/\i.zero=z/\i.size=s/\i.bytes=b:=by
 rcases hi:P.info? t with _ | i
 ·rw [hi] at h; simp at h
 rw [hi] at h;simp at h;exact ⟨i,rfl,h.1,h.2.1,h.2.2⟩
theorem aau {c:Array Oper} {o:Oper} {a:Act} {w:World} {K:Act->World->Prop} {Q:Exit->Act->World->Prop} {E:Prop} (b:o.guard=none) (h:Oper.wp P o a w K Q):if Region.wanted o (yielded c a.tmps)=true then Oper.wp P o a w K Q else E:=by
 rw [if_pos (by simp [Region.wanted,b])];exact h
theorem al0 {p:Prop} (h:Unit->p):p:=h ()
theorem a2j {w:World} {b cap:Nat} {og:Option Nat} {gs:List Nat} {ns:List (List Ky)} {n:Int} (h:TL w b og gs cap ns n) (k:Ky) (r s:Nat) (l:List Ky) (hN:Nod ns k r) (hl:ns[r-1]?=some l) (hP:Plc l k s) (hs:l[s]?≠some k) (hlen:l.length<32) (hn0:0<=n) (hn1:n<9223372036854775807) :
 Calls P0 26 #[.pointer (some ⟨b,0,none⟩),k.val] w λ e w'=>e=.returned (.bool true) /\
 ∃gs',TL w' b og gs' cap (ns.set (r-1) (l.take s++k::l.drop s)) (n+1)/\Keeps (Ft b og gs) w w'/\∀x,Ft b og gs' x->Ft b og gs x\/w.heap.size<=x:=by
 obtain ⟨g,rfl⟩:=h.some_ hl;have hat:r-1<ns.length:=(zaa.1 hl).1;generalize hr:r-1=i at *;obtain ⟨c0,c1,f0,f1,hlt⟩:=h.root;have hne:((ns.length:Int) == 0)=false:=by rw [beq_eq_false_iff_ne]; omega
 have hk0:∀x,Keeps (λ _=>False) w (w.alloc x):=λ x=>t6;have i0:(0:Int)<=(i:Int):=by omega
 have i1:(i:Int)<(ns.length:Int):=by omega
 obtain ⟨iK,hiK,hzK,hsK,hbK⟩:=xo abb;simp only [Ky.val]
 go_enter func26,Go.Proofs.Tryz.ntmps26
 go_wp2_with fail
 have h1:=h.keeps (hk0 (.cells #[.int .u64 k.c,.int .i64 k.v,.int .i64 k.d] 55)) (λ _ _ q=>q);have b1:KB (w.alloc (.cells #[.int .u64 k.c,.int .i64 k.v,.int .i64 k.d] 55)) w.heap.size k:=mq rfl;refine (ac1 h1 k r hN).mono ?_;rintro e w2 ⟨rfl,T⟩;rw [hr];have h2:=h1.keeps (T λ _=>False) (λ _ _ q=>q);have b2:=b1.keeps (T λ _=>False) (λ q=>q);obtain ⟨d0,d1,f2,f3,_⟩:=h2.root;obtain ⟨S,c,U,Z,d2,f4⟩:=h2.node hl;obtain ⟨k0,k1,k2⟩:=b2.cells
 go_wp2_with fail
 refine (ac8 Z k s hP).mono ?_;rintro e w3 ⟨rfl,O⟩;rw [decide_eq_false hs];have Q:=h2.keeps (O λ _=>False) (λ _ _ q=>q);have b3:=b2.keeps (O λ _=>False) (λ q=>q);have hrow3:ow w3 S l c:=Z.loc ((O λ _=>False).block S Z.lt λ q=>q);clear d0 d1 f2 f3 d2 f4 k0 k1 k2;obtain ⟨k0,k1,k2⟩:=b3.cells
 go_wp2_with (at_builtin; refine al0 ?_)
 intro _;obtain ⟨cs,e',hg3,hsz,hf,hlc,hc,hcm⟩:=hrow3;have hl3:S<w3.heap.size:=(zan.1 hg3).1
 refine wpList_plain rfl λ K hK=>acn (.tmp 41) (.tmp 43) _ _ rfl Go.Proofs.Tryz.underlying53 Go.Proofs.Tryz.underlying53 hiK hzK (by rw [hsK]; rfl) hsK hbK S l.length c rfl hc (by rw [ou hl3]; exact hg3) hsz hlc rfl (kc k)
  (lq (mq rfl) rfl λ j u P=>by simpa [kc] using P) rfl (by simp [kc,Value.oneCell']) (by simp only [maxLen]; omega) hcm (by omega) ?_
 intro B E W e2 w4 R hc2 hlc2 hcm2 hg4 hsz2 hf2 hK4;refine hK _ _ ?_;have hsl:s<=l.length:=hP.le;have w1:IntKind.i64.wrap ((s:Int)+1)=(s:Int)+1:=a6 ⟨by omega,by omega⟩;have j0:(0:Int)<=(s:Int):=by omega
 have j1:(s:Int)<=(l.length:Int)+1:=by omega
 have j2:(0:Int)<=(s:Int)+1:=by omega
 have j3:(s:Int)+1<=(l.length:Int)+1:=by omega
 go_wp2_with fail
 have hpre:(flat l++kc k) <+: W.toList:=by
  exact apk (v6 l) hf (λ j P=>hf2 j (by rw [show (kc k).length=3 from rfl] at P; omega)) (by rw [show (kc k).length=3 from rfl]; omega)
 have hone:∀u∈(W.toList.drop (s*3)).take ((l.length-s)*3),u.oneCell'=true:=ao8 hpre (λ u hu=>by
  rcases zac.1 hu with hu | hu
  ·exact abg u hu
  simp [kc] at hu; rcases hu with rfl | rfl | rfl<;>rfl) (by rw [zao,v6,show (kc k).length=3 from rfl]; omega)
 go_region_held3 (λ _=>True) (trivial) ((refine aau rfl (al6 (.tmp 48) (.tmp 51) _ _ rfl Go.Proofs.Tryz.underlying53 hiK hsK B ((s+1)*3) (s*3) (l.length-s) hg4 rfl rfl (by simp only [Nat.min_def]; split<;>omega) (λ hm=>⟨if_neg (by omega),if_neg (by omega)⟩) (by omega) (by omega) hone ?_); intro V C hK5))
 have hnd:=h.nb;have L:S∈gs:=zad U;simp only [zaw,zas,zam,zak,zab,not_or] at hnd;obtain ⟨⟨n1,n2⟩,n3,n4⟩:=hnd;have l1:=h.lt g (.inr (.inl rfl));have l2:=h.lt S (.inr (.inr L))
 have z2:w.heap.size+1<=w3.heap.size:=by
  have a1:=(T λ _=>False).size;have a2:=(O λ _=>False).size;have a3:(w.alloc (.cells #[.int .u64 k.c,.int .i64 k.v,.int .i64 k.d] 55)).heap.size=w.heap.size+1:=abp;omega
 have z3:(w3.alloc (.cells #[.int .u64 k.c,.int .i64 k.v,.int .i64 k.d] 55)).heap.size=w3.heap.size+1:=abp;rw [z3] at R;have D:∀x,x<w3.heap.size->x≠S->x≠B:=λ x h1 h2 Q=>by rcases R with q | q<;>omega
 have A:∀x,x<w3.heap.size->x≠S->V.heap[x]?=w3.heap[x]?:=λ x h1 h2=>by
  rw [hK5.block x (Nat.lt_of_lt_of_le (by rw [z3]; omega) hK4.size) (D x h1 h2),show w4.drew.heap=w4.heap from rfl,hK4.block x (by rw [z3]; omega) h2,ou h1]
 have m1:b≠S:=λ q=>n2 (q▸L);have m2:g≠S:=λ q=>n3 (q▸L);have hgb:¬b=B:=D b (by omega) m1;have hgg:¬g=B:=D g (by omega) m2;have hgh:¬w.heap.size=B:=D _ (by omega) (by omega);have N:¬B=b:=λ q=>hgb q.symm;have M:¬B=g:=λ q=>hgg q.symm;have hgh':¬B=w.heap.size:=λ q=>hgh q.symm;have hbg:¬b=g:=n1;have hbg':¬g=b:=λ q=>n1 q.symm;obtain ⟨p0,p1,q0,q1,_⟩:=Q.root;obtain ⟨_,_,_,_,p2,q2⟩:=Q.node hl;have e0:=(t7 (A b (by omega) m1) 0).trans p0;have e1:=(t7 (A b (by omega) m1) 1).trans p1;have r0:=(ba (A b (by omega) m1) 0).trans q0;have r1:=(ba (A b (by omega) m1) 1).trans q1;have e3:=(t7 (A g (by omega) m2) i).trans p2;have r2:=(ba (A g (by omega) m2) i).trans q2
 have e4:=(t7 (A w.heap.size (by omega) (by omega)) 0).trans k0;have e5:=(t7 (A w.heap.size (by omega) (by omega)) 1).trans k1;have e6:=(t7 (A w.heap.size (by omega) (by omega)) 2).trans k2
 have hz5:(c8 W.toList ((s+1)*3) ((W.toList.drop (s*3)).take ((l.length-s)*3))).toArray.size=W.size:=by
  rw [List.size_toArray,l7 (by simp; omega)]; simp
 obtain ⟨v0,e7⟩:=qr C (o:=s*3) (by omega);obtain ⟨v1,e8⟩:=qr C (o:=s*3+1) (by omega);obtain ⟨v2,e9⟩:=qr C (o:=s*3+2) (by omega);have r3:=jd (o:=s*3) C;have r4:=jd (o:=s*3+1) C;have r5:=jd (o:=s*3+2) C;have wn:IntKind.i64.wrap (n+1)=n+1:=a6 ⟨by omega,by omega⟩;have j4:(s:Int)<(l.length:Int)+1:=by omega
 have j5:¬((32:Int)<(l.length:Int)+1):=by omega
 clear k0 k1 k2 p0 p1 q0 q1 p2 q2
 go_wp2_with fail
 ·go_ret
  obtain ⟨ho0,ho⟩:=Q.out g rfl;obtain ⟨co,eo,F,hco2,hco4⟩:=ho;obtain ⟨eb,heb⟩:=Q.hd;have G0:=(A g (by omega) m2).trans F;have B0:=(A b (by omega) m1).trans heb;have G1:=u9 (o:=s*3) (v:=.int .u64 k.c) C;have G2:=u9 (o:=s*3+1) (v:=.int .i64 k.v) G1;have G3:=u9 (o:=s*3+2) (v:=.int .i64 k.d) G2
  have O1:∀x,x≠B->(((V.setCell ⟨B,s*3,none⟩ (.int .u64 k.c)).setCell ⟨B,s*3+1,none⟩ (.int .i64 k.v)).setCell ⟨B,s*3+2,none⟩ (.int .i64 k.d)).heap[x]?=V.heap[x]?:=λ x hx=>by
   rw [p5 G2 hx,p5 G1 hx,p5 C hx]
  have K1:Keeps (· = B) V (((V.setCell ⟨B,s*3,none⟩ (.int .u64 k.c)).setCell ⟨B,s*3+1,none⟩ (.int .i64 k.v)).setCell ⟨B,s*3+2,none⟩ (.int .i64 k.d)):=((p6 (I:=(· = B)) C rfl).trans (p6 (I:=(· = B)) G1 rfl)).trans (p6 (I:=(· = B)) G2 rfl);generalize ((V.setCell ⟨B,s*3,none⟩ (.int .u64 k.c)).setCell ⟨B,s*3+1,none⟩ (.int .i64 k.v)).setCell ⟨B,s*3+2,none⟩ (.int .i64 k.d)=w6 at *;have C0:=(O1 g hgg).trans G0;have C1:=(O1 b hgb).trans B0;have X:(l.take s++k::l.drop s).length=l.length+1:=by simp; omega
  have F1:=u9 (o:=i) (v:=.slice (some ⟨B,0,none⟩) (l.length+1) (s+1)) C0;have O2:∀x,x≠g->(w6.setCell ⟨g,i,none⟩ (.slice (some ⟨B,0,none⟩) (l.length+1) (s+1))).heap[x]?=w6.heap[x]?:=λ x hx=>p5 C0 hx;have K2:=p6 (o:=i) (v:=.slice (some ⟨B,0,none⟩) (l.length+1) (s+1)) (I:=λ x=>Ft b (some g) gs x\/w.heap.size<=x) C0 (.inl (.inr (.inl rfl)));generalize w6.setCell ⟨g,i,none⟩ (.slice (some ⟨B,0,none⟩) (l.length+1) (s+1))=w7 at *;have D1:=(O2 b hbg).trans C1;have F2:=u9 (o:=1) (v:=.int .i64 (n+1)) D1;have O3:∀x,x≠b->(w7.setCell ⟨b,1,none⟩ (.int .i64 (n+1))).heap[x]?=w7.heap[x]?:=λ x hx=>p5 D1 hx
  have K3:=p6 (o:=1) (v:=.int .i64 (n+1)) (I:=λ x=>Ft b (some g) gs x\/w.heap.size<=x) D1 (.inl (.inl rfl));generalize w7.setCell ⟨b,1,none⟩ (.int .i64 (n+1))=w8 at *
  have G:Ft b (some g) gs B\/w.heap.size<=B:=by
   rcases R with q | q
   ·exact .inl (.inr (.inr (q▸L)))
   exact .inr (by omega)
  refine ⟨rfl,gs.set i B,Q.put hat ⟨eb,F2⟩ ⟨co,eo,F,?_⟩ (c2:=(s+1)) ?_ (λ j x P hx=>?_) ?_,jb ?_,λ x hx=>?_⟩
  ·rw [O3 g hbg',F1,X]
  ·refine ⟨_,e2,by rw [O3 B N,O2 B M]; exact G3,by simp; simp at hz5; omega,?_,by rw [X]; omega,by omega,by omega⟩;intro j u P;have Y:_ <+: c8 _ _ [Value.int .u64 k.c,Value.int .i64 k.v,Value.int .i64 k.d]:=ab2 hsl hpre;rw [<- aq0 _ _ _ _ _ (by rw [l7 (by simp; omega)]; simp; omega)] at Y;obtain ⟨t,ht⟩:=Y;have:j<(flat (l.take s++k::l.drop s)).length:=(zaa.1 P).1;simp only [zbh,zbi];rw [<- ht,zax this];exact P
  ·have H:x∈gs:=zad hx;have x1:x≠b:=λ q=>n2 (q▸H);have x2:x≠g:=λ q=>n3 (q▸H)
   have x3:x≠S:=λ q=>by
    subst q;have:=(zay (zaa.1 hx).1 n4).1 (hx.trans U.symm);exact P this
   have x4:=Q.lt x (.inr (.inr H));rw [O3 x x1,O2 x x2,O1 x (D x x4 x3),A x x4 x3]
  ·rcases R with q | q
   ·exact .inl (q▸U)
   refine .inr ⟨N,M,λ hm=>?_⟩;have:=Q.lt B (.inr (.inr hm));omega
  ·have kd:Keeps (λ x=>Ft b (some g) gs x\/w.heap.size<=x) w4 w4.drew:=⟨rfl,rfl,rfl,zaf _,λ _ _ _=>rfl⟩
   have k4:=hK4.mono (J:=λ x=>Ft b (some g) gs x\/w.heap.size<=x) λ x hx=>.inl (.inr (.inr (hx▸L)));have k5:=hK5.mono (J:=λ x=>Ft b (some g) gs x\/w.heap.size<=x) λ x hx=>hx▸G;have k6:=K1.mono (J:=λ x=>Ft b (some g) gs x\/w.heap.size<=x) λ x hx=>hx▸G;exact (((((((((t6.trans (T _)).trans (O _)).trans t6).trans k4).trans kd).trans k5).trans k6).trans K2).trans K3)
  rcases hx with q | q | q
  ·exact .inl (.inl q)
  ·exact .inl (.inr (.inl q))
  rcases zaz q with q | q
  ·exact .inl (.inr (.inr q))
  exact q▸G
 go_ret
 obtain ⟨ho0,ho⟩:=Q.out g rfl;obtain ⟨co,eo,F,hco2,hco4⟩:=ho;obtain ⟨eb,heb⟩:=Q.hd;have G0:=(A g (by omega) m2).trans F;have B0:=(A b (by omega) m1).trans heb;have G1:=u9 (o:=s*3) (v:=.int .u64 k.c) C;have G2:=u9 (o:=s*3+1) (v:=.int .i64 k.v) G1;have G3:=u9 (o:=s*3+2) (v:=.int .i64 k.d) G2
 have O1:∀x,x≠B->(((V.setCell ⟨B,s*3,none⟩ (.int .u64 k.c)).setCell ⟨B,s*3+1,none⟩ (.int .i64 k.v)).setCell ⟨B,s*3+2,none⟩ (.int .i64 k.d)).heap[x]?=V.heap[x]?:=λ x hx=>by
  rw [p5 G2 hx,p5 G1 hx,p5 C hx]
 have K1:Keeps (· = B) V (((V.setCell ⟨B,s*3,none⟩ (.int .u64 k.c)).setCell ⟨B,s*3+1,none⟩ (.int .i64 k.v)).setCell ⟨B,s*3+2,none⟩ (.int .i64 k.d)):=((p6 (I:=(· = B)) C rfl).trans (p6 (I:=(· = B)) G1 rfl)).trans (p6 (I:=(· = B)) G2 rfl);generalize ((V.setCell ⟨B,s*3,none⟩ (.int .u64 k.c)).setCell ⟨B,s*3+1,none⟩ (.int .i64 k.v)).setCell ⟨B,s*3+2,none⟩ (.int .i64 k.d)=w6 at *;have C0:=(O1 g hgg).trans G0;have C1:=(O1 b hgb).trans B0;have X:(l.take s++k::l.drop s).length=l.length+1:=by simp; omega
 have F1:=u9 (o:=i) (v:=.slice (some ⟨B,0,none⟩) (l.length+1) E) C0;have O2:∀x,x≠g->(w6.setCell ⟨g,i,none⟩ (.slice (some ⟨B,0,none⟩) (l.length+1) E)).heap[x]?=w6.heap[x]?:=λ x hx=>p5 C0 hx;have K2:=p6 (o:=i) (v:=.slice (some ⟨B,0,none⟩) (l.length+1) E) (I:=λ x=>Ft b (some g) gs x\/w.heap.size<=x) C0 (.inl (.inr (.inl rfl)));generalize w6.setCell ⟨g,i,none⟩ (.slice (some ⟨B,0,none⟩) (l.length+1) E)=w7 at *;have D1:=(O2 b hbg).trans C1;have F2:=u9 (o:=1) (v:=.int .i64 (n+1)) D1;have O3:∀x,x≠b->(w7.setCell ⟨b,1,none⟩ (.int .i64 (n+1))).heap[x]?=w7.heap[x]?:=λ x hx=>p5 D1 hx;have K3:=p6 (o:=1) (v:=.int .i64 (n+1)) (I:=λ x=>Ft b (some g) gs x\/w.heap.size<=x) D1 (.inl (.inl rfl))
 generalize w7.setCell ⟨b,1,none⟩ (.int .i64 (n+1))=w8 at *
 have G:Ft b (some g) gs B\/w.heap.size<=B:=by
  rcases R with q | q
  ·exact .inl (.inr (.inr (q▸L)))
  exact .inr (by omega)
 refine ⟨rfl,gs.set i B,Q.put hat ⟨eb,F2⟩ ⟨co,eo,F,?_⟩ (c2:=E) ?_ (λ j x P hx=>?_) ?_,jb ?_,λ x hx=>?_⟩
 ·rw [O3 g hbg',F1,X]
 ·refine ⟨_,e2,by rw [O3 B N,O2 B M]; exact G3,by simp; simp at hz5; omega,?_,by rw [X]; omega,by omega,by omega⟩;intro j u P;have Y:_ <+: c8 _ _ [Value.int .u64 k.c,Value.int .i64 k.v,Value.int .i64 k.d]:=ab2 hsl hpre;rw [<- aq0 _ _ _ _ _ (by rw [l7 (by simp; omega)]; simp; omega)] at Y;obtain ⟨t,ht⟩:=Y;have:j<(flat (l.take s++k::l.drop s)).length:=(zaa.1 P).1;simp only [zbh,zbi];rw [<- ht,zax this];exact P
 ·have H:x∈gs:=zad hx;have x1:x≠b:=λ q=>n2 (q▸H);have x2:x≠g:=λ q=>n3 (q▸H)
  have x3:x≠S:=λ q=>by
   subst q;have:=(zay (zaa.1 hx).1 n4).1 (hx.trans U.symm);exact P this
  have x4:=Q.lt x (.inr (.inr H));rw [O3 x x1,O2 x x2,O1 x (D x x4 x3),A x x4 x3]
 ·rcases R with q | q
  ·exact .inl (q▸U)
  refine .inr ⟨N,M,λ hm=>?_⟩;have:=Q.lt B (.inr (.inr hm));omega
 ·have kd:Keeps (λ x=>Ft b (some g) gs x\/w.heap.size<=x) w4 w4.drew:=⟨rfl,rfl,rfl,zaf _,λ _ _ _=>rfl⟩
  have k4:=hK4.mono (J:=λ x=>Ft b (some g) gs x\/w.heap.size<=x) λ x hx=>.inl (.inr (.inr (hx▸L)));have k5:=hK5.mono (J:=λ x=>Ft b (some g) gs x\/w.heap.size<=x) λ x hx=>hx▸G;have k6:=K1.mono (J:=λ x=>Ft b (some g) gs x\/w.heap.size<=x) λ x hx=>hx▸G;exact (((((((((t6.trans (T _)).trans (O _)).trans t6).trans k4).trans kd).trans k5).trans k6).trans K2).trans K3)
 rcases hx with q | q | q
 ·exact .inl (.inl q)
 ·exact .inl (.inr (.inl q))
 rcases zaz q with q | q
 ·exact .inl (.inr (.inr q))
 exact q▸G

open Go Go.RowKit
theorem ao7 {w:World} {b g cap:Nat} {gs:List Nat} {ns:List (List Ky)} {n:Int} (L:TL w b (some g) gs cap ns n) (i:Nat) (l:List Ky) (hl:ns[i]?=some l) (M:l.length=33) (S:ns.length+1<=1000000) :
 Calls P0 48 #[.pointer (some ⟨b,0,none⟩),.int .i64 (i:Int)] w λ e w'=>(∃v,e=.returned v) /\
 ∃og' gs' cap',TL w' b og' gs' cap' (ns.take i++l.take 16::l.drop 16::ns.drop (i+1)) n/\Keeps (Ft b (some g) gs) w w'/\∀x,Ft b og' gs' x->Ft b (some g) gs x\/w.heap.size<=x:=by
 have hat:i<ns.length:=(zaa.1 hl).1;obtain ⟨c0,c1,f0,f1,hlt⟩:=L.root;obtain ⟨D,c,T,hrow,d2,f4⟩:=L.node hl;have i0:(0:Int)<=(i:Int):=by omega
 have i1:(i:Int)<(ns.length:Int):=by omega
 obtain ⟨iK,hiK,hzK,hsK,hbK⟩:=xo abb;obtain ⟨iR,hiR,hzR,hsR,hbR⟩:=xo anm;obtain ⟨cs,e',hg3,hsz,hf,hlc,hc,hcm⟩:=hrow;have h16:(16:Int)<=(l.length:Int):=by omega
 have h16':¬c=16:=by omega
 have h16c:(16:Int)<=(c:Int):=by omega
 go_enter func48,Go.Proofs.Tryz.ntmps48
 go_wp2_with (at_builtin; refine al0 ?_)
 intro _;have hnd:=L.nb;have P:D∈gs:=zad T;simp only [zaw,zas,zam,zak,zab,not_or] at hnd;obtain ⟨⟨n1,n2⟩,n3,n4⟩:=hnd;have l1:=L.lt g (.inr (.inl rfl));have l2:=L.lt D (.inr (.inr P));have m1:b≠D:=λ q=>n2 (q▸P);have m2:g≠D:=λ q=>n3 (q▸P)
 refine wpList_plain rfl λ K hK=>aya (.tmp 13) (.tmp 15) _ _ rfl Go.Proofs.Tryz.underlying53 Go.Proofs.Tryz.underlying53 hiK hzK (by rw [hsK]; rfl) hsK hbK rfl rfl (by omega) (flat (l.drop 16))
  (lq (by rw [ou l2]; exact hg3) (by rw [v6,zap,M]) λ j u Q=>hf (16*3+j) u (by rw [zn (by omega)]; exact Q)) (by rw [v6,zap,M]) abg (by simp [maxLen]) (by omega) ?_
 intro F csR w2 hR1 hR2 hR3 hR4 hR5 hK2;refine hK _ _ ?_;rw [abp] at hR3 |-
 have z2:w.heap.size+1+1<=w2.heap.size:=by
  have:=(zan.1 hR3).1;omega
 have k2:∀I,Keeps I w w2:=λ I=>t6.trans (hK2 I);have R:=L.keeps (k2 λ _=>False) (λ _ _ q=>q);obtain ⟨p0,p1,q0,q1,_⟩:=R.root;obtain ⟨ho0,co,eo,hco1,hco2,Y⟩:=R.out g rfl
 go_wp2_with (at_builtin; refine al0 ?_)
 intro _
 refine wpList_plain rfl λ K hK=>acn (.tmp 21) (.tmp 22) _ _ rfl Go.Proofs.Tryz.underlying91 Go.Proofs.Tryz.underlying91 hiR hzR (by rw [hsR]; rfl) hsR hbR g ns.length cap rfl ho0 (by rw [ou (by omega)]; exact hco1) (by omega) L.le rfl [.slice none 0 0]
  (lq (mq rfl) rfl λ j u Q=>by simpa using Q) rfl (by intro u W; simp at W; subst W; rfl) (by simp only [maxLen]; omega) L.mx (by omega) ?_
 intro G A C e2 w4 N hc2 hlc2 hcm2 hg4 hsz2 hf2 hK4;refine hK _ _ ?_;have z4:(w2.alloc (.cells #[.slice none 0 0] 53)).heap.size=w2.heap.size+1:=abp;rw [z4] at N;have hGb:¬G=b:=λ q=>by rcases N with r | r; exact n1 (q▸r); omega
 have V:¬b=G:=λ q=>hGb q.symm
 have hs4:∀x,x<w2.heap.size->x≠g->w4.heap[x]?=w2.heap[x]?:=λ x h1 R=>by
  rw [hK4.block x (by omega) R,ou h1]
 obtain ⟨eb,heb⟩:=R.hd;have B4:=(hs4 b (by omega) n1).trans heb;obtain ⟨vb,b0⟩:=qr (o:=0) B4 (by simp);have b1:=jd (o:=0) B4
 go_wp2_with fail
 have F5:=u9 (o:=0) (v:=.slice (some ⟨G,0,none⟩) (ns.length+1) A) B4;have O5:∀x,x≠b->(w4.setCell ⟨b,0,none⟩ (.slice (some ⟨G,0,none⟩) (ns.length+1) A)).heap[x]?=w4.heap[x]?:=λ x hx=>p5 B4 hx;have K5:=p6 (o:=0) (v:=.slice (some ⟨G,0,none⟩) (ns.length+1) A) (I:=(· = b)) B4 rfl;generalize w4.setCell ⟨b,0,none⟩ (.slice (some ⟨G,0,none⟩) (ns.length+1) A)=w5 at *;have G5:=(O5 G hGb).trans hg4;have c5:w5.cell? ⟨b,0,none⟩=some (.slice (some ⟨G,0,none⟩) (ns.length+1) A):=by simp [World.cell?,F5]
 have w1:IntKind.i64.wrap ((i:Int)+1)=(i:Int)+1:=a6 ⟨by omega,by omega⟩;have w2':IntKind.i64.wrap ((i:Int)+2)=(i:Int)+2:=a6 ⟨by omega,by omega⟩;have j1:(0:Int)<=(i:Int)+1:=by omega
 have j2:(i:Int)+1<=(ns.length:Int)+1:=by omega
 have j3:(0:Int)<=(i:Int)+2:=by omega
 have j4:(i:Int)+2<=(ns.length:Int)+1:=by omega
 have hcs1:∀u∈(C.toList.drop (i+1)).take ((ns.length-i-1)*1),u.oneCell'=true:=by
  intro u W;obtain ⟨j,Q⟩:=zag.1 W;rw [zat] at Q;split at Q
  ·rw [zbj,zbr,hf2 _ (by omega)] at Q;rcases zac.1 (zad Q) with q | q
   ·obtain ⟨z,X⟩:=zag.1 q;rw [zat] at X;split at X
    ·rename_i hzl;obtain ⟨_,hy,_⟩:=Y z (gs[z]'(by rw [L.len]; omega)) ns[z] (by simp) (by simp);rw [zbr,hy] at X;cases X
     rfl
    cases X
   simp at q; subst q; rfl
  cases Q
 go_region_held3 (λ w'=>w'.cell? ⟨b,0,none⟩=some (.slice (some ⟨G,0,none⟩) (ns.length+1) A)) (first | assumption | exact (t7 (U.block b (zan.1 F5).1 V) 0).trans c5)
  ((refine aau rfl (al6 (.tmp 32) (.tmp 39) _ _ rfl Go.Proofs.Tryz.underlying91 hiR hsR G (i+2) (i+1) (ns.length-i-1) G5 rfl rfl (by simp only [Nat.min_def]; split<;>omega) (λ S=>⟨if_neg (by omega),if_neg (by omega)⟩) (by omega) (by omega) hcs1 ?_); intro w6 H U))
 generalize Value.slice (if A=((i:Int)+2).toNat then some ⟨G,0,none⟩ else some ⟨G,((i:Int)+2).toNat,none⟩) (ns.length+1-((i:Int)+2).toNat) (A-((i:Int)+2).toNat)=V32;have nc1:¬A=i+1:=by omega
 have hB6:w6.heap[b]?=w5.heap[b]?:=U.block b (zan.1 F5).1 V;have c6:w6.cell? ⟨b,0,none⟩=some (.slice (some ⟨G,0,none⟩) (ns.length+1) A):=(t7 hB6 0).trans c5
 have hz6:(c8 C.toList (i+2) ((C.toList.drop (i+1)).take ((ns.length-i-1)*1))).toArray.size=C.size:=by
  rw [List.size_toArray,l7 (by simp; omega)]; simp
 obtain ⟨u0,d0⟩:=qr H (o:=i) (by omega);obtain ⟨u1,d1⟩:=qr H (o:=i+1) (by omega);have t0:=jd (o:=i) H;have t1:=jd (o:=i+1) H;have j5:(i:Int)<(ns.length:Int)+1:=by omega
 have j6:(i:Int)+1<(ns.length:Int)+1:=by omega
 go_wp2_with fail
 go_region_held3 (λ w'=>w'.cell? ⟨b,0,none⟩=some (.slice (some ⟨G,0,none⟩) (ns.length+1) A)) (go_keep) (fail)
 refine bodyPost_end (results_none rfl _ _ _) rfl ?_;have G7:=u9 (o:=i) (v:=.slice (some ⟨D,0,none⟩) 16 16) H;have G8:=u9 (o:=i+1) (v:=.slice (some ⟨w.heap.size+1,0,none⟩) 17 F) G7
 have O8:∀x,x≠G->((w6.setCell ⟨G,i,none⟩ (.slice (some ⟨D,0,none⟩) 16 16)).setCell ⟨G,i+1,none⟩ (.slice (some ⟨w.heap.size+1,0,none⟩) 17 F)).heap[x]?=w6.heap[x]?:=λ x hx=>by
  rw [p5 G7 hx,p5 H hx]
 have K8:Keeps (· = G) w6 ((w6.setCell ⟨G,i,none⟩ (.slice (some ⟨D,0,none⟩) 16 16)).setCell ⟨G,i+1,none⟩ (.slice (some ⟨w.heap.size+1,0,none⟩) 17 F)):=(p6 (I:=(· = G)) H rfl).trans (p6 (I:=(· = G)) G7 rfl);generalize (w6.setCell ⟨G,i,none⟩ (.slice (some ⟨D,0,none⟩) 16 16)).setCell ⟨G,i+1,none⟩ (.slice (some ⟨w.heap.size+1,0,none⟩) 17 F)=w8 at *;have O:(ns.take i++l.take 16::l.drop 16::ns.drop (i+1)).length=ns.length+1:=by simp; omega
 have hs8:∀x,x<w2.heap.size->x≠g->x≠b->w8.heap[x]?=w2.heap[x]?:=λ x h1 R h3=>by
  have hxG:x≠G:=λ q=>by rcases N with r | r; exact R (q.trans r); omega
  have s4:=hK4.size;have s5:=K5.size;rw [O8 x hxG,U.block x (show x<w5.heap.size by omega) hxG,show w5.drew.heap=w5.heap from rfl,O5 x h3,hs4 x h1 R]
 have hGf:G∉gs:=λ S=>by
  rcases N with r | r
  ·exact n3 (r▸S)
  have:=R.lt G (.inr (.inr S)); omega
 have kd:Keeps (λ x=>Ft b (some g) gs x\/w.heap.size<=x) w8 w8.drew:=⟨rfl,rfl,rfl,zaf _,λ _ _ _=>rfl⟩
 have hI2:Ft b (some g) gs G\/w.heap.size<=G:=by
  rcases N with q | q
  ·exact .inl (.inr (.inl (by rw [q])))
  exact .inr (by omega)
 refine ⟨⟨_,rfl⟩,some G,gs.take i++D::(w.heap.size+1)::gs.drop (i+1),A,⟨⟨eb,?_⟩,by rw [O]; exact hlc2,hcm2,by simp,λ G' hG'=>?_,?_,?_⟩,?_,λ x hx=>?_⟩
 ·show w8.heap[b]? = _;rw [O8 b V,hB6,F5,O]
  rfl
 ·cases hG';refine ⟨hc2,_,_,G8,by simp at hz6 |-; omega,λ j x E hx B=>?_⟩;have Q:j<ns.length+1:=by rw [<- O]; exact (zaa.1 B).1
  rw [a3g (by rw [L.len]; exact hat)] at hx;rw [a3g hat] at B;simp only [zbh,zbi,zbk,List.length_set];have hspl:(c8 C.toList (i+2) ((C.toList.drop (i+1)).take ((ns.length-i-1)*1))).length=C.size:=by simpa using hz6
  have Z:∀z,z<ns.length->∀x E,gs[z]?=some x->ns[z]?=some E->x≠D->∃c,C[z]?=some (.slice (some ⟨x,0,none⟩) E.length c)/\ow w8.drew x E c:=λ z X x E h1' h2' hx'=>by
   obtain ⟨c',q1,q2⟩:=Y z x E h1' h2';refine ⟨c',?_,q2.loc ?_⟩
   ·rw [hf2 z (by omega),zax (by simp; have:=(zan.1 q1).1; omega),zat,if_pos (by omega)];simpa using q1
   have hxm:x∈gs:=zad h1';exact hs8 x (R.lt x (.inr (.inr hxm))) (λ q=>n3 (q▸hxm)) (λ q=>n2 (q▸hxm))
  have hne:∀z x,gs[z]?=some x->z≠i->x≠D:=λ z x X hzi q=>by
   subst q;exact hzi ((zay (zaa.1 X).1 n4).1 (X.trans T.symm))
  have hsa:=y6 (l:=C.toList) (m:=(C.toList.drop (i+1)).take ((ns.length-i-1)*1)) (i:=i+2) (by simp; omega);have hsl:((C.toList.drop (i+1)).take ((ns.length-i-1)*1)).length=ns.length-i-1:=by simp; omega
  by_cases p1:j<i
  ·rw [if_pos p1] at hx B;rw [if_neg (by omega),if_neg (by omega),hsa,if_neg (by omega)];simpa using Z j (by omega) x E hx B (hne j x hx (by omega))
  rw [if_neg p1] at hx B;by_cases p2:j=i
  ·rw [if_pos p2] at hx B;cases hx; cases B;subst p2;rw [if_neg (by omega),if_pos rfl,if_pos (by omega)];refine ⟨16,by simp [M],⟨cs,e',?_,by omega,λ q u W=>hf q u (aep W),by simp only [zbl]; omega,by omega,by simp [maxLen]⟩⟩;show w8.heap[D]? = _;rw [hs8 D (by omega) m2.symm m1.symm,(k2 λ _=>False).block D l2 (λ q=>q)];exact hg3
  rw [if_neg p2] at hx B;by_cases p3:j=i+1
  ·rw [if_pos p3] at hx B;cases hx; cases B;subst p3;rw [if_pos rfl,if_pos (by omega)];refine ⟨F,by simp [M],⟨csR,55,?_,hR4,λ q u W=>?_,by simp [M]; omega,by omega,hR2⟩⟩
   ·show w8.heap[w.heap.size+1]? = _;rw [hs8 (w.heap.size+1) (by omega) (by omega) (by omega)];exact hR3
   rw [hR5 q ?_]
   ·exact W
   have:=(zaa.1 W).1;rw [v6,zap,M] at this;omega
  rw [if_neg p3] at hx B;rw [if_neg (by omega),if_neg (by omega),hsa,if_pos (by omega),zat,if_pos (by omega),zbj,show i+1+(j-(i+2))=j-1 by omega];simpa using Z (j-1) (by omega) x E hx B (hne (j-1) x hx (by omega))
 ·simp [L.len]
 ·have h9:=L.lt;have hnb:w.heap.size+1∉gs:=λ S=>by have:=L.lt _ (.inr (.inr S)); omega
  simp only [zaw,zas,zam,zak,zab,not_or]
  have hsub:∀x,x∈gs.take i++D::(w.heap.size+1)::gs.drop (i+1)->x∈gs\/x=w.heap.size+1:=λ x hx=>by
   rcases zac.1 hx with q | q
   ·exact .inl (zcd q)
   rcases zab.1 q with q | q
   ·exact .inl (q▸P)
   rcases zab.1 q with q | q
   ·exact .inr q
   exact .inl (zce q)
  refine ⟨⟨V,λ S=>?_⟩,λ S=>?_,?_⟩
  ·rcases hsub b S with q | q
   ·exact n2 q
   omega
  ·rcases hsub G S with q | q
   ·exact hGf q
   rcases N with r | r<;>omega
  have hperm:(gs.take i++D::(w.heap.size+1)::gs.drop (i+1)).Perm ((w.heap.size+1)::gs):=by
   have e1:gs=gs.take i++D::gs.drop (i+1):=by
    have hi:i<gs.length:=by rw [L.len]; exact hat
    have:gs[i]=D:=by rw [zbm hi] at T; exact Option.some.inj T
    rw [<- this,zcf,zba]
   have e2:(gs.take i++D::(w.heap.size+1)::gs.drop (i+1))=(gs.take i++[D])++(w.heap.size+1)::gs.drop (i+1):=by simp
   rw [e2];refine List.perm_middle.trans ?_;refine List.Perm.cons _ ?_;rw [zbs];exact e1▸List.Perm.refl _
  exact hperm.nodup_iff.2 (zak.2 ⟨hnb,n4⟩)
 ·have k4:=hK4.mono (J:=λ x=>Ft b (some g) gs x\/w.heap.size<=x) λ x hx=>.inl (.inr (.inl (by rw [hx])));have k5:=K5.mono (J:=λ x=>Ft b (some g) gs x\/w.heap.size<=x) λ x hx=>.inl (.inl hx);have kd5:Keeps (λ x=>Ft b (some g) gs x\/w.heap.size<=x) w5 w5.drew:=⟨rfl,rfl,rfl,zaf _,λ _ _ _=>rfl⟩
  have k6:=U.mono (J:=λ x=>Ft b (some g) gs x\/w.heap.size<=x) λ x hx=>hx▸hI2;have k8:=K8.mono (J:=λ x=>Ft b (some g) gs x\/w.heap.size<=x) λ x hx=>hx▸hI2;exact jb ((((((((k2 _).trans t6).trans k4).trans k5).trans kd5).trans k6).trans k8).trans kd)
 rcases hx with q | q | q
 ·exact .inl (.inl q)
 ·cases q; exact hI2
 rcases zac.1 q with q | q
 ·exact .inl (.inr (.inr (zcd q)))
 rcases zab.1 q with q | q
 ·exact .inl (.inr (.inr (q▸P)))
 rcases zab.1 q with q | q
 ·exact .inr (by omega)
 exact .inl (.inr (.inr (zce q)))

open Go Go.RowKit
theorem a2i {w:World} {b cap:Nat} {og:Option Nat} {gs:List Nat} {ns:List (List Ky)} {n:Int} (h:TL w b og gs cap ns n) (k:Ky) (r s:Nat) (l:List Ky) (hN:Nod ns k r) (hl:ns[r-1]?=some l) (hP:Plc l k s) (hs:l[s]?≠some k) (hlen:l.length<=32) (hlen2:32<=l.length) (hm:ns.length+1<=1000000) (hn0:0<=n) (hn1:n<9223372036854775807) :
 Calls P0 26 #[.pointer (some ⟨b,0,none⟩),k.val] w λ e w'=>e=.returned (.bool true) /\
 ∃T C F,TL w' b T C F (ns.take (r-1)++(l.take s++k::l.drop s).take 16::(l.take s++k::l.drop s).drop 16::ns.drop (r-1+1)) (n+1)/\Keeps (Ft b og gs) w w'/\∀x,Ft b T C x->Ft b og gs x\/w.heap.size<=x:=by
 obtain ⟨g,rfl⟩:=h.some_ hl;have hat:r-1<ns.length:=(zaa.1 hl).1;generalize hr:r-1=i at *;obtain ⟨c0,c1,f0,f1,hlt⟩:=h.root;have hne:((ns.length:Int) == 0)=false:=by rw [beq_eq_false_iff_ne]; omega
 have hk0:∀x,Keeps (λ _=>False) w (w.alloc x):=λ x=>t6;have i0:(0:Int)<=(i:Int):=by omega
 have i1:(i:Int)<(ns.length:Int):=by omega
 obtain ⟨iK,hiK,hzK,hsK,hbK⟩:=xo abb;simp only [Ky.val]
 go_enter func26,Go.Proofs.Tryz.ntmps26
 go_wp2_with fail
 have h1:=h.keeps (hk0 (.cells #[.int .u64 k.c,.int .i64 k.v,.int .i64 k.d] 55)) (λ _ _ q=>q);have b1:KB (w.alloc (.cells #[.int .u64 k.c,.int .i64 k.v,.int .i64 k.d] 55)) w.heap.size k:=mq rfl;refine (ac1 h1 k r hN).mono ?_;rintro e w2 ⟨rfl,X⟩;rw [hr];have h2:=h1.keeps (X λ _=>False) (λ _ _ q=>q);have b2:=b1.keeps (X λ _=>False) (λ q=>q);obtain ⟨d0,d1,f2,f3,_⟩:=h2.root;obtain ⟨W,c,hg',hrow,d2,f4⟩:=h2.node hl;obtain ⟨k0,k1,k2⟩:=b2.cells
 go_wp2_with fail
 refine (ac8 hrow k s hP).mono ?_;rintro e w3 ⟨rfl,R⟩;rw [decide_eq_false hs];have U:=h2.keeps (R λ _=>False) (λ _ _ q=>q);have b3:=b2.keeps (R λ _=>False) (λ q=>q);have hrow3:ow w3 W l c:=hrow.loc ((R λ _=>False).block W hrow.lt λ q=>q);clear d0 d1 f2 f3 d2 f4 k0 k1 k2;obtain ⟨k0,k1,k2⟩:=b3.cells
 go_wp2_with (at_builtin; refine al0 ?_)
 intro _;obtain ⟨cs,e',hg3,hsz,hf,hlc,hc,hcm⟩:=hrow3;have hl3:W<w3.heap.size:=(zan.1 hg3).1
 refine wpList_plain rfl λ K hK=>acn (.tmp 41) (.tmp 43) _ _ rfl Go.Proofs.Tryz.underlying53 Go.Proofs.Tryz.underlying53 hiK hzK (by rw [hsK]; rfl) hsK hbK W l.length c rfl hc (by rw [ou hl3]; exact hg3) hsz hlc rfl (kc k)
  (lq (mq rfl) rfl λ j u S=>by simpa [kc] using S) rfl (by simp [kc,Value.oneCell']) (by simp only [maxLen]; omega) hcm (by omega) ?_
 intro B G cs2 e2 w4 V hc2 hlc2 hcm2 hg4 hsz2 hf2 hK4;refine hK _ _ ?_;have hsl:s<=l.length:=hP.le;have w1:IntKind.i64.wrap ((s:Int)+1)=(s:Int)+1:=a6 ⟨by omega,by omega⟩;have j0:(0:Int)<=(s:Int):=by omega
 have j1:(s:Int)<=(l.length:Int)+1:=by omega
 have j2:(0:Int)<=(s:Int)+1:=by omega
 have j3:(s:Int)+1<=(l.length:Int)+1:=by omega
 go_wp2_with fail
 have hpre:(flat l++kc k) <+: cs2.toList:=by
  exact apk (v6 l) hf (λ j S=>hf2 j (by rw [show (kc k).length=3 from rfl] at S; omega)) (by rw [show (kc k).length=3 from rfl]; omega)
 have hone:∀u∈(cs2.toList.drop (s*3)).take ((l.length-s)*3),u.oneCell'=true:=ao8 hpre (λ u hu=>by
  rcases zac.1 hu with hu | hu
  ·exact abg u hu
  simp [kc] at hu; rcases hu with rfl | rfl | rfl<;>rfl) (by rw [zao,v6,show (kc k).length=3 from rfl]; omega)
 go_region_held3 (λ _=>True) (trivial) ((refine aau rfl (al6 (.tmp 48) (.tmp 51) _ _ rfl Go.Proofs.Tryz.underlying53 hiK hsK B ((s+1)*3) (s*3) (l.length-s) hg4 rfl rfl (by simp only [Nat.min_def]; split<;>omega) (λ hm=>⟨if_neg (by omega),if_neg (by omega)⟩) (by omega) (by omega) hone ?_); intro w5 D hK5))
 have hnd:=h.nb;have O:W∈gs:=zad hg';simp only [zaw,zas,zam,zak,zab,not_or] at hnd;obtain ⟨⟨n1,n2⟩,n3,n4⟩:=hnd;have l1:=h.lt g (.inr (.inl rfl));have l2:=h.lt W (.inr (.inr O))
 have z2:w.heap.size+1<=w3.heap.size:=by
  have a1:=(X λ _=>False).size;have a2:=(R λ _=>False).size;have a3:(w.alloc (.cells #[.int .u64 k.c,.int .i64 k.v,.int .i64 k.d] 55)).heap.size=w.heap.size+1:=abp;omega
 have z3:(w3.alloc (.cells #[.int .u64 k.c,.int .i64 k.v,.int .i64 k.d] 55)).heap.size=w3.heap.size+1:=abp;rw [z3] at V;have E:∀x,x<w3.heap.size->x≠W->x≠B:=λ x h1 h2 U=>by rcases V with q | q<;>omega
 have A:∀x,x<w3.heap.size->x≠W->w5.heap[x]?=w3.heap[x]?:=λ x h1 h2=>by
  rw [hK5.block x (Nat.lt_of_lt_of_le (by rw [z3]; omega) hK4.size) (E x h1 h2),show w4.drew.heap=w4.heap from rfl,hK4.block x (by rw [z3]; omega) h2,ou h1]
 have m1:b≠W:=λ q=>n2 (q▸O);have m2:g≠W:=λ q=>n3 (q▸O);have hgb:¬b=B:=E b (by omega) m1;have hgg:¬g=B:=E g (by omega) m2;have hgh:¬w.heap.size=B:=E _ (by omega) (by omega);have Q:¬B=b:=λ q=>hgb q.symm;have P:¬B=g:=λ q=>hgg q.symm;have hgh':¬B=w.heap.size:=λ q=>hgh q.symm;have hbg:¬b=g:=n1;have hbg':¬g=b:=λ q=>n1 q.symm;obtain ⟨p0,p1,q0,q1,_⟩:=U.root;obtain ⟨_,_,_,_,p2,q2⟩:=U.node hl;have e0:=(t7 (A b (by omega) m1) 0).trans p0;have e1:=(t7 (A b (by omega) m1) 1).trans p1;have r0:=(ba (A b (by omega) m1) 0).trans q0;have r1:=(ba (A b (by omega) m1) 1).trans q1;have e3:=(t7 (A g (by omega) m2) i).trans p2;have r2:=(ba (A g (by omega) m2) i).trans q2
 have e4:=(t7 (A w.heap.size (by omega) (by omega)) 0).trans k0;have e5:=(t7 (A w.heap.size (by omega) (by omega)) 1).trans k1;have e6:=(t7 (A w.heap.size (by omega) (by omega)) 2).trans k2
 have hz5:(c8 cs2.toList ((s+1)*3) ((cs2.toList.drop (s*3)).take ((l.length-s)*3))).toArray.size=cs2.size:=by
  rw [List.size_toArray,l7 (by simp; omega)]; simp
 obtain ⟨v0,e7⟩:=qr D (o:=s*3) (by omega);obtain ⟨v1,e8⟩:=qr D (o:=s*3+1) (by omega);obtain ⟨v2,e9⟩:=qr D (o:=s*3+2) (by omega);have r3:=jd (o:=s*3) D;have r4:=jd (o:=s*3+1) D;have r5:=jd (o:=s*3+2) D;have wn:IntKind.i64.wrap (n+1)=n+1:=a6 ⟨by omega,by omega⟩;have j4:(s:Int)<(l.length:Int)+1:=by omega
 have j5:(32:Int)<(l.length:Int)+1:=by omega
 clear k0 k1 k2 p0 p1 q0 q1 p2 q2
 go_wp2_with fail
 ·obtain ⟨ho0,ho⟩:=U.out g rfl;obtain ⟨co,eo,H,hco2,hco4⟩:=ho;obtain ⟨eb,heb⟩:=U.hd;have G0:=(A g (by omega) m2).trans H;have B0:=(A b (by omega) m1).trans heb;have G1:=u9 (o:=s*3) (v:=.int .u64 k.c) D;have G2:=u9 (o:=s*3+1) (v:=.int .i64 k.v) G1;have G3:=u9 (o:=s*3+2) (v:=.int .i64 k.d) G2
  have O1:∀x,x≠B->(((w5.setCell ⟨B,s*3,none⟩ (.int .u64 k.c)).setCell ⟨B,s*3+1,none⟩ (.int .i64 k.v)).setCell ⟨B,s*3+2,none⟩ (.int .i64 k.d)).heap[x]?=w5.heap[x]?:=λ x hx=>by
   rw [p5 G2 hx,p5 G1 hx,p5 D hx]
  have K1:Keeps (· = B) w5 (((w5.setCell ⟨B,s*3,none⟩ (.int .u64 k.c)).setCell ⟨B,s*3+1,none⟩ (.int .i64 k.v)).setCell ⟨B,s*3+2,none⟩ (.int .i64 k.d)):=((p6 (I:=(· = B)) D rfl).trans (p6 (I:=(· = B)) G1 rfl)).trans (p6 (I:=(· = B)) G2 rfl);generalize ((w5.setCell ⟨B,s*3,none⟩ (.int .u64 k.c)).setCell ⟨B,s*3+1,none⟩ (.int .i64 k.v)).setCell ⟨B,s*3+2,none⟩ (.int .i64 k.d)=w6 at *;have C0:=(O1 g hgg).trans G0;have C1:=(O1 b hgb).trans B0;have N:(l.take s++k::l.drop s).length=l.length+1:=by simp; omega
  have F1:=u9 (o:=i) (v:=.slice (some ⟨B,0,none⟩) (l.length+1) (s+1)) C0;have O2:∀x,x≠g->(w6.setCell ⟨g,i,none⟩ (.slice (some ⟨B,0,none⟩) (l.length+1) (s+1))).heap[x]?=w6.heap[x]?:=λ x hx=>p5 C0 hx;have K2:=p6 (o:=i) (v:=.slice (some ⟨B,0,none⟩) (l.length+1) (s+1)) (I:=λ x=>Ft b (some g) gs x\/w.heap.size<=x) C0 (.inl (.inr (.inl rfl)));generalize w6.setCell ⟨g,i,none⟩ (.slice (some ⟨B,0,none⟩) (l.length+1) (s+1))=w7 at *;have D1:=(O2 b hbg).trans C1;have F2:=u9 (o:=1) (v:=.int .i64 (n+1)) D1;have O3:∀x,x≠b->(w7.setCell ⟨b,1,none⟩ (.int .i64 (n+1))).heap[x]?=w7.heap[x]?:=λ x hx=>p5 D1 hx
  have K3:=p6 (o:=1) (v:=.int .i64 (n+1)) (I:=λ x=>Ft b (some g) gs x\/w.heap.size<=x) D1 (.inl (.inl rfl));generalize w7.setCell ⟨b,1,none⟩ (.int .i64 (n+1))=w8 at *
  have L:Ft b (some g) gs B\/w.heap.size<=B:=by
   rcases V with q | q
   ·exact .inl (.inr (.inr (q▸O)))
   exact .inr (by omega)
  have Z:∃C,TL w8 b (some g) C cap (ns.set i (l.take s++k::l.drop s)) (n+1)/\Keeps (Ft b (some g) gs) w w8/\∀x,Ft b (some g) C x->Ft b (some g) gs x\/w.heap.size<=x:=by
   refine ⟨gs.set i B,U.put hat ⟨eb,F2⟩ ⟨co,eo,H,?_⟩ (c2:=(s+1)) ?_ (λ j x S hx=>?_) ?_,jb ?_,λ x hx=>?_⟩
   ·rw [O3 g hbg',F1,N]
   ·refine ⟨_,e2,by rw [O3 B Q,O2 B P]; exact G3,by simp; simp at hz5; omega,?_,by rw [N]; omega,by omega,by omega⟩;intro j u S;have hpi:_ <+: c8 _ _ [Value.int .u64 k.c,Value.int .i64 k.v,Value.int .i64 k.d]:=ab2 hsl hpre;rw [<- aq0 _ _ _ _ _ (by rw [l7 (by simp; omega)]; simp; omega)] at hpi;obtain ⟨t,ht⟩:=hpi;have:j<(flat (l.take s++k::l.drop s)).length:=(zaa.1 S).1;simp only [zbh,zbi];rw [<- ht,zax this];exact S
   ·have M:x∈gs:=zad hx;have x1:x≠b:=λ q=>n2 (q▸M);have x2:x≠g:=λ q=>n3 (q▸M)
    have x3:x≠W:=λ q=>by
     subst q;have:=(zay (zaa.1 hx).1 n4).1 (hx.trans hg'.symm);exact S this
    have x4:=U.lt x (.inr (.inr M));rw [O3 x x1,O2 x x2,O1 x (E x x4 x3),A x x4 x3]
   ·rcases V with q | q
    ·exact .inl (q▸hg')
    refine .inr ⟨Q,P,λ hm=>?_⟩;have:=U.lt B (.inr (.inr hm));omega
   ·have kd:Keeps (λ x=>Ft b (some g) gs x\/w.heap.size<=x) w4 w4.drew:=⟨rfl,rfl,rfl,zaf _,λ _ _ _=>rfl⟩
    have k4:=hK4.mono (J:=λ x=>Ft b (some g) gs x\/w.heap.size<=x) λ x hx=>.inl (.inr (.inr (hx▸O)));have k5:=hK5.mono (J:=λ x=>Ft b (some g) gs x\/w.heap.size<=x) λ x hx=>hx▸L;have k6:=K1.mono (J:=λ x=>Ft b (some g) gs x\/w.heap.size<=x) λ x hx=>hx▸L;exact (((((((((t6.trans (X _)).trans (R _)).trans t6).trans k4).trans kd).trans k5).trans k6).trans K2).trans K3)
   rcases hx with q | q | q
   ·exact .inl (.inl q)
   ·exact .inl (.inr (.inl q))
   rcases zaz q with q | q
   ·exact .inl (.inr (.inr q))
   exact q▸L
  obtain ⟨gs2,T8,Y,F8⟩:=Z;have hl8:(ns.set i (l.take s++k::l.drop s))[i]?=some (l.take s++k::l.drop s):=by simp [hat]
  refine (ao7 T8 i _ hl8 (by rw [N]; omega) (by simpa using hm)).mono ?_;rintro e w9 ⟨⟨v,rfl⟩,T,C,F,T9,K9,F9⟩
  go_wp2_with fail
  go_ret
  refine ⟨rfl,T,C,F,?_,?_,λ x hx=>?_⟩
  ·have ta:(ns.set i (l.take s++k::l.drop s)).take i=ns.take i:=by rw [List.take_set_of_le (zaf _)]
   have da:(ns.set i (l.take s++k::l.drop s)).drop (i+1)=ns.drop (i+1):=by rw [List.drop_set_of_lt (by omega)]
   rw [ta,da] at T9;exact T9
  ·refine jb ((Y.mono λ x hx=>.inl hx).trans (K9.mono λ x hx=>F8 x hx))
  rcases F9 x hx with q | q
  ·exact F8 x q
  have:=Y.size; exact .inr (by omega)
 obtain ⟨ho0,ho⟩:=U.out g rfl;obtain ⟨co,eo,H,hco2,hco4⟩:=ho;obtain ⟨eb,heb⟩:=U.hd;have G0:=(A g (by omega) m2).trans H;have B0:=(A b (by omega) m1).trans heb;have G1:=u9 (o:=s*3) (v:=.int .u64 k.c) D;have G2:=u9 (o:=s*3+1) (v:=.int .i64 k.v) G1;have G3:=u9 (o:=s*3+2) (v:=.int .i64 k.d) G2
 have O1:∀x,x≠B->(((w5.setCell ⟨B,s*3,none⟩ (.int .u64 k.c)).setCell ⟨B,s*3+1,none⟩ (.int .i64 k.v)).setCell ⟨B,s*3+2,none⟩ (.int .i64 k.d)).heap[x]?=w5.heap[x]?:=λ x hx=>by
  rw [p5 G2 hx,p5 G1 hx,p5 D hx]
 have K1:Keeps (· = B) w5 (((w5.setCell ⟨B,s*3,none⟩ (.int .u64 k.c)).setCell ⟨B,s*3+1,none⟩ (.int .i64 k.v)).setCell ⟨B,s*3+2,none⟩ (.int .i64 k.d)):=((p6 (I:=(· = B)) D rfl).trans (p6 (I:=(· = B)) G1 rfl)).trans (p6 (I:=(· = B)) G2 rfl);generalize ((w5.setCell ⟨B,s*3,none⟩ (.int .u64 k.c)).setCell ⟨B,s*3+1,none⟩ (.int .i64 k.v)).setCell ⟨B,s*3+2,none⟩ (.int .i64 k.d)=w6 at *;have C0:=(O1 g hgg).trans G0;have C1:=(O1 b hgb).trans B0;have N:(l.take s++k::l.drop s).length=l.length+1:=by simp; omega
 have F1:=u9 (o:=i) (v:=.slice (some ⟨B,0,none⟩) (l.length+1) G) C0;have O2:∀x,x≠g->(w6.setCell ⟨g,i,none⟩ (.slice (some ⟨B,0,none⟩) (l.length+1) G)).heap[x]?=w6.heap[x]?:=λ x hx=>p5 C0 hx;have K2:=p6 (o:=i) (v:=.slice (some ⟨B,0,none⟩) (l.length+1) G) (I:=λ x=>Ft b (some g) gs x\/w.heap.size<=x) C0 (.inl (.inr (.inl rfl)));generalize w6.setCell ⟨g,i,none⟩ (.slice (some ⟨B,0,none⟩) (l.length+1) G)=w7 at *;have D1:=(O2 b hbg).trans C1;have F2:=u9 (o:=1) (v:=.int .i64 (n+1)) D1;have O3:∀x,x≠b->(w7.setCell ⟨b,1,none⟩ (.int .i64 (n+1))).heap[x]?=w7.heap[x]?:=λ x hx=>p5 D1 hx;have K3:=p6 (o:=1) (v:=.int .i64 (n+1)) (I:=λ x=>Ft b (some g) gs x\/w.heap.size<=x) D1 (.inl (.inl rfl))
 generalize w7.setCell ⟨b,1,none⟩ (.int .i64 (n+1))=w8 at *
 have L:Ft b (some g) gs B\/w.heap.size<=B:=by
  rcases V with q | q
  ·exact .inl (.inr (.inr (q▸O)))
  exact .inr (by omega)
 have Z:∃C,TL w8 b (some g) C cap (ns.set i (l.take s++k::l.drop s)) (n+1)/\Keeps (Ft b (some g) gs) w w8/\∀x,Ft b (some g) C x->Ft b (some g) gs x\/w.heap.size<=x:=by
  refine ⟨gs.set i B,U.put hat ⟨eb,F2⟩ ⟨co,eo,H,?_⟩ (c2:=G) ?_ (λ j x S hx=>?_) ?_,jb ?_,λ x hx=>?_⟩
  ·rw [O3 g hbg',F1,N]
  ·refine ⟨_,e2,by rw [O3 B Q,O2 B P]; exact G3,by simp; simp at hz5; omega,?_,by rw [N]; omega,by omega,by omega⟩;intro j u S;have hpi:_ <+: c8 _ _ [Value.int .u64 k.c,Value.int .i64 k.v,Value.int .i64 k.d]:=ab2 hsl hpre;rw [<- aq0 _ _ _ _ _ (by rw [l7 (by simp; omega)]; simp; omega)] at hpi;obtain ⟨t,ht⟩:=hpi;have:j<(flat (l.take s++k::l.drop s)).length:=(zaa.1 S).1;simp only [zbh,zbi];rw [<- ht,zax this];exact S
  ·have M:x∈gs:=zad hx;have x1:x≠b:=λ q=>n2 (q▸M);have x2:x≠g:=λ q=>n3 (q▸M)
   have x3:x≠W:=λ q=>by
    subst q;have:=(zay (zaa.1 hx).1 n4).1 (hx.trans hg'.symm);exact S this
   have x4:=U.lt x (.inr (.inr M));rw [O3 x x1,O2 x x2,O1 x (E x x4 x3),A x x4 x3]
  ·rcases V with q | q
   ·exact .inl (q▸hg')
   refine .inr ⟨Q,P,λ hm=>?_⟩;have:=U.lt B (.inr (.inr hm));omega
  ·have kd:Keeps (λ x=>Ft b (some g) gs x\/w.heap.size<=x) w4 w4.drew:=⟨rfl,rfl,rfl,zaf _,λ _ _ _=>rfl⟩
   have k4:=hK4.mono (J:=λ x=>Ft b (some g) gs x\/w.heap.size<=x) λ x hx=>.inl (.inr (.inr (hx▸O)));have k5:=hK5.mono (J:=λ x=>Ft b (some g) gs x\/w.heap.size<=x) λ x hx=>hx▸L;have k6:=K1.mono (J:=λ x=>Ft b (some g) gs x\/w.heap.size<=x) λ x hx=>hx▸L;exact (((((((((t6.trans (X _)).trans (R _)).trans t6).trans k4).trans kd).trans k5).trans k6).trans K2).trans K3)
  rcases hx with q | q | q
  ·exact .inl (.inl q)
  ·exact .inl (.inr (.inl q))
  rcases zaz q with q | q
  ·exact .inl (.inr (.inr q))
  exact q▸L
 obtain ⟨gs2,T8,Y,F8⟩:=Z;have hl8:(ns.set i (l.take s++k::l.drop s))[i]?=some (l.take s++k::l.drop s):=by simp [hat]
 refine (ao7 T8 i _ hl8 (by rw [N]; omega) (by simpa using hm)).mono ?_;rintro e w9 ⟨⟨v,rfl⟩,T,C,F,T9,K9,F9⟩
 go_wp2_with fail
 go_ret
 refine ⟨rfl,T,C,F,?_,?_,λ x hx=>?_⟩
 ·have ta:(ns.set i (l.take s++k::l.drop s)).take i=ns.take i:=by rw [List.take_set_of_le (zaf _)]
  have da:(ns.set i (l.take s++k::l.drop s)).drop (i+1)=ns.drop (i+1):=by rw [List.drop_set_of_lt (by omega)]
  rw [ta,da] at T9;exact T9
 ·refine jb ((Y.mono λ x hx=>.inl hx).trans (K9.mono λ x hx=>F8 x hx))
 rcases F9 x hx with q | q
 ·exact F8 x q
 have:=Y.size; exact .inr (by omega)

open Go Go.RowKit
theorem a3y {w:World} {b cap:Nat} {og:Option Nat} {gs:List Nat} {n:Int} (h:TL w b og gs cap [] n) (k:Ky):Calls P0 28 #[.pointer (some ⟨b,0,none⟩),k.val] w λ e w'=>e=.returned (.bool false) /\
 TL w' b og gs cap [] n/\∀I,Keeps I w w':=by
 obtain ⟨e,A⟩:=h.hd;have C:=h.lt b (.inl rfl);have hc:w.cell? ⟨b,0,none⟩=some (.slice (adr og) 0 cap):=by simp [World.cell?,A]
 have B:=h.keeps (w':=w.alloc (.cells #[.int .u64 k.c,.int .i64 k.v,.int .i64 k.d] 55)) (t6 (I:=λ _=>False)) (λ _ _ q=>q);simp only [Ky.val]
 go_enter func28,Go.Proofs.Tryz.ntmps28
 go_wp2_with fail
 go_ret
 exact ⟨rfl,B,λ I=>t6⟩
theorem a3x {w:World} {b cap:Nat} {og:Option Nat} {gs:List Nat} {ns:List (List Ky)} {n:Int} (h:TL w b og gs cap ns n) (k:Ky) (r s:Nat) (l:List Ky) (H:Nod ns k r) (F:ns[r-1]?=some l) (Q:Plc l k s) (O:l[s]?≠some k):Calls P0 28 #[.pointer (some ⟨b,0,none⟩),k.val] w λ e w'=>e=.returned (.bool false) /\
 TL w' b og gs cap ns n/\∀I,Keeps I w w':=by
 obtain ⟨g,rfl⟩:=h.some_ F;have P:r-1<ns.length:=(zaa.1 F).1;generalize N:r-1=i at *;obtain ⟨V,T,S,X,L⟩:=h.root;have J:((ns.length:Int) == 0)=false:=by rw [beq_eq_false_iff_ne]; omega
 have E:∀x,Keeps (λ _=>False) w (w.alloc x):=λ x=>t6;have i0:(0:Int)<=(i:Int):=by omega
 have i1:(i:Int)<(ns.length:Int):=by omega
 simp only [Ky.val]
 go_enter func28,Go.Proofs.Tryz.ntmps28
 go_wp2_with fail
 have G:=h.keeps (E (.cells #[.int .u64 k.c,.int .i64 k.v,.int .i64 k.d] 55)) (λ _ _ q=>q);have K:KB (w.alloc (.cells #[.int .u64 k.c,.int .i64 k.v,.int .i64 k.d] 55)) w.heap.size k:=mq rfl;refine (ac1 G k r H).mono ?_;rintro e w2 ⟨rfl,A⟩;rw [N];have D:=G.keeps (A λ _=>False) (λ _ _ q=>q);have R:=K.keeps (A λ _=>False) (λ q=>q);obtain ⟨d0,d1,f2,f3,_⟩:=D.root;obtain ⟨U,c,M,C,W,f4⟩:=D.node F;obtain ⟨Y,k1,k2⟩:=R.cells
 go_wp2_with fail
 refine (ac8 C k s Q).mono ?_;rintro e Z ⟨rfl,B⟩;rw [decide_eq_false O]
 go_wp2_with fail
 go_ret
 refine ⟨rfl,D.keeps (B λ _=>False) (λ _ _ q=>q),λ I=>(t6.trans (A I)).trans (B I)⟩

open Go Go.RowKit
theorem a3w {w:World} {b cap:Nat} {og:Option Nat} {gs:List Nat} {ns:List (List Ky)} {n:Int} (h:TL w b og gs cap ns n) (k:Ky) (r s:Nat) (l:List Ky) (hN:Nod ns k r) (hl:ns[r-1]?=some l) (hP:Plc l k s) (hs:l[s]?=some k) (hlen:2<=l.length) (hlen3:l.length<=32) (hn0:0<n) (hn1:n<9223372036854775807) :
 Calls P0 28 #[.pointer (some ⟨b,0,none⟩),k.val] w λ e w'=>e=.returned (.bool true) /\
 ∃gs',TL w' b og gs' cap (ns.set (r-1) (l.take s++l.drop (s+1))) (n-1)/\Keeps (Ft b og gs) w w'/\∀x,Ft b og gs' x->Ft b og gs x\/w.heap.size<=x:=by
 obtain ⟨g,rfl⟩:=h.some_ hl;have hat:r-1<ns.length:=(zaa.1 hl).1;generalize hr:r-1=i at *;obtain ⟨c0,c1,f0,f1,hlt⟩:=h.root;have hne:((ns.length:Int) == 0)=false:=by rw [beq_eq_false_iff_ne]; omega
 have hk0:∀x,Keeps (λ _=>False) w (w.alloc x):=λ x=>t6;have i0:(0:Int)<=(i:Int):=by omega
 have i1:(i:Int)<(ns.length:Int):=by omega
 obtain ⟨iK,hiK,hzK,hsK,hbK⟩:=xo abb;simp only [Ky.val]
 go_enter func28,Go.Proofs.Tryz.ntmps28
 go_wp2_with fail
 have h1:=h.keeps (hk0 (.cells #[.int .u64 k.c,.int .i64 k.v,.int .i64 k.d] 55)) (λ _ _ q=>q);have b1:KB (w.alloc (.cells #[.int .u64 k.c,.int .i64 k.v,.int .i64 k.d] 55)) w.heap.size k:=mq rfl;refine (ac1 h1 k r hN).mono ?_;rintro e w2 ⟨rfl,K⟩;rw [hr];have h2:=h1.keeps (K λ _=>False) (λ _ _ q=>q);have b2:=b1.keeps (K λ _=>False) (λ q=>q);obtain ⟨d0,d1,f2,f3,_⟩:=h2.root;obtain ⟨C,c,L,H,d2,f4⟩:=h2.node hl;obtain ⟨k0,k1,k2⟩:=b2.cells
 go_wp2_with fail
 refine (ac8 H k s hP).mono ?_;rintro e A ⟨rfl,N⟩;rw [decide_eq_true hs];have P:=h2.keeps (N λ _=>False) (λ _ _ q=>q);have Z:ow A C l c:=H.loc ((N λ _=>False).block C H.lt λ q=>q);clear d0 d1 f2 f3 d2 f4 k0 k1 k2;obtain ⟨cs,e',hg3,hsz,hf,hlc,hc,hcm⟩:=Z;have hl3:C<A.heap.size:=(zan.1 hg3).1;have hsl:s<l.length:=(zaa.1 hs).1;have w1:IntKind.i64.wrap ((s:Int)+1)=(s:Int)+1:=a6 ⟨by omega,by omega⟩;have j0:(0:Int)<=(s:Int):=by omega
 have j1:(s:Int)<=(l.length:Int):=by omega
 have j1':(s:Int)<=(c:Int):=by omega
 have j2:(0:Int)<=(s:Int)+1:=by omega
 have j3:(s:Int)+1<=(l.length:Int):=by omega
 have hnd:=h.nb;have G:C∈gs:=zad L;simp only [zaw,zas,zam,zak,zab,not_or] at hnd;obtain ⟨⟨n1,n2⟩,n3,n4⟩:=hnd;have l1:=h.lt g (.inr (.inl rfl));have l2:=h.lt C (.inr (.inr G))
 have z2:w.heap.size+1<=A.heap.size:=by
  have a1:=(K λ _=>False).size;have a2:=(N λ _=>False).size;have a3:(w.alloc (.cells #[.int .u64 k.c,.int .i64 k.v,.int .i64 k.d] 55)).heap.size=w.heap.size+1:=abp;omega
 have m1:b≠C:=λ q=>n2 (q▸G);have m2:g≠C:=λ q=>n3 (q▸G);obtain ⟨p0,p1,q0,q1,_⟩:=P.root;obtain ⟨g'',c'',T,_,p2,q2⟩:=P.node hl;rw [L] at T;cases T
 go_wp2_with fail
 have hnew:∀W:World,W.heap=A.drew.heap->(Builtin.firstCells 3 (l.length-(s+1)) (.slice (if c=s+1 then some ⟨C,0,none⟩ else some ⟨C,(s+1)*3,none⟩) (l.length-(s+1)) (c-(s+1)))).run P0 W=.ok (flat (l.drop (s+1))).toArray W:=by
  by_cases hq:c=s+1
  ·have:l.length-(s+1)=0:=by omega
   rw [this,zbn (by omega)];exact ag2
  rw [if_neg hq];exact lq (w:=A.drew) hg3 (by rw [v6,zap]) λ j u R=>hf ((s+1)*3+j) u (by rw [zn (by omega)]; exact R)
 have hw4:∀(V:World),Keeps (· = C) A.drew V->∀x,x<A.heap.size->x≠C->V.heap[x]?=A.heap[x]?:=λ V hK x h1 h2=>hK.block x h1 h2;have F:b<A.heap.size:=by omega
 have O:¬b=g:=n1;have hbg':¬g=b:=λ q=>n1 q.symm;have D:g<A.heap.size:=by omega
 go_region_held3 (λ w'=>w'.cell? ⟨b,0,none⟩=some (.slice (some ⟨g,0,none⟩) ns.length cap)) (first | exact e0 | go_keep)
  ((refine aau rfl (acn (.tmp 40) (.tmp 44) _ _ rfl Go.Proofs.Tryz.underlying53 Go.Proofs.Tryz.underlying53 hiK hzK (by rw [hsK]; rfl) hsK hbK C s c rfl hc (w:=A.drew) hg3 hsz (by omega) rfl (flat (l.drop (s+1))) hnew (by rw [v6,zap]) abg (by simp only [maxLen]; omega) hcm (by omega) ?_); intro E c2 cs2 e2 V hor hc2 Y hcm2 hg4 hsz2 hf2 hK4; have B:=hw4 V hK4; have e0:=(t7 (B b F m1) 0).trans p0; have e3:=(t7 (B g D m2) i).trans p2; have r2:=(ba (B g D m2) i).trans q2))
 generalize Value.slice (if c=s+1 then some ⟨C,0,none⟩ else some ⟨C,(s+1)*3,none⟩) (l.length-(s+1)) (c-(s+1))=V44;obtain ⟨M,hM⟩:∃M,M=s+(l.length-(s+1)):=⟨_,rfl⟩
 rw [<- hM] at Y hf2 |-;have hMl:M+1=l.length:=by omega
 have hll:(l.take s++l.drop (s+1)).length=M:=by simp; omega
 have U:∀x,x<A.heap.size->x≠C->x≠E:=λ x h1 h2 P=>by
  rcases hor with q | q
  ·omega
  rw [show A.drew.heap=A.heap from rfl] at q; omega
 have S:¬E=b:=λ q=>U b F m1 q.symm;have Q:¬E=g:=λ q=>U g D m2 q.symm;obtain ⟨ho0,co,eo,X,hco2,hco4⟩:=P.out g rfl;obtain ⟨eb,heb⟩:=P.hd;have C0:=(B g D m2).trans X;have C1:=(B b F m1).trans heb;have F1:=u9 (o:=i) (v:=.slice (some ⟨E,0,none⟩) M c2) C0;have O2:∀x,x≠g->(V.setCell ⟨g,i,none⟩ (.slice (some ⟨E,0,none⟩) M c2)).heap[x]?=V.heap[x]?:=λ x hx=>p5 C0 hx;have K2:=p6 (o:=i) (v:=.slice (some ⟨E,0,none⟩) M c2) (I:=λ x=>Ft b (some g) gs x\/w.heap.size<=x) C0 (.inl (.inr (.inl rfl)));generalize V.setCell ⟨g,i,none⟩ (.slice (some ⟨E,0,none⟩) M c2)=w5 at *;have D1:=(O2 b O).trans C1;have a0:=(t7 (O2 b O) 0).trans e0;have a1:=(t7 ((O2 b O).trans (B b F m1)) 1).trans p1
 have a2:=(ba ((O2 b O).trans (B b F m1)) 1).trans q1
 have a3:w5.cell? ⟨g,i,none⟩=some (.slice (some ⟨E,0,none⟩) M c2):=by
  have:i<co.size:=by have:=P.le; omega
  simp [World.cell?,F1,this]
 have hM0:((M:Int) == 0)=false:=by rw [beq_eq_false_iff_ne]; omega
 have wn:IntKind.i64.wrap (n-1)=n-1:=a6 ⟨by omega,by omega⟩
 go_wp2_with fail
 go_ret
 have F2:=u9 (o:=1) (v:=.int .i64 (n-1)) D1;have O3:∀x,x≠b->(w5.setCell ⟨b,1,none⟩ (.int .i64 (n-1))).heap[x]?=w5.heap[x]?:=λ x hx=>p5 D1 hx;have K3:=p6 (o:=1) (v:=.int .i64 (n-1)) (I:=λ x=>Ft b (some g) gs x\/w.heap.size<=x) D1 (.inl (.inl rfl));generalize w5.setCell ⟨b,1,none⟩ (.int .i64 (n-1))=w8 at *
 have hI2:Ft b (some g) gs E\/w.heap.size<=E:=by
  rcases hor with q | q
  ·exact .inl (.inr (.inr (q▸G)))
  rw [show A.drew.heap=A.heap from rfl] at q; exact .inr (by omega)
 refine ⟨rfl,gs.set i E,P.put hat ⟨eb,F2⟩ ⟨co,eo,X,?_⟩ (c2:=c2) ?_ (λ j x R hx=>?_) ?_,jb ?_,λ x hx=>?_⟩
 ·rw [O3 g hbg',F1,hll]
 ·refine ⟨_,e2,by rw [O3 E S,O2 E Q]; exact hg4,hsz2,λ j u R=>?_,by rw [hll]; exact Y,hc2,hcm2⟩;have hjl:=(zaa.1 R).1;rw [v6,hll] at hjl;rw [hf2 j hjl,<- R,ry];congr 2;rw [show s*3=(flat (l.take s)).length by rw [v6,zbl,Nat.min_eq_left (by omega)]];exact amw λ j u R=>hf j u (aep R)
 ·have hxm:x∈gs:=zad hx;have x1:x≠b:=λ q=>n2 (q▸hxm);have x2:x≠g:=λ q=>n3 (q▸hxm)
  have x3:x≠C:=λ q=>by
   subst q;have:=(zay (zaa.1 hx).1 n4).1 (hx.trans L.symm);exact R this
  have x4:=P.lt x (.inr (.inr hxm));rw [O3 x x1,O2 x x2,B x x4 x3]
 ·rcases hor with q | q
  ·exact .inl (q▸L)
  refine .inr ⟨S,Q,λ hm=>?_⟩;have:=P.lt E (.inr (.inr hm));rw [show A.drew.heap=A.heap from rfl] at q;omega
 ·have kd:Keeps (λ x=>Ft b (some g) gs x\/w.heap.size<=x) A A.drew:=⟨rfl,rfl,rfl,zaf _,λ _ _ _=>rfl⟩
  have k4:=hK4.mono (J:=λ x=>Ft b (some g) gs x\/w.heap.size<=x) λ x hx=>.inl (.inr (.inr (hx▸G)));exact ((((((t6.trans (K _)).trans (N _)).trans kd).trans k4).trans K2).trans K3)
 rcases hx with q | q | q
 ·exact .inl (.inl q)
 ·exact .inl (.inr (.inl q))
 rcases zaz q with q | q
 ·exact .inl (.inr (.inr q))
 exact q▸hI2

open Go Go.RowKit
theorem a3v {w:World} {b cap:Nat} {og:Option Nat} {gs:List Nat} {ns:List (List Ky)} {n:Int} (h:TL w b og gs cap ns n) (k:Ky) (r s:Nat) (l:List Ky) (hN:Nod ns k r) (hl:ns[r-1]?=some l) (hP:Plc l k s) (K:l[s]?=some k) (hlen3:l.length<=1) (hm:ns.length<=1000000) (hn0:0<n) (hn1:n<9223372036854775807) :
 Calls P0 28 #[.pointer (some ⟨b,0,none⟩),k.val] w λ e w'=>e=.returned (.bool true) /\
 ∃og' gs' cap',TL w' b og' gs' cap' (ns.eraseIdx (r-1)) (n-1)/\Keeps (Ft b og gs) w w'/\∀x,Ft b og' gs' x->Ft b og gs x\/w.heap.size<=x:=by
 obtain ⟨g,rfl⟩:=h.some_ hl;have hat:r-1<ns.length:=(zaa.1 hl).1;generalize hr:r-1=i at *;obtain ⟨c0,c1,f0,f1,hlt⟩:=h.root;have hne:((ns.length:Int) == 0)=false:=by rw [beq_eq_false_iff_ne]; omega
 have hk0:∀x,Keeps (λ _=>False) w (w.alloc x):=λ x=>t6;have i0:(0:Int)<=(i:Int):=by omega
 have i1:(i:Int)<(ns.length:Int):=by omega
 obtain ⟨iR,hiR,hzR,hsR,hbR⟩:=xo anm;obtain ⟨iK,hiK,hzK,hsK,hbK⟩:=xo abb;simp only [Ky.val]
 go_enter func28,Go.Proofs.Tryz.ntmps28
 go_wp2_with fail
 have h1:=h.keeps (hk0 (.cells #[.int .u64 k.c,.int .i64 k.v,.int .i64 k.d] 55)) (λ _ _ q=>q);have b1:KB (w.alloc (.cells #[.int .u64 k.c,.int .i64 k.v,.int .i64 k.d] 55)) w.heap.size k:=mq rfl;refine (ac1 h1 k r hN).mono ?_;rintro e w2 ⟨rfl,hK2⟩;rw [hr];have h2:=h1.keeps (hK2 λ _=>False) (λ _ _ q=>q);have b2:=b1.keeps (hK2 λ _=>False) (λ q=>q);obtain ⟨d0,d1,f2,f3,_⟩:=h2.root;obtain ⟨E,c,hg',Y,d2,f4⟩:=h2.node hl;obtain ⟨k0,k1,k2⟩:=b2.cells
 go_wp2_with fail
 refine (ac8 Y k s hP).mono ?_;rintro e A ⟨rfl,hK3⟩;rw [decide_eq_true K];have O:=h2.keeps (hK3 λ _=>False) (λ _ _ q=>q);have hrow3:ow A E l c:=Y.loc ((hK3 λ _=>False).block E Y.lt λ q=>q);clear d0 d1 f2 f3 d2 f4 k0 k1 k2;obtain ⟨cs,e',hg3,hsz,hf,hlc,hc,hcm⟩:=hrow3;have hl3:E<A.heap.size:=(zan.1 hg3).1;have hsl:s<l.length:=(zaa.1 K).1;have w1:IntKind.i64.wrap ((s:Int)+1)=(s:Int)+1:=a6 ⟨by omega,by omega⟩;have j0:(0:Int)<=(s:Int):=by omega
 have j1:(s:Int)<=(l.length:Int):=by omega
 have j1':(s:Int)<=(c:Int):=by omega
 have j2:(0:Int)<=(s:Int)+1:=by omega
 have j3:(s:Int)+1<=(l.length:Int):=by omega
 have hnd:=h.nb;have hgm:E∈gs:=zad hg';simp only [zaw,zas,zam,zak,zab,not_or] at hnd;obtain ⟨⟨n1,n2⟩,n3,n4⟩:=hnd;have l1:=h.lt g (.inr (.inl rfl));have l2:=h.lt E (.inr (.inr hgm))
 have z2:w.heap.size+1<=A.heap.size:=by
  have a1:=(hK2 λ _=>False).size;have a2:=(hK3 λ _=>False).size;have a3:(w.alloc (.cells #[.int .u64 k.c,.int .i64 k.v,.int .i64 k.d] 55)).heap.size=w.heap.size+1:=abp;omega
 have m1:b≠E:=λ q=>n2 (q▸hgm);have m2:g≠E:=λ q=>n3 (q▸hgm);obtain ⟨p0,p1,q0,q1,_⟩:=O.root;obtain ⟨g'',c'',hg'',_,p2,q2⟩:=O.node hl;rw [hg'] at hg'';cases hg''
 go_wp2_with fail
 have hnew:∀W:World,W.heap=A.drew.heap->(Builtin.firstCells 3 (l.length-(s+1)) (.slice (if c=s+1 then some ⟨E,0,none⟩ else some ⟨E,(s+1)*3,none⟩) (l.length-(s+1)) (c-(s+1)))).run P0 W=.ok (flat (l.drop (s+1))).toArray W:=by
  by_cases hq:c=s+1
  ·have:l.length-(s+1)=0:=by omega
   rw [this,zbn (by omega)];exact ag2
  rw [if_neg hq];exact lq (w:=A.drew) hg3 (by rw [v6,zap]) λ j u Z=>hf ((s+1)*3+j) u (by rw [zn (by omega)]; exact Z)
 have hw4:∀(w4:World),Keeps (· = E) A.drew w4->∀x,x<A.heap.size->x≠E->w4.heap[x]?=A.heap[x]?:=λ w4 hK x h1 h2=>hK.block x h1 h2;have U:b<A.heap.size:=by omega
 have L:¬b=g:=n1;have hbg':¬g=b:=λ q=>n1 q.symm;have F:g<A.heap.size:=by omega
 go_region_held3 (λ w'=>w'.cell? ⟨b,0,none⟩=some (.slice (some ⟨g,0,none⟩) ns.length cap)) (first | exact e0 | go_keep)
  ((refine aau rfl (acn (.tmp 40) (.tmp 44) _ _ rfl Go.Proofs.Tryz.underlying53 Go.Proofs.Tryz.underlying53 hiK hzK (by rw [hsK]; rfl) hsK hbK E s c rfl hc (w:=A.drew) hg3 hsz (by omega) rfl (flat (l.drop (s+1))) hnew (by rw [v6,zap]) abg (by simp only [maxLen]; omega) hcm (by omega) ?_); intro P c2 cs2 e2 w4 hor hc2 hlc2 hcm2 hg4 hsz2 hf2 hK4; have D:=hw4 w4 hK4; have e0:=(t7 (D b U m1) 0).trans p0; have e3:=(t7 (D g F m2) i).trans p2; have r2:=(ba (D g F m2) i).trans q2))
 generalize Value.slice (if c=s+1 then some ⟨E,0,none⟩ else some ⟨E,(s+1)*3,none⟩) (l.length-(s+1)) (c-(s+1))=V44;obtain ⟨M,hM⟩:∃M,M=s+(l.length-(s+1)):=⟨_,rfl⟩
 rw [<- hM] at hlc2 hf2 |-;have hMl:M+1=l.length:=by omega
 have hll:(l.take s++l.drop (s+1)).length=M:=by simp; omega
 have hg2b:∀x,x<A.heap.size->x≠E->x≠P:=λ x h1 h2 O=>by
  rcases hor with q | q
  ·omega
  rw [show A.drew.heap=A.heap from rfl] at q; omega
 have hgb':¬P=b:=λ q=>hg2b b U m1 q.symm;have hgg':¬P=g:=λ q=>hg2b g F m2 q.symm;obtain ⟨ho0,co,eo,hco1,hco2,T⟩:=O.out g rfl;obtain ⟨eb,heb⟩:=O.hd;have C0:=(D g F m2).trans hco1;have C1:=(D b U m1).trans heb;have F1:=u9 (o:=i) (v:=.slice (some ⟨P,0,none⟩) M c2) C0;have O2:∀x,x≠g->(w4.setCell ⟨g,i,none⟩ (.slice (some ⟨P,0,none⟩) M c2)).heap[x]?=w4.heap[x]?:=λ x hx=>p5 C0 hx;have K2:=p6 (o:=i) (v:=.slice (some ⟨P,0,none⟩) M c2) (I:=λ x=>Ft b (some g) gs x\/w.heap.size<=x) C0 (.inl (.inr (.inl rfl)));generalize w4.setCell ⟨g,i,none⟩ (.slice (some ⟨P,0,none⟩) M c2)=w5 at *;have D1:=(O2 b L).trans C1;have a0:=(t7 (O2 b L) 0).trans e0;have a1:=(t7 ((O2 b L).trans (D b U m1)) 1).trans p1
 have a2:=(ba ((O2 b L).trans (D b U m1)) 1).trans q1
 have a3:w5.cell? ⟨g,i,none⟩=some (.slice (some ⟨P,0,none⟩) M c2):=by
  have:i<co.size:=by have:=O.le; omega
  simp [World.cell?,F1,this]
 have hM0:((M:Int) == 0)=true:=by rw [beq_iff_eq]; omega
 have wn:IntKind.i64.wrap (n-1)=n-1:=a6 ⟨by omega,by omega⟩
 go_wp2_with fail
 have F2:=u9 (o:=1) (v:=.int .i64 (n-1)) D1;have O3:∀x,x≠b->(w5.setCell ⟨b,1,none⟩ (.int .i64 (n-1))).heap[x]?=w5.heap[x]?:=λ x hx=>p5 D1 hx;have K3:=p6 (o:=1) (v:=.int .i64 (n-1)) (I:=λ x=>Ft b (some g) gs x\/w.heap.size<=x) D1 (.inl (.inl rfl));generalize w5.setCell ⟨b,1,none⟩ (.int .i64 (n-1))=R at *;have x0:R.cell? ⟨b,0,none⟩=some (.slice (some ⟨g,0,none⟩) ns.length cap):=by simp [World.cell?,F2,adr]
 have y0:R.frozen? ⟨b,0,none⟩=false:=by simp [World.frozen?,F2]
 have wi:IntKind.i64.wrap ((i:Int)+1)=(i:Int)+1:=a6 ⟨by omega,by omega⟩;have i2:(0:Int)<=(i:Int)+1:=by omega
 have i3:(i:Int)+1<=(ns.length:Int):=by omega
 have i4:(i:Int)<=(ns.length:Int):=by omega
 have hcl:=O.le;have i5:(i:Int)<=(cap:Int):=by omega
 have hg8:R.heap[g]?=some (.cells (co.setIfInBounds i (.slice (some ⟨P,0,none⟩) M c2)) eo (0,0)):=(O3 g hbg').trans F1;obtain ⟨K,hhs⟩:∃K,K=((co.setIfInBounds i (.slice (some ⟨P,0,none⟩) M c2)).toList.drop (i+1)).take (ns.length-(i+1)):=⟨_,rfl⟩
 have H:K.length=(ns.length-(i+1))*1:=by rw [hhs]; simp; omega
 have hsg:∀j u,K[j]?=some u->co[i+1+j]?=some u:=λ j u Z=>by
  rw [hhs,zat] at Z;split at Z
  ·rw [zbj,zbr,zcg,if_neg (by omega)] at Z;exact Z
  cases Z
 have hs1:∀u∈K,u.oneCell'=true:=λ u hu=>by
  obtain ⟨z,hz⟩:=zag.1 hu;have hzl:=(zaa.1 hz).1;rw [H] at hzl;obtain ⟨_,hy,_⟩:=T (i+1+z) (gs[i+1+z]'(by rw [h.len]; omega)) (ns[i+1+z]'(by omega)) (by simp) (by simp);rw [hsg z u hz] at hy;cases hy
  rfl
 have hnew2:∀W:World,W.heap=R.drew.heap->(Builtin.firstCells 1 (ns.length-(i+1)) (.slice (if cap=i+1 then some ⟨g,0,none⟩ else some ⟨g,i+1,none⟩) (ns.length-(i+1)) (cap-(i+1)))).run P0 W=.ok K.toArray W:=by
  by_cases hq:cap=i+1
  ·have h0:ns.length-(i+1)=0:=by omega
   have:K=[]:=List.eq_nil_of_length_eq_zero (by rw [H]; omega);rw [h0,this];exact ag2
  rw [if_neg hq]
  exact lq (w:=R.drew) hg8 H λ j u Z=>by
   rw [zcg,if_neg (by omega)];exact hsg j u Z
 go_region_law
  ((refine aau rfl (acn (.tmp 69) (.tmp 76) _ _ rfl Go.Proofs.Tryz.underlying91 Go.Proofs.Tryz.underlying91 hiR hzR (by rw [hsR]; rfl) hsR hbR g i cap rfl ho0 (w:=R.drew) hg8 (by simp; omega) (by omega) rfl K hnew2 H hs1 (by simp only [maxLen]; omega) O.mx (by omega) ?_); intro G C cs9 e9 w9 X hc9 hlc9 hcm9 hg9 hsz9 hf9 hK9; have V:=hK9.block b (zan.1 F2).1 L; have ee0:=(t7 V 0).trans x0; have rr0:=(ba V 0).trans y0))
 all_goals
  generalize Value.slice (if cap=i+1 then some ⟨g,0,none⟩ else some ⟨g,i+1,none⟩) (ns.length-(i+1)) (cap-(i+1))=V76
  go_wp2_with fail
  go_ret
  obtain ⟨N,hN⟩:∃N,N=i+(ns.length-(i+1)):=⟨_,rfl⟩
  rw [<- hN] at hlc9 hf9 |-;have hNl:N+1=ns.length:=by omega
  have hll:(ns.eraseIdx i).length=N:=by rw [zbt,if_pos hat]; omega
  have S:R.drew.heap=R.heap:=rfl;have s2:=hK4.size;have s3:=K2.size;have s4':=K3.size
  have hz8:A.heap.size<=R.heap.size:=by
   have:A.drew.heap.size=A.heap.size:=rfl;omega
  have hGb:¬G=b:=λ q=>by rcases X with r | r; exact L (q▸r); rw [S] at r; omega
  have hbG:¬b=G:=λ q=>hGb q.symm;have F3:=u9 (o:=0) (v:=.slice (some ⟨G,0,none⟩) N C) (V.trans F2);have O9:∀x,x≠b->(w9.setCell ⟨b,0,none⟩ (.slice (some ⟨G,0,none⟩) N C)).heap[x]?=w9.heap[x]?:=λ x hx=>p5 (V.trans F2) hx;have K10:=p6 (o:=0) (v:=.slice (some ⟨G,0,none⟩) N C) (I:=λ x=>Ft b (some g) gs x\/w.heap.size<=x) (V.trans F2) (.inl (.inl rfl));generalize w9.setCell ⟨b,0,none⟩ (.slice (some ⟨G,0,none⟩) N C)=w10 at *
  have hI3:Ft b (some g) gs G\/w.heap.size<=G:=by
   rcases X with q | q
   ·exact .inl (.inr (.inl (by rw [q])))
   rw [S] at q; exact .inr (by omega)
  have Q:∀x,x<A.heap.size->x≠E->x≠g->x≠b->w10.heap[x]?=A.heap[x]?:=λ x h1 h2 O h4=>by
   rw [O9 x h4,hK9.block x (by rw [S]; omega) O,S,O3 x h4,O2 x O,D x h1 h2]
  have hgs:∀z x,gs[z]?=some x->z≠i->x<A.heap.size/\x≠E/\x≠g/\x≠b:=λ z x hz hzi=>by
   have hxm:x∈gs:=zad hz;refine ⟨O.lt x (.inr (.inr hxm)),λ q=>?_,λ q=>n3 (q▸hxm),λ q=>n2 (q▸hxm)⟩;subst q;exact hzi ((zay (zaa.1 hz).1 n4).1 (hz.trans hg'.symm))
  have hhl:(co.setIfInBounds i (.slice (some ⟨P,0,none⟩) M c2)).toList.length=co.size:=by simp
  refine ⟨rfl,some G,gs.eraseIdx i,C,⟨⟨eb,?_⟩,by rw [hll]; exact hlc9,hcm9,by simp,λ G' hG'=>?_,?_,?_⟩,jb ?_,λ x hx=>?_⟩
  ·rw [F3,hll]
   rfl
  ·cases hG';refine ⟨hc9,cs9,e9,(O9 G hGb).trans hg9,by omega,λ j x l'' hx B=>?_⟩;have Z:j<N:=by rw [<- hll]; exact (zaa.1 B).1
   rw [zbu] at hx B;have h9:=hf9 j (by omega);simp only [Nat.mul_one] at h9;have htl:((co.setIfInBounds i (.slice (some ⟨P,0,none⟩) M c2)).toList.take i).length=i:=by rw [zbl,hhl]; omega
   by_cases p1:j<i
   ·rw [if_pos p1] at hx B;obtain ⟨r1,r2,r3,r4⟩:=hgs j x hx (by omega);obtain ⟨c',q1',q2'⟩:=T j x l'' hx B;refine ⟨c',?_,q2'.loc (Q x r1 r2 r3 r4)⟩;rw [h9,zax (by omega),zat,if_pos p1,zbr,zcg,if_neg (by omega)];exact q1'
   rw [if_neg p1] at hx B;obtain ⟨r1,r2,r3,r4⟩:=hgs (j+1) x hx (by omega);obtain ⟨c',q1',q2'⟩:=T (j+1) x l'' hx B;refine ⟨c',?_,q2'.loc (Q x r1 r2 r3 r4)⟩;rw [h9,List.getElem?_append_right (by omega),htl];have hq:K[j-i]?=some (K[j-i]'(by omega)):=by simp [show j-i<K.length by omega]
   have:=hsg (j-i) _ hq;rw [show i+1+(j-i)=j+1 by omega,q1'] at this;rw [hq,this]
  ·rw [zbt,zbt,h.len,if_pos hat]
  ·simp only [zaw,zas,zam,zak,zab,not_or];refine ⟨⟨hbG,λ hm=>n2 (zbv hm)⟩,λ hm=>?_,n4.sublist (zbo ..)⟩;have hm:=zbv hm;rcases X with r | r
   ·exact n3 (r▸hm)
   rw [S] at r;have:=O.lt G (.inr (.inr hm)); omega
  ·have kd:Keeps (λ x=>Ft b (some g) gs x\/w.heap.size<=x) A A.drew:=⟨rfl,rfl,rfl,zaf _,λ _ _ _=>rfl⟩
   have kd8:Keeps (λ x=>Ft b (some g) gs x\/w.heap.size<=x) R R.drew:=⟨rfl,rfl,rfl,zaf _,λ _ _ _=>rfl⟩
   have k4:=hK4.mono (J:=λ x=>Ft b (some g) gs x\/w.heap.size<=x) λ x hx=>.inl (.inr (.inr (hx▸hgm)));have k9:=hK9.mono (J:=λ x=>Ft b (some g) gs x\/w.heap.size<=x) λ x hx=>.inl (.inr (.inl (by rw [hx])));exact (((((((((t6.trans (hK2 _)).trans (hK3 _)).trans kd).trans k4).trans K2).trans K3).trans kd8).trans k9).trans K10)
  rcases hx with q | q | q
  ·exact .inl (.inl q)
  ·cases q; exact hI3
  exact .inl (.inr (.inr (zbv q)))

open Go
theorem yk (a:Ky):kl a a=false:=by simp [kl]
variable {b a:Ky}
theorem ad2 {c:Ky} (d:kl a b=true) (e:kl b c=true):kl a c=true:=by
 unfold kl at *;split at d<;>split at e<;>split<;>(try split at d)<;>(try split at e)<;>(try split)<;>simp at * <;> omega
theorem a3d (c:kl a b=false) (d:kl b a=false):a=b:=by
 rcases a with ⟨e,i,h⟩
 rcases b with ⟨g,j,f⟩
 unfold kl at *;simp only [Ky.mk.injEq];split at c<;>split at d<;>(try split at c)<;>(try split at d)<;>simp at * <;> omega
theorem ax2 (c:kl b a=false):a=b\/kl a b=true:=by
 cases h:kl a b
 ·exact .inl (a3d h c)
 exact .inr rfl
abbrev Srt (l:List Ky):Prop:=l.Pairwise λ a b=>kl a b=true
structure Good (ns:List (List Ky)):Prop where
 ne:∀l∈ns,l≠[]/\l.length<=32
 so:Srt ns.flatten
def nk (k:Ky):List Ky->Bool
 | q::_=>kl k q
 | []=>true
def m0 (ns:List (List Ky)) (k:Ky):Nat:=ns.findIdx (nk k)
def plc (l:List Ky) (k:Ky):Nat:=l.findIdx λ q=>!kl q k
variable {j:Nat}
theorem asp {l:List Ky} (h:Srt l) {i:Nat} (c:i<j) (d:l[i]?=some a) (f:l[j]?=some b):kl a b=true:=by
 obtain ⟨e,rfl⟩:=zaa.1 d;obtain ⟨g,rfl⟩:=zaa.1 f;exact zbw.1 h i j e g c
theorem a2r {l:List Ky} (h:Srt l) (k:Ky):Plc l k (plc l k):=by
 refine ⟨List.findIdx_le_length,λ i q c b=>?_,λ i q c b=>?_⟩
 ·obtain ⟨e,rfl⟩:=zaa.1 b;have:=List.not_of_lt_findIdx c;simpa using this
 obtain ⟨e,rfl⟩:=zaa.1 b;have d:plc l k<l.length:=by omega
 have a:kl l[plc l k] k=false:=by
  have:=List.findIdx_getElem (w:=d);simp only [Bool.not_eq_true'] at this;exact this
 by_cases f:plc l k=i
 ·subst f; exact a
 have g:=asp h (show plc l k<i by omega) (zbm d) (zbm e);cases h2:kl l[i] k
 ·rfl
 rw [ad2 g h2] at a; cases a
theorem Good.node {ns:List (List Ky)} (h:Good ns) {i:Nat} {l:List Ky} (a:ns[i]?=some l):Srt l:=(List.pairwise_flatten.1 h.so).1 l (zad a)
theorem Good.apart {ns:List (List Ky)} (h:Good ns) {i:Nat} {l m:List Ky} (a:i<j) (d:ns[i]?=some l) (b:ns[j]?=some m):∀x∈l,∀y∈m,kl x y=true:=by
 obtain ⟨c,rfl⟩:=zaa.1 d;obtain ⟨e,rfl⟩:=zaa.1 b;exact zbw.1 (List.pairwise_flatten.1 h.so).2 i j c e a
theorem Good.len {ns:List (List Ky)} (h:∀l∈ns,l≠[]):ns.length<=ns.flatten.length:=by
 induction ns with
 | nil=>simp
 | cons l ns ih=>
   have a:l≠[]:=h l (by simp);have d:=ih λ l b=>h l (by simp [b]);have c:0<l.length:=zbx.2 a;simp only [zah,zbp,zao];omega
theorem afk {ns:List (List Ky)} (h:Good ns) (m:ns.flatten.length<=1000000) (k:Ky):Nod ns k (m0 ns k):=by
 refine ⟨List.findIdx_le_length,?_,λ i l a=>?_,λ i q x e c=>?_,λ i q x e c=>?_⟩
 ·have:=Good.len λ l a=>(h.ne l a).1;simp only [maxLen];omega
 ·have:=h.ne l (zad a);exact ⟨this.1,by simp only [maxLen]; omega⟩
 ·obtain ⟨a,hx⟩:=zaa.1 c;have:=List.not_of_lt_findIdx e;rw [hx] at this;simpa [nk] using this
 obtain ⟨a,hx⟩:=zaa.1 c;have d:m0 ns k<ns.length:=by omega
 have b:nk k ns[m0 ns k]=true:=List.findIdx_getElem (w:=d);by_cases f:m0 ns k=i
 ·have:ns[m0 ns k]=q::x:=by subst f; exact hx
  rw [this] at b;exact b
 rcases hq0:ns[m0 ns k] with _ | ⟨j,n⟩
 ·exact absurd hq0 (h.ne _ (List.getElem_mem d)).1
 rw [hq0] at b;have g:=h.apart (show m0 ns k<i by omega) ((zbm d).trans (by rw [hq0])) c j (by simp) q (by simp);exact ad2 b g
def gx (ns:List (List Ky)) (k:Ky):List (List Ky)×Bool:=
 if ns=[] then ([[k]],true) else
  if (ns.getD (m0 ns k-1) [])[plc (ns.getD (m0 ns k-1) []) k]?=some k then (ns,false) else
   if (ns.getD (m0 ns k-1) []).length<32 then
    (ns.set (m0 ns k-1) ((ns.getD (m0 ns k-1) []).take (plc (ns.getD (m0 ns k-1) []) k)++k::(ns.getD (m0 ns k-1) []).drop (plc (ns.getD (m0 ns k-1) []) k)),true)
   else
    (ns.take (m0 ns k-1)++((ns.getD (m0 ns k-1) []).take (plc (ns.getD (m0 ns k-1) []) k)++k::(ns.getD (m0 ns k-1) []).drop (plc (ns.getD (m0 ns k-1) []) k)).take 16 ::
     ((ns.getD (m0 ns k-1) []).take (plc (ns.getD (m0 ns k-1) []) k)++k::(ns.getD (m0 ns k-1) []).drop (plc (ns.getD (m0 ns k-1) []) k)).drop 16::ns.drop (m0 ns k-1+1),true)
def nc (ns:List (List Ky)) (k:Ky):List (List Ky)×Bool:=
 if ns=[] then (ns,false) else
  if (ns.getD (m0 ns k-1) [])[plc (ns.getD (m0 ns k-1) []) k]?=some k then
   if 2<=(ns.getD (m0 ns k-1) []).length then
    (ns.set (m0 ns k-1) ((ns.getD (m0 ns k-1) []).take (plc (ns.getD (m0 ns k-1) []) k)++(ns.getD (m0 ns k-1) []).drop (plc (ns.getD (m0 ns k-1) []) k+1)),true)
   else (ns.eraseIdx (m0 ns k-1),true)
  else (ns,false)
structure Spt (ns:List (List Ky)) (k:Ky) (i s:Nat) (l:List Ky):Prop where
 nx:m0 ns k-1=i
 nd:Nod ns k (m0 ns k)
 at_:ns[i]?=some l
 gd:ns.getD i []=l
 px:plc l k=s
 pl:Plc l k s
 ahead:∀x∈(ns.take i).flatten,kl x k=true
 behind:∀x∈(ns.drop (i+1)).flatten,kl k x=true
 all:ns.flatten=(ns.take i).flatten++(l++(ns.drop (i+1)).flatten)
 ne:l≠[]
 le:l.length<=32
theorem spt {ns:List (List Ky)} (h:Good ns) (B:ns.flatten.length<=1000000) (k:Ky) (A:ns≠[]):∃i s l,Spt ns k i s l:=by
 have g:=afk h B k;have v:0<ns.length:=zbx.2 A;have y:m0 ns k-1<ns.length:=by have:=g.le; omega
 have d:ns[m0 ns k-1]?=some ns[m0 ns k-1]:=zbm y;obtain ⟨l,e⟩:∃l,ns[m0 ns k-1]=l:=⟨_,rfl⟩
 rw [e] at d;have b:=h.ne l (zad d);refine ⟨m0 ns k-1,plc l k,l,rfl,g,d,by simp [List.getD,d],rfl,a2r (h.node d) k,λ x hx=>?_,λ x hx=>?_,?_,b.1,b.2⟩
 ·obtain ⟨m,o,c⟩:=List.mem_flatten.1 hx;obtain ⟨j,a⟩:=zag.1 o;rw [zat] at a;split at a
  ·rename_i p;obtain ⟨q,t,rfl⟩:=zch b.1;have f:=h.apart p a d x c q (by simp);have r:=g.lo (m0 ns k-1) q t (by omega) d;rcases ax2 r with rfl | w
   ·exact f
   exact ad2 f w
  cases a
 ·obtain ⟨m,o,c⟩:=List.mem_flatten.1 hx;obtain ⟨j,a⟩:=zag.1 o;rw [zbj] at a;have u:=(h.ne m (zad a)).1;obtain ⟨q,t,rfl⟩:=zch u;have f:=g.hi _ q t (by omega) a;rcases zab.1 c with rfl | n
  ·exact f
  have r:=h.node a;exact ad2 f (List.rel_of_pairwise_cons r n)
 have z:ns=ns.take (m0 ns k-1)++l::ns.drop (m0 ns k-1+1):=by
  rw [<- e,zcf,zba]
 conv=>lhs; rw [z]
 simp
theorem ahl {ns:List (List Ky)} {i:Nat} (a:i<ns.length) (m:List Ky):(ns.set i m).flatten=(ns.take i).flatten++(m++(ns.drop (i+1)).flatten):=by
 rw [List.set_eq_take_append_cons_drop,if_pos a];simp

section
variable {ns:List (List Ky)} {k:Ky} {i s:Nat} {l:List Ky}
theorem Spt.mem (h:Good ns) (a:Spt ns k i s l):l[s]?=some k↔k∈ns.flatten:=by
 constructor
 ·intro g;rw [a.all];exact zac.2 (.inr (zac.2 (.inl (zad g))))
 intro f;rw [a.all] at f;rcases zac.1 f with q | q
 ·have:=a.ahead k q; rw [yk] at this; cases this
 rcases zac.1 q with q | q
 ·obtain ⟨j,d⟩:=zag.1 q;rcases Nat.lt_trichotomy j s with c | c | c
  ·have:=a.pl.lo j k c d; rw [yk] at this; cases this
  ·exact c▸d
  have m:=(zaa.1 d).1;have b:l[s]?=some (l[s]'(by omega)):=by simp [show s<l.length by omega]
  have e:=asp (h.node a.at_) c b d;rw [a.pl.hi s _ (zaf _) b] at e;cases e
 have:=a.behind k q; rw [yk] at this; cases this
theorem Spt.lt (a:Spt ns k i s l):i<ns.length:=(zaa.1 a.at_).1
theorem Spt.lo_ (c:Spt ns k i s l):∀x∈l.take s,kl x k=true:=λ x hx=>by
 obtain ⟨j,a⟩:=zag.1 hx;rw [zat] at a;split at a
 ·rename_i b; exact c.pl.lo j x b a
 cases a
theorem Spt.hi_ (h:Good ns) (a:Spt ns k i s l) (d:l[s]?≠some k):∀x∈l.drop s,kl k x=true:=λ x hx=>by
 obtain ⟨j,b⟩:=zag.1 hx;rw [zbj] at b;have c:=a.pl.hi (s+j) x (by omega) b;rcases ax2 c with rfl | e
 ·exact absurd ((a.mem h).2 (by rw [a.all]; exact zac.2 (.inr (zac.2 (.inl (zad b)))))) d
 exact e
theorem Spt.ins (h:Good ns) (d:Spt ns k i s l) (q:l[s]?≠some k):Srt ((ns.take i).flatten++((l.take s++k::l.drop s)++(ns.drop (i+1)).flatten)):=by
 have c:=h.so;rw [d.all] at c;have e:∀(X Z:List Ky),X++(l.take s++k::l.drop s++Z)=(X++l.take s)++k::(l.drop s++Z):=λ X Z=>by simp
 have n:∀(X Z:List Ky),X++(l++Z)=(X++l.take s)++(l.drop s++Z):=λ X Z=>by
  rw [zbs,<- zbs (l.take s),zba]
 rw [e];rw [n] at c;rw [Srt,zci] at c |-;obtain ⟨o,p,j⟩:=c;have lo:∀x∈(ns.take i).flatten++l.take s,kl x k=true:=λ x hx=>(zac.1 hx).elim (d.ahead x) (d.lo_ x);have m:∀x∈l.drop s++(ns.drop (i+1)).flatten,kl k x=true:=λ x hx=>(zac.1 hx).elim (d.hi_ h q x) (d.behind x);refine ⟨o,zby.2 ⟨m,p⟩,λ a g b f=>?_⟩;rcases zab.1 f with rfl | f
 ·exact lo a g
 exact j a g b f
end
structure PutL (ns ns':List (List Ky)) (k:Ky) (f:Bool):Prop where
 good:Good ns'
 flag:f=!decide (k∈ns.flatten)
 mem:∀x,x∈ns'.flatten↔x=k\/x∈ns.flatten
 len:ns'.flatten.length=ns.flatten.length+f.toNat
theorem api {ns:List (List Ky)} (h:Good ns) (t:ns.flatten.length<=1000000) (k:Ky):PutL ns (gx ns k).1 k (gx ns k).2:=by
 by_cases n:ns=[]
 ·subst n;refine ⟨⟨by simp [gx],by simp [gx,Srt]⟩,by simp [gx],by simp [gx],by simp [gx]⟩
 obtain ⟨i,s,l,a⟩:=spt h t k n;have c:=a.mem h;unfold gx;rw [if_neg n,a.nx,a.gd,a.px];by_cases d:l[s]?=some k
 ·rw [if_pos d];refine ⟨h,by simp [c.1 d],λ x=>⟨.inr,?_⟩,by simp⟩;rintro (rfl | hx)
  ·exact c.1 d
  exact hx
 rw [if_neg d];have j:k∉ns.flatten:=λ q=>d (c.2 q);have o:=a.ins h d
 have f:∀N:List (List Ky),(∀m∈N,m≠[]/\m.length<=32)->N.flatten=(ns.take i).flatten++((l.take s++k::l.drop s)++(ns.drop (i+1)).flatten)->PutL ns N k true:=λ N p g=>by
  refine ⟨⟨p,by rw [g]; exact o⟩,by simp [j],λ x=>?_,?_⟩
  ·rw [g,a.all]
   conv=>rhs; rw [<- zba s l]
   simp only [zac,zab];constructor
   ·rintro (q | (q | q | q) | q)<;>simp [q]
   rintro (q | q | (q | q) | q)<;>simp [q]
  rw [g,a.all]
  conv=>rhs; rw [<- zba s l]
  simp only [zao,zah,zbd];omega
 have b:(l.take s++k::l.drop s).length=l.length+1:=by
  have:=a.pl.le;simp;omega
 split
 ·refine f _ (λ m c=>?_) (ahl a.lt _);rcases zaz c with q | rfl
  ·exact h.ne m q
  exact ⟨by simp,by rw [b]; omega⟩
 refine f _ (λ m c=>?_) ?_
 ·rcases zac.1 c with q | q
  ·exact h.ne m (zcd q)
  have r:=a.le;rcases zab.1 q with rfl | q
  ·refine ⟨λ e=>?_,by rw [zbl]; omega⟩;have:=congrArg zbb e;rw [zbl,b] at this;simp at this
  rcases zab.1 q with rfl | q
  ·refine ⟨λ e=>?_,by rw [zap,b]; omega⟩;have:=congrArg zbb e;rw [zap,b] at this;simp at this;omega
  exact h.ne m (zce q)
 rw [List.flatten_append,zbp,zbp,<- zbs (List.take 16 _),zba]
structure DelL (ns ns':List (List Ky)) (k:Ky) (f:Bool):Prop where
 good:Good ns'
 flag:f=decide (k∈ns.flatten)
 mem:∀x,x∈ns'.flatten↔x≠k/\x∈ns.flatten
 len:ns'.flatten.length+f.toNat=ns.flatten.length
theorem aqg {ns:List (List Ky)} (h:Good ns) (E:ns.flatten.length<=1000000) (k:Ky):DelL ns (nc ns k).1 k (nc ns k).2:=by
 by_cases u:ns=[]
 ·subst u;exact ⟨h,by simp [nc],by simp [nc],by simp [nc]⟩
 obtain ⟨i,s,l,g⟩:=spt h E k u;have d:=g.mem h;unfold nc;rw [if_neg u,g.nx,g.gd,g.px];by_cases j:l[s]?=some k
 ·rw [if_pos j];have v:=(zaa.1 j).1
  have f:l=l.take s++k::l.drop (s+1):=by
   have:l[s]=k:=(zaa.1 j).2
   conv=>lhs; rw [<- zba s l,<- zcf v,this]
  have b:=g.all;have a:=h.so;rw [b] at a
  have n:∀N:List (List Ky),(∀m∈N,m≠[]/\m.length<=32)->N.flatten=(ns.take i).flatten++((l.take s++l.drop (s+1))++(ns.drop (i+1)).flatten)->DelL ns N k true:=λ N y p=>by
   have c:((ns.take i).flatten++((l.take s++l.drop (s+1))++(ns.drop (i+1)).flatten)).Sublist ((ns.take i).flatten++(l++(ns.drop (i+1)).flatten)):=by
    refine List.Sublist.append_left (List.Sublist.append_right ?_ _) _
    conv=>rhs; rw [f]
    exact List.Sublist.append_left (List.sublist_cons_self _ _) _
   refine ⟨⟨y,by rw [p]; exact a.sublist c⟩,by simp [d.1 j],λ x=>?_,?_⟩
   ·rw [p,b]
    have hx:∀x,x∈(ns.take i).flatten++((l.take s++l.drop (s+1))++(ns.drop (i+1)).flatten)->x≠k:=λ x hx e=>by
     subst e;rw [f] at a;have e:(ns.take i).flatten++(l.take s++x::l.drop (s+1)++(ns.drop (i+1)).flatten)=((ns.take i).flatten++l.take s)++x::(l.drop (s+1)++(ns.drop (i+1)).flatten):=by simp
     simp only [<- f] at a;rw [show (ns.take i).flatten++(l++(ns.drop (i+1)).flatten)=((ns.take i).flatten++l.take s)++x::(l.drop (s+1)++(ns.drop (i+1)).flatten) by rw [<- e,<- f],Srt,zci] at a;obtain ⟨_,D,A⟩:=a;have w:=(zby.1 D).1
     have:x∈((ns.take i).flatten++l.take s)\/x∈(l.drop (s+1)++(ns.drop (i+1)).flatten):=by
      simp only [zac] at hx |-;rcases hx with q | (q | q) | q
      ·exact .inl (.inl q)
      ·exact .inl (.inr q)
      ·exact .inr (.inl q)
      exact .inr (.inr q)
     rcases this with q | q
     ·have:=A x q x (by simp); rw [yk] at this; cases this
     have:=w x q; rw [yk] at this; cases this
    constructor
    ·intro q;exact ⟨hx x q,c.subset q⟩
    rintro ⟨C,q⟩
    have r:x∈l->x∈l.take s\/x∈l.drop (s+1):=λ q=>by
     rw [f] at q;simp only [zac,zab] at q;rcases q with q | q | q
     ·exact .inl q
     ·exact absurd q C
     exact .inr q
    simp only [zac] at q |-;rcases q with q | q | q
    ·exact .inl q
    ·exact .inr (.inl (r q))
    exact .inr (.inr q)
   have t:=congrArg zbb f;rw [p,b];simp only [zao,zah,zbd] at t |-;omega
  split
  ·refine n _ (λ m d=>?_) (ahl g.lt _);rcases zaz d with q | rfl
   ·exact h.ne m q
   have t:=congrArg zbb f;have B:=g.le;simp only [zao,zah] at t;refine ⟨λ e=>?_,by rw [zao]; omega⟩;have:=congrArg zbb e;rw [zao] at this;simp only [zai] at this;omega
  have z:l.length=1:=by omega
  have o:s=0:=by omega
  refine n _ (λ m d=>h.ne m (zbv d)) ?_;rw [o,zbn (by omega),List.take_zero,zaq,zam,List.eraseIdx_eq_take_drop_succ,List.flatten_append]
 rw [if_neg j];refine ⟨h,(decide_eq_false λ q=>j (d.2 q)).symm,λ x=>⟨λ q=>⟨λ e=>j (d.2 (e▸q)),q⟩,λ q=>q.2⟩,by simp⟩

open Go Go.RowKit
def tr (ns:List (List Ky)):AbsT:=a4q ns ns.flatten.length
variable {og:Option Nat} {gs:List Nat}
theorem ac7 {b:Nat} {a:Option Nat} {d:List Nat} {w:World} (h:∀x,Ft b a d x->Ft b og gs x\/w.heap.size<=x) (i:(b::(a.toList++d)).Nodup):∀j c,fpt a d j=some c->(∃g,fpt og gs g=some c)\/w.heap.size<=c:=λ j c k=>by
 have f:=aaw.1 ⟨j,k⟩;rcases h c (.inr f) with e | e
 ·rcases e with rfl | e
  ·exfalso;have:=(zak.1 i).1;apply this;rcases f with q | q
   ·exact zac.2 (.inl (by rw [q]; simp))
   exact zac.2 (.inr q)
  exact .inl (aaw.2 e)
 exact .inr e
theorem afv {w w':World} {b:Nat} (h:Keeps (Ft b og gs) w w'):Keeps (λ x=>x=b\/∃j,fpt og gs j=some x) w w':=h.mono λ x hx=>by
 rcases hx with q | q
 ·exact .inl q
 exact .inr (aaw.2 q)
theorem a4x {ns:List (List Ky)} (h:Good ns) (C:ns.flatten.length<=100000) (k:Ky):a9 P0 26 [.ptr 1000000 0 0,k.av] [.abs (tr ns)] (bl (gx ns k).2) [.abs (tr (gx ns k).1)]:=by
 refine aix rfl λ w b D A=>?_;obtain ⟨og,gs,cap,y,rfl⟩:=A;have x:=api h (by omega) k;by_cases t:ns=[]
 ·subst t;refine (a2l y k).mono ?_;rintro e w' ⟨rfl,m,d,g,a,o,u⟩;exact ⟨rfl,fpt m d,⟨m,d,g,a,rfl⟩,afv o,ac7 u a.nb⟩
 obtain ⟨i,s,l,f⟩:=spt h (by omega) k t;have z:=Good.len λ l v=>(h.ne l v).1;have p:=f.nd;have n:=f.at_;rw [<- f.nx] at n;by_cases q:l[s]?=some k
 ·refine (a2k y k _ s l p n f.pl q).mono ?_;rintro e w' ⟨rfl,a,o⟩
  have r:gx ns k=(ns,false):=by
   unfold gx;rw [if_neg t,f.nx,f.gd,f.px,if_pos q]
  rw [r];exact ⟨rfl,fpt og gs,⟨og,gs,cap,a,rfl⟩,o _,λ j c B=>.inl ⟨j,B⟩⟩
 by_cases v:l.length<32
 ·refine (a2j y k _ s l p n f.pl q v (by omega) (by omega)).mono ?_;rintro e w' ⟨rfl,d,a,o,u⟩
  have r:gx ns k=(ns.set (m0 ns k-1) (l.take s++k::l.drop s),true):=by
   unfold gx;rw [if_neg t,f.nx,f.gd,f.px,if_neg q,if_pos v]
  rw [r] at x |-;refine ⟨rfl,fpt og d,⟨og,d,cap,?_,rfl⟩,afv o,ac7 u a.nb⟩;have:=x.len;simp only [zbd] at this;rw [this];exact a
 refine (a2i y k _ s l p n f.pl q f.le (by omega) (by omega) (by omega) (by omega)).mono ?_;rintro e w' ⟨rfl,m,d,g,a,o,u⟩
 have r:gx ns k=(ns.take (m0 ns k-1)++(l.take s++k::l.drop s).take 16::(l.take s++k::l.drop s).drop 16::ns.drop (m0 ns k-1+1),true):=by
  unfold gx;rw [if_neg t,f.nx,f.gd,f.px,if_neg q,if_neg v]
 rw [r] at x |-;refine ⟨rfl,fpt m d,⟨m,d,g,?_,rfl⟩,afv o,ac7 u a.nb⟩;have:=x.len;simp only [zbd] at this;rw [this];exact a
theorem a5n {ns:List (List Ky)} (h:Good ns) (D:ns.flatten.length<=100000) (k:Ky):a9 P0 28 [.ptr 1000000 0 0,k.av] [.abs (tr ns)] (bl (nc ns k).2) [.abs (tr (nc ns k).1)]:=by
 refine aix rfl λ w b E C=>?_;obtain ⟨og,gs,cap,x,rfl⟩:=C;have v:=aqg h (by omega) k;by_cases t:ns=[]
 ·subst t;refine (a3y x k).mono ?_;rintro e w' ⟨rfl,a,m⟩;exact ⟨rfl,fpt og gs,⟨og,gs,cap,a,rfl⟩,m _,λ j c y=>.inl ⟨j,y⟩⟩
 obtain ⟨i,s,l,d⟩:=spt h (by omega) k t;have A:=Good.len λ l u=>(h.ne l u).1;have n:=d.nd;have g:=d.at_;rw [<- d.nx] at g;by_cases o:l[s]?=some k
 ·have B:0<ns.flatten.length:=zbx.2 (List.ne_nil_of_mem ((d.mem h).1 o));by_cases u:2<=l.length
  ·refine (a3w x k _ s l n g d.pl o u d.le (by omega) (by omega)).mono ?_;rintro e w' ⟨rfl,f,a,m,z⟩
   have q:nc ns k=(ns.set (m0 ns k-1) (l.take s++l.drop (s+1)),true):=by
    unfold nc;rw [if_neg t,d.nx,d.gd,d.px,if_pos o,if_pos u]
   rw [q] at v |-;refine ⟨rfl,fpt og f,⟨og,f,cap,?_,rfl⟩,afv m,ac7 z a.nb⟩;have:=v.len;simp only [zbd] at this;rw [show ((ns.set (m0 ns k-1) (l.take s++l.drop (s+1))).flatten.length:Int)=(ns.flatten.length:Int)-1 by omega];exact a
  refine (a3v x k _ s l n g d.pl o (by omega) (by omega) (by omega) (by omega)).mono ?_;rintro e w' ⟨rfl,r,f,p,a,m,z⟩
  have q:nc ns k=(ns.eraseIdx (m0 ns k-1),true):=by
   unfold nc;rw [if_neg t,d.nx,d.gd,d.px,if_pos o,if_neg u]
  rw [q] at v |-;refine ⟨rfl,fpt r f,⟨r,f,p,?_,rfl⟩,afv m,ac7 z a.nb⟩;have:=v.len;simp only [zbd] at this;rw [show ((ns.eraseIdx (m0 ns k-1)).flatten.length:Int)=(ns.flatten.length:Int)-1 by omega];exact a
 refine (a3x x k _ s l n g d.pl o).mono ?_;rintro e w' ⟨rfl,a,m⟩
 have q:nc ns k=(ns,false):=by
  unfold nc;rw [if_neg t,d.nx,d.gd,d.px,if_neg o]
 rw [q];exact ⟨rfl,fpt og gs,⟨og,gs,cap,a,rfl⟩,m _,λ j c y=>.inl ⟨j,y⟩⟩
theorem a43 (w:World):Calls P0 24 #[] w λ e w'=>e=.returned (.pointer (some ⟨w.heap.size,0,none⟩))/\TL w' w.heap.size none [] 0 [] 0/\∀I,Keeps I w w':=by
 go_enter func24,Go.Proofs.Tryz.ntmps24
 go_wp2_with fail
 go_ret
 refine ⟨rfl,⟨⟨_,mq rfl⟩,by simp,by simp,by simp,by simp,rfl,by simp⟩,λ I=>t6⟩
theorem a44:a9 P0 24 [] [] (.ptr 1000000 0 0) [.abs (tr [])]:=by
 intro w f ρ B y E D r p;have hc:f=#[]:=by simpa using r
 subst hc;refine (a43 w).mono ?_;rintro e w' ⟨rfl,A,u⟩;have z:∀b,¬ic (ob0 []) ρ b:=λ b ⟨_,_,h,_⟩=>by simp [ob0,obs] at h
 have a:∀(g:AbsT) id x,ob0 [Ob.abs g] id=some x->id=1000000/\x=(0,.abs g):=λ g id x hx=>by
  obtain ⟨l,m,C⟩:=sj hx
  have:id-1000000=0:=by
   have:=(zaa.1 m).1;simpa using this
  have a:id=1000000:=by omega
  subst a;have k:ob0 [Ob.abs g] 1000000=some (0,.abs g):=by simp [ob0,obs,upd]
  rw [k] at hx;exact ⟨rfl,(Option.some.inj hx).symm⟩
 obtain ⟨ρ',l,m⟩:∃ρ':Pl->Option Nat,ρ' (.o 1000000)=some w.heap.size/\∀j,ρ' (.s 1000000 j)=none:=⟨fun | .o i=>if i=1000000 then some w.heap.size else none | .s i j=>none,by simp,by simp⟩
 refine ⟨_,ρ',rfl,⟨λ id v o hx=>?_,λ id n x x' c hx q _ _=>?_,u _,λ id v o c hx d=>?_,λ id c t=>?_⟩,?_⟩
 ·obtain ⟨rfl,hx⟩:=a _ id _ hx;cases hx;refine ⟨w.heap.size,l,none,[],0,A,?_⟩;funext j;rw [m];cases j<;>rfl
 ·rw [(a _ id _ hx).1,(a _ n _ q).1]
 ·obtain ⟨rfl,hx⟩:=a _ id _ hx;cases hx;rcases d with d | ⟨_,j,d⟩
  ·rw [l] at d; cases d; exact .inr (zaf _)
  rw [m] at d; cases d
 ·simp [ke,obs] at t
 exact .ptr 1000000 0 0 _ rfl ⟨0,.abs (tr []),by simp [ob0,obs,upd],zaf _,λ _=>⟨w.heap.size,l,rfl⟩⟩

structure Pt where
 k:Int
 x:Int
 y:Int
 v:Int
deriving DecidableEq
def Pt.rv (p:Pt):RV:=.agg [.v (.int .i64 p.k),.v (.int .i64 p.x),.v (.int .i64 p.y),.v (.int .i64 p.v)]
def Pt.av (p:Pt):AV:=.r p.rv
def Pt.val (p:Pt):Value:=.agg #[.int .i64 p.k,.int .i64 p.x,.int .i64 p.y,.int .i64 p.v]
def Pt.ok (p:Pt):Prop:=(1<=p.k/\p.k<=2147483648)/\inW p.x p.y/\(-2147483648<=p.v/\p.v<=2147483647)
instance (p:Pt):Decidable p.ok:=inferInstanceAs (Decidable (_/\_/\_))
def Pt.w (p:Pt) (r:Nat):Nat:=uc p.x p.y r
structure MapL (l:List (Value×Value)) (es:List MapEntry) (c:Nat):Prop where
 kv:es.map (λ e=>(e.key,e.val))=l
 nd:(es.map (·.born)).Nodup
 lt:∀e∈es,e.born<c
theorem MapL.len {l:List (Value×Value)} {es:List MapEntry} {c:Nat} (h:MapL l es c):es.length=l.length:=by rw [<- h.kv]; simp
theorem anh:MapL [] [] 0:=⟨rfl,by simp,by simp⟩
section
variable {α:Type} (kd:IntKind) (kf:α->Int) (vf:α->Value)
def ent (a:α):Value×Value:=(.int kd (kf a),vf a)
theorem ane {l:List α} {k:Int}:∀{es:List MapEntry} (i:Nat),es.map (λ e=>(e.key,e.val))=l.map (ent kd kf vf) ->
 be (.int kd k) es i=some ((l.findIdx? λ a=>k == kf a).bind λ j=>(l[j]?).map λ a=>(i+j,vf a)):=by
 induction l with
 | nil=>
   intro es i h;have:es=[]:=by simpa using h
   subst this
   rfl
 | cons a l ih=>
   intro es i h;cases es with
   | nil=>simp at h
   | cons e es=>
     simp only [zau,List.cons.injEq,ent,Prod.mk.injEq] at h;obtain ⟨⟨f,m⟩,g⟩:=h;simp only [be,f,ni,if_true];by_cases c:k=kf a
     ·simp [c,zbe,m]
     have d:(k == kf a)=false:=by simp [c]
     rw [d];simp only;rw [ih (i+1) g,zbe];simp only [d,zbf,if_false];congr 1;cases hf:l.findIdx? λ a=>k == kf a with
     | none=>rfl
     | some j=>
       simp only [Option.map_some,Option.bind_some,List.getElem?_cons_succ];congr 1;funext b;congr 1;omega
variable {kd kf vf}
theorem adw {l:List α} {es:List MapEntry} {c:Nat} {k:Int} {v:Value} (h:MapL (l.map (ent kd kf vf)) es c) (j:∀a∈l,k≠kf a) :
 okK es (.int kd k)=true/\lkB es (.int kd k)=false/\(∀z,lkR es (.int kd k) z=z)/\MapL (l.map (ent kd kf vf)++[(.int kd k,v)]) (ao es c (.int kd k) v) (ah es c (.int kd k))/\aq es (.int kd k)=es:=by
 have f:be (.int kd k) es 0=some none:=by
  rw [ane kd kf vf 0 h.kv,show (l.findIdx? λ a=>k == kf a)=none from List.findIdx?_eq_none_iff.2 λ a i=>by simp [j a i]]
  rfl
 refine ⟨by simp [okK,f],by simp [lkB,f],λ z=>by simp [lkR,f],?_,by simp [aq,f]⟩;simp only [ao,ah,f];refine ⟨by simp [h.kv],?_,?_⟩
 ·rw [zbz,List.nodup_append];refine ⟨h.nd,by simp,λ b m n g=>?_⟩;simp at g;obtain ⟨e,d,rfl⟩:=zal.1 m;have:=h.lt e d;omega
 intro e d;rcases zac.1 d with d | d
 ·have:=h.lt e d; omega
 simp at d; subst d; simp
theorem aji {c d:Type} (f:c->d) (g:c->c) (e:d->d) (h:∀b,f (g b)=e (f b)) (l:List c) (i:Nat):(l.modify i g).map f=(l.map f).modify i e:=by
 induction l generalizing i with
 | nil=>simp
 | cons a l ih=>cases i with
   | zero=>simp [h]
   | succ i=>simp [ih]
theorem zk {b c:Type} (f:b->c) (l:List b) (i:Nat):(l.eraseIdx i).map f=(l.map f).eraseIdx i:=by
 induction l generalizing i with
 | nil=>simp
 | cons a l ih=>cases i with
   | zero=>simp
   | succ i=>simp [ih]
theorem aa8 {l:List α} {es:List MapEntry} {c:Nat} {k:Int} {v:Value} {i:Nat} {a:α} (h:MapL (l.map (ent kd kf vf)) es c) (r:(l.findIdx? λ a=>k == kf a)=some i) (p:l[i]?=some a) :
 okK es (.int kd k)=true/\lkB es (.int kd k)=true/\(∀z,lkR es (.int kd k) z=jq (vf a))/\MapL ((l.map (ent kd kf vf)).set i (.int kd k,v)) (ao es c (.int kd k) v) (ah es c (.int kd k))/\MapL ((l.eraseIdx i).map (ent kd kf vf)) (aq es (.int kd k)) c:=by
 have f:be (.int kd k) es 0=some (some (i,vf a)):=by
  rw [ane kd kf vf 0 h.kv,r];simp [p]
 have m:=(zaa.1 p).1;simp only [ao,ah,aq,f];refine ⟨by simp [okK,f],by simp [lkB,f],λ z=>by simp [lkR,f],⟨?_,?_,?_⟩,⟨?_,?_,?_⟩⟩
 ·rw [aji (λ e:MapEntry=>(e.key,e.val)) _ (λ _=>(.int kd k,v)) (λ b=>rfl),h.kv];apply List.ext_getElem?;intro j;rw [zcj,zbk];by_cases d:i=j
  ·subst d;simp [m]
  simp [d]
 ·have:(es.modify i λ e=>{ e with key:=.int kd k,val:=v }).map (·.born)=es.map (·.born):=by
   rw [aji (λ e:MapEntry=>e.born) (λ e=>{ e with key:=Value.int kd k,val:=v }) id (λ b=>rfl)];apply List.ext_getElem?;intro j;rw [zcj];split<;>simp
  rw [this];exact h.nd
 ·intro e g;obtain ⟨j,q⟩:=zag.1 g;rw [zcj] at q;obtain ⟨s,o,n⟩:=Option.map_eq_some_iff.1 q;have:=h.lt s (zad o);rw [<- n];split<;>exact this
 ·rw [zk,h.kv,zk]
 ·rw [zk];exact h.nd.sublist (zbo _ _)
 intro e g;exact h.lt e ((zbo _ _).mem g)
end

abbrev ptE:Pt->Value×Value:=ent .i64 (·.k) Pt.val
structure PM (L:List Pt) (es:List MapEntry) (c:Nat):Prop where
 m:MapL (L.map ptE) es c
 nd:(L.map (·.k)).Nodup
def n8 (k:Int) (L:List Pt):List Pt:=L.filter λ q=>q.k != k
theorem axx {L:List Pt} {es:List MapEntry} {c:Nat} (h:PM L es c) {k:Int} (d:∀q∈L,q.k≠k):okK es (.int .i64 k)=true/\lkB es (.int .i64 k)=false/\(∀z,lkR es (.int .i64 k) z=z)/\aq es (.int .i64 k)=es:=by
 obtain ⟨f,j,i,l,g⟩:=adw (v:=.int .i64 0) h.m (λ a b e=>d a b e.symm);exact ⟨f,j,i,g⟩
variable {p:Pt}
theorem atn {L:List Pt} {es:List MapEntry} {c:Nat} (h:PM L es c) (f:∀q∈L,q.k≠p.k):okK es (.int .i64 p.k)=true/\PM (L++[p]) (ao es c (.int .i64 p.k) p.val) (ah es c (.int .i64 p.k)):=by
 obtain ⟨i,r,o,j,n⟩:=adw (v:=p.val) h.m (λ a d e=>f a d e.symm);refine ⟨i,by rw [zbz]; exact j,?_⟩;rw [zbz,List.nodup_append];refine ⟨h.nd,by simp,λ a d b g=>?_⟩;simp at g;subst g;obtain ⟨q,l,rfl⟩:=zal.1 d;exact f q l
theorem anv {L:List Pt} (b:(L.map (·.k)).Nodup) (f:p∈L):∃i,(L.findIdx? λ a=>p.k == a.k)=some i/\L[i]?=some p/\L.eraseIdx i=n8 p.k L:=by
 induction L with
 | nil=>simp at f
 | cons a L ih=>
   rw [zau,zak] at b;by_cases d:a=p
   ·subst d;refine ⟨0,by simp [zbe],rfl,?_⟩;simp only [List.eraseIdx_cons_zero,n8,zbq,bne_self_eq_false,zbf,if_false];rw [zca.2 λ q m=>?_];simp only [bne_iff_ne];intro e;exact b.1 (zal.2 ⟨q,m,e⟩)
   have c:p∈L:=by
    rcases zab.1 f with h | h
    ·exact absurd h.symm d
    exact h
   obtain ⟨i,j,n,l⟩:=ih b.2 c;have g:a.k≠p.k:=λ e=>b.1 (zal.2 ⟨p,c,e.symm⟩);refine ⟨i+1,?_,by simpa using n,?_⟩
   ·rw [zbe,j];have:(p.k == a.k)=false:=by simp; exact λ e=>g e.symm
    simp [this]
   simp only [List.eraseIdx_cons_succ,l,n8,zbq];have:(a.k != p.k)=true:=by simp [g]
   simp [this]
theorem amy {L:List Pt} {es:List MapEntry} {c:Nat} (h:PM L es c) (e:p∈L):okK es (.int .i64 p.k)=true/\lkB es (.int .i64 p.k)=true/\(∀z,lkR es (.int .i64 p.k) z=p.rv)/\PM (n8 p.k L) (aq es (.int .i64 p.k)) c:=by
 obtain ⟨i,d,l,g⟩:=anv h.nd e;obtain ⟨a,j,b,n,f⟩:=aa8 (v:=.int .i64 0) h.m d l;refine ⟨a,j,λ z=>by rw [b]; rfl,by rw [<- g]; exact f,?_⟩;exact h.nd.sublist (List.Sublist.map _ zcb)
theorem amz {L:List Pt} {es:List MapEntry} {c:Nat} (h:PM L es c):es.length=L.length:=by rw [h.m.len]; simp
abbrev cnE:Nat×Int->Value×Value:=ent .u64 (λ q=>(q.1:Int)) (λ q=>.int .i64 q.2)
structure CM (f:Nat->Nat) (es:List MapEntry) (c:Nat):Prop where
 ex:∃ws:List (Nat×Int),MapL (ws.map cnE) es c/\(ws.map (·.1)).Nodup/\∀w n,(w,n)∈ws↔n=(f w:Int)/\0<f w
theorem a32:CM (λ _=>0) [] 0:=⟨[],anh,by simp,by simp⟩
variable {w:Nat} {ws:List (Nat×Int)}
theorem ag0 (b:(ws.map (·.1)).Nodup) {n:Int} (h:(w,n)∈ws):∃i,(ws.findIdx? λ a=>((w:Int)) == ((a.1:Nat):Int))=some i/\ws[i]?=some (w,n):=by
 induction ws with
 | nil=>simp at h
 | cons a ws ih=>
   rw [zau,zak] at b;by_cases c:a=(w,n)
   ·subst c;exact ⟨0,by simp [zbe],rfl⟩
   have d:(w,n)∈ws:=by
    rcases zab.1 h with h | h
    ·exact absurd h.symm c
    exact h
   obtain ⟨i,f,g⟩:=ih b.2 d;have j:a.1≠w:=λ e=>b.1 (zal.2 ⟨_,d,e.symm⟩);refine ⟨i+1,?_,by simpa using g⟩;rw [zbe,f];have:(((w:Int)) == ((a.1:Nat):Int))=false:=by simp; omega
   simp [this]
variable {f:Nat->Nat}
theorem arq (h:∀w n,(w,n)∈ws↔n=(f w:Int)/\0<f w) (c:f w=0):∀a∈ws,(w:Int)≠((a.1:Nat):Int):=λ a b e=>by
 have e':w=a.1:=by omega
 subst e';have:=((h a.1 a.2).1 b).2;omega
theorem ajy {es:List MapEntry} {c:Nat} (h:CM f es c) (w:Nat):okK es (.int .u64 w)=true/\lkR es (.int .u64 w) (.v (.int .i64 0))=.v (.int .i64 (f w)):=by
 obtain ⟨ws,d,m,e⟩:=h.ex;by_cases g:f w=0
 ·obtain ⟨a,l,b,_⟩:=adw (v:=.int .i64 0) d (arq e g);exact ⟨a,by rw [b,g]; rfl⟩
 obtain ⟨i,k,j⟩:=ag0 m ((e w (f w)).2 ⟨rfl,by omega⟩);obtain ⟨a,l,b,_⟩:=aa8 (v:=.int .i64 0) d k j;exact ⟨a,by rw [b]; rfl⟩
theorem ali (h:(ws.map (·.1)).Nodup) {i:Nat} {n m:Int} (c:ws[i]?=some (w,n)):((ws.set i (w,m)).map (·.1)).Nodup/\∀u k,(u,k)∈ws.set i (w,m)↔(u=w/\k=m)\/(u≠w/\(u,k)∈ws):=by
 have e:(ws.set i (w,m)).map (·.1)=ws.map (·.1):=by
  apply List.ext_getElem?;intro j;rw [List.getElem?_map,zbk,List.getElem?_map];by_cases a:i=j
  ·subst a;have:=(zaa.1 c).1;rw [if_pos rfl,if_pos this,c]
   rfl
  simp [a]
 refine ⟨by rw [e]; exact h,λ u k=>?_⟩;have d:=(zaa.1 c).1;constructor
 ·intro g;obtain ⟨j,b⟩:=zag.1 g;rw [zbk] at b;by_cases a:i=j
  ·subst a;simp [d] at b;exact .inl ⟨b.1.symm,b.2.symm⟩
  simp [a] at b;refine .inr ⟨λ e=>?_,zad b⟩;subst e;have l:(ws.map (·.1))[i]?=some u:=by simp [c]
  have o:(ws.map (·.1))[j]?=some u:=by simp [b]
  exact a (yi h l o)
 rintro (⟨rfl,rfl⟩ | ⟨f,g⟩)
 ·exact zag.2 ⟨i,by simp [d]⟩
 obtain ⟨j,b⟩:=zag.1 g;refine zag.2 ⟨j,?_⟩;rw [zbk];by_cases a:i=j
 ·subst a;rw [c] at b;cases b;exact absurd rfl f
 simp [a,b]
theorem at2 (h:(ws.map (·.1)).Nodup) {i:Nat} {n:Int} (g:ws[i]?=some (w,n)):((ws.eraseIdx i).map (·.1)).Nodup/\∀u k,(u,k)∈ws.eraseIdx i↔u≠w/\(u,k)∈ws:=by
 refine ⟨h.sublist ((zbo _ _).map _),λ u k=>⟨λ b=>⟨λ e=>?_,(zbo _ _).mem b⟩,λ ⟨c,b⟩=>?_⟩⟩
 ·subst e;obtain ⟨j,a⟩:=zag.1 b;have f:(ws.map (·.1))[i]?=some u:=by simp [g]
  rw [zbu] at a;split at a
  ·have:=yi h f (show (ws.map (·.1))[j]?=some u by simp [a]); omega
  have:=yi h f (show (ws.map (·.1))[j+1]?=some u by simp [a]); omega
 obtain ⟨j,a⟩:=zag.1 b
 have l:i≠j:=λ e=>by
  subst e;rw [g] at a;cases a;exact c rfl
 refine zag.2 ?_;by_cases d:j<i
 ·exact ⟨j,by rw [zbu,if_pos d]; exact a⟩
 exact ⟨j-1,by rw [zbu,if_neg (by omega),show j-1+1=j by omega]; exact a⟩
def upw (f:Nat->Nat) (w n:Nat):Nat->Nat:=λ u=>if u=w then n else f u
theorem an7 {es:List MapEntry} {c:Nat} (h:CM f es c) (w n:Nat) (C:0<n):CM (upw f w n) (ao es c (.int .u64 w) (.int .i64 n)) (ah es c (.int .u64 w)):=by
 obtain ⟨ws,p,o,d⟩:=h.ex;by_cases l:f w=0
 ·obtain ⟨s,B,x,j,_⟩:=adw (v:=.int .i64 n) p (arq d l);refine ⟨ws++[(w,(n:Int))],by simpa [ent] using j,?_,λ u k=>?_⟩
  ·rw [zbz,List.nodup_append];refine ⟨o,by simp,λ a g b r=>?_⟩;simp at r;subst r;obtain ⟨q,z,rfl⟩:=zal.1 g;have:=arq d l q z;omega
  simp only [zac,zcc,Prod.mk.injEq,d,upw];by_cases e:u=w
  ·subst e; simp [l]; omega
  simp [e]
 obtain ⟨i,t,g⟩:=ag0 o ((d w (f w)).2 ⟨rfl,by omega⟩);obtain ⟨s,B,x,j,_⟩:=aa8 (v:=.int .i64 n) p t g;obtain ⟨y,A⟩:=ali (m:=(n:Int)) o g;refine ⟨ws.set i (w,(n:Int)),?_,y,λ u k=>?_⟩
 ·rw [List.map_set]; exact j
 rw [A];simp only [d,upw];by_cases e:u=w
 ·subst e; simp; omega
 simp [e]
theorem aqj {es:List MapEntry} {c:Nat} (h:CM f es c) (w:Nat) (C:0<f w) :
 okK (ao es c (.int .u64 w) (.int .i64 0)) (.int .u64 w)=true/\lkR (ao es c (.int .u64 w) (.int .i64 0)) (.int .u64 w) (.v (.int .i64 0))=.v (.int .i64 0) /\
 CM (upw f w 0) (aq (ao es c (.int .u64 w) (.int .i64 0)) (.int .u64 w)) (ah es c (.int .u64 w)):=by
 obtain ⟨ws,z,n,g⟩:=h.ex;obtain ⟨i,r,b⟩:=ag0 n ((g w (f w)).2 ⟨rfl,C⟩);obtain ⟨E,F,G,x,_⟩:=aa8 (v:=.int .i64 0) z r b;obtain ⟨l,o⟩:=ali (m:=0) n b;have d:MapL ((ws.set i (w,0)).map cnE) (ao es c (.int .u64 w) (.int .i64 0)) (ah es c (.int .u64 w)):=by rw [List.map_set]; exact x
 have q:=(zaa.1 b).1;obtain ⟨p,e,a⟩:=ag0 l ((o w 0).2 (.inl ⟨rfl,rfl⟩));obtain ⟨B,D,y,_,s⟩:=aa8 (v:=.int .i64 0) d e a;refine ⟨B,by rw [y]; rfl,?_⟩;obtain ⟨A,t⟩:=at2 l a;refine ⟨(ws.set i (w,0)).eraseIdx p,s,A,λ u k=>?_⟩;rw [t,o];simp only [g,upw];by_cases j:u=w
 ·subst j; simp
 simp [j]

theorem adv {d:Type} {l:List d} (h:l.Nodup) {i:Nat} {x:d} (g:l[i]?=some x) (k:l[j]?=some x):i=j:=by
 obtain ⟨b,c⟩:=zaa.1 g;obtain ⟨e,f⟩:=zaa.1 k;rcases Nat.lt_trichotomy i j with a | rfl | a
 ·exact absurd (by rw [c,f]) (zbw.1 h i j b e a)
 ·rfl
 exact absurd (by rw [c,f]) (zbw.1 h j i e b a)
def cnt (L:List Pt) (r:Nat):Nat->Nat:=λ w=>L.countP λ p=>p.w r == w
theorem a0x (L:List Pt) (p:Pt) (r:Nat):cnt (L++[p]) r=upw (cnt L r) (p.w r) (cnt L r (p.w r)+1):=by
 funext w;simp only [cnt,upw,List.countP_append,List.countP_cons,List.countP_nil,Nat.zero_add];by_cases h:p.w r=w
 ·subst h; simp
 have:¬w=p.w r:=λ e=>h e.symm;simp [h,this]
theorem ahp {L:List Pt} (b:(L.map (·.k)).Nodup) (g:p∈L) (r:Nat):0<cnt L r (p.w r)/\cnt (n8 p.k L) r=upw (cnt L r) (p.w r) (cnt L r (p.w r)-1):=by
 have d:∀w,cnt (n8 p.k L) r w+(if p.w r=w then 1 else 0)=cnt L r w:=by
  intro w
  induction L with
  | nil=>simp at g
  | cons a L ih=>
    rw [zau,zak] at b;by_cases f:a=p
    ·subst f
     have e:n8 a.k (a::L)=L:=by
      simp only [n8,zbq,bne_self_eq_false,zbf,if_false]
      exact zca.2 λ q m=>by
       simp only [bne_iff_ne];intro e;exact b.1 (zal.2 ⟨q,m,e⟩)
     rw [e];simp only [cnt,List.countP_cons,beq_iff_eq]
    have c:p∈L:=by
     rcases zab.1 g with h | h
     ·exact absurd h.symm f
     exact h
    have j:(a.k != p.k)=true:=by
     simp only [bne_iff_ne];exact λ e=>b.1 (zal.2 ⟨p,c,e.symm⟩)
    have e:n8 p.k (a::L)=a::n8 p.k L:=by simp [n8,zbq,j]
    have:=ih b.2 c;rw [e];simp only [cnt,List.countP_cons] at this |-;omega
 have i:0<cnt L r (p.w r):=by
  have:=d (p.w r);simp at this;omega
 refine ⟨i,?_⟩;funext w;have:=d w;unfold upw;by_cases h:p.w r=w
 ·subst h; simp at this |-; omega
 have l:¬w=p.w r:=λ e=>h e.symm;simp [h] at this;simp [l,this]
theorem avb (f:Nat->Nat) (w n:Nat):upw f w n w=n:=by simp [upw]
def Pt.ky (p:Pt) (r:Nat):Ky:=⟨p.w r,p.v,p.k⟩
variable {r:Nat}
theorem Pt.w_res (h:p.ok) (b:r<13):jv (p.w r)=true/\o6 (p.w r)=r/\p.w r<18446744073709551616:=by
 have a:=ah9 p.x p.y r h.2.1.1 h.2.1.2 (by omega);exact ⟨aub a,(al9 r _ a).2,aj9 r _ a⟩
variable {q:Pt}
theorem Pt.ky_inj (c:p.ok) (i:q.ok) {s:Nat} (d:r<13) (f:s<13) (h:p.ky r=q.ky s):r=s/\p.k=q.k:=by
 simp only [Pt.ky,Ky.mk.injEq] at h;obtain ⟨j,l,g⟩:=h;have e:p.w r=q.w s:=by omega
 have a:=(Pt.w_res c d).2.1;have b:=(Pt.w_res i f).2.1;rw [e,b] at a;exact ⟨a.symm,g⟩
structure TK (K:Ky->Prop) (n:Nat) (ns:List (List Ky)):Prop where
 g:Good ns
 m:∀x,x∈ns.flatten↔K x
 l:ns.flatten.length=n
variable {n:Nat} {K:Ky->Prop}
theorem TK.put {ns:List (List Ky)} (h:TK K n ns) (d:n<=100000) {k:Ky} (c:¬K k):TK (λ x=>x=k\/K x) (n+1) (gx ns k).1/\(gx ns k).2=true:=by
 have a:=api h.g (by rw [h.l]; omega) k;have b:(gx ns k).2=true:=by rw [a.flag]; simp [h.m,c]
 refine ⟨⟨a.good,λ x=>by rw [a.mem,h.m],?_⟩,b⟩;rw [a.len,h.l,b]
 rfl
theorem TK.del {ns:List (List Ky)} (h:TK K (n+1) ns) (d:n<=100000) {k:Ky} (c:K k):TK (λ x=>x≠k/\K x) n (nc ns k).1/\(nc ns k).2=true:=by
 have a:=aqg h.g (by rw [h.l]; omega) k;have b:(nc ns k).2=true:=by rw [a.flag]; simp [h.m,c]
 refine ⟨⟨a.good,λ x=>by rw [a.mem,h.m],?_⟩,b⟩;have:=a.len;rw [h.l,b] at this;have e:Bool.toNat true=1:=rfl;omega
theorem TK.congr {a:Ky->Prop} {ns:List (List Ky)} (h:TK K n ns) (b:∀x,K x↔a x):TK a n ns:=⟨h.g,λ x=>(h.m x).trans (b x),h.l⟩
def KL (L:List Pt) (x:Ky):Prop:=∃p,p∈L/\∃r,r<13/\x=p.ky r
def nsP (ns:List (List Ky)) (p:Pt):Nat->List (List Ky)
 | 0=>ns
 | r+1=>(gx (nsP ns p r) (p.ky r)).1
def nsD (ns:List (List Ky)) (p:Pt):Nat->List (List Ky)
 | 0=>ns
 | r+1=>(nc (nsD ns p r) (p.ky r)).1
theorem aje {L:List Pt} {p:Pt} {n:Nat} {ns:List (List Ky)} (a:p.ok) (f:∀q∈L,q.ok/\q.k≠p.k) (h:TK (KL L) n ns) (i:n<=50000):∀r,r<=13->TK (λ x=>KL L x\/∃s,s<r/\x=p.ky s) (n+r) (nsP ns p r)
 | 0,_=>h.congr λ x=>by simp
 | r+1,hr=>by
   have j:=aje a f h i r (by omega)
   have c:¬(KL L (p.ky r)\/∃s,s<r/\p.ky r=p.ky s):=by
    rintro (⟨q,g,s,b,e⟩ | ⟨s,b,e⟩)
    ·exact (f q g).2 (Pt.ky_inj a (f q g).1 (by omega) b e).2.symm
    have:=(Pt.ky_inj a a (by omega) (by omega) e).1; omega
   refine ((j.put (by omega) c).1).congr λ x=>?_;constructor
   ·rintro (rfl | h | ⟨s,b,rfl⟩)
    ·exact .inr ⟨r,by omega,rfl⟩
    ·exact .inl h
    exact .inr ⟨s,by omega,rfl⟩
   rintro (h | ⟨s,b,rfl⟩)
   ·exact .inr (.inl h)
   by_cases d:s=r
   ·subst d; exact .inl rfl
   exact .inr (.inr ⟨s,by omega,rfl⟩)
theorem am5 {L:List Pt} {p:Pt} {n:Nat} {ns:List (List Ky)} (f:p∈L) (t:∀q∈L,q.ok) (d:(L.map (·.k)).Nodup) (h:TK (KL L) (n+13) ns) (C:n<=50000):∀r,r<=13->TK (λ x=>KL (n8 p.k L) x\/∃s,r<=s/\s<13/\x=p.ky s) (n+(13-r)) (nsD ns p r)
 | 0,_=>h.congr λ x=>by
   constructor
   ·rintro ⟨q,b,r,c,rfl⟩;by_cases A:q.k=p.k
    ·have:q=p:=by
      obtain ⟨i,y⟩:=zag.1 b;obtain ⟨j,u⟩:=zag.1 f;have:=adv d (show (L.map (·.k))[i]?=some p.k by simp [y,A]) (show (L.map (·.k))[j]?=some p.k by simp [u]);subst this;rw [y] at u;exact Option.some.inj u
     subst this;exact .inr ⟨r,by omega,c,rfl⟩
    exact .inl ⟨q,zar.2 ⟨b,by simp [A]⟩,r,c,rfl⟩
   rintro (⟨q,b,r,c,rfl⟩ | ⟨s,_,g,rfl⟩)
   ·exact ⟨q,(zar.1 b).1,r,c,rfl⟩
   exact ⟨p,f,s,g,rfl⟩
 | r+1,c=>by
   have z:=am5 f t d h C r (by omega);have a:=t p f;rw [show n+(13-r)=n+(13-(r+1))+1 by omega] at z;refine ((z.del (by omega) (.inr ⟨r,zaf _,by omega,rfl⟩)).1).congr λ x=>?_;constructor
   ·rintro ⟨m,h | ⟨s,B,l,rfl⟩⟩
    ·exact .inl h
    by_cases w:s=r
    ·subst w; exact absurd rfl m
    exact .inr ⟨s,by omega,l,rfl⟩
   rintro (⟨q,b,s,g,rfl⟩ | ⟨s,B,l,rfl⟩)
   ·obtain ⟨o,v⟩:=zar.1 b;refine ⟨λ e=>?_,.inl ⟨q,b,s,g,rfl⟩⟩;have:=(Pt.ky_inj (t q o) a g (by omega) e).2;simp [this] at v
   refine ⟨λ e=>?_,.inr ⟨s,by omega,l,rfl⟩⟩;have:=(Pt.ky_inj a a l (by omega) e).1;omega

def aek:Mk P0 f27:={ x:=_ }
def ny:Mk P0 f12:={ x:=_ }
theorem rm:ng 12 2 ny:=fg func12
theorem agj (p:Pt) (r:Int) (h:p.ok) (a:0<=r/\r<=12):a9 P0 27 [p.av,int .i64 r] [] (uw (p.w r.toNat)) []:=by
 refine aek.t func27 ?_
 push_cast [aek,Pt.av,Pt.rv,zai]
 refine a7 (a5p p.x p.y r h.2.1 a) rfl trivial ?_
 push_cast [cel]
 refine b7 (as':=[cel r (l8 p.x p.y r.toNat)]) rfl ?_;refine a7 (a1q r (l8 p.x p.y r.toNat) a.1 (ah9 p.x p.y r.toNat h.2.1.1 h.2.1.2 (by omega))) rfl trivial ?_
 push_cast [uw]
 rfl
def d9 (es:List MapEntry) (c:Nat) (ns:List (List Ky)) (ce:Nat->List MapEntry) (cc:Nat->Nat):List Ob:=
 [.box [.mp 1000001 0,.ptr 1000002 0 0,.mp 1000003 0,.mp 1000004 0,.mp 1000005 0,.mp 1000006 0,.mp 1000007 0,.mp 1000008 0,.mp 1000009 0,.mp 1000010 0,.mp 1000011 0,.mp 1000012 0,.mp 1000013 0,.mp 1000014 0,.mp 1000015 0],.map es c,.abs (tr ns),.map (ce 0) (cc 0),.map (ce 1) (cc 1),.map (ce 2) (cc 2),.map (ce 3) (cc 3),.map (ce 4) (cc 4),.map (ce 5) (cc 5),.map (ce 6) (cc 6),.map (ce 7) (cc 7),.map (ce 8) (cc 8),.map (ce 9) (cc 9),.map (ce 10) (cc 10),.map (ce 11) (cc 11),.map (ce 12) (cc 12)]
theorem agm (a b:List (List Ky)):(tr a).size=(tr b).size:=rfl
def stg {c:Type} (a b:Nat->c) (r j:Nat):c:=if j<r then a j else b j
theorem aqy {c:Type} (b a:Nat->c):stg b a 0=a:=by funext j; simp [stg]
structure StL (L:List Pt) (es:List MapEntry) (c:Nat) (ns:List (List Ky)) (ce:Nat->List MapEntry) (cc:Nat->Nat):Prop where
 ok:∀q∈L,q.ok
 le:L.length<=2000
 pm:PM L es c
 tk:TK (KL L) (13*L.length) ns
 cm:∀r,r<13->CM (cnt L r) (ce r) (cc r)
def abh (L:List Pt) (p:Pt) (ce:Nat->List MapEntry) (cc:Nat->Nat) (r:Nat):List MapEntry:=
 if cnt L r (p.w r)=1 then aq (ao (ce r) (cc r) (.int .u64 (p.w r)) (.int .i64 0)) (.int .u64 (p.w r)) else ao (ce r) (cc r) (.int .u64 (p.w r)) (.int .i64 ((cnt L r (p.w r)-1:Nat):Int))
def aik (p:Pt) (ce:Nat->List MapEntry) (cc:Nat->Nat) (r:Nat):Nat:=ah (ce r) (cc r) (.int .u64 (p.w r))
theorem a5o {L:List Pt} {ce:Nat->List MapEntry} {cc:Nat->Nat} (a:(L.map (·.k)).Nodup) (c:p∈L) (h:CM (cnt L r) (ce r) (cc r)):CM (cnt (n8 p.k L) r) (abh L p ce cc r) (aik p ce cc r):=by
 obtain ⟨d,e⟩:=ahp a c r;rw [e];unfold abh aik;split
 ·rename_i b;rw [b];exact (aqj h (p.w r) d).2.2
 exact an7 h (p.w r) _ (by omega)
theorem ace {L:List Pt} (a:(L.map (·.k)).Nodup) (c:p∈L):(n8 p.k L).length+1=L.length:=by
 obtain ⟨i,f,e,d⟩:=anv a c;have b:=(zaa.1 e).1;rw [<- d,zbt];simp [b];omega
theorem StL.del {L:List Pt} {es:List MapEntry} {c:Nat} {ns:List (List Ky)} {ce:Nat->List MapEntry} {cc:Nat->Nat} (h:StL L es c ns ce cc) (a:p∈L) :
 StL (n8 p.k L) (aq es (.int .i64 p.k)) c (nsD ns p 13) (abh L p ce cc) (aik p ce cc):=by
 have g:=ace h.pm.nd a;have b:=h.tk;rw [show 13*L.length=13*(n8 p.k L).length+13 by omega] at b;refine ⟨λ q e=>h.ok q (zar.1 e).1,by have:=h.le; omega,(amy h.pm a).2.2.2,?_,λ r d=>a5o h.pm.nd a (h.cm r d)⟩;have:=am5 a h.ok h.pm.nd b (by have:=h.le; omega) 13 (zaf _);refine this.congr λ x=>?_;constructor
 ·rintro (h | ⟨s,f,i,_⟩)
  ·exact h
  omega
 exact .inl
section
variable {L:List Pt} {es:List MapEntry} {c:Nat} {ns:List (List Ky)} {ce:Nat->List MapEntry} {cc:Nat->Nat}
theorem a3t (h:StL L es c ns ce cc) (k:Int) (b:∀q∈L,q.k≠k):a9 P0 12 [.ptr 1000000 0 0,int .i64 k] (d9 es c ns ce cc) (bl false) (d9 es c ns ce cc):=by
 obtain ⟨a,e,d,f⟩:=axx h.pm b;refine rm rfl (by simp [d9]) ?_
 push_cast [ny,d9,zah,zai,a,e,d]
 repeat refine sI ?_
theorem a0t (h:StL L es c ns ce cc) (f:p∈L):a9 P0 12 [.ptr 1000000 0 0,int .i64 p.k] (d9 es c ns ce cc) (bl true) (d9 (aq es (.int .i64 p.k)) c (nsD ns p 13) (abh L p ce cc) (aik p ce cc)):=by
 obtain ⟨G,I,J,O⟩:=amy h.pm f;have b:=h.ok p f;have Q:=ace h.pm.nd f;have z:=h.le;have E:=h.tk;rw [show 13*L.length=13*(n8 p.k L).length+13 by omega] at E;have D:=am5 f h.ok h.pm.nd E (by omega);refine rm rfl (by simp [d9]) ?_;simp only [ny,d9,G,I,J,Pt.rv,push_cast,↓reduceIte,reduceCtorEq,zB,zE,zA,zS,zL,zD,zM]
 repeat refine sI ?_
 refine c7 [(25,false),(0,false),(5,false),(1,false)] (λ vs pos o=>∃r:Nat,r<=13/\vs=[int .i64 r,.ptr 1000000 0 0,.ptr 2000000 0 0,int .i64 p.k]/\pos=d9 (aq es (.int .i64 p.k)) c (nsD ns p r) (stg (abh L p ce cc) ce r) (stg (aik p ce cc) cc r)/\o=[.box [int .i64 p.k,int .i64 p.x,int .i64 p.y,int .i64 p.v]])
  (λ vs _ _=>match vs with | .r (.v (.int _ j))::_=>(13-j).toNat | _=>0) rfl ?_ ?_
 ·simp only [aqy,d9,push_cast,↓reduceIte,reduceCtorEq,zB,zE,zA,zS,zL,zD,zM];refine ⟨0,by omega,?_⟩;simp only [aqy,nsD,d9];exact ⟨rfl,trivial⟩
 rintro vs pos o ⟨r,N,rfl,a,rfl⟩;by_cases t:r=13
 ·subst t;have m:d9 (aq es (.int .i64 p.k)) c (nsD ns p 13) (stg (abh L p ce cc) ce 13) (stg (aik p ce cc) cc 13)=d9 (aq es (.int .i64 p.k)) c (nsD ns p 13) (abh L p ce cc) (aik p ce cc):=rfl;rw [m] at a;subst a;simp only [d9,show decide ((13:Int)<13)=false from rfl,push_cast,↓reduceIte,reduceCtorEq,zB,zE,zA,zS,zL,zD,zM]
 have n:r<13:=by omega
 have d:=h.cm r n;obtain ⟨s,e⟩:=ajy d (p.w r);obtain ⟨F,_⟩:=ahp h.pm.nd f r;have P:=(Pt.w_res b n).2.2;have K:cnt L r (p.w r)<=2000:=Nat.le_trans List.countP_le_length z;have i:=a5n (D r (by omega)).g (by rw [(D r (by omega)).l]; omega) (p.ky r);by_cases u:cnt L r (p.w r)=1
 ·obtain ⟨B,q,C⟩:=aqj d (p.w r) F;rw [u] at e;have A:abh L p ce cc r=aq (ao (ce r) (cc r) (.int .u64 (p.w r)) (.int .i64 0)) (.int .u64 (p.w r)):=by unfold abh; rw [if_pos u]
  rcases (show r=0\/r=1\/r=2\/r=3\/r=4\/r=5\/r=6\/r=7\/r=8\/r=9\/r=10\/r=11\/r=12 by omega) with rfl | rfl | rfl | rfl | rfl | rfl | rfl | rfl | rfl | rfl | rfl | rfl | rfl<;>(
   simp only [d9,stg,zbg,↓reduceIte] at a;subst a;simp only [Int.reduceLT,push_cast,↓reduceIte,reduceCtorEq,zB,zE,zA,zS,zL,zD,zM];refine b7 (as':=[p.av,int .i64 _]) rfl ?_;refine a7 (agj p _ b (by decide)) rfl trivial ?_;simp only [zae,uw,push_cast,↓reduceIte,reduceCtorEq,zB,zE,zA,zS,zL,zD,zM]
   repeat refine sI ?_
   refine n9 (as':=[.ptr 1000000 0 0,(p.ky _).av]) rfl ?_;refine g9 i rfl ⟨agm _ _,trivial⟩ ?_;simp only [s,e,push_cast,↓reduceIte,reduceCtorEq,zB,zE,zA,zS,zL,zD,zM];refine ⟨by kernel_rfl,?_⟩;simp only [s,e,B,q,zae,show IntKind.i64.wrap ((1:Int)-1)=0 from by decide,show ((0:Int) == 0)=true from rfl,push_cast,↓reduceIte,reduceCtorEq,zB,zE,zA,zS,zL,zD,zM]
   repeat refine sI ?_
   refine ⟨⟨_+1,by decide,rfl,?_⟩,by decide⟩;simp only [d9,stg,zbg,Nat.reduceAdd,↓reduceIte,A]
   rfl)
 have M:0<cnt L r (p.w r)-1:=by omega
 have A:abh L p ce cc r=ao (ce r) (cc r) (.int .u64 (p.w r)) (.int .i64 ((cnt L r (p.w r)-1:Nat):Int)):=by unfold abh; rw [if_neg u]
 obtain ⟨B,q⟩:=ajy (an7 d (p.w r) _ M) (p.w r);rw [avb] at q;have C:(((cnt L r (p.w r)-1:Nat):Int) == 0)=false:=by simp; omega
 have H:IntKind.i64.wrap ((cnt L r (p.w r):Int)-1)=((cnt L r (p.w r)-1:Nat):Int):=by rw [a6 (by omega)]; omega
 rcases (show r=0\/r=1\/r=2\/r=3\/r=4\/r=5\/r=6\/r=7\/r=8\/r=9\/r=10\/r=11\/r=12 by omega) with rfl | rfl | rfl | rfl | rfl | rfl | rfl | rfl | rfl | rfl | rfl | rfl | rfl<;>(
  simp only [d9,stg,zbg,↓reduceIte] at a;subst a;simp only [Int.reduceLT,push_cast,↓reduceIte,reduceCtorEq,zB,zE,zA,zS,zL,zD,zM];refine b7 (as':=[p.av,int .i64 _]) rfl ?_;refine a7 (agj p _ b (by decide)) rfl trivial ?_;simp only [zae,uw,push_cast,↓reduceIte,reduceCtorEq,zB,zE,zA,zS,zL,zD,zM]
  repeat refine sI ?_
  refine n9 (as':=[.ptr 1000000 0 0,(p.ky _).av]) rfl ?_;refine g9 i rfl ⟨agm _ _,trivial⟩ ?_;simp only [s,e,push_cast,↓reduceIte,reduceCtorEq,zB,zE,zA,zS,zL,zD,zM];refine ⟨by kernel_rfl,?_⟩;simp only [s,e,B,q,C,H,zae,push_cast,↓reduceIte,reduceCtorEq,zB,zE,zA,zS,zL,zD,zM]
  repeat refine sI ?_
  refine ⟨⟨_+1,by decide,rfl,?_⟩,by decide⟩;simp only [d9,stg,zbg,Nat.reduceAdd,↓reduceIte,A]
  rfl)
end

def ahb:Mk P0 f44:={ x:=_ }
def afc:Mk P0 f45:={ x:=_ }
def alb:Mk P0 f25:={ x:=_ }
theorem atv (n:Int):a9 P0 44 [int .i64 n] [] (bl (decide (0<=n/\n<1073741824))) []:=by
 refine ahb.t func44 ?_
 push_cast [ahb,zai]
 by_cases h:0<=n<;>by_cases a:n<1073741824<;>simp [h,a,push_cast,↓reduceIte,reduceCtorEq,zB,zE,zA,zS,zL,zD,zM]
theorem az3 (n:Int):a9 P0 45 [int .i64 n] [] (bl (decide (1<=n/\n<=2147483648))) []:=by
 refine afc.t func45 ?_
 push_cast [afc,zai]
 by_cases h:1<=n<;>by_cases a:n<=2147483648<;>simp [h,a,push_cast,↓reduceIte,reduceCtorEq,zB,zE,zA,zS,zL,zD,zM]
theorem ago (p:Pt):a9 P0 25 [p.av] [] (bl (decide p.ok)) []:=by
 refine alb.t func25 ?_
 push_cast [alb,Pt.av,Pt.rv,zai]
 refine a7 (az3 p.k) rfl trivial ?_
 push_cast
 by_cases h:1<=p.k/\p.k<=2147483648
 ·rw [decide_eq_true h]
  push_cast
  refine ⟨by kernel_rfl,?_⟩;refine a7 (atv p.x) rfl trivial ?_
  push_cast
  by_cases hx:0<=p.x/\p.x<1073741824
  ·rw [decide_eq_true hx]
   push_cast
   refine ⟨by kernel_rfl,?_⟩;refine a7 (atv p.y) rfl trivial ?_
   push_cast
   by_cases hy:0<=p.y/\p.y<1073741824
   ·rw [decide_eq_true hy];by_cases b:-2147483648<=p.v<;>by_cases c:p.v<=2147483647<;>simp [b,c,h,hx,hy,Pt.ok,inW,push_cast,↓reduceIte,reduceCtorEq,zB,zE,zA,zS,zL,zD,zM]
   rw [decide_eq_false hy,decide_eq_false (p:=p.ok) (λ a=>hy a.2.1.2)]
   push_cast
  rw [decide_eq_false hx,decide_eq_false (p:=p.ok) (λ a=>hx a.2.1.1)]
  push_cast
 rw [decide_eq_false h,decide_eq_false (p:=p.ok) (λ a=>h a.1)]
 push_cast

def il:Mk P0 f11:={ x:=_ }
theorem jp:ng 11 2 il:=fg func11
def ann (L:List Pt) (p:Pt) (ce:Nat->List MapEntry) (cc:Nat->Nat) (r:Nat):List MapEntry:=ao (ce r) (cc r) (.int .u64 (p.w r)) (.int .i64 ((cnt L r (p.w r):Int)+1))
def ano (p:Pt) (ce:Nat->List MapEntry) (cc:Nat->Nat) (r:Nat):Nat:=ah (ce r) (cc r) (.int .u64 (p.w r))
theorem StL.put {L:List Pt} {es:List MapEntry} {c:Nat} {ns:List (List Ky)} {ce:Nat->List MapEntry} {cc:Nat->Nat} (h:StL L es c ns ce cc) (e:p.ok) (d:∀q∈L,q.k≠p.k) (g:L.length<2000) :
 StL (L++[p]) (ao es c (.int .i64 p.k) p.val) (ah es c (.int .i64 p.k)) (nsP ns p 13) (ann L p ce cc) (ano p ce cc):=by
 refine ⟨λ q a=>?_,by simp; omega,(atn h.pm d).2,?_,λ r b=>?_⟩
 ·rcases zac.1 a with a | a
  ·exact h.ok q a
  rw [zcc.1 a]; exact e
 ·have:=aje e (λ q a=>⟨h.ok q a,d q a⟩) h.tk (by omega) 13 (zaf _);rw [zao,List.length_singleton,Nat.mul_add];refine this.congr λ x=>?_;unfold KL;constructor
  ·rintro (⟨q,a,r,b,rfl⟩ | ⟨s,f,rfl⟩)
   ·exact ⟨q,List.mem_append_left _ a,r,b,rfl⟩
   exact ⟨p,by simp,s,f,rfl⟩
  rintro ⟨q,a,r,b,rfl⟩;rcases zac.1 a with a | a
  ·exact .inl ⟨q,a,r,b,rfl⟩
  rw [zcc.1 a]; exact .inr ⟨r,b,rfl⟩
 rw [a0x];have:=an7 (h.cm r b) (p.w r) (cnt L r (p.w r)+1) (by omega);exact this
theorem az4 {L:List Pt} {ns:List (List Ky)} (a:p.ok) (b:∀q∈L,q.ok/\q.k≠p.k) (h:TK (KL L) n ns) (g:n<=50000) (c:r<13):(gx (nsP ns p r) (p.ky r)).2=true:=by
 have:=aje a b h g r (by omega);refine (this.put (by omega) ?_).2;rintro (⟨q,f,s,d,e⟩ | ⟨s,d,e⟩)
 ·exact (b q f).2 (Pt.ky_inj a (b q f).1 c d e).2.symm
 have:=(Pt.ky_inj a a c (by omega) e).1;omega
section
variable {L:List Pt} {es es1:List MapEntry} {c c1:Nat} {ns ns1:List (List Ky)} {ce ce1:Nat->List MapEntry} {cc cc1:Nat->Nat}
theorem avy {b:Bool} (h:StL L es1 c1 ns1 ce1 cc1) (f:p.ok) (B:∀q∈L,q.k≠p.k) (F:L.length<2000)
 (i:a9 P0 12 [.ptr 1000000 0 0,int .i64 p.k] (d9 es c ns ce cc) (bl b) (d9 es1 c1 ns1 ce1 cc1))
 (G:okK es (.int .i64 p.k)=true) (z:∃v,lkR es (.int .i64 p.k) (.agg [.v (.int .i64 0),.v (.int .i64 0),.v (.int .i64 0),.v (.int .i64 0)])=Pt.rv v) (t:lkB es (.int .i64 p.k)=true\/(lkB es (.int .i64 p.k)=false/\es.length<2000)) :
 a9 P0 11 [.ptr 1000000 0 0,p.av] (d9 es c ns ce cc) (bl true) (d9 (ao es1 c1 (.int .i64 p.k) p.val) (ah es1 c1 (.int .i64 p.k)) (nsP ns1 p 13) (ann L p ce1 cc1) (ano p ce1 cc1)):=by
 obtain ⟨H,_⟩:=atn h.pm B;have N:=aje f (λ q o=>⟨h.ok q o,B q o⟩) h.tk (by omega);obtain ⟨v,z⟩:=z;refine jp rfl (by simp [d9]) ?_
 push_cast [il,d9,Pt.av,Pt.rv,zah,zai,G,z]
 repeat refine sI ?_
 refine b7 (as':=[p.av]) rfl ?_;refine a7 (ago p) rfl trivial ?_;rw [decide_eq_true f]
 push_cast
 refine b9 (λ hc=>?_) (λ hc=>?_)
 ·exfalso;rcases t with t | ⟨t,Q⟩<;>simp [t] at hc;omega
 simp only [d9] at i
 push_cast
 refine a7 i rfl ⟨rfl,trivial,agm _ _,trivial,trivial,trivial,trivial,trivial,trivial,trivial,trivial,trivial,trivial,trivial,trivial,trivial,trivial⟩ ?_;have M:∀a b c d:Int,toV (.r (.agg [.v (.int .i64 a),.v (.int .i64 b),.v (.int .i64 c),.v (.int .i64 d)]))=some (Pt.val ⟨a,b,c,d⟩):=λ _ _ _ _=>rfl
 push_cast [H,M]
 repeat refine sI ?_
 refine c7 [(51,false),(0,false),(3,false),(7,false)] (λ vs pos s=>∃r:Nat,r<=13/\vs=[int .i64 r,.ptr 1000000 0 0,.ptr 2000000 0 0,.fn (.func 26) [.ptr 1000002 0 0] 1]/\pos=d9 (ao es1 c1 (.int .i64 p.k) p.val) (ah es1 c1 (.int .i64 p.k)) (nsP ns1 p r) (stg (ann L p ce1 cc1) ce1 r) (stg (ano p ce1 cc1) cc1 r)/\s=[.box [int .i64 p.k,int .i64 p.x,int .i64 p.y,int .i64 p.v]])
  (λ vs _ _=>match vs with | .r (.v (.int _ j))::_=>(13-j).toNat | _=>0) rfl ?_ ?_
 ·push_cast
  refine ⟨0,by omega,?_⟩;simp only [aqy,nsP,d9];exact ⟨rfl,rfl⟩
 rintro vs pos s ⟨r,P,rfl,e,rfl⟩;by_cases u:r=13
 ·subst u;have n:d9 (ao es1 c1 (.int .i64 p.k) p.val) (ah es1 c1 (.int .i64 p.k)) (nsP ns1 p 13) (stg (ann L p ce1 cc1) ce1 13) (stg (ano p ce1 cc1) cc1 13)=d9 (ao es1 c1 (.int .i64 p.k) p.val) (ah es1 c1 (.int .i64 p.k)) (nsP ns1 p 13) (ann L p ce1 cc1) (ano p ce1 cc1):=rfl;rw [n] at e;subst e
  push_cast [d9,show decide ((13:Int)<13)=false from rfl]
 have m:r<13:=by omega
 have A:=h.cm r m;obtain ⟨K,E⟩:=ajy A (p.w r);have R:=(Pt.w_res f m).2.2;have D:=N r (by omega);have O:(gx (nsP ns1 p r) (p.ky r)).2=true:=(az4 f (λ q o=>⟨h.ok q o,B q o⟩) h.tk (by omega) m)
 have J:cnt L r (p.w r)<=2000:=Nat.le_trans List.countP_le_length (by omega);have I:IntKind.i64.wrap ((cnt L r (p.w r):Int)+1)=(cnt L r (p.w r):Int)+1:=a6 (by omega);have C:=a4x D.g (by rw [D.l]; omega) (p.ky r)
 rcases (show r=0\/r=1\/r=2\/r=3\/r=4\/r=5\/r=6\/r=7\/r=8\/r=9\/r=10\/r=11\/r=12 by omega) with rfl | rfl | rfl | rfl | rfl | rfl | rfl | rfl | rfl | rfl | rfl | rfl | rfl<;>(
  simp only [d9,stg,zbg,↓reduceIte] at e;subst e
  push_cast [Int.reduceLT,decide_true]
  refine b7 (as':=[p.av,int .i64 _]) rfl ?_;refine a7 (agj p _ f (by decide)) rfl trivial ?_
  push_cast [zae,uw]
  repeat refine sI ?_
  refine b7 (as':=[.ptr 1000000 0 0,(p.ky _).av]) rfl ?_;refine a7 C rfl ⟨agm _ _,trivial⟩ ?_
  push_cast [K,E,I,zae]
  repeat refine sI ?_
  refine ⟨⟨_+1,by decide,rfl,?_⟩,by decide⟩;simp only [d9,stg,zbg,Nat.reduceAdd,↓reduceIte]
  rfl)
end

section
variable {L:List Pt} {es:List MapEntry} {c:Nat} {ns:List (List Ky)} {ce:Nat->List MapEntry} {cc:Nat->Nat}
theorem azs (a:¬p.ok) (d:okK es (.int .i64 p.k)=true) (b:∃v,lkR es (.int .i64 p.k) (.agg [.v (.int .i64 0),.v (.int .i64 0),.v (.int .i64 0),.v (.int .i64 0)])=Pt.rv v) :
 a9 P0 11 [.ptr 1000000 0 0,p.av] (d9 es c ns ce cc) (bl false) (d9 es c ns ce cc):=by
 obtain ⟨v,b⟩:=b;refine jp rfl (by simp [d9]) ?_
 push_cast [il,d9,Pt.av,Pt.rv,zah,zai,d,b]
 repeat refine sI ?_
 refine b7 (as':=[p.av]) rfl ?_;refine a7 (ago p) rfl trivial ?_;rw [decide_eq_false a]
 push_cast
theorem avx (a:p.ok) (d:okK es (.int .i64 p.k)=true) (b:∃v,lkR es (.int .i64 p.k) (.agg [.v (.int .i64 0),.v (.int .i64 0),.v (.int .i64 0),.v (.int .i64 0)])=Pt.rv v)
 (e:lkB es (.int .i64 p.k)=false) (f:2000<=es.length) :
 a9 P0 11 [.ptr 1000000 0 0,p.av] (d9 es c ns ce cc) (bl false) (d9 es c ns ce cc):=by
 obtain ⟨v,b⟩:=b;refine jp rfl (by simp [d9]) ?_
 push_cast [il,d9,Pt.av,Pt.rv,zah,zai,d,b]
 repeat refine sI ?_
 refine b7 (as':=[p.av]) rfl ?_;refine a7 (ago p) rfl trivial ?_;rw [decide_eq_true a]
 push_cast
 refine b9 (λ hc=>?_) (λ hc=>?_)
 ·push_cast
 exfalso;simp [e] at hc;omega
end
def SS (L:List Pt) (os:List Ob):Prop:=∃es c ns ce cc,StL L es c ns ce cc/\os=d9 es c ns ce cc
def has (L:List Pt) (k:Int):Bool:=L.any λ q=>q.k == k
def aag (L:List Pt) (p:Pt):List Pt:=n8 p.k L++[p]
def dj (L:List Pt) (p:Pt):Bool:=decide p.ok&&(has L p.k||decide (L.length<2000))
theorem agz {L:List Pt} {k:Int}:has L k=true↔∃p∈L,p.k=k:=by simp [has]
theorem aku {L:List Pt} {k:Int}:has L k=false↔∀p∈L,p.k≠k:=by simp [has]
theorem aiu {L:List Pt} {k:Int} (h:has L k=false):n8 k L=L:=by
 rw [aku] at h;unfold n8;rw [zca];intro q a;simpa using h q a
theorem aom {L:List Pt} {k:Int}:q∈n8 k L↔q∈L/\q.k≠k:=by simp [n8]
variable {os:List Ob}
theorem a3u {L:List Pt} (h:SS L os) (k:Int):∃a,SS (n8 k L) a/\a9 P0 12 [.ptr 1000000 0 0,int .i64 k] os (bl (has L k)) (a++[]):=by
 obtain ⟨es,c,ns,ce,cc,h,rfl⟩:=h;cases hk:has L k with
 | true=>
   obtain ⟨p,b,rfl⟩:=agz.1 hk;exact ⟨_,⟨_,_,_,_,_,h.del b,rfl⟩,by rw [zaq]; exact a0t h b⟩
 | false=>
   rw [aiu hk];exact ⟨_,⟨_,_,_,_,_,h,rfl⟩,by rw [zaq]; exact a3t h k (aku.1 hk)⟩
theorem a26 {L:List Pt} {es:List MapEntry} {c:Nat} (h:PM L es c) (k:Int):okK es (.int .i64 k)=true/\(∃v,lkR es (.int .i64 k) (.agg [.v (.int .i64 0),.v (.int .i64 0),.v (.int .i64 0),.v (.int .i64 0)])=Pt.rv v)/\lkB es (.int .i64 k)=has L k:=by
 cases hk:has L k with
 | true=>
   obtain ⟨p,e,rfl⟩:=agz.1 hk;obtain ⟨a,b,c,d⟩:=amy h e;exact ⟨a,⟨p,c _⟩,b⟩
 | false=>
   obtain ⟨a,b,c,d⟩:=axx h (aku.1 hk);exact ⟨a,⟨⟨0,0,0,0⟩,c _⟩,b⟩
theorem a5w {L:List Pt} (h:SS L os) (p:Pt):∃f,SS (if dj L p then aag L p else L) f/\a9 P0 11 [.ptr 1000000 0 0,p.av] os (bl (dj L p)) (f++[]):=by
 have j:=h;obtain ⟨es,c,ns,ce,cc,h,rfl⟩:=h;obtain ⟨g,l,m⟩:=a26 h.pm p.k;by_cases a:p.ok
 ·by_cases hc:has L p.k=true\/L.length<2000
  ·have b:dj L p=true:=by simp [dj,a,hc]
   rw [b,if_pos rfl];obtain ⟨s,⟨t,x,v,u,w,n,rfl⟩,r⟩:=a3u j p.k;rw [zaq] at r;have o:∀q∈n8 p.k L,q.k≠p.k:=λ q i=>(aom.1 i).2
   have d:(n8 p.k L).length<2000:=by
    cases hk:has L p.k with
    | true=>
      obtain ⟨q,i,e⟩:=agz.1 hk;have:=ace h.pm.nd i;rw [e] at this;have:=h.le;omega
    | false=>
      rw [aiu hk];simpa [hk] using hc
   refine ⟨_,⟨_,_,_,_,_,n.put a o d,rfl⟩,?_⟩;rw [zaq];refine avy n a o d r g l ?_;rw [m,amz h.pm];cases hk:has L p.k with
   | true=>exact .inl rfl
   | false=>exact .inr ⟨rfl,by simpa [hk] using hc⟩
  have b:dj L p=false:=by
   simp only [not_or] at hc;simp [dj,hc.1,hc.2]
  rw [b,if_neg (by simp)];simp only [not_or,Bool.not_eq_true] at hc;exact ⟨_,j,by rw [zaq]; exact avx a g l (m.trans hc.1) (by rw [amz h.pm]; omega)⟩
 have b:dj L p=false:=by simp [dj,a]
 rw [b,if_neg (by simp)];exact ⟨_,j,by rw [zaq]; exact azs a g l⟩
def SF (L:List Pt):Fam where
 S:=SS L
 N:=16
 n:=15
 pos:=by decide
 len:=by rintro os ⟨es,c,ns,ce,cc,h,rfl⟩; rfl
 flat:=by
  rintro os ⟨es,c,ns,ce,cc,h,rfl⟩ o a;simp only [d9,zab,List.not_mem_nil,or_false] at a;rcases a with rfl | rfl | rfl | rfl | rfl | rfl | rfl | rfl | rfl | rfl | rfl | rfl | rfl | rfl | rfl | rfl
  ·exact ⟨by simp [gu,ec,u7],rfl⟩
  all_goals exact ⟨trivial,rfl⟩
 shut:=by
  rintro os ⟨es,c,ns,ce,cc,h,rfl⟩ o a;simp only [d9,zab,List.not_mem_nil,or_false] at a;rcases a with rfl | rfl | rfl | rfl | rfl | rfl | rfl | rfl | rfl | rfl | rfl | rfl | rfl | rfl | rfl | rfl
  ·simp [imO,imL,imV,uz]
  all_goals rfl
 root:=by
  rintro os ⟨es,c,ns,ce,cc,h,rfl⟩;exact ⟨_,rfl,rfl⟩
def sT (L:List Pt):AbsT:=(SF L).T
theorem aq4 (L:List Pt) (p:Pt):a9 P0 11 [.ptr 1000000 0 0,p.av] [.abs (sT L)] (bl (dj L p)) [.abs (sT (if dj L p then aag L p else L))]:=
 acb (F:=SF L) (F':=SF (if dj L p then aag L p else L)) rfl (λ os h=>a5w h p) rfl (by simp) (by simp [u7,y8])
theorem ax6 (L:List Pt) (k:Int):a9 P0 12 [.ptr 1000000 0 0,int .i64 k] [.abs (sT L)] (bl (has L k)) [.abs (sT (n8 k L))]:=
 acb (F:=SF L) (F':=SF (n8 k L)) rfl (λ os h=>a3u h k) rfl (by simp) (by simp [u7,y8])

def ae7:Mk P0 f10:={ x:=_ }
def kg:Nat->List Ob
 | 0=>[.box [.mp 2000001 0,.ptr 2000002 0 0,.r (.v (.map none)),.r (.v (.map none)),.r (.v (.map none)),.r (.v (.map none)),.r (.v (.map none)),.r (.v (.map none)),.r (.v (.map none)),.r (.v (.map none)),.r (.v (.map none)),.r (.v (.map none)),.r (.v (.map none)),.r (.v (.map none)),.r (.v (.map none))],.map [] 0,.abs (tr [])]
 | 1=>[.box [.mp 2000001 0,.ptr 2000002 0 0,.mp 2000003 0,.r (.v (.map none)),.r (.v (.map none)),.r (.v (.map none)),.r (.v (.map none)),.r (.v (.map none)),.r (.v (.map none)),.r (.v (.map none)),.r (.v (.map none)),.r (.v (.map none)),.r (.v (.map none)),.r (.v (.map none)),.r (.v (.map none))],.map [] 0,.abs (tr []),.map [] 0]
 | 2=>[.box [.mp 2000001 0,.ptr 2000002 0 0,.mp 2000003 0,.mp 2000004 0,.r (.v (.map none)),.r (.v (.map none)),.r (.v (.map none)),.r (.v (.map none)),.r (.v (.map none)),.r (.v (.map none)),.r (.v (.map none)),.r (.v (.map none)),.r (.v (.map none)),.r (.v (.map none)),.r (.v (.map none))],.map [] 0,.abs (tr []),.map [] 0,.map [] 0]
 | 3=>[.box [.mp 2000001 0,.ptr 2000002 0 0,.mp 2000003 0,.mp 2000004 0,.mp 2000005 0,.r (.v (.map none)),.r (.v (.map none)),.r (.v (.map none)),.r (.v (.map none)),.r (.v (.map none)),.r (.v (.map none)),.r (.v (.map none)),.r (.v (.map none)),.r (.v (.map none)),.r (.v (.map none))],.map [] 0,.abs (tr []),.map [] 0,.map [] 0,.map [] 0]
 | 4=>[.box [.mp 2000001 0,.ptr 2000002 0 0,.mp 2000003 0,.mp 2000004 0,.mp 2000005 0,.mp 2000006 0,.r (.v (.map none)),.r (.v (.map none)),.r (.v (.map none)),.r (.v (.map none)),.r (.v (.map none)),.r (.v (.map none)),.r (.v (.map none)),.r (.v (.map none)),.r (.v (.map none))],.map [] 0,.abs (tr []),.map [] 0,.map [] 0,.map [] 0,.map [] 0]
 | 5=>[.box [.mp 2000001 0,.ptr 2000002 0 0,.mp 2000003 0,.mp 2000004 0,.mp 2000005 0,.mp 2000006 0,.mp 2000007 0,.r (.v (.map none)),.r (.v (.map none)),.r (.v (.map none)),.r (.v (.map none)),.r (.v (.map none)),.r (.v (.map none)),.r (.v (.map none)),.r (.v (.map none))],.map [] 0,.abs (tr []),.map [] 0,.map [] 0,.map [] 0,.map [] 0,.map [] 0]
 | 6=>[.box [.mp 2000001 0,.ptr 2000002 0 0,.mp 2000003 0,.mp 2000004 0,.mp 2000005 0,.mp 2000006 0,.mp 2000007 0,.mp 2000008 0,.r (.v (.map none)),.r (.v (.map none)),.r (.v (.map none)),.r (.v (.map none)),.r (.v (.map none)),.r (.v (.map none)),.r (.v (.map none))],.map [] 0,.abs (tr []),.map [] 0,.map [] 0,.map [] 0,.map [] 0,.map [] 0,.map [] 0]
 | 7=>[.box [.mp 2000001 0,.ptr 2000002 0 0,.mp 2000003 0,.mp 2000004 0,.mp 2000005 0,.mp 2000006 0,.mp 2000007 0,.mp 2000008 0,.mp 2000009 0,.r (.v (.map none)),.r (.v (.map none)),.r (.v (.map none)),.r (.v (.map none)),.r (.v (.map none)),.r (.v (.map none))],.map [] 0,.abs (tr []),.map [] 0,.map [] 0,.map [] 0,.map [] 0,.map [] 0,.map [] 0,.map [] 0]
 | 8=>[.box [.mp 2000001 0,.ptr 2000002 0 0,.mp 2000003 0,.mp 2000004 0,.mp 2000005 0,.mp 2000006 0,.mp 2000007 0,.mp 2000008 0,.mp 2000009 0,.mp 2000010 0,.r (.v (.map none)),.r (.v (.map none)),.r (.v (.map none)),.r (.v (.map none)),.r (.v (.map none))],.map [] 0,.abs (tr []),.map [] 0,.map [] 0,.map [] 0,.map [] 0,.map [] 0,.map [] 0,.map [] 0,.map [] 0]
 | 9=>[.box [.mp 2000001 0,.ptr 2000002 0 0,.mp 2000003 0,.mp 2000004 0,.mp 2000005 0,.mp 2000006 0,.mp 2000007 0,.mp 2000008 0,.mp 2000009 0,.mp 2000010 0,.mp 2000011 0,.r (.v (.map none)),.r (.v (.map none)),.r (.v (.map none)),.r (.v (.map none))],.map [] 0,.abs (tr []),.map [] 0,.map [] 0,.map [] 0,.map [] 0,.map [] 0,.map [] 0,.map [] 0,.map [] 0,.map [] 0]
 | 10=>[.box [.mp 2000001 0,.ptr 2000002 0 0,.mp 2000003 0,.mp 2000004 0,.mp 2000005 0,.mp 2000006 0,.mp 2000007 0,.mp 2000008 0,.mp 2000009 0,.mp 2000010 0,.mp 2000011 0,.mp 2000012 0,.r (.v (.map none)),.r (.v (.map none)),.r (.v (.map none))],.map [] 0,.abs (tr []),.map [] 0,.map [] 0,.map [] 0,.map [] 0,.map [] 0,.map [] 0,.map [] 0,.map [] 0,.map [] 0,.map [] 0]
 | 11=>[.box [.mp 2000001 0,.ptr 2000002 0 0,.mp 2000003 0,.mp 2000004 0,.mp 2000005 0,.mp 2000006 0,.mp 2000007 0,.mp 2000008 0,.mp 2000009 0,.mp 2000010 0,.mp 2000011 0,.mp 2000012 0,.mp 2000013 0,.r (.v (.map none)),.r (.v (.map none))],.map [] 0,.abs (tr []),.map [] 0,.map [] 0,.map [] 0,.map [] 0,.map [] 0,.map [] 0,.map [] 0,.map [] 0,.map [] 0,.map [] 0,.map [] 0]
 | 12=>[.box [.mp 2000001 0,.ptr 2000002 0 0,.mp 2000003 0,.mp 2000004 0,.mp 2000005 0,.mp 2000006 0,.mp 2000007 0,.mp 2000008 0,.mp 2000009 0,.mp 2000010 0,.mp 2000011 0,.mp 2000012 0,.mp 2000013 0,.mp 2000014 0,.r (.v (.map none))],.map [] 0,.abs (tr []),.map [] 0,.map [] 0,.map [] 0,.map [] 0,.map [] 0,.map [] 0,.map [] 0,.map [] 0,.map [] 0,.map [] 0,.map [] 0,.map [] 0]
 | _=>[.box [.mp 2000001 0,.ptr 2000002 0 0,.mp 2000003 0,.mp 2000004 0,.mp 2000005 0,.mp 2000006 0,.mp 2000007 0,.mp 2000008 0,.mp 2000009 0,.mp 2000010 0,.mp 2000011 0,.mp 2000012 0,.mp 2000013 0,.mp 2000014 0,.mp 2000015 0],.map [] 0,.abs (tr []),.map [] 0,.map [] 0,.map [] 0,.map [] 0,.map [] 0,.map [] 0,.map [] 0,.map [] 0,.map [] 0,.map [] 0,.map [] 0,.map [] 0,.map [] 0]
theorem a2o:PM [] [] 0:=⟨anh,by simp⟩
theorem a1y:TK (KL []) 0 []:=⟨⟨by simp,by simp [Srt]⟩,λ x=>by simp [KL],rfl⟩
theorem aym:StL [] [] 0 [] (λ _=>[]) (λ _=>0):=
 ⟨by simp,by simp,a2o,a1y,λ r a=>by
  have:cnt [] r=λ _=>0:=by funext w; simp [cnt]
  rw [this]; exact a32⟩
theorem a2z:a9 P0 10 [] [] (.ptr 1000000 0 0) (d9 [] 0 [] (λ _=>[]) (λ _=>0)):=by
 refine ae7.t func10 ?_
 push_cast [ae7,zai]
 repeat refine sI ?_
 refine a7 a44 rfl trivial ?_
 push_cast
 repeat refine sI ?_
 refine c7 [(7,false),(1,false)] (λ vs pos b=>∃r:Nat,r<=13/\vs=[int .i64 r,.ptr 2000000 0 0]/\pos=[]/\b=kg r)
  (λ vs _ _=>match vs with | .r (.v (.int _ j))::_=>(13-j).toNat | _=>0) rfl ?_ ?_
 ·push_cast
  refine ⟨0,by omega,?_⟩;simp only [kg];exact ⟨rfl,trivial⟩
 rintro vs pos b ⟨r,c,rfl,rfl,a⟩;rcases (show r=0\/r=1\/r=2\/r=3\/r=4\/r=5\/r=6\/r=7\/r=8\/r=9\/r=10\/r=11\/r=12\/r=13 by omega) with rfl | rfl | rfl | rfl | rfl | rfl | rfl | rfl | rfl | rfl | rfl | rfl | rfl | rfl
 ·simp only [kg] at a;subst a
  push_cast [show decide ((0:Int)<13)=true from rfl,zae]
  repeat refine sI ?_
  refine ⟨⟨0+1,by omega,rfl,rfl⟩,by decide⟩
 ·simp only [kg] at a;subst a
  push_cast [show decide ((1:Int)<13)=true from rfl,zae]
  repeat refine sI ?_
  refine ⟨⟨1+1,by omega,rfl,rfl⟩,by decide⟩
 ·simp only [kg] at a;subst a
  push_cast [show decide ((2:Int)<13)=true from rfl,zae]
  repeat refine sI ?_
  refine ⟨⟨2+1,by omega,rfl,rfl⟩,by decide⟩
 ·simp only [kg] at a;subst a
  push_cast [show decide ((3:Int)<13)=true from rfl,zae]
  repeat refine sI ?_
  refine ⟨⟨3+1,by omega,rfl,rfl⟩,by decide⟩
 ·simp only [kg] at a;subst a
  push_cast [show decide ((4:Int)<13)=true from rfl,zae]
  repeat refine sI ?_
  refine ⟨⟨4+1,by omega,rfl,rfl⟩,by decide⟩
 ·simp only [kg] at a;subst a
  push_cast [show decide ((5:Int)<13)=true from rfl,zae]
  repeat refine sI ?_
  refine ⟨⟨5+1,by omega,rfl,rfl⟩,by decide⟩
 ·simp only [kg] at a;subst a
  push_cast [show decide ((6:Int)<13)=true from rfl,zae]
  repeat refine sI ?_
  refine ⟨⟨6+1,by omega,rfl,rfl⟩,by decide⟩
 ·simp only [kg] at a;subst a
  push_cast [show decide ((7:Int)<13)=true from rfl,zae]
  repeat refine sI ?_
  refine ⟨⟨7+1,by omega,rfl,rfl⟩,by decide⟩
 ·simp only [kg] at a;subst a
  push_cast [show decide ((8:Int)<13)=true from rfl,zae]
  repeat refine sI ?_
  refine ⟨⟨8+1,by omega,rfl,rfl⟩,by decide⟩
 ·simp only [kg] at a;subst a
  push_cast [show decide ((9:Int)<13)=true from rfl,zae]
  repeat refine sI ?_
  refine ⟨⟨9+1,by omega,rfl,rfl⟩,by decide⟩
 ·simp only [kg] at a;subst a
  push_cast [show decide ((10:Int)<13)=true from rfl,zae]
  repeat refine sI ?_
  refine ⟨⟨10+1,by omega,rfl,rfl⟩,by decide⟩
 ·simp only [kg] at a;subst a
  push_cast [show decide ((11:Int)<13)=true from rfl,zae]
  repeat refine sI ?_
  refine ⟨⟨11+1,by omega,rfl,rfl⟩,by decide⟩
 ·simp only [kg] at a;subst a
  push_cast [show decide ((12:Int)<13)=true from rfl,zae]
  repeat refine sI ?_
  refine ⟨⟨12+1,by omega,rfl,rfl⟩,by decide⟩
 simp only [kg] at a;subst a
 push_cast [show decide ((13:Int)<13)=false from rfl]
 rfl
theorem ax0:a9 P0 10 [] [] (.ptr 1000000 0 0) [.abs (sT [])]:=
 az1 (F:=SF []) ⟨_,_,_,_,_,aym,rfl⟩ a2z

def tg:Mk P0 f31:={ x:=_ }
def ar:Mk P0 f54:={ x:=_ }
theorem al:ng 54 3 ar:=fg func54
def yg:Mk P0 f18:={ x:=_ }
theorem ab8:ng 18 1 yg:=fg func18
structure Sa where
 w:Int
 n:Int
 s:Int
 lo:Int
 hi:Int
deriving DecidableEq
def Sa.cs (s:Sa):List AV:=[int .u64 s.w,int .i64 s.n,int .i64 s.s,int .i64 s.lo,int .i64 s.hi]
def Sa.rv (s:Sa):RV:=.agg [.v (.int .u64 s.w),.v (.int .i64 s.n),.v (.int .i64 s.s),.v (.int .i64 s.lo),.v (.int .i64 s.hi)]
def Sa.add (s:Sa) (v:Int):Sa:=⟨s.w,IntKind.i64.wrap (s.n+1),IntKind.i64.wrap (s.s+v),if s.n=0 then v else s.lo,v⟩
theorem a04 (k:Ky) (s:Sa):a9 P0 31 [k.av,.ptr 1000000 0 0] [.box s.cs] (.tup []) [.box (s.add k.v).cs]:=by
 refine tg.t func31 ?_
 push_cast [tg,Ky.av,Ky.rv,Sa.cs,Sa.add,zah,zai]
 refine b9 (λ h=>?_) (λ h=>?_)
 ·have a:s.n=0:=by simpa using h
  push_cast [a,if_true]
 have a:s.n≠0:=by simpa using h
 push_cast [a,if_false]
theorem aye (k:Ky) (w:Int) (s:Sa):a9 P0 54 [k.av,.ptr 1000000 0 0,.ptr 1000001 0 0] [.box [int .u64 w],.box [.fn (.func 31) [.ptr 1000002 0 0] 0],.box s.cs] (bl (k.c == w)) [.box [int .u64 w],.box [.fn (.func 31) [.ptr 1000002 0 0] 0],.box (if k.c == w then s.add k.v else s).cs]:=by
 refine al rfl (by simp) ?_
 push_cast [ar,Ky.av,Ky.rv,Sa.cs,zah,zai]
 have a:(k.c != w)=!(k.c == w):=rfl;cases hk:(k.c == w) with
 | false=>
   push_cast [a,hk,Bool.not_false,zbf,if_false]
 | true=>
   push_cast [a,hk,Bool.not_true,if_true]
   refine ⟨by kernel_rfl,?_⟩;refine b7 (as':=[k.av,.ptr 1000000 0 0]) rfl ?_;refine a7 (a04 k s) rfl ⟨rfl,trivial⟩ ?_
   push_cast [Sa.cs]
theorem a11 {L:List Pt} (h:SS L os):a9 P0 18 [.ptr 1000000 0 0] os (int .i64 L.length) (os++[]):=by
 obtain ⟨es,c,ns,ce,cc,h,rfl⟩:=h;have a:=amz h.pm;rw [zaq];refine ab8 rfl (by simp [d9]) ?_
 push_cast [yg,d9,a,zah,zai]
theorem ax1 (L:List Pt):a9 P0 18 [.ptr 1000000 0 0] [.abs (sT L)] (int .i64 L.length) [.abs (sT L)]:=
 acb (F:=SF L) (F':=SF L) rfl (λ os h=>⟨os,h,a11 h⟩) rfl (by simp) (by simp [u7,y8])

def ep:Mk P0 f53:={ x:=_ }
theorem ei:ng 53 3 ep:=fg func53
def jy:Mk P0 f30:={ x:=_ }
def vx:Mk P0 f15:={ x:=_ }
theorem abn:ng 15 2 vx:=fg func15
def kz:RV:=.agg [.v (.int .u64 0),.v (.int .i64 0),.v (.int .i64 0)]
theorem ju {l:List Ky} {i:Nat} {k:Ky} (a:l[i]?=some k):(l.map Ky.rv).getD ((i:Int)).toNat (.agg [.v (.int .u64 0),.v (.int .i64 0),.v (.int .i64 0)])=.agg [.v (.int .u64 k.c),.v (.int .i64 k.v),.v (.int .i64 k.d)]:=by
 simp [List.getD,a,Ky.rv]
def tc (lo:Ky) (w:Int) (r:List Ky):List Ky:=(r.filter λ k=>!kl k lo).takeWhile λ k=>k.c == w
variable {lo:Ky}
theorem ao5 {k:Ky} {w:Int} {r:List Ky} (h:kl k lo=true):tc lo w (k::r)=tc lo w r:=by simp [tc,h]
theorem ao3 {k:Ky} {w:Int} {r:List Ky} (h:kl k lo=false) (a:(k.c == w)=true):tc lo w (k::r)=k::tc lo w r:=by simp [tc,h,a]
theorem ao4 {k:Ky} {w:Int} {r:List Ky} (h:kl k lo=false) (a:(k.c == w)=false):tc lo w (k::r)=[]:=by simp [tc,h,a]
def xz (s:Sa) (l:List Ky):Sa:=l.foldl (λ s k=>s.add k.v) s
def ccO (w:Int) (s:Sa):List Ob:=[.box [int .u64 w],.box [.fn (.func 31) [.ptr 1000002 0 0] 0],.box s.cs]
def ccF:AV:=.fn (.func 54) [.ptr 1000000 0 0,.ptr 1000001 0 0] 0
theorem a0l (ns:List (List Ky)) (n:Int) (lo:Ky) (r:Nat) (h:Nod ns lo r) (C:ns≠[]) (I:ns.flatten.length<=100000) (w:Int) (s:Sa) :
 a9 P0 53 [.rp (l4 ns n),lo.av,ccF] (ccO w s) (.tup []) (ccO w (xz s (tc lo w (ns.drop (r-1)).flatten))):=by
 refine ei rfl (by simp [ccO]) ?_;have o:((ns.length:Int) == 0)=false:=by simp [C]
 have p:zl P0 54=true:=rfl
 push_cast [ep,ccO,ccF,Sa.cs,l4,Ky.av,Ky.rv,Ky.cs,kz,zah,zai,zaj,o]
 refine a7 (am7 ns n lo r h) rfl trivial ?_
 push_cast [zaj]
 generalize B:xz s (tc lo w (ns.drop (r-1)).flatten)=R
 refine c7 [(0,false),(2,false),(4,false),(6,false)] (λ vs pos d=>∃(a:Nat) (s':Sa),a<=ns.length/\R=xz s' (tc lo w (ns.drop a).flatten) /\
  vs=[.rp (l4 ns n),ccF,.ptr 2000000 0 0,int .i64 a]/\pos=ccO w s'/\d=[.box lo.cs])
  (λ vs _ _=>match vs with | [_,_,_,.r (.v (.int _ a))]=>(ns.length-a).toNat | _=>0) rfl ?_ ?_
 ·push_cast [l4,ccO,ccF,Ky.cs,Sa.cs,kz]
  have:=h.le;exact ⟨r-1,s,by omega,B.symm,by simp⟩
 rintro vs pos d ⟨a,E,G,i,rfl,rfl,rfl⟩
 push_cast [l4,ccO,ccF,Sa.cs,Ky.cs,zaj]
 refine b9 (λ u=>?_) (λ u=>?_)
 ·have e:a<ns.length:=by simpa using u
  obtain ⟨l,t⟩:∃l,ns[a]?=some l:=⟨ns[a],by simp [e]⟩
  have q:=(h.ne a l t).2
  have F:ns.drop a=l::ns.drop (a+1):=by
   rw [zbc e,(zaa.1 t).2]
  rw [F,zbp] at i;have D:(ns.map n7).getD ((a:Int)).toNat (.sl 3 [])=.sl 3 (l.map Ky.rv):=by simp [List.getD,t,n7]
  have A:IntKind.i64.wrap ((a:Int)+1)=(a:Int)+1:=a6 ⟨by omega,by have:=h.len; simp only [maxLen] at this; omega⟩
  push_cast [l4,zaj,D]
  refine And.intro ⟨by omega,by omega⟩ ?_
  refine c7 [(0,false),(2,false),(4,false),(6,false),(33,false),(34,false),(35,false)] (λ vs pos d=>∃(j:Nat) (s':Sa),j<=l.length/\R=xz s' (tc lo w (l.drop j++(ns.drop (a+1)).flatten)) /\
   vs=[.rp (l4 ns n),ccF,.ptr 2000000 0 0,int .i64 a,.r (n7 l),int .i64 l.length,int .i64 j]/\pos=ccO w s'/\d=[.box lo.cs])
   (λ vs _ _=>match vs with | [_,_,_,_,_,_,.r (.v (.int _ a))]=>(l.length-a).toNat | _=>0) rfl ?_ ?_
  ·push_cast [l4,n7,ccO,ccF,Ky.cs,Sa.cs]
   exact ⟨0,E,by omega,i,by simp⟩
  rintro vs pos d ⟨j,m,H,b,rfl,rfl,rfl⟩
  push_cast [l4,n7,ccO,ccF,Ky.cs,Sa.cs,zaj]
  refine b9 (λ x=>?_) (λ x=>?_)
  ·have f:j<l.length:=by simpa using x
   have g:IntKind.i64.wrap ((j:Int)+1)=(j:Int)+1:=a6 ⟨by omega,by simp only [maxLen] at q; omega⟩;obtain ⟨k,z⟩:∃k,l[j]?=some k:=⟨l[j],by simp [f]⟩
   have y:l.drop j=k::l.drop (j+1):=by
    rw [zbc f,(zaa.1 z).2]
   rw [y,zas] at b
   push_cast [l4,n7,zaj,ju z]
   refine And.intro ⟨by omega,by omega⟩ (a7 (aba k lo) rfl trivial ?_);rcases hkl:kl k lo with _ | _
   ·push_cast [l4,Ky.cs,Sa.cs,n7,zaj,ju z,p,Bool.not_false]
    refine b7 (as':=[k.av,.ptr 1000000 0 0,.ptr 1000001 0 0]) rfl ?_;refine a7 (aye k w m) rfl ⟨rfl,rfl,rfl,trivial⟩ ?_;rcases hkw:(k.c == w) with _ | _
    ·rw [ao4 hkl hkw] at b
     push_cast [l4,Ky.cs,Sa.cs,n7,kz,zaj,zbf,if_false]
     rw [b]
     rfl
    rw [ao3 hkl hkw] at b
    push_cast [l4,Ky.cs,Sa.cs,n7,kz,zaj,g,if_true]
    exact ⟨⟨j+1,m.add k.v,by omega,b,by simp⟩,by omega⟩
   rw [ao5 hkl] at b
   push_cast [l4,Ky.cs,Sa.cs,n7,zaj,Bool.not_true,g]
   exact ⟨⟨j+1,m,by omega,b,by simp⟩,by omega⟩
  have f:¬j<l.length:=by simpa using x
  rw [zbn (by omega),zam] at b
  push_cast [l4,n7,zaj,A]
  exact ⟨⟨a+1,m,by omega,b,by simp⟩,by omega⟩
 have e:¬a<ns.length:=by simpa using u
 rw [zbn (by omega)] at i
 push_cast [l4,zaj]
 rw [i]
 rfl

theorem aug {ns:List (List Ky)} (h:Good ns) (c:ns.flatten.length<=100000) (n:Int) (lo:Ky) (w:Int) (s:Sa) :
 a9 P0 53 [.rp (l4 ns n),lo.av,ccF] (ccO w s) (.tup []) (ccO w (xz s (tc lo w ns.flatten))):=by
 by_cases b:ns=[]
 ·subst b;refine ei rfl (by simp [ccO]) ?_
  push_cast [ep,ccO,ccF,Sa.cs,l4,Ky.av,Ky.rv,Ky.cs,kz,zai,zah,List.map_nil]
  rfl
 have:=a0l ns n lo _ (afk h (by omega) _) b c w s;obtain ⟨i,q,l,a⟩:=spt h (by omega) lo b;rw [a.nx] at this
 have d:ns.drop i=l::ns.drop (i+1):=by
  rw [zbc a.lt,(zaa.1 a.at_).2]
 have e:tc lo w ns.flatten=tc lo w (ns.drop i).flatten:=by
  rw [a.all,d,zbp];unfold tc
  conv=>lhs; rw [List.filter_append]
  have:List.filter (λ k=>!kl k lo) (List.take i ns).flatten=[]:=by
   rw [List.filter_eq_nil_iff];intro x hx;simp [a.ahead x hx]
  rw [this,zam]
 rw [e];exact this
def arw:AV:=.fn (.func 54) [.ptr 1000001 0 0,.ptr 1000002 0 0] 0
def arv (w:Int) (s:Sa):List Ob:=[.box [int .u64 w],.box [.fn (.func 31) [.ptr 1000003 0 0] 0],.box s.cs]
theorem a0m {ns:List (List Ky)} (h:Good ns) (a:ns.flatten.length<=100000) (lo:Ky) (w:Int) (s:Sa) :
 a9 P0 53 [.ptr 1000000 0 0,lo.av,arw] (.abs (tr ns)::arv w s) (.tup []) (.abs (tr ns)::arv w (xz s (tc lo w ns.flatten))):=
 axj (T:=tr ns) (po:=ccO w s) (aug h a ns.flatten.length lo w s) rfl rfl rfl rfl
  (by simp [arv,gu,Sa.cs,ec,u7,y8]) (by simp [ccO,gu,Sa.cs,ec,u7,y8]) (by simp [u7,ec])
theorem ayd {ns:List (List Ky)} (h:Good ns) (a:ns.flatten.length<=100000) (w:Int) (s:Sa) :
 a9 P0 30 [.ptr 1000000 0 0,int .u64 w,.fn (.func 31) [.ptr 1000001 0 0] 0] [.abs (tr ns),.box s.cs] (.tup []) [.abs (tr ns),.box (xz s (tc ⟨w,-9223372036854775808,-9223372036854775808⟩ w ns.flatten)).cs]:=by
 refine jy.t func30 ?_
 push_cast [jy,Sa.cs,zah,zai]
 refine ⟨by kernel_rfl,?_⟩;refine b7 (as':=[.ptr 1000000 0 0,Ky.av ⟨w,-9223372036854775808,-9223372036854775808⟩,arw]) rfl ?_;refine a7 (a0m h a _ w s) rfl ⟨rfl,rfl,rfl,rfl,trivial⟩ ?_
 push_cast [arv,Sa.cs]

def aef (s:Sa):AV:=if s.n=0 then .tup [.r (Sa.rv ⟨0,0,0,0,0⟩),bl false] else .tup [.r s.rv,bl true]
section
variable {L:List Pt} {es:List MapEntry} {c:Nat} {ns:List (List Ky)} {ce:Nat->List MapEntry} {cc:Nat->Nat}
def ahz (ns:List (List Ky)) (w:Int):Sa:=xz ⟨w,0,0,0,0⟩ (tc ⟨w,-9223372036854775808,-9223372036854775808⟩ w ns.flatten)
theorem aql (h:StL L es c ns ce cc) (w:Int):a9 P0 15 [.ptr 1000000 0 0,int .u64 w] (d9 es c ns ce cc) (aef (ahz ns w)) (d9 es c ns ce cc):=by
 have d:=ayd h.tk.g (by rw [h.tk.l]; have:=h.le; omega) w ⟨w,0,0,0,0⟩;refine abn rfl (by simp [d9]) ?_
 push_cast [vx,d9,zah,zai]
 repeat refine sI ?_
 refine a7 d rfl ⟨rfl,rfl,trivial⟩ ?_;unfold ahz;generalize xz ⟨w,0,0,0,0⟩ (tc ⟨w,-9223372036854775808,-9223372036854775808⟩ w ns.flatten)=q
 push_cast [Sa.cs]
 refine b9 (λ b=>?_) (λ b=>?_)
 ·have a:q.n=0:=by simpa using b
  push_cast [aef,a,if_true,Sa.rv]
 have a:q.n≠0:=by simpa using b
 push_cast [aef,a,if_false,Sa.rv]
end

def inC (w:Nat) (p:Pt):Bool:=(List.range 13).any λ r=>p.w r == w
def mem (L:List Pt) (w:Nat):List Pt:=L.filter (inC w)
def ef (M:List Pt):Int:=(M.map (·.v)).sum
def loV:List Pt->Int
 | []=>0
 | p::l=>l.foldl (λ a q=>min a q.v) p.v
def hiV:List Pt->Int
 | []=>0
 | p::l=>l.foldl (λ a q=>max a q.v) p.v
theorem qi:inC w p=true↔∃r,r<13/\p.w r=w:=by simp [inC]
theorem anb:∀(l:List Pt) (a:Int),(l.foldl (λ a q=>min a q.v) a<=a/\∀q∈l,l.foldl (λ a q=>min a q.v) a<=q.v)/\(l.foldl (λ a q=>min a q.v) a=a\/∃q∈l,l.foldl (λ a q=>min a q.v) a=q.v)
 | [],a=>by simp
 | p::l,a=>by
   obtain ⟨⟨f,d⟩,b⟩:=anb l (min a p.v);simp only [List.foldl_cons];refine ⟨⟨by omega,λ q c=>?_⟩,?_⟩
   ·rcases zab.1 c with rfl | c
    ·omega
    exact d q c
   rcases b with b | ⟨q,c,b⟩
   ·rcases (show min a p.v=a\/min a p.v=p.v by omega) with e | e
    ·exact .inl (b.trans e)
    exact .inr ⟨p,by simp,b.trans e⟩
   exact .inr ⟨q,by simp [c],b⟩
theorem anf:∀(l:List Pt) (a:Int),(a<=l.foldl (λ a q=>max a q.v) a/\∀q∈l,q.v<=l.foldl (λ a q=>max a q.v) a)/\(l.foldl (λ a q=>max a q.v) a=a\/∃q∈l,l.foldl (λ a q=>max a q.v) a=q.v)
 | [],a=>by simp
 | p::l,a=>by
   obtain ⟨⟨f,d⟩,b⟩:=anf l (max a p.v);simp only [List.foldl_cons];refine ⟨⟨by omega,λ q c=>?_⟩,?_⟩
   ·rcases zab.1 c with rfl | c
    ·omega
    exact d q c
   rcases b with b | ⟨q,c,b⟩
   ·rcases (show max a p.v=a\/max a p.v=p.v by omega) with e | e
    ·exact .inl (b.trans e)
    exact .inr ⟨p,by simp,b.trans e⟩
   exact .inr ⟨q,by simp [c],b⟩
variable {M:List Pt}
theorem ajk (h:M≠[]):(∃q∈M,q.v=loV M)/\∀q∈M,loV M<=q.v:=by
 rcases M with _ | ⟨p,l⟩
 ·exact absurd rfl h
 obtain ⟨⟨d,c⟩,a⟩:=anb l p.v;refine ⟨?_,λ q b=>?_⟩
 ·rcases a with a | ⟨q,b,a⟩
  ·exact ⟨p,by simp,a.symm⟩
  exact ⟨q,by simp [b],a.symm⟩
 rcases zab.1 b with rfl | b
 ·exact d
 exact c q b
theorem ajm (h:M≠[]):(∃q∈M,q.v=hiV M)/\∀q∈M,q.v<=hiV M:=by
 rcases M with _ | ⟨p,l⟩
 ·exact absurd rfl h
 obtain ⟨⟨d,c⟩,a⟩:=anf l p.v;refine ⟨?_,λ q b=>?_⟩
 ·rcases a with a | ⟨q,b,a⟩
  ·exact ⟨p,by simp,a.symm⟩
  exact ⟨q,by simp [b],a.symm⟩
 rcases zab.1 b with rfl | b
 ·exact d
 exact c q b
theorem yn:kl a b=true↔a.c<b.c\/(a.c=b.c/\(a.v<b.v\/(a.v=b.v/\a.d<b.d))):=by
 unfold kl;split
 ·rw [decide_eq_true_iff]; omega
 split
 ·rw [decide_eq_true_iff]; omega
 rw [decide_eq_true_iff]; omega
theorem ad3:kl a b=false↔¬(a.c<b.c\/(a.c=b.c/\(a.v<b.v\/(a.v=b.v/\a.d<b.d)))):=by
 rw [<- yn]; simp
theorem a1v {w:Int}:∀{M:List Ky},Srt M->(∀k∈M,w<=k.c)->M.takeWhile (λ k=>k.c == w)=M.filter λ k=>k.c == w
 | [],_,_=>rfl
 | x::M,h,hw=>by
   have a:=zby.1 h;rw [List.takeWhile_cons,zbq];rcases hx:(x.c == w) with _ | _
   ·simp only [zbf,if_false];rw [eq_comm,List.filter_eq_nil_iff];intro y hy hc;have:=yn.1 (a.1 y hy);have b:=hw x (by simp);simp at hx hc;omega
   simp only [if_true];rw [a1v a.2 λ k d=>hw k (by simp [d])]
theorem axs {K:List Ky} (h:Srt K) (w:Int) (b:∀k∈K,-9223372036854775808<=k.v/\-9223372036854775808<=k.d):tc ⟨w,-9223372036854775808,-9223372036854775808⟩ w K=K.filter λ k=>k.c == w:=by
 unfold tc;rw [a1v (h.sublist zcb),List.filter_filter]
 ·apply List.filter_congr;intro k a;have:=b k a;rcases hc:(k.c == w) with _ | _
  ·rfl
  simp at hc;rw [Bool.true_and,Bool.not_eq_true',ad3];simp only;omega
 intro k a;obtain ⟨f,e⟩:=zar.1 a;have:=b k f;rw [Bool.not_eq_true',ad3] at e;simp only at e;omega
def ab7 (F:List Ky):Int:=(F.map (·.v)).sum
theorem aqq:∀(F:List Ky) (s:Sa),0<=s.n->s.n+F.length<=100000->-2147483648*s.n<=s.s->s.s<=2147483648*s.n->(∀k∈F,-2147483648<=k.v/\k.v<=2147483648) ->
 xz s F=⟨s.w,s.n+F.length,s.s+ab7 F,if s.n=0 then ((F.head?).map (·.v)).getD s.lo else s.lo,((F.getLast?).map (·.v)).getD s.hi⟩
 | [],s,_,_,_,_,_=>by simp [xz,ab7]
 | k::F,s,h1,h2,h3,h4,h5=>by
   have f:=h5 k (by simp);simp only [zah] at h2;have a:IntKind.i64.wrap (s.n+1)=s.n+1:=a6 (by omega);have b:IntKind.i64.wrap (s.s+k.v)=s.s+k.v:=a6 (by omega);have c:=aqq F (s.add k.v) (by simp only [Sa.add,a]; omega) (by simp only [Sa.add,a]; omega) (by simp only [Sa.add,a,b]; omega) (by simp only [Sa.add,a,b]; omega) λ q d=>h5 q (by simp [d]);have e:xz s (k::F)=xz (s.add k.v) F:=rfl;rw [e,c];simp only [Sa.add,a,b,Sa.mk.injEq,zah,ab7,zau,List.sum_cons,List.head?_cons,Option.map_some,Option.getD_some,true_and];refine ⟨by omega,by omega,?_,?_⟩
   ·rw [if_neg (by omega)]
   rw [List.getLast?_cons];cases hF:F.getLast? <;> simp
theorem asi {F G:List Ky} (h:F.Perm G):ab7 F=ab7 G:=by
 induction h with
 | nil=>rfl
 | cons x _ ih=>simp only [ab7,zau,List.sum_cons] at ih |-; omega
 | swap x y l=>simp only [ab7,zau,List.sum_cons]; omega
 | trans _ _ h1 h2=>exact h1.trans h2
def fm (L:List Pt) (w:Nat):Sa:=if mem L w=[] then ⟨w,0,0,0,0⟩ else ⟨w,(mem L w).length,ef (mem L w),loV (mem L w),hiV (mem L w)⟩
theorem ahf {w:Int} (h:(M.map (·.k)).Nodup):(M.map λ p=>(⟨w,p.v,p.k⟩:Ky)).Nodup:=by
 have:(M.map (·.k))=(M.map λ p=>(⟨w,p.v,p.k⟩:Ky)).map (·.d):=by simp
 rw [this] at h;exact (List.pairwise_map.1 h).imp λ {a b} c e=>c (by rw [e])
theorem ao9 {L:List Pt} {es:List MapEntry} {c:Nat} {ns:List (List Ky)} {ce:Nat->List MapEntry} {cc:Nat->Nat} (h:StL L es c ns ce cc) (w:Nat):ahz ns w=fm L w:=by
 have hK:∀k∈ns.flatten,∃p∈L,∃r,r<13/\k=p.ky r:=λ k f=>(h.tk.m k).1 f
 have T:∀k∈ns.flatten,-2147483648<=k.v/\k.v<=2147483647/\1<=k.d:=λ k f=>by
  obtain ⟨p,i,r,J,rfl⟩:=hK k f;have:=h.ok p i;exact ⟨this.2.2.1,this.2.2.2,this.1.1⟩
 unfold ahz;rw [axs h.tk.g.so w λ k f=>by have:=T k f; omega];generalize P:(ns.flatten.filter λ k=>k.c == (w:Int))=F;have s:Srt F:=by rw [<- P]; exact h.tk.g.so.sublist zcb
 have o:∀k,k∈F↔k∈(mem L w).map λ p=>(⟨w,p.v,p.k⟩:Ky):=λ k=>by
  rw [<- P,zar,h.tk.m,zal];constructor
  ·rintro ⟨⟨p,i,r,J,rfl⟩,hc⟩;have B:p.w r=w:=Int.ofNat.inj (by simpa [Pt.ky] using hc);exact ⟨p,zar.2 ⟨i,qi.2 ⟨r,J,B⟩⟩,by simp [Pt.ky,B]⟩
  rintro ⟨p,i,rfl⟩;obtain ⟨i,hi⟩:=zar.1 i;obtain ⟨r,J,e⟩:=qi.1 hi;exact ⟨⟨p,i,r,J,by simp [Pt.ky,e]⟩,by simp⟩
 have A:((mem L w).map (·.k)).Nodup:=by
  have:((mem L w).map (·.k)).Sublist (L.map (·.k)):=zcb.map _;exact this.nodup h.pm.nd
 have C:F.Nodup:=s.imp λ {a b} H e=>by subst e; rw [yk] at H; cases H
 have U:F.Perm ((mem L w).map λ p=>(⟨w,p.v,p.k⟩:Ky)):=(List.perm_ext_iff_of_nodup C (ahf A)).2 o;have j:=U.length_eq;rw [zaj] at j;have W:(mem L w).length<=L.length:=List.length_filter_le ..;have:=h.le
 have K:∀k∈F,-2147483648<=k.v/\k.v<=2147483648:=λ k f=>by
  rw [<- P] at f;have:=T k (zar.1 f).1;omega
 rw [aqq F ⟨w,0,0,0,0⟩ (by simp) (by simp only; omega) (by simp) (by simp) K]
 have I:ab7 F=ef (mem L w):=by
  rw [asi U];simp [ab7,ef,List.map_map,Function.comp_def]
 unfold fm;by_cases u:mem L w=[]
 ·have t:F=[]:=zck.1 (by rw [j,u]; rfl);rw [if_pos u];subst t;simp [ab7]
 rw [if_neg u];have t:F≠[]:=λ e=>u (zck.1 (by rw [<- j,e]; rfl));obtain ⟨x,F',rfl⟩:=zch t;obtain ⟨Z,l2⟩:=ajk u;obtain ⟨X,u2⟩:=ajm u
 have Q:∀k∈x::F',∃p∈mem L w,k.v=p.v:=λ k f=>by
  obtain ⟨p,i,rfl⟩:=zal.1 ((o k).1 f);exact ⟨p,i,rfl⟩
 have z:∀p∈mem L w,∃k∈x::F',k.v=p.v:=λ p i=>⟨_,(o _).2 (zal.2 ⟨p,i,rfl⟩),rfl⟩
 have hc:∀k∈x::F',k.c=w:=λ k f=>by
  obtain ⟨p,i,rfl⟩:=zal.1 ((o k).1 f)
  rfl
 have hs:=zby.1 s
 have M:x.v=loV (mem L w):=by
  obtain ⟨p,i,e⟩:=Q x (by simp);obtain ⟨q,O,e2⟩:=Z;obtain ⟨k,f,R⟩:=z q O;have Y:=l2 p i;rcases zab.1 f with rfl | n
  ·omega
  have:=yn.1 (hs.1 k n);have V:=hc x (by simp);have c2:=hc k f;omega
 obtain ⟨y,hy⟩:∃y,(x::F').getLast?=some y:=⟨(x::F').getLast (by simp),zcl (by simp)⟩
 have D:y∈x::F':=List.mem_of_getLast? hy
 have N:y.v=hiV (mem L w):=by
  obtain ⟨p,i,e⟩:=Q y D;obtain ⟨q,O,e2⟩:=X;obtain ⟨k,f,R⟩:=z q O;have Y:=u2 p i
  obtain ⟨G,S⟩:∃G,x::F'=G++[y]:=⟨(x::F').dropLast,by
   have e:=zcl (l:=x::F') (by simp);rw [hy] at e;rw [Option.some.inj e]
   exact (List.dropLast_concat_getLast (by simp)).symm⟩
  have E:=s;rw [S] at E f;rcases zac.1 f with n | n
  ·have:=yn.1 ((zci.1 E).2.2 k n y (by simp));have V:=hc y D;have c2:=hc k (by rw [S]; simp [n]);omega
  rw [zcc.1 n] at R;omega
 rw [hy];simp only [Sa.mk.injEq,if_true,List.head?_cons,Option.map_some,Option.getD_some,M,N,I,j,true_and,Int.zero_add,and_true]
def dw (L:List Pt) (w:Nat):AV:=if mem L w=[] then .tup [.r (Sa.rv ⟨0,0,0,0,0⟩),bl false] else .tup [.r (fm L w).rv,bl true]
theorem aim (L:List Pt) (w:Nat):aef (fm L w)=dw L w:=by
 unfold aef dw fm;by_cases a:mem L w=[]
 ·simp [a]
 have:(mem L w).length≠0:=λ e=>a (zck.1 e);rw [if_neg a,if_neg (by simp only; omega),if_neg a]
theorem auu (L:List Pt) (w:Nat):a9 P0 15 [.ptr 1000000 0 0,int .u64 w] [.abs (sT L)] (dw L w) [.abs (sT L)]:=by
 have:=acb (P:=P0) (f:=15) (F:=SF L) (F':=SF L) rfl («as»:=[int .u64 w]) (res:=dw L w) (ex:=[]) (λ os h=>by
  obtain ⟨es,c,ns,ce,cc,h,rfl⟩:=h;refine ⟨_,⟨_,_,_,_,_,h,rfl⟩,?_⟩;rw [zaq,<- aim,<- ao9 h]
  exact aql h w) rfl (by simp) (by unfold dw; split<;>simp [u7,ec,y8,er,Sa.rv])
 have e:∀F,imV F (dw L w)=dw L w:=λ F=>by unfold dw; split<;>rfl
 rw [e] at this;exact this

theorem azt {l:List Pt} {i:Nat} (h:l[i]?=some p) (z:RV):(l.map Pt.rv).getD ((i:Int)).toNat z=.agg [.v (.int .i64 p.k),.v (.int .i64 p.x),.v (.int .i64 p.y),.v (.int .i64 p.v)]:=by
 simp [List.getD,h,Pt.rv]

def tx:Mk P0 f8:={ x:=_ }
def zm (xs:List Int):RV:=.sl 1 (xs.map λ x=>.v (.int .i64 x))
theorem ad9 {xs:List Int} {i:Nat} {x:Int} (h:xs[i]?=some x) (z:RV):(xs.map λ x=>RV.v (.int .i64 x)).getD ((i:Int)).toNat z=.v (.int .i64 x):=by
 simp [List.getD,h]
def gPt (a b:Int) (l:List Pt):Pt:=match l.getLast? with
 | some p=>if a/1099511627776%4≠0 then ⟨l.length+1,min (p.x+a%1024) 1073741823,min (p.y+b%1024) 1073741823,b/1073741824%256-99⟩ else ⟨l.length+1,a%1073741824,b%1073741824,b/1073741824%256-99⟩
 | none=>⟨l.length+1,a%1073741824,b%1073741824,b/1073741824%256-99⟩
def gz:List Int->List Pt->List Pt
 | a::b::r,l=>if l.length<40 then gz r (l++[gPt a b l]) else l
 | _,l=>l
def GP (l:List Pt):Prop:=∀(j:Nat) (p:Pt),l[j]?=some p->p.k=(j:Int)+1/\p.ok
theorem a5k (a b:Int) (l:List Pt):(gPt a b l).k=(l.length:Int)+1:=by
 unfold gPt;split
 ·split<;>rfl
 rfl
theorem a3n {a b:Int} {l:List Pt} (h:GP l) (d:l.length<40):(gPt a b l).ok:=by
 unfold gPt;split
 ·rename_i p c;rw [List.getLast?_eq_getElem?] at c;have:=(h _ p c).2.2.1;unfold inW at this;split
  ·refine ⟨by simp only; omega,?_,by simp only; omega⟩;simp only [inW];omega
  refine ⟨by simp only; omega,?_,by simp only; omega⟩;simp only [inW];omega
 refine ⟨by simp only; omega,?_,by simp only; omega⟩;simp only [inW];omega
theorem ajr {a b:Int} {l:List Pt} (h:GP l) (e:l.length<40):GP (l++[gPt a b l]):=by
 intro j p c;rcases Nat.lt_trichotomy j l.length with d | d | d
 ·rw [zax d] at c;exact h j p c
 ·subst d;rw [List.getElem?_append_right (zaf _),Nat.sub_self] at c;simp at c;subst c;exact ⟨a5k ..,a3n h e⟩
 rw [List.getElem?_eq_none (by simp; omega)] at c;cases c
theorem m30 (a:Int):IntKind.i64.wrap ((zav IntKind.i64.bits a &&& zav IntKind.i64.bits 1073741823).toNat)=a%1073741824:=abl a 1073741823 30 (by decide) (by decide)
theorem m8 (a:Int):IntKind.i64.wrap ((zav IntKind.i64.bits a &&& zav IntKind.i64.bits 255).toNat)=a%256:=abl a 255 8 (by decide) (by decide)
theorem m2 (a:Int):IntKind.i64.wrap ((zav IntKind.i64.bits a &&& zav IntKind.i64.bits 3).toNat)=a%4:=abl a 3 2 (by decide) (by decide)
theorem m10 (a:Int):IntKind.i64.wrap ((zav IntKind.i64.bits a &&& zav IntKind.i64.bits 1023).toNat)=a%1024:=abl a 1023 10 (by decide) (by decide)
theorem aqz (b:Int):b.fdiv (2^min (Int.toNat 30) IntKind.i64.bits)=b/1073741824:=Int.fdiv_eq_ediv_of_nonneg b (by decide)
theorem avh (b:Int):b.fdiv (2^min (Int.toNat 40) IntKind.i64.bits)=b/1099511627776:=Int.fdiv_eq_ediv_of_nonneg b (by decide)
theorem w99 (b:Int):IntKind.i64.wrap (b%256-99)=b%256-99:=a6 (by omega)
theorem ax4 (xs:List Int) (hx:∀x∈xs,-9223372036854775808<=x/\x<=9223372036854775807) {res:AV} {L:List Ob}
 (l:(gz xs []=[]/\res=.nils 4 (Pt.rv ⟨0,0,0,0⟩)/\L=[])\/(gz xs []≠[]/\res=.own 1000000 0 0 (gz xs []).length/\L=[.row 4 (Pt.rv ⟨0,0,0,0⟩) true true ((gz xs []).map Pt.rv)])) :
 a9 P0 8 [.r (zm xs)] [] res L:=by
 refine tx.t func8 ?_;have P:100<=maxLen:=by decide
 simp only [tx,zm,push_cast,↓reduceIte,reduceCtorEq,zB,zE,zA,zS,zL,zD,zM]
 refine c7 [(4,false),(0,false),(3,false)] (λ vs pos o=>∃(i:Nat) (c:List Pt),i=2*c.length/\i<=80/\GP c/\gz xs []=gz (xs.drop i) c/\(c=[]/\vs=[int .i64 i,.r (zm xs),.nils 4 (Pt.rv ⟨0,0,0,0⟩)]/\pos=[]/\o=[] \/
  c≠[]/\vs=[int .i64 i,.r (zm xs),.own 2000000 0 0 c.length]/\pos=[]/\o=[.row 4 (Pt.rv ⟨0,0,0,0⟩) true true (c.map Pt.rv)]))
  (λ vs _ _=>match vs with | .r (.v (.int _ j))::_=>(80-j).toNat | _=>0) rfl ?_ ?_
 ·simp only [zm,Pt.rv,push_cast,↓reduceIte,reduceCtorEq,zB,zE,zA,zS,zL,zD,zM];exact ⟨0,[],rfl,by omega,by simp [GP],rfl,.inl ⟨rfl,rfl⟩⟩
 rintro vs pos o ⟨i,c,m,R,g,C,p⟩;have u:IntKind.i64.wrap ((i:Int)+1)=(i:Int)+1:=a6 (by omega);have w:IntKind.i64.wrap ((i:Int)+2)=(i:Int)+2:=a6 (by omega);rcases p with ⟨rfl,rfl,rfl,rfl⟩ | ⟨I,rfl,rfl,rfl⟩
 ·have V:i=0:=m;have d:decide ((i:Int)>0)=false:=by simp at m |-; omega
  simp only [zm,Pt.rv,u,w,d,push_cast,↓reduceIte,reduceCtorEq,zB,zE,zA,zS,zL,zD,zM];refine b9 (λ h=>?_) (λ h=>?_)
  ·have Q:i<80:=by
    simp at h;omega
   have e:i+1<xs.length:=by
    simp at h;omega
   obtain ⟨a,A⟩:∃a,xs[i]?=some a:=⟨xs[i],by simp⟩
   obtain ⟨b,D⟩:∃b,xs[i+1]?=some b:=⟨xs[i+1],by simp [e]⟩
   have E:∀z,(xs.map λ x=>RV.v (.int .i64 x)).getD ((i:Int)).toNat z=.v (.int .i64 a):=ad9 A;have F:∀z,(xs.map λ x=>RV.v (.int .i64 x)).getD ((i:Int)+1).toNat z=.v (.int .i64 b):=λ z=>by simpa using ad9 D z
   have G:IntKind.i64.wrap (IntKind.i64.wrap ((i:Int).tdiv 2)+1)=1:=by simp at m; subst m; decide
   simp only [u,w,d,E,F,G,m30,m8,aqz,w99,push_cast,↓reduceIte,reduceCtorEq,zB,zE,zA,zS,zL,zD,zM]
   have H:xs.drop i=a::b::xs.drop (i+2):=by
    rw [zbc (by omega),(zaa.1 A).2,zbc e,(zaa.1 D).2]
   repeat refine And.intro (by first | decide | omega | (simp +contextual; done) | kernel_rfl) ?_
   refine ⟨⟨i+2,[gPt a b []],by rw [show i=0 from m]; rfl,by rw [show i=0 from m]; decide,ajr g (by decide),?_,.inr ⟨by simp,rfl,rfl⟩⟩,by omega⟩;rw [C,H,gz,if_pos (by simp)]
   rfl
  have e:¬i+1<xs.length:=by
   intro e;simp at h;have:=h (by omega);omega
  have f:gz xs []=[]:=by
   rw [C];have:i=0:=m;subst this;rcases xs with _ | ⟨a,_ | ⟨b,r⟩⟩
   ·rfl
   ·rfl
   simp at e
  rcases l with ⟨_,rfl,rfl⟩ | ⟨N,_,_⟩
  ·simp only [Pt.rv,push_cast,↓reduceIte,reduceCtorEq,zB,zE,zA,zS,zL,zD,zM]
  exact absurd f N
 obtain ⟨q,M⟩:∃q,c.getLast?=some q:=⟨c.getLast I,zcl I⟩
 have T:0<c.length:=zbx.2 I;have d:decide ((i:Int)>0)=true:=by simp; omega
 have B:c[c.length-1]?=some q:=by rw [<- List.getLast?_eq_getElem?]; exact M
 have O:IntKind.i64.wrap ((c.length:Int)-1)=((c.length-1:Nat):Int):=by rw [a6 (by omega)]; omega
 have J:∀z,(c.map Pt.rv).getD (((c.length-1:Nat):Int)).toNat z=.agg [.v (.int .i64 q.k),.v (.int .i64 q.x),.v (.int .i64 q.y),.v (.int .i64 q.v)]:=azt B;have n:∀z,(c.map Pt.rv).getD (0+(((c.length-1:Nat):Int)).toNat) z=.agg [.v (.int .i64 q.k),.v (.int .i64 q.x),.v (.int .i64 q.y),.v (.int .i64 q.v)]:=λ z=>by rw [Nat.zero_add]; exact J z
 simp only [zm,Pt.rv,u,w,d,O,J,n,push_cast,↓reduceIte,reduceCtorEq,zB,zE,zA,zS,zL,zD,zM];refine b9 (λ h=>?_) (λ h=>?_)
 ·have Q:i<80:=by
   simp at h;omega
  have e:i+1<xs.length:=by
   simp at h;omega
  obtain ⟨a,A⟩:∃a,xs[i]?=some a:=⟨xs[i],by simp⟩
  obtain ⟨b,D⟩:∃b,xs[i+1]?=some b:=⟨xs[i+1],by simp [e]⟩
  have E:∀z,(xs.map λ x=>RV.v (.int .i64 x)).getD ((i:Int)).toNat z=.v (.int .i64 a):=ad9 A;have F:∀z,(xs.map λ x=>RV.v (.int .i64 x)).getD ((i:Int)+1).toNat z=.v (.int .i64 b):=λ z=>by simpa using ad9 D z
  have G:IntKind.i64.wrap (IntKind.i64.wrap ((i:Int).tdiv 2)+1)=c.length+1:=by
   rw [show (i:Int).tdiv 2=c.length by rw [m]; simp,show IntKind.i64.wrap (c.length:Int)=c.length from a6 (by omega)];exact a6 (by omega)
  have H:xs.drop i=a::b::xs.drop (i+2):=by
   rw [zbc (by omega),(zaa.1 A).2,zbc e,(zaa.1 D).2]
  simp only [u,w,d,E,F,G,m30,m8,m2,aqz,avh,w99,push_cast,↓reduceIte,reduceCtorEq,zB,zE,zA,zS,zL,zD,zM]
  repeat refine And.intro (by first | decide | omega | (simp +contextual; done) | kernel_rfl) ?_
  have K:=(g _ q B).2.2.1;unfold inW at K;have S:IntKind.i64.wrap (q.x+a%1024)=q.x+a%1024:=a6 (by omega);have U:IntKind.i64.wrap (q.y+b%1024)=q.y+b%1024:=a6 (by omega);refine b9 (λ hc=>?_) (λ hc=>?_)
  ·simp only [S,U,u,w,d,O,J,n,E,F,G,m30,m8,m2,m10,aqz,avh,w99,push_cast,↓reduceIte,reduceCtorEq,zB,zE,zA,zS,zL,zD,zM]
   repeat refine And.intro (by first | decide | omega | (simp +contextual; done) | kernel_rfl) ?_
   refine ⟨⟨i+2,c++[gPt a b c],by simp; omega,by omega,ajr g (by omega),?_,.inr ⟨by simp,?_⟩⟩,by omega⟩
   ·rw [C,H,gz,if_pos (by omega)]
   have s:a/1099511627776%4≠0:=by simpa using hc
   simp [gPt,M,s,Pt.rv]
  simp only [u,w,d,O,J,n,E,F,G,m30,m8,m2,aqz,avh,w99,push_cast,↓reduceIte,reduceCtorEq,zB,zE,zA,zS,zL,zD,zM]
  repeat refine And.intro (by first | decide | omega | (simp +contextual; done) | kernel_rfl) ?_
  refine ⟨⟨i+2,c++[gPt a b c],by simp; omega,by omega,ajr g (by omega),?_,.inr ⟨by simp,?_⟩⟩,by omega⟩
  ·rw [C,H,gz,if_pos (by omega)]
  have s:¬a/1099511627776%4≠0:=by simpa using hc
  simp [gPt,M,s,Pt.rv]
 have e:¬(i+1<xs.length/\i<80):=by
  rintro ⟨W,X⟩;simp at h;have:=h (by omega);omega
 have f:gz xs []=c:=by
  rw [C];rcases hx':xs.drop i with _ | ⟨a,_ | ⟨b,r⟩⟩
  ·rfl
  ·rfl
  have:=congrArg zbb hx';simp at this;rw [gz,if_neg (by omega)]
 rcases l with ⟨N,_,_⟩ | ⟨_,rfl,rfl⟩
 ·exact absurd (f.symm.trans N) I
 rw [f];simp only [Pt.rv,push_cast,↓reduceIte,reduceCtorEq,zB,zE,zA,zS,zL,zD,zM]
theorem ap7:∀(xs:List Int) (l:List Pt),GP l->GP (gz xs l)
 | [],l,h=>h
 | [_],l,h=>h
 | a::b::r,l,h=>by
   rw [gz];split
   ·exact ap7 r _ (ajr h (by assumption))
   exact h
theorem ap6:∀(xs:List Int) (l:List Pt),l.length<=40->(gz xs l).length<=40
 | [],l,h=>h
 | [_],l,h=>h
 | a::b::r,l,h=>by
   rw [gz];split
   ·exact ap6 r _ (by simp; omega)
   exact h
theorem av6 (xs:List Int) (hx:∀x∈xs,-9223372036854775808<=x/\x<=9223372036854775807) :
 a9 P0 8 [.r (zm xs)] [] (.own 1000000 0 0 (gz xs []).length) [.row 4 (Pt.rv ⟨0,0,0,0⟩) true true ((gz xs []).map Pt.rv)]:=by
 by_cases h:gz xs []=[]
 ·rw [h];exact apq (ax4 xs hx (.inl ⟨h,rfl,rfl⟩))
 exact ax4 xs hx (.inr ⟨h,rfl,rfl⟩)

def vq:Mk P0 f7:={ x:=_ }
theorem akh (L:List Pt) (p:Pt) (h:dj L p=true):a9 P0 11 [.ptr 1000000 0 0,p.av] [.abs (sT L)] (bl true) [.abs (sT (aag L p))]:=by
 have:=aq4 L p;rw [h,if_pos rfl] at this;exact this
theorem aw5 (L:List Pt) (w:Nat) (h:mem L w≠[]):a9 P0 15 [.ptr 1000000 0 0,int .u64 w] [.abs (sT L)] (.tup [.r (.agg [.v (.int .u64 w),.v (.int .i64 (mem L w).length),.v (.int .i64 (ef (mem L w))),.v (.int .i64 (loV (mem L w))),.v (.int .i64 (hiV (mem L w)))]),bl true]) [.abs (sT L)]:=by
 have:=auu L w;unfold dw fm at this;rw [if_neg h,if_neg h] at this;exact this
theorem a08:a9 P0 7 [] [] (bl true) []:=by
 refine vq.t func7 ?_;simp only [vq,push_cast,↓reduceIte,reduceCtorEq,zB,zE,zA,zS,zL,zD,zM];refine a7 ax0 rfl trivial ?_;simp only [push_cast,↓reduceIte,reduceCtorEq,zB,zE,zA,zS,zL,zD,zM];refine b7 (as':=[.ptr 1000000 0 0,Pt.av ⟨1,5,5,3⟩]) rfl ?_;refine a7 (akh [] ⟨1,5,5,3⟩ (by decide)) rfl ⟨rfl,trivial⟩ ?_;simp only [push_cast,↓reduceIte,reduceCtorEq,zB,zE,zA,zS,zL,zD,zM];refine b7 (as':=[.ptr 1000000 0 0,Pt.av ⟨2,5,5,-1⟩]) rfl ?_;refine a7 (akh _ ⟨2,5,5,-1⟩ (by decide)) rfl ⟨rfl,trivial⟩ ?_;simp only [push_cast,↓reduceIte,reduceCtorEq,zB,zE,zA,zS,zL,zD,zM];refine a7 (yh 5 5 7 (by decide) (by decide)) rfl trivial ?_;simp only [uw,zae,push_cast,↓reduceIte,reduceCtorEq,zB,zE,zA,zS,zL,zD,zM]
 have d:aag (aag [] ⟨1,5,5,3⟩) ⟨2,5,5,-1⟩=[⟨1,5,5,3⟩,⟨2,5,5,-1⟩]:=by decide
 rw [d]
 have b:mem [⟨1,5,5,3⟩,⟨2,5,5,-1⟩] (uc 5 5 7)=[⟨1,5,5,3⟩,⟨2,5,5,-1⟩]:=by
  unfold mem;rw [zca];intro q c;rw [qi];refine ⟨7,by decide,?_⟩;simp at c;rcases c with rfl | rfl<;>rfl
 have a:=aw5 [⟨1,5,5,3⟩,⟨2,5,5,-1⟩] (uc 5 5 7) (by rw [b]; simp);rw [b] at a;simp only [show ((zbb [(⟨1,5,5,3⟩:Pt),⟨2,5,5,-1⟩]:Nat):Int)=2 from rfl,show ef [⟨1,5,5,3⟩,⟨2,5,5,-1⟩]=2 from rfl,show loV [⟨1,5,5,3⟩,⟨2,5,5,-1⟩]=-1 from rfl,show hiV [⟨1,5,5,3⟩,⟨2,5,5,-1⟩]=3 from rfl] at a;refine a7 a rfl ⟨rfl,trivial⟩ ?_;simp only [push_cast,↓reduceIte,reduceCtorEq,zB,zE,zA,zS,zL,zD,zM];refine a7 (ax1 _) rfl ⟨rfl,trivial⟩ ?_;simp only [push_cast,↓reduceIte,reduceCtorEq,zB,zE,zA,zS,zL,zD,zM]
 rfl

theorem ad5 (h:p.ok) (b:r<13) (c:o6 w=r):inC w p=decide (p.w r=w):=by
 cases e:inC w p with
 | true=>
   obtain ⟨s,d,a⟩:=qi.1 e;have:=(Pt.w_res h d).2.1;rw [a,c] at this;subst this;simp [a]
 | false=>
   rw [eq_comm,decide_eq_false_iff_not];intro a;rw [qi.2 ⟨r,b,a⟩] at e;cases e

theorem r13 (r:Int):∃R:Nat,R<13/\(IntKind.i64.wrap (r.tmod 13+13)).tmod 13=R:=by
 have b:=Int.tmod_lt_of_pos r (show (0:Int)<13 by decide)
 have a:-13<r.tmod 13:=by
  have:=Int.tmod_lt_of_pos (-r) (show (0:Int)<13 by decide);rw [Int.neg_tmod] at this;omega
 rw [show IntKind.i64.wrap (r.tmod 13+13)=r.tmod 13+13 from a6 (by omega),Int.tmod_eq_emod_of_nonneg (by omega)];exact ⟨((r.tmod 13+13)%13).toNat,by omega,by omega⟩
theorem ak6:∀(M:List Pt),(∀p∈M,p.ok)->-2147483648*(M.length:Int)<=ef M/\ef M<=2147483648*(M.length:Int)
 | [],_=>by simp [ef]
 | p::M,h=>by
   have c:=(h p (by simp)).2.2;have a:=ak6 M λ q b=>h q (by simp [b]);simp only [ef,zau,List.sum_cons,zah] at a |-;omega

end
end Go.Ev

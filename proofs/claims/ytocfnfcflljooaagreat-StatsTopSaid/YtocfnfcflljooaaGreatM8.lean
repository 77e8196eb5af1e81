import Derived.Deep.RegionLaw
import Derived.Deep.RegionHeld3
import Derived.Test.YtocfnfcflljooaaGreatM7
open Nat renaming reduceBEq → zB, reduceEqDiff → zE, reduceAdd → zA, reduceSub → zS, reduceLT → zL, reduceLeDiff → zD, reduceMul → zM
open Go.Proofs.Tryz renaming prog → P0
open Go.Proofs.Tryz
open List renaming getElem?_eq_some_iff → zaa, mem_cons → zab, mem_append → zac, mem_of_getElem? → zad, mem_iff_getElem? → zag, length_cons → zah, length_nil → zai, length_map → zaj, nodup_cons → zak, mem_map → zal, nil_append → zam, length_append → zao, length_drop → zap, append_nil → zaq, mem_filter → zar, cons_append → zas, getElem?_take → zat, getElem?_append_left → zaw, getElem?_inj → zax, mem_or_eq_of_mem_set → zay, take_append_drop → zaz, length → zba, map_cons → zbb, drop_eq_getElem_cons → zbc, findIdx?_cons → zbe, setIfInBounds_toArray → zbh, getElem?_toArray → zbi, getElem?_drop → zbj, getElem?_set → zbk, length_take → zbl, getElem?_eq_getElem → zbm, drop_eq_nil_of_le → zbn, eraseIdx_sublist → zbo, pairwise_iff_getElem → zbp, flatten_cons → zbq, filter_cons → zbr, append_assoc → zbt, length_eraseIdx → zbu, getElem?_eraseIdx → zbv, mem_of_mem_eraseIdx → zbw, length_pos_iff → zbx, pairwise_cons → zby, map_append → zbz, filter_eq_self → zca, filter_sublist → zcb, mem_singleton → zcc, mem_of_mem_take → zcd, mem_of_mem_drop → zce, getElem_cons_drop → zcf, exists_cons_of_ne_nil → zch, pairwise_append → zci, getElem?_modify → zcj, length_eq_zero_iff → zck, getLast?_eq_some_getLast → zcl
open Int renaming reduceToNat → zae
open Nat renaming le_refl → zaf, reduceLT → zbg
open Array renaming getElem?_eq_some_iff → zan, getElem?_toList → zbs, getElem?_setIfInBounds → zcg
open BitVec renaming ofInt → zau
open Option renaming toList_some → zav
open Bool renaming toNat_true → zbd, false_eq_true → zbf
namespace Go.Ev
set_option maxHeartbeats 8000000
set_option maxRecDepth 100000
noncomputable section
open Go Go.RowKit
set_option linter.unusedSectionVars false
set_option linter.unnecessarySimpa false
set_option linter.unusedSimpArgs false
set_option linter.unusedVariables false
theorem yp:(Go.Proofs.Tryz.prog.info? 55).map (λ i=>(i.zero,i.size,i.bytes))=some (some (.agg #[.int .u64 0,.int .i64 0,.int .i64 0]),3,24):=by kernel_rfl
theorem aj3:(Go.Proofs.Tryz.prog.info? 53).map (λ i=>(i.zero,i.size,i.bytes))=some (some (.slice none 0 0),1,24):=by kernel_rfl
variable {P:Program}
theorem uk {t:TypeId} {z:Option Value} {s b:Nat} (h:(P.info? t).map (λ i=>(i.zero,i.size,i.bytes))=some (z,s,b)):∃i,P.info? t=some i/\i.zero=z/\i.size=s/\i.bytes=b:=by
 rcases hi:P.info? t with _ | i
 ·rw [hi] at h; simp at h
 rw [hi] at h;simp at h;exact ⟨i,rfl,h.1,h.2.1,h.2.2⟩
theorem xz {c:Array Oper} {o:Oper} {a:Act} {w:World} {K:Act->World->Prop} {Q:Exit->Act->World->Prop} {E:Prop} (b:o.guard=none) (h:Oper.wp P o a w K Q):if Region.wanted o (yielded c a.tmps)=true then Oper.wp P o a w K Q else E:=by
 rw [if_pos (by simp [Region.wanted,b])];exact h
theorem ais {p:Prop} (h:Unit->p):p:=h ()
theorem axe {w:World} {b cap:Nat} {og:Option Nat} {gs:List Nat} {ns:List (List Ky)} {n:Int} (h:TL w b og gs cap ns n) (k:Ky) (r s:Nat) (l:List Ky) (hN:Nod ns k r) (hl:ns[r-1]?=some l) (hP:Plc l k s) (hs:l[s]?≠some k) (hlen:l.length<32) (hn0:0<=n) (hn1:n<9223372036854775807) :
 Calls P0 26 #[.pointer (some ⟨b,0,none⟩),k.val] w λ e w'=>e=.returned (.bool true) /\
 ∃gs',TL w' b og gs' cap (ns.set (r-1) (l.take s++k::l.drop s)) (n+1)/\Keeps (Ft b og gs) w w'/\∀x,Ft b og gs' x->Ft b og gs x\/w.heap.size<=x:=by
 obtain ⟨g,rfl⟩:=h.some_ hl;have hat:r-1<ns.length:=(zaa.1 hl).1;generalize hr:r-1=i at *;obtain ⟨c0,c1,f0,f1,hlt⟩:=h.root;have hne:((ns.length:Int) == 0)=false:=by rw [beq_eq_false_iff_ne]; omega
 have hk0:∀x,Keeps (λ _=>False) w (w.alloc x):=λ x=>n8;have i0:(0:Int)<=(i:Int):=by omega
 have i1:(i:Int)<(ns.length:Int):=by omega
 obtain ⟨iK,hiK,hzK,hsK,hbK⟩:=uk yp;simp only [Ky.val]
 go_enter func26,Go.Proofs.Tryz.ntmps26
 go_wp2_with fail
 have h1:=h.keeps (hk0 (.cells #[.int .u64 k.c,.int .i64 k.v,.int .i64 k.d] 55)) (λ _ _ q=>q);have b1:KB (w.alloc (.cells #[.int .u64 k.c,.int .i64 k.v,.int .i64 k.d] 55)) w.heap.size k:=ke rfl;refine (aat h1 k r hN).mono ?_;rintro e w2 ⟨rfl,W⟩;rw [hr];have h2:=h1.keeps (W λ _=>False) (λ _ _ q=>q);have b2:=b1.keeps (W λ _=>False) (λ q=>q);obtain ⟨d0,d1,f2,f3,_⟩:=h2.root;obtain ⟨S,c,Y,T,d2,f4⟩:=h2.node hl;obtain ⟨k0,k1,k2⟩:=b2.cells
 go_wp2_with fail
 refine (aa1 T k s hP).mono ?_;rintro e w3 ⟨rfl,R⟩;rw [decide_eq_false hs];have O:=h2.keeps (R λ _=>False) (λ _ _ q=>q);have b3:=b2.keeps (R λ _=>False) (λ q=>q);have hrow3:ml w3 S l c:=T.loc ((R λ _=>False).block S T.lt λ q=>q);clear d0 d1 f2 f3 d2 f4 k0 k1 k2;obtain ⟨k0,k1,k2⟩:=b3.cells
 go_wp2_with (at_builtin; refine ais ?_)
 intro _;obtain ⟨cs,e',hg3,hsz,hf,hlc,hc,hcm⟩:=hrow3;have hl3:S<w3.heap.size:=(zan.1 hg3).1
 refine wpList_plain rfl λ K hK=>aai (.tmp 41) (.tmp 43) _ _ rfl Go.Proofs.Tryz.underlying53 Go.Proofs.Tryz.underlying53 hiK hzK (by rw [hsK]; rfl) hsK hbK S l.length c rfl hc (by rw [mh hl3]; exact hg3) hsz hlc rfl (kc k)
  (jf (ke rfl) rfl λ j u P=>by simpa [kc] using P) rfl (by simp [kc,Value.oneCell']) (by simp only [maxLen]; omega) hcm (by omega) ?_
 intro B F U e2 w4 Q hc2 hlc2 hcm2 hg4 hsz2 hf2 hK4;refine hK _ _ ?_;have hsl:s<=l.length:=hP.le;have w1:IntKind.i64.wrap ((s:Int)+1)=(s:Int)+1:=a6 ⟨by omega,by omega⟩;have j0:(0:Int)<=(s:Int):=by omega
 have j1:(s:Int)<=(l.length:Int)+1:=by omega
 have j2:(0:Int)<=(s:Int)+1:=by omega
 have j3:(s:Int)+1<=(l.length:Int)+1:=by omega
 go_wp2_with fail
 have hpre:(flat l++kc k) <+: U.toList:=by
  exact alv (q7 l) hf (λ j P=>hf2 j (by rw [show (kc k).length=3 from rfl] at P; omega)) (by rw [show (kc k).length=3 from rfl]; omega)
 have hone:∀u∈(U.toList.drop (s*3)).take ((l.length-s)*3),u.oneCell'=true:=ali hpre (λ u hu=>by
  rcases zac.1 hu with hu | hu
  ·exact yu u hu
  simp [kc] at hu; rcases hu with rfl | rfl | rfl<;>rfl) (by rw [zao,q7,show (kc k).length=3 from rfl]; omega)
 go_region_held3 (λ _=>True) (trivial) ((refine xz rfl (aiy (.tmp 48) (.tmp 51) _ _ rfl Go.Proofs.Tryz.underlying53 hiK hsK B ((s+1)*3) (s*3) (l.length-s) hg4 rfl rfl (by simp only [Nat.min_def]; split<;>omega) (λ hm=>⟨if_neg (by omega),if_neg (by omega)⟩) (by omega) (by omega) hone ?_); intro V C hK5))
 have hnd:=h.nb;have G:S∈gs:=zad Y;simp only [zav,zas,zam,zak,zab,not_or] at hnd;obtain ⟨⟨n1,n2⟩,n3,n4⟩:=hnd;have l1:=h.lt g (.inr (.inl rfl));have l2:=h.lt S (.inr (.inr G))
 have z2:w.heap.size+1<=w3.heap.size:=by
  have a1:=(W λ _=>False).size;have a2:=(R λ _=>False).size;have a3:(w.alloc (.cells #[.int .u64 k.c,.int .i64 k.v,.int .i64 k.d] 55)).heap.size=w.heap.size+1:=ze;omega
 have z3:(w3.alloc (.cells #[.int .u64 k.c,.int .i64 k.v,.int .i64 k.d] 55)).heap.size=w3.heap.size+1:=ze;rw [z3] at Q;have D:∀x,x<w3.heap.size->x≠S->x≠B:=λ x h1 h2 O=>by rcases Q with q | q<;>omega
 have A:∀x,x<w3.heap.size->x≠S->V.heap[x]?=w3.heap[x]?:=λ x h1 h2=>by
  rw [hK5.block x (Nat.lt_of_lt_of_le (by rw [z3]; omega) hK4.size) (D x h1 h2),show w4.drew.heap=w4.heap from rfl,hK4.block x (by rw [z3]; omega) h2,mh h1]
 have m1:b≠S:=λ q=>n2 (q▸G);have m2:g≠S:=λ q=>n3 (q▸G);have hgb:¬b=B:=D b (by omega) m1;have hgg:¬g=B:=D g (by omega) m2;have hgh:¬w.heap.size=B:=D _ (by omega) (by omega);have N:¬B=b:=λ q=>hgb q.symm;have M:¬B=g:=λ q=>hgg q.symm;have hgh':¬B=w.heap.size:=λ q=>hgh q.symm;have hbg:¬b=g:=n1;have hbg':¬g=b:=λ q=>n1 q.symm;obtain ⟨p0,p1,q0,q1,_⟩:=O.root;obtain ⟨_,_,_,_,p2,q2⟩:=O.node hl;have e0:=(n9 (A b (by omega) m1) 0).trans p0;have e1:=(n9 (A b (by omega) m1) 1).trans p1;have r0:=(aa (A b (by omega) m1) 0).trans q0;have r1:=(aa (A b (by omega) m1) 1).trans q1;have e3:=(n9 (A g (by omega) m2) i).trans p2;have r2:=(aa (A g (by omega) m2) i).trans q2
 have e4:=(n9 (A w.heap.size (by omega) (by omega)) 0).trans k0;have e5:=(n9 (A w.heap.size (by omega) (by omega)) 1).trans k1;have e6:=(n9 (A w.heap.size (by omega) (by omega)) 2).trans k2
 have hz5:(b7 U.toList ((s+1)*3) ((U.toList.drop (s*3)).take ((l.length-s)*3))).toArray.size=U.size:=by
  rw [List.size_toArray,j9 (by simp; omega)]; simp
 obtain ⟨v0,e7⟩:=oh C (o:=s*3) (by omega);obtain ⟨v1,e8⟩:=oh C (o:=s*3+1) (by omega);obtain ⟨v2,e9⟩:=oh C (o:=s*3+2) (by omega);have r3:=fu (o:=s*3) C;have r4:=fu (o:=s*3+1) C;have r5:=fu (o:=s*3+2) C;have wn:IntKind.i64.wrap (n+1)=n+1:=a6 ⟨by omega,by omega⟩;have j4:(s:Int)<(l.length:Int)+1:=by omega
 have j5:¬((32:Int)<(l.length:Int)+1):=by omega
 clear k0 k1 k2 p0 p1 q0 q1 p2 q2
 go_wp2_with fail
 ·go_ret
  obtain ⟨ho0,ho⟩:=O.out g rfl;obtain ⟨co,eo,E,hco2,hco4⟩:=ho;obtain ⟨eb,heb⟩:=O.hd;have G0:=(A g (by omega) m2).trans E;have B0:=(A b (by omega) m1).trans heb;have G1:=o9 (o:=s*3) (v:=.int .u64 k.c) C;have G2:=o9 (o:=s*3+1) (v:=.int .i64 k.v) G1;have G3:=o9 (o:=s*3+2) (v:=.int .i64 k.d) G2
  have O1:∀x,x≠B->(((V.setCell ⟨B,s*3,none⟩ (.int .u64 k.c)).setCell ⟨B,s*3+1,none⟩ (.int .i64 k.v)).setCell ⟨B,s*3+2,none⟩ (.int .i64 k.d)).heap[x]?=V.heap[x]?:=λ x hx=>by
   rw [l9 G2 hx,l9 G1 hx,l9 C hx]
  have K1:Keeps (· = B) V (((V.setCell ⟨B,s*3,none⟩ (.int .u64 k.c)).setCell ⟨B,s*3+1,none⟩ (.int .i64 k.v)).setCell ⟨B,s*3+2,none⟩ (.int .i64 k.d)):=((m0 (I:=(· = B)) C rfl).trans (m0 (I:=(· = B)) G1 rfl)).trans (m0 (I:=(· = B)) G2 rfl);generalize ((V.setCell ⟨B,s*3,none⟩ (.int .u64 k.c)).setCell ⟨B,s*3+1,none⟩ (.int .i64 k.v)).setCell ⟨B,s*3+2,none⟩ (.int .i64 k.d)=w6 at *;have C0:=(O1 g hgg).trans G0;have C1:=(O1 b hgb).trans B0;have Z:(l.take s++k::l.drop s).length=l.length+1:=by simp; omega
  have F1:=o9 (o:=i) (v:=.slice (some ⟨B,0,none⟩) (l.length+1) (s+1)) C0;have O2:∀x,x≠g->(w6.setCell ⟨g,i,none⟩ (.slice (some ⟨B,0,none⟩) (l.length+1) (s+1))).heap[x]?=w6.heap[x]?:=λ x hx=>l9 C0 hx;have K2:=m0 (o:=i) (v:=.slice (some ⟨B,0,none⟩) (l.length+1) (s+1)) (I:=λ x=>Ft b (some g) gs x\/w.heap.size<=x) C0 (.inl (.inr (.inl rfl)));generalize w6.setCell ⟨g,i,none⟩ (.slice (some ⟨B,0,none⟩) (l.length+1) (s+1))=w7 at *;have D1:=(O2 b hbg).trans C1;have F2:=o9 (o:=1) (v:=.int .i64 (n+1)) D1;have O3:∀x,x≠b->(w7.setCell ⟨b,1,none⟩ (.int .i64 (n+1))).heap[x]?=w7.heap[x]?:=λ x hx=>l9 D1 hx
  have K3:=m0 (o:=1) (v:=.int .i64 (n+1)) (I:=λ x=>Ft b (some g) gs x\/w.heap.size<=x) D1 (.inl (.inl rfl));generalize w7.setCell ⟨b,1,none⟩ (.int .i64 (n+1))=w8 at *
  have H:Ft b (some g) gs B\/w.heap.size<=B:=by
   rcases Q with q | q
   ·exact .inl (.inr (.inr (q▸G)))
   exact .inr (by omega)
  refine ⟨rfl,gs.set i B,O.put hat ⟨eb,F2⟩ ⟨co,eo,E,?_⟩ (c2:=(s+1)) ?_ (λ j x P hx=>?_) ?_,fo ?_,λ x hx=>?_⟩
  ·rw [O3 g hbg',F1,Z]
  ·refine ⟨_,e2,by rw [O3 B N,O2 B M]; exact G3,by simp; simp at hz5; omega,?_,by rw [Z]; omega,by omega,by omega⟩;intro j u P;have X:_ <+: b7 _ _ [Value.int .u64 k.c,Value.int .i64 k.v,Value.int .i64 k.d]:=zo hsl hpre;rw [<- am2 _ _ _ _ _ (by rw [j9 (by simp; omega)]; simp; omega)] at X;obtain ⟨t,ht⟩:=X;have:j<(flat (l.take s++k::l.drop s)).length:=(zaa.1 P).1;simp only [zbh,zbi];rw [<- ht,zaw this];exact P
  ·have L:x∈gs:=zad hx;have x1:x≠b:=λ q=>n2 (q▸L);have x2:x≠g:=λ q=>n3 (q▸L)
   have x3:x≠S:=λ q=>by
    subst q;have:=(zax (zaa.1 hx).1 n4).1 (hx.trans Y.symm);exact P this
   have x4:=O.lt x (.inr (.inr L));rw [O3 x x1,O2 x x2,O1 x (D x x4 x3),A x x4 x3]
  ·rcases Q with q | q
   ·exact .inl (q▸Y)
   refine .inr ⟨N,M,λ hm=>?_⟩;have:=O.lt B (.inr (.inr hm));omega
  ·have kd:Keeps (λ x=>Ft b (some g) gs x\/w.heap.size<=x) w4 w4.drew:=⟨rfl,rfl,rfl,zaf _,λ _ _ _=>rfl⟩
   have k4:=hK4.mono (J:=λ x=>Ft b (some g) gs x\/w.heap.size<=x) λ x hx=>.inl (.inr (.inr (hx▸G)));have k5:=hK5.mono (J:=λ x=>Ft b (some g) gs x\/w.heap.size<=x) λ x hx=>hx▸H;have k6:=K1.mono (J:=λ x=>Ft b (some g) gs x\/w.heap.size<=x) λ x hx=>hx▸H;exact (((((((((n8.trans (W _)).trans (R _)).trans n8).trans k4).trans kd).trans k5).trans k6).trans K2).trans K3)
  rcases hx with q | q | q
  ·exact .inl (.inl q)
  ·exact .inl (.inr (.inl q))
  rcases zay q with q | q
  ·exact .inl (.inr (.inr q))
  exact q▸H
 go_ret
 obtain ⟨ho0,ho⟩:=O.out g rfl;obtain ⟨co,eo,E,hco2,hco4⟩:=ho;obtain ⟨eb,heb⟩:=O.hd;have G0:=(A g (by omega) m2).trans E;have B0:=(A b (by omega) m1).trans heb;have G1:=o9 (o:=s*3) (v:=.int .u64 k.c) C;have G2:=o9 (o:=s*3+1) (v:=.int .i64 k.v) G1;have G3:=o9 (o:=s*3+2) (v:=.int .i64 k.d) G2
 have O1:∀x,x≠B->(((V.setCell ⟨B,s*3,none⟩ (.int .u64 k.c)).setCell ⟨B,s*3+1,none⟩ (.int .i64 k.v)).setCell ⟨B,s*3+2,none⟩ (.int .i64 k.d)).heap[x]?=V.heap[x]?:=λ x hx=>by
  rw [l9 G2 hx,l9 G1 hx,l9 C hx]
 have K1:Keeps (· = B) V (((V.setCell ⟨B,s*3,none⟩ (.int .u64 k.c)).setCell ⟨B,s*3+1,none⟩ (.int .i64 k.v)).setCell ⟨B,s*3+2,none⟩ (.int .i64 k.d)):=((m0 (I:=(· = B)) C rfl).trans (m0 (I:=(· = B)) G1 rfl)).trans (m0 (I:=(· = B)) G2 rfl);generalize ((V.setCell ⟨B,s*3,none⟩ (.int .u64 k.c)).setCell ⟨B,s*3+1,none⟩ (.int .i64 k.v)).setCell ⟨B,s*3+2,none⟩ (.int .i64 k.d)=w6 at *;have C0:=(O1 g hgg).trans G0;have C1:=(O1 b hgb).trans B0;have Z:(l.take s++k::l.drop s).length=l.length+1:=by simp; omega
 have F1:=o9 (o:=i) (v:=.slice (some ⟨B,0,none⟩) (l.length+1) F) C0;have O2:∀x,x≠g->(w6.setCell ⟨g,i,none⟩ (.slice (some ⟨B,0,none⟩) (l.length+1) F)).heap[x]?=w6.heap[x]?:=λ x hx=>l9 C0 hx;have K2:=m0 (o:=i) (v:=.slice (some ⟨B,0,none⟩) (l.length+1) F) (I:=λ x=>Ft b (some g) gs x\/w.heap.size<=x) C0 (.inl (.inr (.inl rfl)));generalize w6.setCell ⟨g,i,none⟩ (.slice (some ⟨B,0,none⟩) (l.length+1) F)=w7 at *;have D1:=(O2 b hbg).trans C1;have F2:=o9 (o:=1) (v:=.int .i64 (n+1)) D1;have O3:∀x,x≠b->(w7.setCell ⟨b,1,none⟩ (.int .i64 (n+1))).heap[x]?=w7.heap[x]?:=λ x hx=>l9 D1 hx;have K3:=m0 (o:=1) (v:=.int .i64 (n+1)) (I:=λ x=>Ft b (some g) gs x\/w.heap.size<=x) D1 (.inl (.inl rfl))
 generalize w7.setCell ⟨b,1,none⟩ (.int .i64 (n+1))=w8 at *
 have H:Ft b (some g) gs B\/w.heap.size<=B:=by
  rcases Q with q | q
  ·exact .inl (.inr (.inr (q▸G)))
  exact .inr (by omega)
 refine ⟨rfl,gs.set i B,O.put hat ⟨eb,F2⟩ ⟨co,eo,E,?_⟩ (c2:=F) ?_ (λ j x P hx=>?_) ?_,fo ?_,λ x hx=>?_⟩
 ·rw [O3 g hbg',F1,Z]
 ·refine ⟨_,e2,by rw [O3 B N,O2 B M]; exact G3,by simp; simp at hz5; omega,?_,by rw [Z]; omega,by omega,by omega⟩;intro j u P;have X:_ <+: b7 _ _ [Value.int .u64 k.c,Value.int .i64 k.v,Value.int .i64 k.d]:=zo hsl hpre;rw [<- am2 _ _ _ _ _ (by rw [j9 (by simp; omega)]; simp; omega)] at X;obtain ⟨t,ht⟩:=X;have:j<(flat (l.take s++k::l.drop s)).length:=(zaa.1 P).1;simp only [zbh,zbi];rw [<- ht,zaw this];exact P
 ·have L:x∈gs:=zad hx;have x1:x≠b:=λ q=>n2 (q▸L);have x2:x≠g:=λ q=>n3 (q▸L)
  have x3:x≠S:=λ q=>by
   subst q;have:=(zax (zaa.1 hx).1 n4).1 (hx.trans Y.symm);exact P this
  have x4:=O.lt x (.inr (.inr L));rw [O3 x x1,O2 x x2,O1 x (D x x4 x3),A x x4 x3]
 ·rcases Q with q | q
  ·exact .inl (q▸Y)
  refine .inr ⟨N,M,λ hm=>?_⟩;have:=O.lt B (.inr (.inr hm));omega
 ·have kd:Keeps (λ x=>Ft b (some g) gs x\/w.heap.size<=x) w4 w4.drew:=⟨rfl,rfl,rfl,zaf _,λ _ _ _=>rfl⟩
  have k4:=hK4.mono (J:=λ x=>Ft b (some g) gs x\/w.heap.size<=x) λ x hx=>.inl (.inr (.inr (hx▸G)));have k5:=hK5.mono (J:=λ x=>Ft b (some g) gs x\/w.heap.size<=x) λ x hx=>hx▸H;have k6:=K1.mono (J:=λ x=>Ft b (some g) gs x\/w.heap.size<=x) λ x hx=>hx▸H;exact (((((((((n8.trans (W _)).trans (R _)).trans n8).trans k4).trans kd).trans k5).trans k6).trans K2).trans K3)
 rcases hx with q | q | q
 ·exact .inl (.inl q)
 ·exact .inl (.inr (.inl q))
 rcases zay q with q | q
 ·exact .inl (.inr (.inr q))
 exact q▸H

open Go Go.RowKit
theorem alh {w:World} {b g cap:Nat} {gs:List Nat} {ns:List (List Ky)} {n:Int} (L:TL w b (some g) gs cap ns n) (i:Nat) (l:List Ky) (hl:ns[i]?=some l) (N:l.length=33) (S:ns.length+1<=1000000) :
 Calls P0 48 #[.pointer (some ⟨b,0,none⟩),.int .i64 (i:Int)] w λ e w'=>(∃v,e=.returned v) /\
 ∃og' gs' cap',TL w' b og' gs' cap' (ns.take i++l.take 16::l.drop 16::ns.drop (i+1)) n/\Keeps (Ft b (some g) gs) w w'/\∀x,Ft b og' gs' x->Ft b (some g) gs x\/w.heap.size<=x:=by
 have hat:i<ns.length:=(zaa.1 hl).1;obtain ⟨c0,c1,f0,f1,hlt⟩:=L.root;obtain ⟨D,c,W,hrow,d2,f4⟩:=L.node hl;have i0:(0:Int)<=(i:Int):=by omega
 have i1:(i:Int)<(ns.length:Int):=by omega
 obtain ⟨iK,hiK,hzK,hsK,hbK⟩:=uk yp;obtain ⟨iR,hiR,hzR,hsR,hbR⟩:=uk aj3;obtain ⟨cs,e',hg3,hsz,hf,hlc,hc,hcm⟩:=hrow;have h16:(16:Int)<=(l.length:Int):=by omega
 have h16':¬c=16:=by omega
 have h16c:(16:Int)<=(c:Int):=by omega
 go_enter func48,Go.Proofs.Tryz.ntmps48
 go_wp2_with (at_builtin; refine ais ?_)
 intro _;have hnd:=L.nb;have O:D∈gs:=zad W;simp only [zav,zas,zam,zak,zab,not_or] at hnd;obtain ⟨⟨n1,n2⟩,n3,n4⟩:=hnd;have l1:=L.lt g (.inr (.inl rfl));have l2:=L.lt D (.inr (.inr O));have m1:b≠D:=λ q=>n2 (q▸O);have m2:g≠D:=λ q=>n3 (q▸O)
 refine wpList_plain rfl λ K hK=>atm (.tmp 13) (.tmp 15) _ _ rfl Go.Proofs.Tryz.underlying53 Go.Proofs.Tryz.underlying53 hiK hzK (by rw [hsK]; rfl) hsK hbK rfl rfl (by omega) (flat (l.drop 16))
  (jf (by rw [mh l2]; exact hg3) (by rw [q7,zap,N]) λ j u R=>hf (16*3+j) u (by rw [we (by omega)]; exact R)) (by rw [q7,zap,N]) yu (by simp [maxLen]) (by omega) ?_
 intro E csR Y hR1 hR2 hR3 hR4 hR5 hK2;refine hK _ _ ?_;rw [ze] at hR3 |-
 have z2:w.heap.size+1+1<=Y.heap.size:=by
  have:=(zan.1 hR3).1;omega
 have k2:∀I,Keeps I w Y:=λ I=>n8.trans (hK2 I);have Q:=L.keeps (k2 λ _=>False) (λ _ _ q=>q);obtain ⟨p0,p1,q0,q1,_⟩:=Q.root;obtain ⟨ho0,co,eo,hco1,hco2,Z⟩:=Q.out g rfl
 go_wp2_with (at_builtin; refine ais ?_)
 intro _
 refine wpList_plain rfl λ K hK=>aai (.tmp 21) (.tmp 22) _ _ rfl Go.Proofs.Tryz.underlying91 Go.Proofs.Tryz.underlying91 hiR hzR (by rw [hsR]; rfl) hsR hbR g ns.length cap rfl ho0 (by rw [mh (by omega)]; exact hco1) (by omega) L.le rfl [.slice none 0 0]
  (jf (ke rfl) rfl λ j u R=>by simpa using R) rfl (by intro u X; simp at X; subst X; rfl) (by simp only [maxLen]; omega) L.mx (by omega) ?_
 intro G B C e2 w4 M hc2 hlc2 hcm2 hg4 hsz2 hf2 hK4;refine hK _ _ ?_;have z4:(Y.alloc (.cells #[.slice none 0 0] 53)).heap.size=Y.heap.size+1:=ze;rw [z4] at M;have hGb:¬G=b:=λ q=>by rcases M with r | r; exact n1 (q▸r); omega
 have V:¬b=G:=λ q=>hGb q.symm
 have hs4:∀x,x<Y.heap.size->x≠g->w4.heap[x]?=Y.heap[x]?:=λ x h1 Q=>by
  rw [hK4.block x (by omega) Q,mh h1]
 obtain ⟨eb,heb⟩:=Q.hd;have B4:=(hs4 b (by omega) n1).trans heb;obtain ⟨vb,b0⟩:=oh (o:=0) B4 (by simp);have b1:=fu (o:=0) B4
 go_wp2_with fail
 have F5:=o9 (o:=0) (v:=.slice (some ⟨G,0,none⟩) (ns.length+1) B) B4;have O5:∀x,x≠b->(w4.setCell ⟨b,0,none⟩ (.slice (some ⟨G,0,none⟩) (ns.length+1) B)).heap[x]?=w4.heap[x]?:=λ x hx=>l9 B4 hx;have K5:=m0 (o:=0) (v:=.slice (some ⟨G,0,none⟩) (ns.length+1) B) (I:=(· = b)) B4 rfl;generalize w4.setCell ⟨b,0,none⟩ (.slice (some ⟨G,0,none⟩) (ns.length+1) B)=w5 at *;have G5:=(O5 G hGb).trans hg4;have c5:w5.cell? ⟨b,0,none⟩=some (.slice (some ⟨G,0,none⟩) (ns.length+1) B):=by simp [World.cell?,F5]
 have w1:IntKind.i64.wrap ((i:Int)+1)=(i:Int)+1:=a6 ⟨by omega,by omega⟩;have w2':IntKind.i64.wrap ((i:Int)+2)=(i:Int)+2:=a6 ⟨by omega,by omega⟩;have j1:(0:Int)<=(i:Int)+1:=by omega
 have j2:(i:Int)+1<=(ns.length:Int)+1:=by omega
 have j3:(0:Int)<=(i:Int)+2:=by omega
 have j4:(i:Int)+2<=(ns.length:Int)+1:=by omega
 have hcs1:∀u∈(C.toList.drop (i+1)).take ((ns.length-i-1)*1),u.oneCell'=true:=by
  intro u X;obtain ⟨j,R⟩:=zag.1 X;rw [zat] at R;split at R
  ·rw [zbj,zbs,hf2 _ (by omega)] at R;rcases zac.1 (zad R) with q | q
   ·obtain ⟨z,U⟩:=zag.1 q;rw [zat] at U;split at U
    ·rename_i hzl;obtain ⟨_,hy,_⟩:=Z z (gs[z]'(by rw [L.len]; omega)) ns[z] (by simp) (by simp);rw [zbs,hy] at U;cases U
     rfl
    cases U
   simp at q; subst q; rfl
  cases R
 go_region_held3 (λ w'=>w'.cell? ⟨b,0,none⟩=some (.slice (some ⟨G,0,none⟩) (ns.length+1) B)) (first | assumption | exact (n9 (T.block b (zan.1 F5).1 V) 0).trans c5)
  ((refine xz rfl (aiy (.tmp 32) (.tmp 39) _ _ rfl Go.Proofs.Tryz.underlying91 hiR hsR G (i+2) (i+1) (ns.length-i-1) G5 rfl rfl (by simp only [Nat.min_def]; split<;>omega) (λ S=>⟨if_neg (by omega),if_neg (by omega)⟩) (by omega) (by omega) hcs1 ?_); intro w6 H T))
 generalize Value.slice (if B=((i:Int)+2).toNat then some ⟨G,0,none⟩ else some ⟨G,((i:Int)+2).toNat,none⟩) (ns.length+1-((i:Int)+2).toNat) (B-((i:Int)+2).toNat)=V32;have nc1:¬B=i+1:=by omega
 have hB6:w6.heap[b]?=w5.heap[b]?:=T.block b (zan.1 F5).1 V;have c6:w6.cell? ⟨b,0,none⟩=some (.slice (some ⟨G,0,none⟩) (ns.length+1) B):=(n9 hB6 0).trans c5
 have hz6:(b7 C.toList (i+2) ((C.toList.drop (i+1)).take ((ns.length-i-1)*1))).toArray.size=C.size:=by
  rw [List.size_toArray,j9 (by simp; omega)]; simp
 obtain ⟨u0,d0⟩:=oh H (o:=i) (by omega);obtain ⟨u1,d1⟩:=oh H (o:=i+1) (by omega);have t0:=fu (o:=i) H;have t1:=fu (o:=i+1) H;have j5:(i:Int)<(ns.length:Int)+1:=by omega
 have j6:(i:Int)+1<(ns.length:Int)+1:=by omega
 go_wp2_with fail
 go_region_held3 (λ w'=>w'.cell? ⟨b,0,none⟩=some (.slice (some ⟨G,0,none⟩) (ns.length+1) B)) (go_keep) (fail)
 refine bodyPost_end (results_none rfl _ _ _) rfl ?_;have G7:=o9 (o:=i) (v:=.slice (some ⟨D,0,none⟩) 16 16) H;have G8:=o9 (o:=i+1) (v:=.slice (some ⟨w.heap.size+1,0,none⟩) 17 E) G7
 have O8:∀x,x≠G->((w6.setCell ⟨G,i,none⟩ (.slice (some ⟨D,0,none⟩) 16 16)).setCell ⟨G,i+1,none⟩ (.slice (some ⟨w.heap.size+1,0,none⟩) 17 E)).heap[x]?=w6.heap[x]?:=λ x hx=>by
  rw [l9 G7 hx,l9 H hx]
 have K8:Keeps (· = G) w6 ((w6.setCell ⟨G,i,none⟩ (.slice (some ⟨D,0,none⟩) 16 16)).setCell ⟨G,i+1,none⟩ (.slice (some ⟨w.heap.size+1,0,none⟩) 17 E)):=(m0 (I:=(· = G)) H rfl).trans (m0 (I:=(· = G)) G7 rfl);generalize (w6.setCell ⟨G,i,none⟩ (.slice (some ⟨D,0,none⟩) 16 16)).setCell ⟨G,i+1,none⟩ (.slice (some ⟨w.heap.size+1,0,none⟩) 17 E)=w8 at *;have P:(ns.take i++l.take 16::l.drop 16::ns.drop (i+1)).length=ns.length+1:=by simp; omega
 have hs8:∀x,x<Y.heap.size->x≠g->x≠b->w8.heap[x]?=Y.heap[x]?:=λ x h1 Q h3=>by
  have hxG:x≠G:=λ q=>by rcases M with r | r; exact Q (q.trans r); omega
  have s4:=hK4.size;have s5:=K5.size;rw [O8 x hxG,T.block x (show x<w5.heap.size by omega) hxG,show w5.drew.heap=w5.heap from rfl,O5 x h3,hs4 x h1 Q]
 have hGf:G∉gs:=λ S=>by
  rcases M with r | r
  ·exact n3 (r▸S)
  have:=Q.lt G (.inr (.inr S)); omega
 have kd:Keeps (λ x=>Ft b (some g) gs x\/w.heap.size<=x) w8 w8.drew:=⟨rfl,rfl,rfl,zaf _,λ _ _ _=>rfl⟩
 have hI2:Ft b (some g) gs G\/w.heap.size<=G:=by
  rcases M with q | q
  ·exact .inl (.inr (.inl (by rw [q])))
  exact .inr (by omega)
 refine ⟨⟨_,rfl⟩,some G,gs.take i++D::(w.heap.size+1)::gs.drop (i+1),B,⟨⟨eb,?_⟩,by rw [P]; exact hlc2,hcm2,by simp,λ G' hG'=>?_,?_,?_⟩,?_,λ x hx=>?_⟩
 ·show w8.heap[b]? = _;rw [O8 b V,hB6,F5,P]
  rfl
 ·cases hG';refine ⟨hc2,_,_,G8,by simp at hz6 |-; omega,λ j x F hx A=>?_⟩;have R:j<ns.length+1:=by rw [<- P]; exact (zaa.1 A).1
  rw [aya (by rw [L.len]; exact hat)] at hx;rw [aya hat] at A;simp only [zbh,zbi,zbk,List.length_set];have hspl:(b7 C.toList (i+2) ((C.toList.drop (i+1)).take ((ns.length-i-1)*1))).length=C.size:=by simpa using hz6
  have hmid:∀z,z<ns.length->∀x F,gs[z]?=some x->ns[z]?=some F->x≠D->∃c,C[z]?=some (.slice (some ⟨x,0,none⟩) F.length c)/\ml w8.drew x F c:=λ z U x F h1' h2' hx'=>by
   obtain ⟨c',q1,q2⟩:=Z z x F h1' h2';refine ⟨c',?_,q2.loc ?_⟩
   ·rw [hf2 z (by omega),zaw (by simp; have:=(zan.1 q1).1; omega),zat,if_pos (by omega)];simpa using q1
   have hxm:x∈gs:=zad h1';exact hs8 x (Q.lt x (.inr (.inr hxm))) (λ q=>n3 (q▸hxm)) (λ q=>n2 (q▸hxm))
  have hne:∀z x,gs[z]?=some x->z≠i->x≠D:=λ z x U hzi q=>by
   subst q;exact hzi ((zax (zaa.1 U).1 n4).1 (U.trans W.symm))
  have hsa:=u9 (l:=C.toList) (m:=(C.toList.drop (i+1)).take ((ns.length-i-1)*1)) (i:=i+2) (by simp; omega);have hsl:((C.toList.drop (i+1)).take ((ns.length-i-1)*1)).length=ns.length-i-1:=by simp; omega
  by_cases p1:j<i
  ·rw [if_pos p1] at hx A;rw [if_neg (by omega),if_neg (by omega),hsa,if_neg (by omega)];simpa using hmid j (by omega) x F hx A (hne j x hx (by omega))
  rw [if_neg p1] at hx A;by_cases p2:j=i
  ·rw [if_pos p2] at hx A;cases hx; cases A;subst p2;rw [if_neg (by omega),if_pos rfl,if_pos (by omega)];refine ⟨16,by simp [N],⟨cs,e',?_,by omega,λ q u X=>hf q u (acd X),by simp only [zbl]; omega,by omega,by simp [maxLen]⟩⟩;show w8.heap[D]? = _;rw [hs8 D (by omega) m2.symm m1.symm,(k2 λ _=>False).block D l2 (λ q=>q)];exact hg3
  rw [if_neg p2] at hx A;by_cases p3:j=i+1
  ·rw [if_pos p3] at hx A;cases hx; cases A;subst p3;rw [if_pos rfl,if_pos (by omega)];refine ⟨E,by simp [N],⟨csR,55,?_,hR4,λ q u X=>?_,by simp [N]; omega,by omega,hR2⟩⟩
   ·show w8.heap[w.heap.size+1]? = _;rw [hs8 (w.heap.size+1) (by omega) (by omega) (by omega)];exact hR3
   rw [hR5 q ?_]
   ·exact X
   have:=(zaa.1 X).1;rw [q7,zap,N] at this;omega
  rw [if_neg p3] at hx A;rw [if_neg (by omega),if_neg (by omega),hsa,if_pos (by omega),zat,if_pos (by omega),zbj,show i+1+(j-(i+2))=j-1 by omega];simpa using hmid (j-1) (by omega) x F hx A (hne (j-1) x hx (by omega))
 ·simp [L.len]
 ·have h9:=L.lt;have hnb:w.heap.size+1∉gs:=λ S=>by have:=L.lt _ (.inr (.inr S)); omega
  simp only [zav,zas,zam,zak,zab,not_or]
  have hsub:∀x,x∈gs.take i++D::(w.heap.size+1)::gs.drop (i+1)->x∈gs\/x=w.heap.size+1:=λ x hx=>by
   rcases zac.1 hx with q | q
   ·exact .inl (zcd q)
   rcases zab.1 q with q | q
   ·exact .inl (q▸O)
   rcases zab.1 q with q | q
   ·exact .inr q
   exact .inl (zce q)
  refine ⟨⟨V,λ S=>?_⟩,λ S=>?_,?_⟩
  ·rcases hsub b S with q | q
   ·exact n2 q
   omega
  ·rcases hsub G S with q | q
   ·exact hGf q
   rcases M with r | r<;>omega
  have hperm:(gs.take i++D::(w.heap.size+1)::gs.drop (i+1)).Perm ((w.heap.size+1)::gs):=by
   have e1:gs=gs.take i++D::gs.drop (i+1):=by
    have hi:i<gs.length:=by rw [L.len]; exact hat
    have:gs[i]=D:=by rw [zbm hi] at W; exact Option.some.inj W
    rw [<- this,zcf,zaz]
   have e2:(gs.take i++D::(w.heap.size+1)::gs.drop (i+1))=(gs.take i++[D])++(w.heap.size+1)::gs.drop (i+1):=by simp
   rw [e2];refine List.perm_middle.trans ?_;refine List.Perm.cons _ ?_;rw [zbt];exact e1▸List.Perm.refl _
  exact hperm.nodup_iff.2 (zak.2 ⟨hnb,n4⟩)
 ·have k4:=hK4.mono (J:=λ x=>Ft b (some g) gs x\/w.heap.size<=x) λ x hx=>.inl (.inr (.inl (by rw [hx])));have k5:=K5.mono (J:=λ x=>Ft b (some g) gs x\/w.heap.size<=x) λ x hx=>.inl (.inl hx);have kd5:Keeps (λ x=>Ft b (some g) gs x\/w.heap.size<=x) w5 w5.drew:=⟨rfl,rfl,rfl,zaf _,λ _ _ _=>rfl⟩
  have k6:=T.mono (J:=λ x=>Ft b (some g) gs x\/w.heap.size<=x) λ x hx=>hx▸hI2;have k8:=K8.mono (J:=λ x=>Ft b (some g) gs x\/w.heap.size<=x) λ x hx=>hx▸hI2;exact fo ((((((((k2 _).trans n8).trans k4).trans k5).trans kd5).trans k6).trans k8).trans kd)
 rcases hx with q | q | q
 ·exact .inl (.inl q)
 ·cases q; exact hI2
 rcases zac.1 q with q | q
 ·exact .inl (.inr (.inr (zcd q)))
 rcases zab.1 q with q | q
 ·exact .inl (.inr (.inr (q▸O)))
 rcases zab.1 q with q | q
 ·exact .inr (by omega)
 exact .inl (.inr (.inr (zce q)))

open Go Go.RowKit
theorem axd {w:World} {b cap:Nat} {og:Option Nat} {gs:List Nat} {ns:List (List Ky)} {n:Int} (h:TL w b og gs cap ns n) (k:Ky) (r s:Nat) (l:List Ky) (hN:Nod ns k r) (hl:ns[r-1]?=some l) (hP:Plc l k s) (hs:l[s]?≠some k) (hlen:l.length<=32) (hlen2:32<=l.length) (hm:ns.length+1<=1000000) (hn0:0<=n) (hn1:n<9223372036854775807) :
 Calls P0 26 #[.pointer (some ⟨b,0,none⟩),k.val] w λ e w'=>e=.returned (.bool true) /\
 ∃U C G,TL w' b U C G (ns.take (r-1)++(l.take s++k::l.drop s).take 16::(l.take s++k::l.drop s).drop 16::ns.drop (r-1+1)) (n+1)/\Keeps (Ft b og gs) w w'/\∀x,Ft b U C x->Ft b og gs x\/w.heap.size<=x:=by
 obtain ⟨g,rfl⟩:=h.some_ hl;have hat:r-1<ns.length:=(zaa.1 hl).1;generalize hr:r-1=i at *;obtain ⟨c0,c1,f0,f1,hlt⟩:=h.root;have hne:((ns.length:Int) == 0)=false:=by rw [beq_eq_false_iff_ne]; omega
 have hk0:∀x,Keeps (λ _=>False) w (w.alloc x):=λ x=>n8;have i0:(0:Int)<=(i:Int):=by omega
 have i1:(i:Int)<(ns.length:Int):=by omega
 obtain ⟨iK,hiK,hzK,hsK,hbK⟩:=uk yp;simp only [Ky.val]
 go_enter func26,Go.Proofs.Tryz.ntmps26
 go_wp2_with fail
 have h1:=h.keeps (hk0 (.cells #[.int .u64 k.c,.int .i64 k.v,.int .i64 k.d] 55)) (λ _ _ q=>q);have b1:KB (w.alloc (.cells #[.int .u64 k.c,.int .i64 k.v,.int .i64 k.d] 55)) w.heap.size k:=ke rfl;refine (aat h1 k r hN).mono ?_;rintro e w2 ⟨rfl,hK2⟩;rw [hr];have h2:=h1.keeps (hK2 λ _=>False) (λ _ _ q=>q);have b2:=b1.keeps (hK2 λ _=>False) (λ q=>q);obtain ⟨d0,d1,f2,f3,_⟩:=h2.root;obtain ⟨W,c,hg',X,d2,f4⟩:=h2.node hl;obtain ⟨k0,k1,k2⟩:=b2.cells
 go_wp2_with fail
 refine (aa1 X k s hP).mono ?_;rintro e w3 ⟨rfl,V⟩;rw [decide_eq_false hs];have R:=h2.keeps (V λ _=>False) (λ _ _ q=>q);have b3:=b2.keeps (V λ _=>False) (λ q=>q);have hrow3:ml w3 W l c:=X.loc ((V λ _=>False).block W X.lt λ q=>q);clear d0 d1 f2 f3 d2 f4 k0 k1 k2;obtain ⟨k0,k1,k2⟩:=b3.cells
 go_wp2_with (at_builtin; refine ais ?_)
 intro _;obtain ⟨cs,e',hg3,hsz,hf,hlc,hc,hcm⟩:=hrow3;have hl3:W<w3.heap.size:=(zan.1 hg3).1
 refine wpList_plain rfl λ K hK=>aai (.tmp 41) (.tmp 43) _ _ rfl Go.Proofs.Tryz.underlying53 Go.Proofs.Tryz.underlying53 hiK hzK (by rw [hsK]; rfl) hsK hbK W l.length c rfl hc (by rw [mh hl3]; exact hg3) hsz hlc rfl (kc k)
  (jf (ke rfl) rfl λ j u S=>by simpa [kc] using S) rfl (by simp [kc,Value.oneCell']) (by simp only [maxLen]; omega) hcm (by omega) ?_
 intro B H Y e2 w4 T hc2 hlc2 hcm2 hg4 hsz2 hf2 hK4;refine hK _ _ ?_;have hsl:s<=l.length:=hP.le;have w1:IntKind.i64.wrap ((s:Int)+1)=(s:Int)+1:=a6 ⟨by omega,by omega⟩;have j0:(0:Int)<=(s:Int):=by omega
 have j1:(s:Int)<=(l.length:Int)+1:=by omega
 have j2:(0:Int)<=(s:Int)+1:=by omega
 have j3:(s:Int)+1<=(l.length:Int)+1:=by omega
 go_wp2_with fail
 have hpre:(flat l++kc k) <+: Y.toList:=by
  exact alv (q7 l) hf (λ j S=>hf2 j (by rw [show (kc k).length=3 from rfl] at S; omega)) (by rw [show (kc k).length=3 from rfl]; omega)
 have hone:∀u∈(Y.toList.drop (s*3)).take ((l.length-s)*3),u.oneCell'=true:=ali hpre (λ u hu=>by
  rcases zac.1 hu with hu | hu
  ·exact yu u hu
  simp [kc] at hu; rcases hu with rfl | rfl | rfl<;>rfl) (by rw [zao,q7,show (kc k).length=3 from rfl]; omega)
 go_region_held3 (λ _=>True) (trivial) ((refine xz rfl (aiy (.tmp 48) (.tmp 51) _ _ rfl Go.Proofs.Tryz.underlying53 hiK hsK B ((s+1)*3) (s*3) (l.length-s) hg4 rfl rfl (by simp only [Nat.min_def]; split<;>omega) (λ hm=>⟨if_neg (by omega),if_neg (by omega)⟩) (by omega) (by omega) hone ?_); intro Z D hK5))
 have hnd:=h.nb;have L:W∈gs:=zad hg';simp only [zav,zas,zam,zak,zab,not_or] at hnd;obtain ⟨⟨n1,n2⟩,n3,n4⟩:=hnd;have l1:=h.lt g (.inr (.inl rfl));have l2:=h.lt W (.inr (.inr L))
 have z2:w.heap.size+1<=w3.heap.size:=by
  have a1:=(hK2 λ _=>False).size;have a2:=(V λ _=>False).size;have a3:(w.alloc (.cells #[.int .u64 k.c,.int .i64 k.v,.int .i64 k.d] 55)).heap.size=w.heap.size+1:=ze;omega
 have z3:(w3.alloc (.cells #[.int .u64 k.c,.int .i64 k.v,.int .i64 k.d] 55)).heap.size=w3.heap.size+1:=ze;rw [z3] at T;have E:∀x,x<w3.heap.size->x≠W->x≠B:=λ x h1 h2 R=>by rcases T with q | q<;>omega
 have A:∀x,x<w3.heap.size->x≠W->Z.heap[x]?=w3.heap[x]?:=λ x h1 h2=>by
  rw [hK5.block x (Nat.lt_of_lt_of_le (by rw [z3]; omega) hK4.size) (E x h1 h2),show w4.drew.heap=w4.heap from rfl,hK4.block x (by rw [z3]; omega) h2,mh h1]
 have m1:b≠W:=λ q=>n2 (q▸L);have m2:g≠W:=λ q=>n3 (q▸L);have hgb:¬b=B:=E b (by omega) m1;have hgg:¬g=B:=E g (by omega) m2;have hgh:¬w.heap.size=B:=E _ (by omega) (by omega);have Q:¬B=b:=λ q=>hgb q.symm;have P:¬B=g:=λ q=>hgg q.symm;have hgh':¬B=w.heap.size:=λ q=>hgh q.symm;have hbg:¬b=g:=n1;have hbg':¬g=b:=λ q=>n1 q.symm;obtain ⟨p0,p1,q0,q1,_⟩:=R.root;obtain ⟨_,_,_,_,p2,q2⟩:=R.node hl;have e0:=(n9 (A b (by omega) m1) 0).trans p0;have e1:=(n9 (A b (by omega) m1) 1).trans p1;have r0:=(aa (A b (by omega) m1) 0).trans q0;have r1:=(aa (A b (by omega) m1) 1).trans q1;have e3:=(n9 (A g (by omega) m2) i).trans p2;have r2:=(aa (A g (by omega) m2) i).trans q2
 have e4:=(n9 (A w.heap.size (by omega) (by omega)) 0).trans k0;have e5:=(n9 (A w.heap.size (by omega) (by omega)) 1).trans k1;have e6:=(n9 (A w.heap.size (by omega) (by omega)) 2).trans k2
 have hz5:(b7 Y.toList ((s+1)*3) ((Y.toList.drop (s*3)).take ((l.length-s)*3))).toArray.size=Y.size:=by
  rw [List.size_toArray,j9 (by simp; omega)]; simp
 obtain ⟨v0,e7⟩:=oh D (o:=s*3) (by omega);obtain ⟨v1,e8⟩:=oh D (o:=s*3+1) (by omega);obtain ⟨v2,e9⟩:=oh D (o:=s*3+2) (by omega);have r3:=fu (o:=s*3) D;have r4:=fu (o:=s*3+1) D;have r5:=fu (o:=s*3+2) D;have wn:IntKind.i64.wrap (n+1)=n+1:=a6 ⟨by omega,by omega⟩;have j4:(s:Int)<(l.length:Int)+1:=by omega
 have j5:(32:Int)<(l.length:Int)+1:=by omega
 clear k0 k1 k2 p0 p1 q0 q1 p2 q2
 go_wp2_with fail
 ·obtain ⟨ho0,ho⟩:=R.out g rfl;obtain ⟨co,eo,F,hco2,hco4⟩:=ho;obtain ⟨eb,heb⟩:=R.hd;have G0:=(A g (by omega) m2).trans F;have B0:=(A b (by omega) m1).trans heb;have G1:=o9 (o:=s*3) (v:=.int .u64 k.c) D;have G2:=o9 (o:=s*3+1) (v:=.int .i64 k.v) G1;have G3:=o9 (o:=s*3+2) (v:=.int .i64 k.d) G2
  have O1:∀x,x≠B->(((Z.setCell ⟨B,s*3,none⟩ (.int .u64 k.c)).setCell ⟨B,s*3+1,none⟩ (.int .i64 k.v)).setCell ⟨B,s*3+2,none⟩ (.int .i64 k.d)).heap[x]?=Z.heap[x]?:=λ x hx=>by
   rw [l9 G2 hx,l9 G1 hx,l9 D hx]
  have K1:Keeps (· = B) Z (((Z.setCell ⟨B,s*3,none⟩ (.int .u64 k.c)).setCell ⟨B,s*3+1,none⟩ (.int .i64 k.v)).setCell ⟨B,s*3+2,none⟩ (.int .i64 k.d)):=((m0 (I:=(· = B)) D rfl).trans (m0 (I:=(· = B)) G1 rfl)).trans (m0 (I:=(· = B)) G2 rfl);generalize ((Z.setCell ⟨B,s*3,none⟩ (.int .u64 k.c)).setCell ⟨B,s*3+1,none⟩ (.int .i64 k.v)).setCell ⟨B,s*3+2,none⟩ (.int .i64 k.d)=w6 at *;have C0:=(O1 g hgg).trans G0;have C1:=(O1 b hgb).trans B0;have N:(l.take s++k::l.drop s).length=l.length+1:=by simp; omega
  have F1:=o9 (o:=i) (v:=.slice (some ⟨B,0,none⟩) (l.length+1) (s+1)) C0;have O2:∀x,x≠g->(w6.setCell ⟨g,i,none⟩ (.slice (some ⟨B,0,none⟩) (l.length+1) (s+1))).heap[x]?=w6.heap[x]?:=λ x hx=>l9 C0 hx;have K2:=m0 (o:=i) (v:=.slice (some ⟨B,0,none⟩) (l.length+1) (s+1)) (I:=λ x=>Ft b (some g) gs x\/w.heap.size<=x) C0 (.inl (.inr (.inl rfl)));generalize w6.setCell ⟨g,i,none⟩ (.slice (some ⟨B,0,none⟩) (l.length+1) (s+1))=w7 at *;have D1:=(O2 b hbg).trans C1;have F2:=o9 (o:=1) (v:=.int .i64 (n+1)) D1;have O3:∀x,x≠b->(w7.setCell ⟨b,1,none⟩ (.int .i64 (n+1))).heap[x]?=w7.heap[x]?:=λ x hx=>l9 D1 hx
  have K3:=m0 (o:=1) (v:=.int .i64 (n+1)) (I:=λ x=>Ft b (some g) gs x\/w.heap.size<=x) D1 (.inl (.inl rfl));generalize w7.setCell ⟨b,1,none⟩ (.int .i64 (n+1))=w8 at *
  have M:Ft b (some g) gs B\/w.heap.size<=B:=by
   rcases T with q | q
   ·exact .inl (.inr (.inr (q▸L)))
   exact .inr (by omega)
  have hfin:∃C,TL w8 b (some g) C cap (ns.set i (l.take s++k::l.drop s)) (n+1)/\Keeps (Ft b (some g) gs) w w8/\∀x,Ft b (some g) C x->Ft b (some g) gs x\/w.heap.size<=x:=by
   refine ⟨gs.set i B,R.put hat ⟨eb,F2⟩ ⟨co,eo,F,?_⟩ (c2:=(s+1)) ?_ (λ j x S hx=>?_) ?_,fo ?_,λ x hx=>?_⟩
   ·rw [O3 g hbg',F1,N]
   ·refine ⟨_,e2,by rw [O3 B Q,O2 B P]; exact G3,by simp; simp at hz5; omega,?_,by rw [N]; omega,by omega,by omega⟩;intro j u S;have hpi:_ <+: b7 _ _ [Value.int .u64 k.c,Value.int .i64 k.v,Value.int .i64 k.d]:=zo hsl hpre;rw [<- am2 _ _ _ _ _ (by rw [j9 (by simp; omega)]; simp; omega)] at hpi;obtain ⟨t,ht⟩:=hpi;have:j<(flat (l.take s++k::l.drop s)).length:=(zaa.1 S).1;simp only [zbh,zbi];rw [<- ht,zaw this];exact S
   ·have O:x∈gs:=zad hx;have x1:x≠b:=λ q=>n2 (q▸O);have x2:x≠g:=λ q=>n3 (q▸O)
    have x3:x≠W:=λ q=>by
     subst q;have:=(zax (zaa.1 hx).1 n4).1 (hx.trans hg'.symm);exact S this
    have x4:=R.lt x (.inr (.inr O));rw [O3 x x1,O2 x x2,O1 x (E x x4 x3),A x x4 x3]
   ·rcases T with q | q
    ·exact .inl (q▸hg')
    refine .inr ⟨Q,P,λ hm=>?_⟩;have:=R.lt B (.inr (.inr hm));omega
   ·have kd:Keeps (λ x=>Ft b (some g) gs x\/w.heap.size<=x) w4 w4.drew:=⟨rfl,rfl,rfl,zaf _,λ _ _ _=>rfl⟩
    have k4:=hK4.mono (J:=λ x=>Ft b (some g) gs x\/w.heap.size<=x) λ x hx=>.inl (.inr (.inr (hx▸L)));have k5:=hK5.mono (J:=λ x=>Ft b (some g) gs x\/w.heap.size<=x) λ x hx=>hx▸M;have k6:=K1.mono (J:=λ x=>Ft b (some g) gs x\/w.heap.size<=x) λ x hx=>hx▸M;exact (((((((((n8.trans (hK2 _)).trans (V _)).trans n8).trans k4).trans kd).trans k5).trans k6).trans K2).trans K3)
   rcases hx with q | q | q
   ·exact .inl (.inl q)
   ·exact .inl (.inr (.inl q))
   rcases zay q with q | q
   ·exact .inl (.inr (.inr q))
   exact q▸M
  obtain ⟨gs2,T8,K8',F8⟩:=hfin;have hl8:(ns.set i (l.take s++k::l.drop s))[i]?=some (l.take s++k::l.drop s):=by simp [hat]
  refine (alh T8 i _ hl8 (by rw [N]; omega) (by simpa using hm)).mono ?_;rintro e w9 ⟨⟨v,rfl⟩,U,C,G,T9,K9,F9⟩
  go_wp2_with fail
  go_ret
  refine ⟨rfl,U,C,G,?_,?_,λ x hx=>?_⟩
  ·have ta:(ns.set i (l.take s++k::l.drop s)).take i=ns.take i:=by rw [List.take_set_of_le (zaf _)]
   have da:(ns.set i (l.take s++k::l.drop s)).drop (i+1)=ns.drop (i+1):=by rw [List.drop_set_of_lt (by omega)]
   rw [ta,da] at T9;exact T9
  ·refine fo ((K8'.mono λ x hx=>.inl hx).trans (K9.mono λ x hx=>F8 x hx))
  rcases F9 x hx with q | q
  ·exact F8 x q
  have:=K8'.size; exact .inr (by omega)
 obtain ⟨ho0,ho⟩:=R.out g rfl;obtain ⟨co,eo,F,hco2,hco4⟩:=ho;obtain ⟨eb,heb⟩:=R.hd;have G0:=(A g (by omega) m2).trans F;have B0:=(A b (by omega) m1).trans heb;have G1:=o9 (o:=s*3) (v:=.int .u64 k.c) D;have G2:=o9 (o:=s*3+1) (v:=.int .i64 k.v) G1;have G3:=o9 (o:=s*3+2) (v:=.int .i64 k.d) G2
 have O1:∀x,x≠B->(((Z.setCell ⟨B,s*3,none⟩ (.int .u64 k.c)).setCell ⟨B,s*3+1,none⟩ (.int .i64 k.v)).setCell ⟨B,s*3+2,none⟩ (.int .i64 k.d)).heap[x]?=Z.heap[x]?:=λ x hx=>by
  rw [l9 G2 hx,l9 G1 hx,l9 D hx]
 have K1:Keeps (· = B) Z (((Z.setCell ⟨B,s*3,none⟩ (.int .u64 k.c)).setCell ⟨B,s*3+1,none⟩ (.int .i64 k.v)).setCell ⟨B,s*3+2,none⟩ (.int .i64 k.d)):=((m0 (I:=(· = B)) D rfl).trans (m0 (I:=(· = B)) G1 rfl)).trans (m0 (I:=(· = B)) G2 rfl);generalize ((Z.setCell ⟨B,s*3,none⟩ (.int .u64 k.c)).setCell ⟨B,s*3+1,none⟩ (.int .i64 k.v)).setCell ⟨B,s*3+2,none⟩ (.int .i64 k.d)=w6 at *;have C0:=(O1 g hgg).trans G0;have C1:=(O1 b hgb).trans B0;have N:(l.take s++k::l.drop s).length=l.length+1:=by simp; omega
 have F1:=o9 (o:=i) (v:=.slice (some ⟨B,0,none⟩) (l.length+1) H) C0;have O2:∀x,x≠g->(w6.setCell ⟨g,i,none⟩ (.slice (some ⟨B,0,none⟩) (l.length+1) H)).heap[x]?=w6.heap[x]?:=λ x hx=>l9 C0 hx;have K2:=m0 (o:=i) (v:=.slice (some ⟨B,0,none⟩) (l.length+1) H) (I:=λ x=>Ft b (some g) gs x\/w.heap.size<=x) C0 (.inl (.inr (.inl rfl)));generalize w6.setCell ⟨g,i,none⟩ (.slice (some ⟨B,0,none⟩) (l.length+1) H)=w7 at *;have D1:=(O2 b hbg).trans C1;have F2:=o9 (o:=1) (v:=.int .i64 (n+1)) D1;have O3:∀x,x≠b->(w7.setCell ⟨b,1,none⟩ (.int .i64 (n+1))).heap[x]?=w7.heap[x]?:=λ x hx=>l9 D1 hx;have K3:=m0 (o:=1) (v:=.int .i64 (n+1)) (I:=λ x=>Ft b (some g) gs x\/w.heap.size<=x) D1 (.inl (.inl rfl))
 generalize w7.setCell ⟨b,1,none⟩ (.int .i64 (n+1))=w8 at *
 have M:Ft b (some g) gs B\/w.heap.size<=B:=by
  rcases T with q | q
  ·exact .inl (.inr (.inr (q▸L)))
  exact .inr (by omega)
 have hfin:∃C,TL w8 b (some g) C cap (ns.set i (l.take s++k::l.drop s)) (n+1)/\Keeps (Ft b (some g) gs) w w8/\∀x,Ft b (some g) C x->Ft b (some g) gs x\/w.heap.size<=x:=by
  refine ⟨gs.set i B,R.put hat ⟨eb,F2⟩ ⟨co,eo,F,?_⟩ (c2:=H) ?_ (λ j x S hx=>?_) ?_,fo ?_,λ x hx=>?_⟩
  ·rw [O3 g hbg',F1,N]
  ·refine ⟨_,e2,by rw [O3 B Q,O2 B P]; exact G3,by simp; simp at hz5; omega,?_,by rw [N]; omega,by omega,by omega⟩;intro j u S;have hpi:_ <+: b7 _ _ [Value.int .u64 k.c,Value.int .i64 k.v,Value.int .i64 k.d]:=zo hsl hpre;rw [<- am2 _ _ _ _ _ (by rw [j9 (by simp; omega)]; simp; omega)] at hpi;obtain ⟨t,ht⟩:=hpi;have:j<(flat (l.take s++k::l.drop s)).length:=(zaa.1 S).1;simp only [zbh,zbi];rw [<- ht,zaw this];exact S
  ·have O:x∈gs:=zad hx;have x1:x≠b:=λ q=>n2 (q▸O);have x2:x≠g:=λ q=>n3 (q▸O)
   have x3:x≠W:=λ q=>by
    subst q;have:=(zax (zaa.1 hx).1 n4).1 (hx.trans hg'.symm);exact S this
   have x4:=R.lt x (.inr (.inr O));rw [O3 x x1,O2 x x2,O1 x (E x x4 x3),A x x4 x3]
  ·rcases T with q | q
   ·exact .inl (q▸hg')
   refine .inr ⟨Q,P,λ hm=>?_⟩;have:=R.lt B (.inr (.inr hm));omega
  ·have kd:Keeps (λ x=>Ft b (some g) gs x\/w.heap.size<=x) w4 w4.drew:=⟨rfl,rfl,rfl,zaf _,λ _ _ _=>rfl⟩
   have k4:=hK4.mono (J:=λ x=>Ft b (some g) gs x\/w.heap.size<=x) λ x hx=>.inl (.inr (.inr (hx▸L)));have k5:=hK5.mono (J:=λ x=>Ft b (some g) gs x\/w.heap.size<=x) λ x hx=>hx▸M;have k6:=K1.mono (J:=λ x=>Ft b (some g) gs x\/w.heap.size<=x) λ x hx=>hx▸M;exact (((((((((n8.trans (hK2 _)).trans (V _)).trans n8).trans k4).trans kd).trans k5).trans k6).trans K2).trans K3)
  rcases hx with q | q | q
  ·exact .inl (.inl q)
  ·exact .inl (.inr (.inl q))
  rcases zay q with q | q
  ·exact .inl (.inr (.inr q))
  exact q▸M
 obtain ⟨gs2,T8,K8',F8⟩:=hfin;have hl8:(ns.set i (l.take s++k::l.drop s))[i]?=some (l.take s++k::l.drop s):=by simp [hat]
 refine (alh T8 i _ hl8 (by rw [N]; omega) (by simpa using hm)).mono ?_;rintro e w9 ⟨⟨v,rfl⟩,U,C,G,T9,K9,F9⟩
 go_wp2_with fail
 go_ret
 refine ⟨rfl,U,C,G,?_,?_,λ x hx=>?_⟩
 ·have ta:(ns.set i (l.take s++k::l.drop s)).take i=ns.take i:=by rw [List.take_set_of_le (zaf _)]
  have da:(ns.set i (l.take s++k::l.drop s)).drop (i+1)=ns.drop (i+1):=by rw [List.drop_set_of_lt (by omega)]
  rw [ta,da] at T9;exact T9
 ·refine fo ((K8'.mono λ x hx=>.inl hx).trans (K9.mono λ x hx=>F8 x hx))
 rcases F9 x hx with q | q
 ·exact F8 x q
 have:=K8'.size; exact .inr (by omega)

open Go Go.RowKit
theorem ayn {w:World} {b cap:Nat} {og:Option Nat} {gs:List Nat} {n:Int} (h:TL w b og gs cap [] n) (k:Ky):Calls P0 28 #[.pointer (some ⟨b,0,none⟩),k.val] w λ e w'=>e=.returned (.bool false) /\
 TL w' b og gs cap [] n/\∀I,Keeps I w w':=by
 obtain ⟨e,A⟩:=h.hd;have C:=h.lt b (.inl rfl);have hc:w.cell? ⟨b,0,none⟩=some (.slice (adr og) 0 cap):=by simp [World.cell?,A]
 have B:=h.keeps (w':=w.alloc (.cells #[.int .u64 k.c,.int .i64 k.v,.int .i64 k.d] 55)) (n8 (I:=λ _=>False)) (λ _ _ q=>q);simp only [Ky.val]
 go_enter func28,Go.Proofs.Tryz.ntmps28
 go_wp2_with fail
 go_ret
 exact ⟨rfl,B,λ I=>n8⟩
theorem aym {w:World} {b cap:Nat} {og:Option Nat} {gs:List Nat} {ns:List (List Ky)} {n:Int} (h:TL w b og gs cap ns n) (k:Ky) (r s:Nat) (l:List Ky) (O:Nod ns k r) (F:ns[r-1]?=some l) (Q:Plc l k s) (N:l[s]?≠some k):Calls P0 28 #[.pointer (some ⟨b,0,none⟩),k.val] w λ e w'=>e=.returned (.bool false) /\
 TL w' b og gs cap ns n/\∀I,Keeps I w w':=by
 obtain ⟨g,rfl⟩:=h.some_ F;have P:r-1<ns.length:=(zaa.1 F).1;generalize K:r-1=i at *;obtain ⟨U,c1,W,f1,L⟩:=h.root;have M:((ns.length:Int) == 0)=false:=by rw [beq_eq_false_iff_ne]; omega
 have D:∀x,Keeps (λ _=>False) w (w.alloc x):=λ x=>n8;have i0:(0:Int)<=(i:Int):=by omega
 have i1:(i:Int)<(ns.length:Int):=by omega
 simp only [Ky.val]
 go_enter func28,Go.Proofs.Tryz.ntmps28
 go_wp2_with fail
 have G:=h.keeps (D (.cells #[.int .u64 k.c,.int .i64 k.v,.int .i64 k.d] 55)) (λ _ _ q=>q);have R:KB (w.alloc (.cells #[.int .u64 k.c,.int .i64 k.v,.int .i64 k.d] 55)) w.heap.size k:=ke rfl;refine (aat G k r O).mono ?_;rintro e w2 ⟨rfl,A⟩;rw [K];have E:=G.keeps (A λ _=>False) (λ _ _ q=>q);have H:=R.keeps (A λ _=>False) (λ q=>q);obtain ⟨T,Y,f2,X,_⟩:=E.root;obtain ⟨g',c,J,B,d2,f4⟩:=E.node F;obtain ⟨S,k1,Z⟩:=H.cells
 go_wp2_with fail
 refine (aa1 B k s Q).mono ?_;rintro e V ⟨rfl,C⟩;rw [decide_eq_false N]
 go_wp2_with fail
 go_ret
 refine ⟨rfl,E.keeps (C λ _=>False) (λ _ _ q=>q),λ I=>(n8.trans (A I)).trans (C I)⟩

open Go Go.RowKit
theorem ayl {w:World} {b cap:Nat} {og:Option Nat} {gs:List Nat} {ns:List (List Ky)} {n:Int} (h:TL w b og gs cap ns n) (k:Ky) (r s:Nat) (l:List Ky) (hN:Nod ns k r) (hl:ns[r-1]?=some l) (hP:Plc l k s) (hs:l[s]?=some k) (hlen:2<=l.length) (hlen3:l.length<=32) (hn0:0<n) (hn1:n<9223372036854775807) :
 Calls P0 28 #[.pointer (some ⟨b,0,none⟩),k.val] w λ e w'=>e=.returned (.bool true) /\
 ∃gs',TL w' b og gs' cap (ns.set (r-1) (l.take s++l.drop (s+1))) (n-1)/\Keeps (Ft b og gs) w w'/\∀x,Ft b og gs' x->Ft b og gs x\/w.heap.size<=x:=by
 obtain ⟨g,rfl⟩:=h.some_ hl;have hat:r-1<ns.length:=(zaa.1 hl).1;generalize hr:r-1=i at *;obtain ⟨c0,c1,f0,f1,hlt⟩:=h.root;have hne:((ns.length:Int) == 0)=false:=by rw [beq_eq_false_iff_ne]; omega
 have hk0:∀x,Keeps (λ _=>False) w (w.alloc x):=λ x=>n8;have i0:(0:Int)<=(i:Int):=by omega
 have i1:(i:Int)<(ns.length:Int):=by omega
 obtain ⟨iK,hiK,hzK,hsK,hbK⟩:=uk yp;simp only [Ky.val]
 go_enter func28,Go.Proofs.Tryz.ntmps28
 go_wp2_with fail
 have h1:=h.keeps (hk0 (.cells #[.int .u64 k.c,.int .i64 k.v,.int .i64 k.d] 55)) (λ _ _ q=>q);have b1:KB (w.alloc (.cells #[.int .u64 k.c,.int .i64 k.v,.int .i64 k.d] 55)) w.heap.size k:=ke rfl;refine (aat h1 k r hN).mono ?_;rintro e w2 ⟨rfl,L⟩;rw [hr];have h2:=h1.keeps (L λ _=>False) (λ _ _ q=>q);have b2:=b1.keeps (L λ _=>False) (λ q=>q);obtain ⟨d0,d1,f2,f3,_⟩:=h2.root;obtain ⟨C,c,N,F,d2,f4⟩:=h2.node hl;obtain ⟨k0,k1,k2⟩:=b2.cells
 go_wp2_with fail
 refine (aa1 F k s hP).mono ?_;rintro e A ⟨rfl,P⟩;rw [decide_eq_true hs];have K:=h2.keeps (P λ _=>False) (λ _ _ q=>q);have Z:ml A C l c:=F.loc ((P λ _=>False).block C F.lt λ q=>q);clear d0 d1 f2 f3 d2 f4 k0 k1 k2;obtain ⟨cs,e',hg3,hsz,hf,hlc,hc,hcm⟩:=Z;have hl3:C<A.heap.size:=(zan.1 hg3).1;have hsl:s<l.length:=(zaa.1 hs).1;have w1:IntKind.i64.wrap ((s:Int)+1)=(s:Int)+1:=a6 ⟨by omega,by omega⟩;have j0:(0:Int)<=(s:Int):=by omega
 have j1:(s:Int)<=(l.length:Int):=by omega
 have j1':(s:Int)<=(c:Int):=by omega
 have j2:(0:Int)<=(s:Int)+1:=by omega
 have j3:(s:Int)+1<=(l.length:Int):=by omega
 have hnd:=h.nb;have G:C∈gs:=zad N;simp only [zav,zas,zam,zak,zab,not_or] at hnd;obtain ⟨⟨n1,n2⟩,n3,n4⟩:=hnd;have l1:=h.lt g (.inr (.inl rfl));have l2:=h.lt C (.inr (.inr G))
 have z2:w.heap.size+1<=A.heap.size:=by
  have a1:=(L λ _=>False).size;have a2:=(P λ _=>False).size;have a3:(w.alloc (.cells #[.int .u64 k.c,.int .i64 k.v,.int .i64 k.d] 55)).heap.size=w.heap.size+1:=ze;omega
 have m1:b≠C:=λ q=>n2 (q▸G);have m2:g≠C:=λ q=>n3 (q▸G);obtain ⟨p0,p1,q0,q1,_⟩:=K.root;obtain ⟨g'',c'',X,_,p2,q2⟩:=K.node hl;rw [N] at X;cases X
 go_wp2_with fail
 have hnew:∀W:World,W.heap=A.drew.heap->(Builtin.firstCells 3 (l.length-(s+1)) (.slice (if c=s+1 then some ⟨C,0,none⟩ else some ⟨C,(s+1)*3,none⟩) (l.length-(s+1)) (c-(s+1)))).run P0 W=.ok (flat (l.drop (s+1))).toArray W:=by
  by_cases hq:c=s+1
  ·have:l.length-(s+1)=0:=by omega
   rw [this,zbn (by omega)];exact aea
  rw [if_neg hq];exact jf (w:=A.drew) hg3 (by rw [q7,zap]) λ j u R=>hf ((s+1)*3+j) u (by rw [we (by omega)]; exact R)
 have hw4:∀(U:World),Keeps (· = C) A.drew U->∀x,x<A.heap.size->x≠C->U.heap[x]?=A.heap[x]?:=λ U hK x h1 h2=>hK.block x h1 h2;have H:b<A.heap.size:=by omega
 have O:¬b=g:=n1;have hbg':¬g=b:=λ q=>n1 q.symm;have E:g<A.heap.size:=by omega
 go_region_held3 (λ w'=>w'.cell? ⟨b,0,none⟩=some (.slice (some ⟨g,0,none⟩) ns.length cap)) (first | exact e0 | go_keep)
  ((refine xz rfl (aai (.tmp 40) (.tmp 44) _ _ rfl Go.Proofs.Tryz.underlying53 Go.Proofs.Tryz.underlying53 hiK hzK (by rw [hsK]; rfl) hsK hbK C s c rfl hc (w:=A.drew) hg3 hsz (by omega) rfl (flat (l.drop (s+1))) hnew (by rw [q7,zap]) yu (by simp only [maxLen]; omega) hcm (by omega) ?_); intro D c2 cs2 e2 U hor hc2 T hcm2 hg4 hsz2 hf2 hK4; have B:=hw4 U hK4; have e0:=(n9 (B b H m1) 0).trans p0; have e3:=(n9 (B g E m2) i).trans p2; have r2:=(aa (B g E m2) i).trans q2))
 generalize Value.slice (if c=s+1 then some ⟨C,0,none⟩ else some ⟨C,(s+1)*3,none⟩) (l.length-(s+1)) (c-(s+1))=V44;obtain ⟨M,hM⟩:∃M,M=s+(l.length-(s+1)):=⟨_,rfl⟩
 rw [<- hM] at T hf2 |-;have hMl:M+1=l.length:=by omega
 have hll:(l.take s++l.drop (s+1)).length=M:=by simp; omega
 have S:∀x,x<A.heap.size->x≠C->x≠D:=λ x h1 h2 K=>by
  rcases hor with q | q
  ·omega
  rw [show A.drew.heap=A.heap from rfl] at q; omega
 have Y:¬D=b:=λ q=>S b H m1 q.symm;have V:¬D=g:=λ q=>S g E m2 q.symm;obtain ⟨ho0,co,eo,Q,hco2,hco4⟩:=K.out g rfl;obtain ⟨eb,heb⟩:=K.hd;have C0:=(B g E m2).trans Q;have C1:=(B b H m1).trans heb;have F1:=o9 (o:=i) (v:=.slice (some ⟨D,0,none⟩) M c2) C0;have O2:∀x,x≠g->(U.setCell ⟨g,i,none⟩ (.slice (some ⟨D,0,none⟩) M c2)).heap[x]?=U.heap[x]?:=λ x hx=>l9 C0 hx;have K2:=m0 (o:=i) (v:=.slice (some ⟨D,0,none⟩) M c2) (I:=λ x=>Ft b (some g) gs x\/w.heap.size<=x) C0 (.inl (.inr (.inl rfl)));generalize U.setCell ⟨g,i,none⟩ (.slice (some ⟨D,0,none⟩) M c2)=w5 at *;have D1:=(O2 b O).trans C1;have a0:=(n9 (O2 b O) 0).trans e0;have a1:=(n9 ((O2 b O).trans (B b H m1)) 1).trans p1
 have a2:=(aa ((O2 b O).trans (B b H m1)) 1).trans q1
 have a3:w5.cell? ⟨g,i,none⟩=some (.slice (some ⟨D,0,none⟩) M c2):=by
  have:i<co.size:=by have:=K.le; omega
  simp [World.cell?,F1,this]
 have hM0:((M:Int) == 0)=false:=by rw [beq_eq_false_iff_ne]; omega
 have wn:IntKind.i64.wrap (n-1)=n-1:=a6 ⟨by omega,by omega⟩
 go_wp2_with fail
 go_ret
 have F2:=o9 (o:=1) (v:=.int .i64 (n-1)) D1;have O3:∀x,x≠b->(w5.setCell ⟨b,1,none⟩ (.int .i64 (n-1))).heap[x]?=w5.heap[x]?:=λ x hx=>l9 D1 hx;have K3:=m0 (o:=1) (v:=.int .i64 (n-1)) (I:=λ x=>Ft b (some g) gs x\/w.heap.size<=x) D1 (.inl (.inl rfl));generalize w5.setCell ⟨b,1,none⟩ (.int .i64 (n-1))=w8 at *
 have hI2:Ft b (some g) gs D\/w.heap.size<=D:=by
  rcases hor with q | q
  ·exact .inl (.inr (.inr (q▸G)))
  rw [show A.drew.heap=A.heap from rfl] at q; exact .inr (by omega)
 refine ⟨rfl,gs.set i D,K.put hat ⟨eb,F2⟩ ⟨co,eo,Q,?_⟩ (c2:=c2) ?_ (λ j x R hx=>?_) ?_,fo ?_,λ x hx=>?_⟩
 ·rw [O3 g hbg',F1,hll]
 ·refine ⟨_,e2,by rw [O3 D Y,O2 D V]; exact hg4,hsz2,λ j u R=>?_,by rw [hll]; exact T,hc2,hcm2⟩;have hjl:=(zaa.1 R).1;rw [q7,hll] at hjl;rw [hf2 j hjl,<- R,pp];congr 2;rw [show s*3=(flat (l.take s)).length by rw [q7,zbl,Nat.min_eq_left (by omega)]];exact aji λ j u R=>hf j u (acd R)
 ·have hxm:x∈gs:=zad hx;have x1:x≠b:=λ q=>n2 (q▸hxm);have x2:x≠g:=λ q=>n3 (q▸hxm)
  have x3:x≠C:=λ q=>by
   subst q;have:=(zax (zaa.1 hx).1 n4).1 (hx.trans N.symm);exact R this
  have x4:=K.lt x (.inr (.inr hxm));rw [O3 x x1,O2 x x2,B x x4 x3]
 ·rcases hor with q | q
  ·exact .inl (q▸N)
  refine .inr ⟨Y,V,λ hm=>?_⟩;have:=K.lt D (.inr (.inr hm));rw [show A.drew.heap=A.heap from rfl] at q;omega
 ·have kd:Keeps (λ x=>Ft b (some g) gs x\/w.heap.size<=x) A A.drew:=⟨rfl,rfl,rfl,zaf _,λ _ _ _=>rfl⟩
  have k4:=hK4.mono (J:=λ x=>Ft b (some g) gs x\/w.heap.size<=x) λ x hx=>.inl (.inr (.inr (hx▸G)));exact ((((((n8.trans (L _)).trans (P _)).trans kd).trans k4).trans K2).trans K3)
 rcases hx with q | q | q
 ·exact .inl (.inl q)
 ·exact .inl (.inr (.inl q))
 rcases zay q with q | q
 ·exact .inl (.inr (.inr q))
 exact q▸hI2

open Go Go.RowKit
theorem ayk {w:World} {b cap:Nat} {og:Option Nat} {gs:List Nat} {ns:List (List Ky)} {n:Int} (h:TL w b og gs cap ns n) (k:Ky) (r s:Nat) (l:List Ky) (hN:Nod ns k r) (hl:ns[r-1]?=some l) (hP:Plc l k s) (K:l[s]?=some k) (hlen3:l.length<=1) (hm:ns.length<=1000000) (hn0:0<n) (hn1:n<9223372036854775807) :
 Calls P0 28 #[.pointer (some ⟨b,0,none⟩),k.val] w λ e w'=>e=.returned (.bool true) /\
 ∃og' gs' cap',TL w' b og' gs' cap' (ns.eraseIdx (r-1)) (n-1)/\Keeps (Ft b og gs) w w'/\∀x,Ft b og' gs' x->Ft b og gs x\/w.heap.size<=x:=by
 obtain ⟨g,rfl⟩:=h.some_ hl;have hat:r-1<ns.length:=(zaa.1 hl).1;generalize hr:r-1=i at *;obtain ⟨c0,c1,f0,f1,hlt⟩:=h.root;have hne:((ns.length:Int) == 0)=false:=by rw [beq_eq_false_iff_ne]; omega
 have hk0:∀x,Keeps (λ _=>False) w (w.alloc x):=λ x=>n8;have i0:(0:Int)<=(i:Int):=by omega
 have i1:(i:Int)<(ns.length:Int):=by omega
 obtain ⟨iR,hiR,hzR,hsR,hbR⟩:=uk aj3;obtain ⟨iK,hiK,hzK,hsK,hbK⟩:=uk yp;simp only [Ky.val]
 go_enter func28,Go.Proofs.Tryz.ntmps28
 go_wp2_with fail
 have h1:=h.keeps (hk0 (.cells #[.int .u64 k.c,.int .i64 k.v,.int .i64 k.d] 55)) (λ _ _ q=>q);have b1:KB (w.alloc (.cells #[.int .u64 k.c,.int .i64 k.v,.int .i64 k.d] 55)) w.heap.size k:=ke rfl;refine (aat h1 k r hN).mono ?_;rintro e w2 ⟨rfl,hK2⟩;rw [hr];have h2:=h1.keeps (hK2 λ _=>False) (λ _ _ q=>q);have b2:=b1.keeps (hK2 λ _=>False) (λ q=>q);obtain ⟨d0,d1,f2,f3,_⟩:=h2.root;obtain ⟨D,c,hg',Q,d2,f4⟩:=h2.node hl;obtain ⟨k0,k1,k2⟩:=b2.cells
 go_wp2_with fail
 refine (aa1 Q k s hP).mono ?_;rintro e A ⟨rfl,hK3⟩;rw [decide_eq_true K];have L:=h2.keeps (hK3 λ _=>False) (λ _ _ q=>q);have hrow3:ml A D l c:=Q.loc ((hK3 λ _=>False).block D Q.lt λ q=>q);clear d0 d1 f2 f3 d2 f4 k0 k1 k2;obtain ⟨cs,e',hg3,hsz,hf,hlc,hc,hcm⟩:=hrow3;have hl3:D<A.heap.size:=(zan.1 hg3).1;have hsl:s<l.length:=(zaa.1 K).1;have w1:IntKind.i64.wrap ((s:Int)+1)=(s:Int)+1:=a6 ⟨by omega,by omega⟩;have j0:(0:Int)<=(s:Int):=by omega
 have j1:(s:Int)<=(l.length:Int):=by omega
 have j1':(s:Int)<=(c:Int):=by omega
 have j2:(0:Int)<=(s:Int)+1:=by omega
 have j3:(s:Int)+1<=(l.length:Int):=by omega
 have hnd:=h.nb;have hgm:D∈gs:=zad hg';simp only [zav,zas,zam,zak,zab,not_or] at hnd;obtain ⟨⟨n1,n2⟩,n3,n4⟩:=hnd;have l1:=h.lt g (.inr (.inl rfl));have l2:=h.lt D (.inr (.inr hgm))
 have z2:w.heap.size+1<=A.heap.size:=by
  have a1:=(hK2 λ _=>False).size;have a2:=(hK3 λ _=>False).size;have a3:(w.alloc (.cells #[.int .u64 k.c,.int .i64 k.v,.int .i64 k.d] 55)).heap.size=w.heap.size+1:=ze;omega
 have m1:b≠D:=λ q=>n2 (q▸hgm);have m2:g≠D:=λ q=>n3 (q▸hgm);obtain ⟨p0,p1,q0,q1,_⟩:=L.root;obtain ⟨g'',c'',hg'',_,p2,q2⟩:=L.node hl;rw [hg'] at hg'';cases hg''
 go_wp2_with fail
 have hnew:∀W:World,W.heap=A.drew.heap->(Builtin.firstCells 3 (l.length-(s+1)) (.slice (if c=s+1 then some ⟨D,0,none⟩ else some ⟨D,(s+1)*3,none⟩) (l.length-(s+1)) (c-(s+1)))).run P0 W=.ok (flat (l.drop (s+1))).toArray W:=by
  by_cases hq:c=s+1
  ·have:l.length-(s+1)=0:=by omega
   rw [this,zbn (by omega)];exact aea
  rw [if_neg hq];exact jf (w:=A.drew) hg3 (by rw [q7,zap]) λ j u Z=>hf ((s+1)*3+j) u (by rw [we (by omega)]; exact Z)
 have hw4:∀(w4:World),Keeps (· = D) A.drew w4->∀x,x<A.heap.size->x≠D->w4.heap[x]?=A.heap[x]?:=λ w4 hK x h1 h2=>hK.block x h1 h2;have X:b<A.heap.size:=by omega
 have O:¬b=g:=n1;have hbg':¬g=b:=λ q=>n1 q.symm;have H:g<A.heap.size:=by omega
 go_region_held3 (λ w'=>w'.cell? ⟨b,0,none⟩=some (.slice (some ⟨g,0,none⟩) ns.length cap)) (first | exact e0 | go_keep)
  ((refine xz rfl (aai (.tmp 40) (.tmp 44) _ _ rfl Go.Proofs.Tryz.underlying53 Go.Proofs.Tryz.underlying53 hiK hzK (by rw [hsK]; rfl) hsK hbK D s c rfl hc (w:=A.drew) hg3 hsz (by omega) rfl (flat (l.drop (s+1))) hnew (by rw [q7,zap]) yu (by simp only [maxLen]; omega) hcm (by omega) ?_); intro P c2 cs2 e2 w4 hor hc2 hlc2 hcm2 hg4 hsz2 hf2 hK4; have E:=hw4 w4 hK4; have e0:=(n9 (E b X m1) 0).trans p0; have e3:=(n9 (E g H m2) i).trans p2; have r2:=(aa (E g H m2) i).trans q2))
 generalize Value.slice (if c=s+1 then some ⟨D,0,none⟩ else some ⟨D,(s+1)*3,none⟩) (l.length-(s+1)) (c-(s+1))=V44;obtain ⟨M,hM⟩:∃M,M=s+(l.length-(s+1)):=⟨_,rfl⟩
 rw [<- hM] at hlc2 hf2 |-;have hMl:M+1=l.length:=by omega
 have hll:(l.take s++l.drop (s+1)).length=M:=by simp; omega
 have hg2b:∀x,x<A.heap.size->x≠D->x≠P:=λ x h1 h2 L=>by
  rcases hor with q | q
  ·omega
  rw [show A.drew.heap=A.heap from rfl] at q; omega
 have hgb':¬P=b:=λ q=>hg2b b X m1 q.symm;have hgg':¬P=g:=λ q=>hg2b g H m2 q.symm;obtain ⟨ho0,co,eo,hco1,hco2,R⟩:=L.out g rfl;obtain ⟨eb,heb⟩:=L.hd;have C0:=(E g H m2).trans hco1;have C1:=(E b X m1).trans heb;have F1:=o9 (o:=i) (v:=.slice (some ⟨P,0,none⟩) M c2) C0;have O2:∀x,x≠g->(w4.setCell ⟨g,i,none⟩ (.slice (some ⟨P,0,none⟩) M c2)).heap[x]?=w4.heap[x]?:=λ x hx=>l9 C0 hx;have K2:=m0 (o:=i) (v:=.slice (some ⟨P,0,none⟩) M c2) (I:=λ x=>Ft b (some g) gs x\/w.heap.size<=x) C0 (.inl (.inr (.inl rfl)));generalize w4.setCell ⟨g,i,none⟩ (.slice (some ⟨P,0,none⟩) M c2)=w5 at *;have D1:=(O2 b O).trans C1;have a0:=(n9 (O2 b O) 0).trans e0;have a1:=(n9 ((O2 b O).trans (E b X m1)) 1).trans p1
 have a2:=(aa ((O2 b O).trans (E b X m1)) 1).trans q1
 have a3:w5.cell? ⟨g,i,none⟩=some (.slice (some ⟨P,0,none⟩) M c2):=by
  have:i<co.size:=by have:=L.le; omega
  simp [World.cell?,F1,this]
 have hM0:((M:Int) == 0)=true:=by rw [beq_iff_eq]; omega
 have wn:IntKind.i64.wrap (n-1)=n-1:=a6 ⟨by omega,by omega⟩
 go_wp2_with fail
 have F2:=o9 (o:=1) (v:=.int .i64 (n-1)) D1;have O3:∀x,x≠b->(w5.setCell ⟨b,1,none⟩ (.int .i64 (n-1))).heap[x]?=w5.heap[x]?:=λ x hx=>l9 D1 hx;have K3:=m0 (o:=1) (v:=.int .i64 (n-1)) (I:=λ x=>Ft b (some g) gs x\/w.heap.size<=x) D1 (.inl (.inl rfl));generalize w5.setCell ⟨b,1,none⟩ (.int .i64 (n-1))=S at *;have x0:S.cell? ⟨b,0,none⟩=some (.slice (some ⟨g,0,none⟩) ns.length cap):=by simp [World.cell?,F2,adr]
 have y0:S.frozen? ⟨b,0,none⟩=false:=by simp [World.frozen?,F2]
 have wi:IntKind.i64.wrap ((i:Int)+1)=(i:Int)+1:=a6 ⟨by omega,by omega⟩;have i2:(0:Int)<=(i:Int)+1:=by omega
 have i3:(i:Int)+1<=(ns.length:Int):=by omega
 have i4:(i:Int)<=(ns.length:Int):=by omega
 have hcl:=L.le;have i5:(i:Int)<=(cap:Int):=by omega
 have hg8:S.heap[g]?=some (.cells (co.setIfInBounds i (.slice (some ⟨P,0,none⟩) M c2)) eo (0,0)):=(O3 g hbg').trans F1;obtain ⟨K,hhs⟩:∃K,K=((co.setIfInBounds i (.slice (some ⟨P,0,none⟩) M c2)).toList.drop (i+1)).take (ns.length-(i+1)):=⟨_,rfl⟩
 have F:K.length=(ns.length-(i+1))*1:=by rw [hhs]; simp; omega
 have hsg:∀j u,K[j]?=some u->co[i+1+j]?=some u:=λ j u Z=>by
  rw [hhs,zat] at Z;split at Z
  ·rw [zbj,zbs,zcg,if_neg (by omega)] at Z;exact Z
  cases Z
 have hs1:∀u∈K,u.oneCell'=true:=λ u hu=>by
  obtain ⟨z,hz⟩:=zag.1 hu;have hzl:=(zaa.1 hz).1;rw [F] at hzl;obtain ⟨_,hy,_⟩:=R (i+1+z) (gs[i+1+z]'(by rw [h.len]; omega)) (ns[i+1+z]'(by omega)) (by simp) (by simp);rw [hsg z u hz] at hy;cases hy
  rfl
 have hnew2:∀W:World,W.heap=S.drew.heap->(Builtin.firstCells 1 (ns.length-(i+1)) (.slice (if cap=i+1 then some ⟨g,0,none⟩ else some ⟨g,i+1,none⟩) (ns.length-(i+1)) (cap-(i+1)))).run P0 W=.ok K.toArray W:=by
  by_cases hq:cap=i+1
  ·have h0:ns.length-(i+1)=0:=by omega
   have:K=[]:=List.eq_nil_of_length_eq_zero (by rw [F]; omega);rw [h0,this];exact aea
  rw [if_neg hq]
  exact jf (w:=S.drew) hg8 F λ j u Z=>by
   rw [zcg,if_neg (by omega)];exact hsg j u Z
 go_region_law
  ((refine xz rfl (aai (.tmp 69) (.tmp 76) _ _ rfl Go.Proofs.Tryz.underlying91 Go.Proofs.Tryz.underlying91 hiR hzR (by rw [hsR]; rfl) hsR hbR g i cap rfl ho0 (w:=S.drew) hg8 (by simp; omega) (by omega) rfl K hnew2 F hs1 (by simp only [maxLen]; omega) L.mx (by omega) ?_); intro G C cs9 e9 w9 V hc9 hlc9 hcm9 hg9 hsz9 hf9 hK9; have Y:=hK9.block b (zan.1 F2).1 O; have ee0:=(n9 Y 0).trans x0; have rr0:=(aa Y 0).trans y0))
 all_goals
  generalize Value.slice (if cap=i+1 then some ⟨g,0,none⟩ else some ⟨g,i+1,none⟩) (ns.length-(i+1)) (cap-(i+1))=V76
  go_wp2_with fail
  go_ret
  obtain ⟨N,hN⟩:∃N,N=i+(ns.length-(i+1)):=⟨_,rfl⟩
  rw [<- hN] at hlc9 hf9 |-;have hNl:N+1=ns.length:=by omega
  have hll:(ns.eraseIdx i).length=N:=by rw [zbu,if_pos hat]; omega
  have T:S.drew.heap=S.heap:=rfl;have s2:=hK4.size;have s3:=K2.size;have s4':=K3.size
  have hz8:A.heap.size<=S.heap.size:=by
   have:A.drew.heap.size=A.heap.size:=rfl;omega
  have hGb:¬G=b:=λ q=>by rcases V with r | r; exact O (q▸r); rw [T] at r; omega
  have hbG:¬b=G:=λ q=>hGb q.symm;have F3:=o9 (o:=0) (v:=.slice (some ⟨G,0,none⟩) N C) (Y.trans F2);have O9:∀x,x≠b->(w9.setCell ⟨b,0,none⟩ (.slice (some ⟨G,0,none⟩) N C)).heap[x]?=w9.heap[x]?:=λ x hx=>l9 (Y.trans F2) hx;have K10:=m0 (o:=0) (v:=.slice (some ⟨G,0,none⟩) N C) (I:=λ x=>Ft b (some g) gs x\/w.heap.size<=x) (Y.trans F2) (.inl (.inl rfl));generalize w9.setCell ⟨b,0,none⟩ (.slice (some ⟨G,0,none⟩) N C)=w10 at *
  have hI3:Ft b (some g) gs G\/w.heap.size<=G:=by
   rcases V with q | q
   ·exact .inl (.inr (.inl (by rw [q])))
   rw [T] at q; exact .inr (by omega)
  have U:∀x,x<A.heap.size->x≠D->x≠g->x≠b->w10.heap[x]?=A.heap[x]?:=λ x h1 h2 L h4=>by
   rw [O9 x h4,hK9.block x (by rw [T]; omega) L,T,O3 x h4,O2 x L,E x h1 h2]
  have hgs:∀z x,gs[z]?=some x->z≠i->x<A.heap.size/\x≠D/\x≠g/\x≠b:=λ z x hz hzi=>by
   have hxm:x∈gs:=zad hz;refine ⟨L.lt x (.inr (.inr hxm)),λ q=>?_,λ q=>n3 (q▸hxm),λ q=>n2 (q▸hxm)⟩;subst q;exact hzi ((zax (zaa.1 hz).1 n4).1 (hz.trans hg'.symm))
  have hhl:(co.setIfInBounds i (.slice (some ⟨P,0,none⟩) M c2)).toList.length=co.size:=by simp
  refine ⟨rfl,some G,gs.eraseIdx i,C,⟨⟨eb,?_⟩,by rw [hll]; exact hlc9,hcm9,by simp,λ G' hG'=>?_,?_,?_⟩,fo ?_,λ x hx=>?_⟩
  ·rw [F3,hll]
   rfl
  ·cases hG';refine ⟨hc9,cs9,e9,(O9 G hGb).trans hg9,by omega,λ j x l'' hx B=>?_⟩;have Z:j<N:=by rw [<- hll]; exact (zaa.1 B).1
   rw [zbv] at hx B;have h9:=hf9 j (by omega);simp only [Nat.mul_one] at h9;have htl:((co.setIfInBounds i (.slice (some ⟨P,0,none⟩) M c2)).toList.take i).length=i:=by rw [zbl,hhl]; omega
   by_cases p1:j<i
   ·rw [if_pos p1] at hx B;obtain ⟨r1,r2,r3,r4⟩:=hgs j x hx (by omega);obtain ⟨c',q1',q2'⟩:=R j x l'' hx B;refine ⟨c',?_,q2'.loc (U x r1 r2 r3 r4)⟩;rw [h9,zaw (by omega),zat,if_pos p1,zbs,zcg,if_neg (by omega)];exact q1'
   rw [if_neg p1] at hx B;obtain ⟨r1,r2,r3,r4⟩:=hgs (j+1) x hx (by omega);obtain ⟨c',q1',q2'⟩:=R (j+1) x l'' hx B;refine ⟨c',?_,q2'.loc (U x r1 r2 r3 r4)⟩;rw [h9,List.getElem?_append_right (by omega),htl];have hq:K[j-i]?=some (K[j-i]'(by omega)):=by simp [show j-i<K.length by omega]
   have:=hsg (j-i) _ hq;rw [show i+1+(j-i)=j+1 by omega,q1'] at this;rw [hq,this]
  ·rw [zbu,zbu,h.len,if_pos hat]
  ·simp only [zav,zas,zam,zak,zab,not_or];refine ⟨⟨hbG,λ hm=>n2 (zbw hm)⟩,λ hm=>?_,n4.sublist (zbo ..)⟩;have hm:=zbw hm;rcases V with r | r
   ·exact n3 (r▸hm)
   rw [T] at r;have:=L.lt G (.inr (.inr hm)); omega
  ·have kd:Keeps (λ x=>Ft b (some g) gs x\/w.heap.size<=x) A A.drew:=⟨rfl,rfl,rfl,zaf _,λ _ _ _=>rfl⟩
   have kd8:Keeps (λ x=>Ft b (some g) gs x\/w.heap.size<=x) S S.drew:=⟨rfl,rfl,rfl,zaf _,λ _ _ _=>rfl⟩
   have k4:=hK4.mono (J:=λ x=>Ft b (some g) gs x\/w.heap.size<=x) λ x hx=>.inl (.inr (.inr (hx▸hgm)));have k9:=hK9.mono (J:=λ x=>Ft b (some g) gs x\/w.heap.size<=x) λ x hx=>.inl (.inr (.inl (by rw [hx])));exact (((((((((n8.trans (hK2 _)).trans (hK3 _)).trans kd).trans k4).trans K2).trans K3).trans kd8).trans k9).trans K10)
  rcases hx with q | q | q
  ·exact .inl (.inl q)
  ·cases q; exact hI3
  exact .inl (.inr (.inr (zbw q)))

open Go
theorem aau (a:Ky):kl a a=false:=by simp [kl]
variable {b a:Ky}
theorem abr {c:Ky} (d:kl a b=true) (e:kl b c=true):kl a c=true:=by
 unfold kl at *;split at d<;>split at e<;>split<;>(try split at d)<;>(try split at e)<;>(try split)<;>simp at * <;> omega
theorem ax9 (c:kl a b=false) (d:kl b a=false):a=b:=by
 rcases a with ⟨g,e,i⟩
 rcases b with ⟨j,f,h⟩
 unfold kl at *;simp only [Ky.mk.injEq];split at c<;>split at d<;>(try split at c)<;>(try split at d)<;>simp at * <;> omega
theorem atg (c:kl b a=false):a=b\/kl a b=true:=by
 cases h:kl a b
 ·exact .inl (ax9 h c)
 exact .inr rfl
abbrev Srt (l:List Ky):Prop:=l.Pairwise λ a b=>kl a b=true
structure Good (ns:List (List Ky)):Prop where
 ne:∀l∈ns,l≠[]/\l.length<=32
 so:Srt ns.flatten
def nk (k:Ky):List Ky->Bool
 | q::_=>kl k q
 | []=>true
def i9 (ns:List (List Ky)) (k:Ky):Nat:=ns.findIdx (nk k)
def plc (l:List Ky) (k:Ky):Nat:=l.findIdx λ q=>!kl q k
variable {j:Nat}
theorem aon {l:List Ky} (h:Srt l) {i:Nat} (c:i<j) (e:l[i]?=some a) (f:l[j]?=some b):kl a b=true:=by
 obtain ⟨d,rfl⟩:=zaa.1 e;obtain ⟨g,rfl⟩:=zaa.1 f;exact zbp.1 h i j d g c
theorem axm {l:List Ky} (h:Srt l) (k:Ky):Plc l k (plc l k):=by
 refine ⟨List.findIdx_le_length,λ i q d b=>?_,λ i q d b=>?_⟩
 ·obtain ⟨c,rfl⟩:=zaa.1 b;have:=List.not_of_lt_findIdx d;simpa using this
 obtain ⟨c,rfl⟩:=zaa.1 b;have e:plc l k<l.length:=by omega
 have a:kl l[plc l k] k=false:=by
  have:=List.findIdx_getElem (w:=e);simp only [Bool.not_eq_true'] at this;exact this
 by_cases f:plc l k=i
 ·subst f; exact a
 have g:=aon h (show plc l k<i by omega) (zbm e) (zbm c);cases h2:kl l[i] k
 ·rfl
 rw [abr g h2] at a; cases a
theorem Good.node {ns:List (List Ky)} (h:Good ns) {i:Nat} {l:List Ky} (a:ns[i]?=some l):Srt l:=(List.pairwise_flatten.1 h.so).1 l (zad a)
theorem Good.apart {ns:List (List Ky)} (h:Good ns) {i:Nat} {l m:List Ky} (a:i<j) (b:ns[i]?=some l) (d:ns[j]?=some m):∀x∈l,∀y∈m,kl x y=true:=by
 obtain ⟨c,rfl⟩:=zaa.1 b;obtain ⟨e,rfl⟩:=zaa.1 d;exact zbp.1 (List.pairwise_flatten.1 h.so).2 i j c e a
theorem Good.len {ns:List (List Ky)} (h:∀l∈ns,l≠[]):ns.length<=ns.flatten.length:=by
 induction ns with
 | nil=>simp
 | cons l ns ih=>
   have b:l≠[]:=h l (by simp);have c:=ih λ l a=>h l (by simp [a]);have d:0<l.length:=zbx.2 b;simp only [zah,zbq,zao];omega
theorem aif {ns:List (List Ky)} (h:Good ns) (m:ns.flatten.length<=1000000) (k:Ky):Nod ns k (i9 ns k):=by
 refine ⟨List.findIdx_le_length,?_,λ i l a=>?_,λ i q x e c=>?_,λ i q x e c=>?_⟩
 ·have:=Good.len λ l a=>(h.ne l a).1;simp only [maxLen];omega
 ·have:=h.ne l (zad a);exact ⟨this.1,by simp only [maxLen]; omega⟩
 ·obtain ⟨a,hx⟩:=zaa.1 c;have:=List.not_of_lt_findIdx e;rw [hx] at this;simpa [nk] using this
 obtain ⟨a,hx⟩:=zaa.1 c;have d:i9 ns k<ns.length:=by omega
 have b:nk k ns[i9 ns k]=true:=List.findIdx_getElem (w:=d);by_cases f:i9 ns k=i
 ·have:ns[i9 ns k]=q::x:=by subst f; exact hx
  rw [this] at b;exact b
 rcases hq0:ns[i9 ns k] with _ | ⟨j,n⟩
 ·exact absurd hq0 (h.ne _ (List.getElem_mem d)).1
 rw [hq0] at b;have g:=h.apart (show i9 ns k<i by omega) ((zbm d).trans (by rw [hq0])) c j (by simp) q (by simp);exact abr b g
def ei (ns:List (List Ky)) (k:Ky):List (List Ky)×Bool:=
 if ns=[] then ([[k]],true) else
  if (ns.getD (i9 ns k-1) [])[plc (ns.getD (i9 ns k-1) []) k]?=some k then (ns,false) else
   if (ns.getD (i9 ns k-1) []).length<32 then
    (ns.set (i9 ns k-1) ((ns.getD (i9 ns k-1) []).take (plc (ns.getD (i9 ns k-1) []) k)++k::(ns.getD (i9 ns k-1) []).drop (plc (ns.getD (i9 ns k-1) []) k)),true)
   else
    (ns.take (i9 ns k-1)++((ns.getD (i9 ns k-1) []).take (plc (ns.getD (i9 ns k-1) []) k)++k::(ns.getD (i9 ns k-1) []).drop (plc (ns.getD (i9 ns k-1) []) k)).take 16 ::
     ((ns.getD (i9 ns k-1) []).take (plc (ns.getD (i9 ns k-1) []) k)++k::(ns.getD (i9 ns k-1) []).drop (plc (ns.getD (i9 ns k-1) []) k)).drop 16::ns.drop (i9 ns k-1+1),true)
def kr (ns:List (List Ky)) (k:Ky):List (List Ky)×Bool:=
 if ns=[] then (ns,false) else
  if (ns.getD (i9 ns k-1) [])[plc (ns.getD (i9 ns k-1) []) k]?=some k then
   if 2<=(ns.getD (i9 ns k-1) []).length then
    (ns.set (i9 ns k-1) ((ns.getD (i9 ns k-1) []).take (plc (ns.getD (i9 ns k-1) []) k)++(ns.getD (i9 ns k-1) []).drop (plc (ns.getD (i9 ns k-1) []) k+1)),true)
   else (ns.eraseIdx (i9 ns k-1),true)
  else (ns,false)
structure Spt (ns:List (List Ky)) (k:Ky) (i s:Nat) (l:List Ky):Prop where
 nx:i9 ns k-1=i
 nd:Nod ns k (i9 ns k)
 at_:ns[i]?=some l
 gd:ns.getD i []=l
 px:plc l k=s
 pl:Plc l k s
 ahead:∀x∈(ns.take i).flatten,kl x k=true
 behind:∀x∈(ns.drop (i+1)).flatten,kl k x=true
 all:ns.flatten=(ns.take i).flatten++(l++(ns.drop (i+1)).flatten)
 ne:l≠[]
 le:l.length<=32
theorem spt {ns:List (List Ky)} (h:Good ns) (z:ns.flatten.length<=1000000) (k:Ky) (w:ns≠[]):∃i s l,Spt ns k i s l:=by
 have g:=aif h z k;have v:0<ns.length:=zbx.2 w;have y:i9 ns k-1<ns.length:=by have:=g.le; omega
 have c:ns[i9 ns k-1]?=some ns[i9 ns k-1]:=zbm y;obtain ⟨l,e⟩:∃l,ns[i9 ns k-1]=l:=⟨_,rfl⟩
 rw [e] at c;have b:=h.ne l (zad c);refine ⟨i9 ns k-1,plc l k,l,rfl,g,c,by simp [List.getD,c],rfl,axm (h.node c) k,λ x hx=>?_,λ x hx=>?_,?_,b.1,b.2⟩
 ·obtain ⟨m,p,d⟩:=List.mem_flatten.1 hx;obtain ⟨j,a⟩:=zag.1 p;rw [zat] at a;split at a
  ·rename_i u;obtain ⟨q,t,rfl⟩:=zch b.1;have f:=h.apart u a c x d q (by simp);have n:=g.lo (i9 ns k-1) q t (by omega) c;rcases atg n with rfl | A
   ·exact f
   exact abr f A
  cases a
 ·obtain ⟨m,p,d⟩:=List.mem_flatten.1 hx;obtain ⟨j,a⟩:=zag.1 p;rw [zbj] at a;have o:=(h.ne m (zad a)).1;obtain ⟨q,t,rfl⟩:=zch o;have f:=g.hi _ q t (by omega) a;rcases zab.1 d with rfl | r
  ·exact f
  have n:=h.node a;exact abr f (List.rel_of_pairwise_cons n r)
 have B:ns=ns.take (i9 ns k-1)++l::ns.drop (i9 ns k-1+1):=by
  rw [<- e,zcf,zaz]
 conv=>lhs; rw [B]
 simp
theorem aeq {ns:List (List Ky)} {i:Nat} (a:i<ns.length) (m:List Ky):(ns.set i m).flatten=(ns.take i).flatten++(m++(ns.drop (i+1)).flatten):=by
 rw [List.set_eq_take_append_cons_drop,if_pos a];simp

section
variable {ns:List (List Ky)} {k:Ky} {i s:Nat} {l:List Ky}
theorem Spt.mem (h:Good ns) (a:Spt ns k i s l):l[s]?=some k↔k∈ns.flatten:=by
 constructor
 ·intro g;rw [a.all];exact zac.2 (.inr (zac.2 (.inl (zad g))))
 intro f;rw [a.all] at f;rcases zac.1 f with q | q
 ·have:=a.ahead k q; rw [aau] at this; cases this
 rcases zac.1 q with q | q
 ·obtain ⟨j,d⟩:=zag.1 q;rcases Nat.lt_trichotomy j s with c | c | c
  ·have:=a.pl.lo j k c d; rw [aau] at this; cases this
  ·exact c▸d
  have m:=(zaa.1 d).1;have b:l[s]?=some (l[s]'(by omega)):=by simp [show s<l.length by omega]
  have e:=aon (h.node a.at_) c b d;rw [a.pl.hi s _ (zaf _) b] at e;cases e
 have:=a.behind k q; rw [aau] at this; cases this
theorem Spt.lt (a:Spt ns k i s l):i<ns.length:=(zaa.1 a.at_).1
theorem Spt.lo_ (b:Spt ns k i s l):∀x∈l.take s,kl x k=true:=λ x hx=>by
 obtain ⟨j,a⟩:=zag.1 hx;rw [zat] at a;split at a
 ·rename_i c; exact b.pl.lo j x c a
 cases a
theorem Spt.hi_ (h:Good ns) (a:Spt ns k i s l) (c:l[s]?≠some k):∀x∈l.drop s,kl k x=true:=λ x hx=>by
 obtain ⟨j,b⟩:=zag.1 hx;rw [zbj] at b;have d:=a.pl.hi (s+j) x (by omega) b;rcases atg d with rfl | e
 ·exact absurd ((a.mem h).2 (by rw [a.all]; exact zac.2 (.inr (zac.2 (.inl (zad b)))))) c
 exact e
theorem Spt.ins (h:Good ns) (d:Spt ns k i s l) (n:l[s]?≠some k):Srt ((ns.take i).flatten++((l.take s++k::l.drop s)++(ns.drop (i+1)).flatten)):=by
 have c:=h.so;rw [d.all] at c;have e:∀(X Z:List Ky),X++(l.take s++k::l.drop s++Z)=(X++l.take s)++k::(l.drop s++Z):=λ X Z=>by simp
 have q:∀(X Z:List Ky),X++(l++Z)=(X++l.take s)++(l.drop s++Z):=λ X Z=>by
  rw [zbt,<- zbt (l.take s),zaz]
 rw [e];rw [q] at c;rw [Srt,zci] at c |-;obtain ⟨p,m,o⟩:=c;have lo:∀x∈(ns.take i).flatten++l.take s,kl x k=true:=λ x hx=>(zac.1 hx).elim (d.ahead x) (d.lo_ x);have j:∀x∈l.drop s++(ns.drop (i+1)).flatten,kl k x=true:=λ x hx=>(zac.1 hx).elim (d.hi_ h n x) (d.behind x);refine ⟨p,zby.2 ⟨j,m⟩,λ a g b f=>?_⟩;rcases zab.1 f with rfl | f
 ·exact lo a g
 exact o a g b f
end
structure PutL (ns ns':List (List Ky)) (k:Ky) (f:Bool):Prop where
 good:Good ns'
 flag:f=!decide (k∈ns.flatten)
 mem:∀x,x∈ns'.flatten↔x=k\/x∈ns.flatten
 len:ns'.flatten.length=ns.flatten.length+f.toNat
theorem als {ns:List (List Ky)} (h:Good ns) (r:ns.flatten.length<=1000000) (k:Ky):PutL ns (ei ns k).1 k (ei ns k).2:=by
 by_cases g:ns=[]
 ·subst g;refine ⟨⟨by simp [ei],by simp [ei,Srt]⟩,by simp [ei],by simp [ei],by simp [ei]⟩
 obtain ⟨i,s,l,a⟩:=spt h r k g;have c:=a.mem h;unfold ei;rw [if_neg g,a.nx,a.gd,a.px];by_cases d:l[s]?=some k
 ·rw [if_pos d];refine ⟨h,by simp [c.1 d],λ x=>⟨.inr,?_⟩,by simp⟩;rintro (rfl | hx)
  ·exact c.1 d
  exact hx
 rw [if_neg d];have n:k∉ns.flatten:=λ q=>d (c.2 q);have j:=a.ins h d
 have f:∀N:List (List Ky),(∀m∈N,m≠[]/\m.length<=32)->N.flatten=(ns.take i).flatten++((l.take s++k::l.drop s)++(ns.drop (i+1)).flatten)->PutL ns N k true:=λ N p o=>by
  refine ⟨⟨p,by rw [o]; exact j⟩,by simp [n],λ x=>?_,?_⟩
  ·rw [o,a.all]
   conv=>rhs; rw [<- zaz s l]
   simp only [zac,zab];constructor
   ·rintro (q | (q | q | q) | q)<;>simp [q]
   rintro (q | q | (q | q) | q)<;>simp [q]
  rw [o,a.all]
  conv=>rhs; rw [<- zaz s l]
  simp only [zao,zah,zbd];omega
 have b:(l.take s++k::l.drop s).length=l.length+1:=by
  have:=a.pl.le;simp;omega
 split
 ·refine f _ (λ m c=>?_) (aeq a.lt _);rcases zay c with q | rfl
  ·exact h.ne m q
  exact ⟨by simp,by rw [b]; omega⟩
 refine f _ (λ m c=>?_) ?_
 ·rcases zac.1 c with q | q
  ·exact h.ne m (zcd q)
  have t:=a.le;rcases zab.1 q with rfl | q
  ·refine ⟨λ e=>?_,by rw [zbl]; omega⟩;have:=congrArg zba e;rw [zbl,b] at this;simp at this
  rcases zab.1 q with rfl | q
  ·refine ⟨λ e=>?_,by rw [zap,b]; omega⟩;have:=congrArg zba e;rw [zap,b] at this;simp at this;omega
  exact h.ne m (zce q)
 rw [List.flatten_append,zbq,zbq,<- zbt (List.take 16 _),zaz]
structure DelL (ns ns':List (List Ky)) (k:Ky) (f:Bool):Prop where
 good:Good ns'
 flag:f=decide (k∈ns.flatten)
 mem:∀x,x∈ns'.flatten↔x≠k/\x∈ns.flatten
 len:ns'.flatten.length+f.toNat=ns.flatten.length
theorem amk {ns:List (List Ky)} (h:Good ns) (A:ns.flatten.length<=1000000) (k:Ky):DelL ns (kr ns k).1 k (kr ns k).2:=by
 by_cases p:ns=[]
 ·subst p;exact ⟨h,by simp [kr],by simp [kr],by simp [kr]⟩
 obtain ⟨i,s,l,d⟩:=spt h A k p;have f:=d.mem h;unfold kr;rw [if_neg p,d.nx,d.gd,d.px];by_cases g:l[s]?=some k
 ·rw [if_pos g];have t:=(zaa.1 g).1
  have j:l=l.take s++k::l.drop (s+1):=by
   have:l[s]=k:=(zaa.1 g).2
   conv=>lhs; rw [<- zaz s l,<- zcf t,this]
  have b:=d.all;have a:=h.so;rw [b] at a
  have n:∀N:List (List Ky),(∀m∈N,m≠[]/\m.length<=32)->N.flatten=(ns.take i).flatten++((l.take s++l.drop (s+1))++(ns.drop (i+1)).flatten)->DelL ns N k true:=λ N y r=>by
   have c:((ns.take i).flatten++((l.take s++l.drop (s+1))++(ns.drop (i+1)).flatten)).Sublist ((ns.take i).flatten++(l++(ns.drop (i+1)).flatten)):=by
    refine List.Sublist.append_left (List.Sublist.append_right ?_ _) _
    conv=>rhs; rw [j]
    exact List.Sublist.append_left (List.sublist_cons_self _ _) _
   refine ⟨⟨y,by rw [r]; exact a.sublist c⟩,by simp [f.1 g],λ x=>?_,?_⟩
   ·rw [r,b]
    have hx:∀x,x∈(ns.take i).flatten++((l.take s++l.drop (s+1))++(ns.drop (i+1)).flatten)->x≠k:=λ x hx e=>by
     subst e;rw [j] at a;have e:(ns.take i).flatten++(l.take s++x::l.drop (s+1)++(ns.drop (i+1)).flatten)=((ns.take i).flatten++l.take s)++x::(l.drop (s+1)++(ns.drop (i+1)).flatten):=by simp
     simp only [<- j] at a;rw [show (ns.take i).flatten++(l++(ns.drop (i+1)).flatten)=((ns.take i).flatten++l.take s)++x::(l.drop (s+1)++(ns.drop (i+1)).flatten) by rw [<- e,<- j],Srt,zci] at a;obtain ⟨_,z,B⟩:=a;have v:=(zby.1 z).1
     have:x∈((ns.take i).flatten++l.take s)\/x∈(l.drop (s+1)++(ns.drop (i+1)).flatten):=by
      simp only [zac] at hx |-;rcases hx with q | (q | q) | q
      ·exact .inl (.inl q)
      ·exact .inl (.inr q)
      ·exact .inr (.inl q)
      exact .inr (.inr q)
     rcases this with q | q
     ·have:=B x q x (by simp); rw [aau] at this; cases this
     have:=v x q; rw [aau] at this; cases this
    constructor
    ·intro q;exact ⟨hx x q,c.subset q⟩
    rintro ⟨D,q⟩
    have u:x∈l->x∈l.take s\/x∈l.drop (s+1):=λ q=>by
     rw [j] at q;simp only [zac,zab] at q;rcases q with q | q | q
     ·exact .inl q
     ·exact absurd q D
     exact .inr q
    simp only [zac] at q |-;rcases q with q | q | q
    ·exact .inl q
    ·exact .inr (.inl (u q))
    exact .inr (.inr q)
   have w:=congrArg zba j;rw [r,b];simp only [zao,zah,zbd] at w |-;omega
  split
  ·refine n _ (λ m f=>?_) (aeq d.lt _);rcases zay f with q | rfl
   ·exact h.ne m q
   have w:=congrArg zba j;have C:=d.le;simp only [zao,zah] at w;refine ⟨λ e=>?_,by rw [zao]; omega⟩;have:=congrArg zba e;rw [zao] at this;simp only [zai] at this;omega
  have E:l.length=1:=by omega
  have o:s=0:=by omega
  refine n _ (λ m f=>h.ne m (zbw f)) ?_;rw [o,zbn (by omega),List.take_zero,zaq,zam,List.eraseIdx_eq_take_drop_succ,List.flatten_append]
 rw [if_neg g];refine ⟨h,(decide_eq_false λ q=>g (f.2 q)).symm,λ x=>⟨λ q=>⟨λ e=>g (f.2 (e▸q)),q⟩,λ q=>q.2⟩,by simp⟩

open Go Go.RowKit
def tr (ns:List (List Ky)):AbsT:=azg ns ns.flatten.length
variable {og:Option Nat} {gs:List Nat}
theorem aa0 {b:Nat} {a:Option Nat} {d:List Nat} {w:World} (h:∀x,Ft b a d x->Ft b og gs x\/w.heap.size<=x) (i:(b::(a.toList++d)).Nodup):∀j c,fpt a d j=some c->(∃g,fpt og gs g=some c)\/w.heap.size<=c:=λ j c k=>by
 have f:=yc.1 ⟨j,k⟩;rcases h c (.inr f) with e | e
 ·rcases e with rfl | e
  ·exfalso;have:=(zak.1 i).1;apply this;rcases f with q | q
   ·exact zac.2 (.inl (by rw [q]; simp))
   exact zac.2 (.inr q)
  exact .inl (yc.2 e)
 exact .inr e
theorem ade {w w':World} {b:Nat} (h:Keeps (Ft b og gs) w w'):Keeps (λ x=>x=b\/∃j,fpt og gs j=some x) w w':=h.mono λ x hx=>by
 rcases hx with q | q
 ·exact .inl q
 exact .inr (yc.2 q)
theorem azn {ns:List (List Ky)} (h:Good ns) (C:ns.flatten.length<=100000) (k:Ky):b5 P0 26 [.ptr 1000000 0 0,k.av] [.abs (tr ns)] (bl (ei ns k).2) [.abs (tr (ei ns k).1)]:=by
 refine afw rfl λ w b D A=>?_;obtain ⟨og,gs,cap,x,rfl⟩:=A;have y:=als h (by omega) k;by_cases r:ns=[]
 ·subst r;refine (axg x k).mono ?_;rintro e w' ⟨rfl,m,d,g,a,p,u⟩;exact ⟨rfl,fpt m d,⟨m,d,g,a,rfl⟩,ade p,aa0 u a.nb⟩
 obtain ⟨i,s,l,f⟩:=spt h (by omega) k r;have z:=Good.len λ l v=>(h.ne l v).1;have o:=f.nd;have n:=f.at_;rw [<- f.nx] at n;by_cases q:l[s]?=some k
 ·refine (axf x k _ s l o n f.pl q).mono ?_;rintro e w' ⟨rfl,a,p⟩
  have t:ei ns k=(ns,false):=by
   unfold ei;rw [if_neg r,f.nx,f.gd,f.px,if_pos q]
  rw [t];exact ⟨rfl,fpt og gs,⟨og,gs,cap,a,rfl⟩,p _,λ j c B=>.inl ⟨j,B⟩⟩
 by_cases v:l.length<32
 ·refine (axe x k _ s l o n f.pl q v (by omega) (by omega)).mono ?_;rintro e w' ⟨rfl,d,a,p,u⟩
  have t:ei ns k=(ns.set (i9 ns k-1) (l.take s++k::l.drop s),true):=by
   unfold ei;rw [if_neg r,f.nx,f.gd,f.px,if_neg q,if_pos v]
  rw [t] at y |-;refine ⟨rfl,fpt og d,⟨og,d,cap,?_,rfl⟩,ade p,aa0 u a.nb⟩;have:=y.len;simp only [zbd] at this;rw [this];exact a
 refine (axd x k _ s l o n f.pl q f.le (by omega) (by omega) (by omega) (by omega)).mono ?_;rintro e w' ⟨rfl,m,d,g,a,p,u⟩
 have t:ei ns k=(ns.take (i9 ns k-1)++(l.take s++k::l.drop s).take 16::(l.take s++k::l.drop s).drop 16::ns.drop (i9 ns k-1+1),true):=by
  unfold ei;rw [if_neg r,f.nx,f.gd,f.px,if_neg q,if_neg v]
 rw [t] at y |-;refine ⟨rfl,fpt m d,⟨m,d,g,?_,rfl⟩,ade p,aa0 u a.nb⟩;have:=y.len;simp only [zbd] at this;rw [this];exact a
theorem a0f {ns:List (List Ky)} (h:Good ns) (D:ns.flatten.length<=100000) (k:Ky):b5 P0 28 [.ptr 1000000 0 0,k.av] [.abs (tr ns)] (bl (kr ns k).2) [.abs (tr (kr ns k).1)]:=by
 refine afw rfl λ w b E C=>?_;obtain ⟨og,gs,cap,v,rfl⟩:=C;have x:=amk h (by omega) k;by_cases p:ns=[]
 ·subst p;refine (ayn v k).mono ?_;rintro e w' ⟨rfl,a,n⟩;exact ⟨rfl,fpt og gs,⟨og,gs,cap,a,rfl⟩,n _,λ j c y=>.inl ⟨j,y⟩⟩
 obtain ⟨i,s,l,d⟩:=spt h (by omega) k p;have A:=Good.len λ l t=>(h.ne l t).1;have m:=d.nd;have g:=d.at_;rw [<- d.nx] at g;by_cases o:l[s]?=some k
 ·have B:0<ns.flatten.length:=zbx.2 (List.ne_nil_of_mem ((d.mem h).1 o));by_cases t:2<=l.length
  ·refine (ayl v k _ s l m g d.pl o t d.le (by omega) (by omega)).mono ?_;rintro e w' ⟨rfl,f,a,n,z⟩
   have q:kr ns k=(ns.set (i9 ns k-1) (l.take s++l.drop (s+1)),true):=by
    unfold kr;rw [if_neg p,d.nx,d.gd,d.px,if_pos o,if_pos t]
   rw [q] at x |-;refine ⟨rfl,fpt og f,⟨og,f,cap,?_,rfl⟩,ade n,aa0 z a.nb⟩;have:=x.len;simp only [zbd] at this;rw [show ((ns.set (i9 ns k-1) (l.take s++l.drop (s+1))).flatten.length:Int)=(ns.flatten.length:Int)-1 by omega];exact a
  refine (ayk v k _ s l m g d.pl o (by omega) (by omega) (by omega) (by omega)).mono ?_;rintro e w' ⟨rfl,u,f,r,a,n,z⟩
  have q:kr ns k=(ns.eraseIdx (i9 ns k-1),true):=by
   unfold kr;rw [if_neg p,d.nx,d.gd,d.px,if_pos o,if_neg t]
  rw [q] at x |-;refine ⟨rfl,fpt u f,⟨u,f,r,?_,rfl⟩,ade n,aa0 z a.nb⟩;have:=x.len;simp only [zbd] at this;rw [show ((ns.eraseIdx (i9 ns k-1)).flatten.length:Int)=(ns.flatten.length:Int)-1 by omega];exact a
 refine (aym v k _ s l m g d.pl o).mono ?_;rintro e w' ⟨rfl,a,n⟩
 have q:kr ns k=(ns,false):=by
  unfold kr;rw [if_neg p,d.nx,d.gd,d.px,if_neg o]
 rw [q];exact ⟨rfl,fpt og gs,⟨og,gs,cap,a,rfl⟩,n _,λ j c y=>.inl ⟨j,y⟩⟩
theorem azu (w:World):Calls P0 24 #[] w λ e w'=>e=.returned (.pointer (some ⟨w.heap.size,0,none⟩))/\TL w' w.heap.size none [] 0 [] 0/\∀I,Keeps I w w':=by
 go_enter func24,Go.Proofs.Tryz.ntmps24
 go_wp2_with fail
 go_ret
 refine ⟨rfl,⟨⟨_,ke rfl⟩,by simp,by simp,by simp,by simp,rfl,by simp⟩,λ I=>n8⟩
theorem azv:b5 P0 24 [] [] (.ptr 1000000 0 0) [.abs (tr [])]:=by
 intro w d ρ B A E D p r;have hc:d=#[]:=by simpa using p
 subst hc;refine (azu w).mono ?_;rintro e w' ⟨rfl,t,y⟩;have z:∀b,¬el (ob0 []) ρ b:=λ b ⟨_,_,h,_⟩=>by simp [ob0,obs] at h
 have a:∀(g:AbsT) id x,ob0 [Ob.abs g] id=some x->id=1000000/\x=(0,.abs g):=λ g id x hx=>by
  obtain ⟨m,l,C⟩:=qe hx
  have:id-1000000=0:=by
   have:=(zaa.1 l).1;simpa using this
  have a:id=1000000:=by omega
  subst a;have k:ob0 [Ob.abs g] 1000000=some (0,.abs g):=by simp [ob0,obs,upd]
  rw [k] at hx;exact ⟨rfl,(Option.some.inj hx).symm⟩
 obtain ⟨ρ',m,l⟩:∃ρ':Pl->Option Nat,ρ' (.o 1000000)=some w.heap.size/\∀j,ρ' (.s 1000000 j)=none:=⟨fun | .o i=>if i=1000000 then some w.heap.size else none | .s i j=>none,by simp,by simp⟩
 refine ⟨_,ρ',rfl,⟨λ id v o hx=>?_,λ id n x x' c hx q _ _=>?_,y _,λ id v o c hx f=>?_,λ id c u=>?_⟩,?_⟩
 ·obtain ⟨rfl,hx⟩:=a _ id _ hx;cases hx;refine ⟨w.heap.size,m,none,[],0,t,?_⟩;funext j;rw [l];cases j<;>rfl
 ·rw [(a _ id _ hx).1,(a _ n _ q).1]
 ·obtain ⟨rfl,hx⟩:=a _ id _ hx;cases hx;rcases f with f | ⟨_,j,f⟩
  ·rw [m] at f; cases f; exact .inr (zaf _)
  rw [l] at f; cases f
 ·simp [gx,obs] at u
 exact .ptr 1000000 0 0 _ rfl ⟨0,.abs (tr []),by simp [ob0,obs,upd],zaf _,λ _=>⟨w.heap.size,m,rfl⟩⟩

structure Pt where
 k:Int
 x:Int
 y:Int
 v:Int
deriving DecidableEq
def Pt.rv (p:Pt):RV:=.agg [.v (.int .i64 p.k),.v (.int .i64 p.x),.v (.int .i64 p.y),.v (.int .i64 p.v)]
def Pt.av (p:Pt):AV:=.r p.rv
def Pt.val (p:Pt):Value:=.agg #[.int .i64 p.k,.int .i64 p.x,.int .i64 p.y,.int .i64 p.v]
def Pt.ok (p:Pt):Prop:=(1<=p.k/\p.k<=2147483648)/\inW p.x p.y/\(-2147483648<=p.v/\p.v<=2147483647)
instance (p:Pt):Decidable p.ok:=inferInstanceAs (Decidable (_/\_/\_))
def Pt.w (p:Pt) (r:Nat):Nat:=afs p.x p.y r
structure MapL (l:List (Value×Value)) (es:List MapEntry) (c:Nat):Prop where
 kv:es.map (λ e=>(e.key,e.val))=l
 nd:(es.map (·.born)).Nodup
 lt:∀e∈es,e.born<c
theorem MapL.len {l:List (Value×Value)} {es:List MapEntry} {c:Nat} (h:MapL l es c):es.length=l.length:=by rw [<- h.kv]; simp
theorem ajz:MapL [] [] 0:=⟨rfl,by simp,by simp⟩
section
variable {α:Type} (kd:IntKind) (kf:α->Int) (vf:α->Value)
def ent (a:α):Value×Value:=(.int kd (kf a),vf a)
theorem ajw {l:List α} {k:Int}:∀{es:List MapEntry} (i:Nat),es.map (λ e=>(e.key,e.val))=l.map (ent kd kf vf) ->
 ab (.int kd k) es i=some ((l.findIdx? λ a=>k == kf a).bind λ j=>(l[j]?).map λ a=>(i+j,vf a)):=by
 induction l with
 | nil=>
   intro es i h;have:es=[]:=by simpa using h
   subst this
   rfl
 | cons a l ih=>
   intro es i h;cases es with
   | nil=>simp at h
   | cons e es=>
     simp only [zbb,List.cons.injEq,ent,Prod.mk.injEq] at h;obtain ⟨⟨f,g⟩,m⟩:=h;simp only [ab,f,la,if_true];by_cases c:k=kf a
     ·simp [c,zbe,g]
     have d:(k == kf a)=false:=by simp [c]
     rw [d];simp only;rw [ih (i+1) m,zbe];simp only [d,zbf,if_false];congr 1;cases hf:l.findIdx? λ a=>k == kf a with
     | none=>rfl
     | some j=>
       simp only [Option.map_some,Option.bind_some,List.getElem?_cons_succ];congr 1;funext b;congr 1;omega
variable {kd kf vf}
theorem abn {l:List α} {es:List MapEntry} {c:Nat} {k:Int} {v:Value} (h:MapL (l.map (ent kd kf vf)) es c) (i:∀a∈l,k≠kf a) :
 okK es (.int kd k)=true/\lkB es (.int kd k)=false/\(∀z,lkR es (.int kd k) z=z)/\MapL (l.map (ent kd kf vf)++[(.int kd k,v)]) (z0 es c (.int kd k) v) (v9 es c (.int kd k))/\z5 es (.int kd k)=es:=by
 have f:ab (.int kd k) es 0=some none:=by
  rw [ajw kd kf vf 0 h.kv,show (l.findIdx? λ a=>k == kf a)=none from List.findIdx?_eq_none_iff.2 λ a j=>by simp [i a j]]
  rfl
 refine ⟨by simp [okK,f],by simp [lkB,f],λ z=>by simp [lkR,f],?_,by simp [z5,f]⟩;simp only [z0,v9,f];refine ⟨by simp [h.kv],?_,?_⟩
 ·rw [zbz,List.nodup_append];refine ⟨h.nd,by simp,λ b m n g=>?_⟩;simp at g;obtain ⟨e,d,rfl⟩:=zal.1 m;have:=h.lt e d;omega
 intro e d;rcases zac.1 d with d | d
 ·have:=h.lt e d; omega
 simp at d; subst d; simp
theorem agi {c d:Type} (f:c->d) (g:c->c) (e:d->d) (h:∀b,f (g b)=e (f b)) (l:List c) (i:Nat):(l.modify i g).map f=(l.map f).modify i e:=by
 induction l generalizing i with
 | nil=>simp
 | cons a l ih=>cases i with
   | zero=>simp [h]
   | succ i=>simp [ih]
theorem wc {b c:Type} (f:b->c) (l:List b) (i:Nat):(l.eraseIdx i).map f=(l.map f).eraseIdx i:=by
 induction l generalizing i with
 | nil=>simp
 | cons a l ih=>cases i with
   | zero=>simp
   | succ i=>simp [ih]
theorem ym {l:List α} {es:List MapEntry} {c:Nat} {k:Int} {v:Value} {i:Nat} {a:α} (h:MapL (l.map (ent kd kf vf)) es c) (s:(l.findIdx? λ a=>k == kf a)=some i) (q:l[i]?=some a) :
 okK es (.int kd k)=true/\lkB es (.int kd k)=true/\(∀z,lkR es (.int kd k) z=gp (vf a))/\MapL ((l.map (ent kd kf vf)).set i (.int kd k,v)) (z0 es c (.int kd k) v) (v9 es c (.int kd k))/\MapL ((l.eraseIdx i).map (ent kd kf vf)) (z5 es (.int kd k)) c:=by
 have f:ab (.int kd k) es 0=some (some (i,vf a)):=by
  rw [ajw kd kf vf 0 h.kv,s];simp [q]
 have m:=(zaa.1 q).1;simp only [z0,v9,z5,f];refine ⟨by simp [okK,f],by simp [lkB,f],λ z=>by simp [lkR,f],⟨?_,?_,?_⟩,⟨?_,?_,?_⟩⟩
 ·rw [agi (λ e:MapEntry=>(e.key,e.val)) _ (λ _=>(.int kd k,v)) (λ b=>rfl),h.kv];apply List.ext_getElem?;intro j;rw [zcj,zbk];by_cases d:i=j
  ·subst d;simp [m]
  simp [d]
 ·have:(es.modify i λ e=>{ e with key:=.int kd k,val:=v }).map (·.born)=es.map (·.born):=by
   rw [agi (λ e:MapEntry=>e.born) (λ e=>{ e with key:=Value.int kd k,val:=v }) id (λ b=>rfl)];apply List.ext_getElem?;intro j;rw [zcj];split<;>simp
  rw [this];exact h.nd
 ·intro e o;obtain ⟨j,p⟩:=zag.1 o;rw [zcj] at p;obtain ⟨r,n,g⟩:=Option.map_eq_some_iff.1 p;have:=h.lt r (zad n);rw [<- g];split<;>exact this
 ·rw [wc,h.kv,wc]
 ·rw [wc];exact h.nd.sublist (zbo _ _)
 intro e o;exact h.lt e ((zbo _ _).mem o)
end

abbrev ptE:Pt->Value×Value:=ent .i64 (·.k) Pt.val
structure PM (L:List Pt) (es:List MapEntry) (c:Nat):Prop where
 m:MapL (L.map ptE) es c
 nd:(L.map (·.k)).Nodup
def q9 (k:Int) (L:List Pt):List Pt:=L.filter λ q=>q.k != k
theorem am6 {L:List Pt} {es:List MapEntry} {c:Nat} (h:PM L es c) {k:Int} (b:∀q∈L,q.k≠k):okK es (.int .i64 k)=true/\lkB es (.int .i64 k)=false/\(∀z,lkR es (.int .i64 k) z=z)/\z5 es (.int .i64 k)=es:=by
 obtain ⟨f,i,j,l,g⟩:=abn (v:=.int .i64 0) h.m (λ a d e=>b a d e.symm);exact ⟨f,i,j,g⟩
variable {p:Pt}
theorem apj {L:List Pt} {es:List MapEntry} {c:Nat} (h:PM L es c) (f:∀q∈L,q.k≠p.k):okK es (.int .i64 p.k)=true/\PM (L++[p]) (z0 es c (.int .i64 p.k) p.val) (v9 es c (.int .i64 p.k)):=by
 obtain ⟨i,n,r,j,o⟩:=abn (v:=p.val) h.m (λ a d e=>f a d e.symm);refine ⟨i,by rw [zbz]; exact j,?_⟩;rw [zbz,List.nodup_append];refine ⟨h.nd,by simp,λ a d b g=>?_⟩;simp at g;subst g;obtain ⟨q,l,rfl⟩:=zal.1 d;exact f q l
theorem aka {L:List Pt} (b:(L.map (·.k)).Nodup) (f:p∈L):∃i,(L.findIdx? λ a=>p.k == a.k)=some i/\L[i]?=some p/\L.eraseIdx i=q9 p.k L:=by
 induction L with
 | nil=>simp at f
 | cons a L ih=>
   rw [zbb,zak] at b;by_cases d:a=p
   ·subst d;refine ⟨0,by simp [zbe],rfl,?_⟩;simp only [List.eraseIdx_cons_zero,q9,zbr,bne_self_eq_false,zbf,if_false];rw [zca.2 λ q m=>?_];simp only [bne_iff_ne];intro e;exact b.1 (zal.2 ⟨q,m,e⟩)
   have c:p∈L:=by
    rcases zab.1 f with h | h
    ·exact absurd h.symm d
    exact h
   obtain ⟨i,j,l,n⟩:=ih b.2 c;have g:a.k≠p.k:=λ e=>b.1 (zal.2 ⟨p,c,e.symm⟩);refine ⟨i+1,?_,by simpa using l,?_⟩
   ·rw [zbe,j];have:(p.k == a.k)=false:=by simp; exact λ e=>g e.symm
    simp [this]
   simp only [List.eraseIdx_cons_succ,n,q9,zbr];have:(a.k != p.k)=true:=by simp [g]
   simp [this]
theorem ajk {L:List Pt} {es:List MapEntry} {c:Nat} (h:PM L es c) (j:p∈L):okK es (.int .i64 p.k)=true/\lkB es (.int .i64 p.k)=true/\(∀z,lkR es (.int .i64 p.k) z=p.rv)/\PM (q9 p.k L) (z5 es (.int .i64 p.k)) c:=by
 obtain ⟨i,d,e,l⟩:=aka h.nd j;obtain ⟨a,g,b,n,f⟩:=ym (v:=.int .i64 0) h.m d e;refine ⟨a,g,λ z=>by rw [b]; rfl,by rw [<- l]; exact f,?_⟩;exact h.nd.sublist (List.Sublist.map _ zcb)
theorem af4 {L:List Pt} {es:List MapEntry} {c:Nat} (h:PM L es c):es.length=L.length:=by rw [h.m.len]; simp
abbrev cnE:Nat×Int->Value×Value:=ent .u64 (λ q=>(q.1:Int)) (λ q=>.int .i64 q.2)
structure CM (f:Nat->Nat) (es:List MapEntry) (c:Nat):Prop where
 ex:∃ws:List (Nat×Int),MapL (ws.map cnE) es c/\(ws.map (·.1)).Nodup/\∀w n,(w,n)∈ws↔n=(f w:Int)/\0<f w
theorem ayp:CM (λ _=>0) [] 0:=⟨[],ajz,by simp,by simp⟩
variable {w:Nat} {ws:List (Nat×Int)}
theorem ad8 (b:(ws.map (·.1)).Nodup) {n:Int} (h:(w,n)∈ws):∃i,(ws.findIdx? λ a=>((w:Int)) == ((a.1:Nat):Int))=some i/\ws[i]?=some (w,n):=by
 induction ws with
 | nil=>simp at h
 | cons a ws ih=>
   rw [zbb,zak] at b;by_cases c:a=(w,n)
   ·subst c;exact ⟨0,by simp [zbe],rfl⟩
   have d:(w,n)∈ws:=by
    rcases zab.1 h with h | h
    ·exact absurd h.symm c
    exact h
   obtain ⟨i,f,g⟩:=ih b.2 d;have j:a.1≠w:=λ e=>b.1 (zal.2 ⟨_,d,e.symm⟩);refine ⟨i+1,?_,by simpa using g⟩;rw [zbe,f];have:(((w:Int)) == ((a.1:Nat):Int))=false:=by simp; omega
   simp [this]
variable {f:Nat->Nat}
theorem anr (h:∀w n,(w,n)∈ws↔n=(f w:Int)/\0<f w) (c:f w=0):∀a∈ws,(w:Int)≠((a.1:Nat):Int):=λ a b e=>by
 have e':w=a.1:=by omega
 subst e';have:=((h a.1 a.2).1 b).2;omega
theorem ag0 {es:List MapEntry} {c:Nat} (h:CM f es c) (w:Nat):okK es (.int .u64 w)=true/\lkR es (.int .u64 w) (.v (.int .i64 0))=.v (.int .i64 (f w)):=by
 obtain ⟨ws,g,l,e⟩:=h.ex;by_cases d:f w=0
 ·obtain ⟨a,m,b,_⟩:=abn (v:=.int .i64 0) g (anr e d);exact ⟨a,by rw [b,d]; rfl⟩
 obtain ⟨i,k,j⟩:=ad8 l ((e w (f w)).2 ⟨rfl,by omega⟩);obtain ⟨a,m,b,_⟩:=ym (v:=.int .i64 0) g k j;exact ⟨a,by rw [b]; rfl⟩
theorem aie (h:(ws.map (·.1)).Nodup) {i:Nat} {n m:Int} (c:ws[i]?=some (w,n)):((ws.set i (w,m)).map (·.1)).Nodup/\∀u k,(u,k)∈ws.set i (w,m)↔(u=w/\k=m)\/(u≠w/\(u,k)∈ws):=by
 have e:(ws.set i (w,m)).map (·.1)=ws.map (·.1):=by
  apply List.ext_getElem?;intro j;rw [List.getElem?_map,zbk,List.getElem?_map];by_cases a:i=j
  ·subst a;have:=(zaa.1 c).1;rw [if_pos rfl,if_pos this,c]
   rfl
  simp [a]
 refine ⟨by rw [e]; exact h,λ u k=>?_⟩;have d:=(zaa.1 c).1;constructor
 ·intro g;obtain ⟨j,b⟩:=zag.1 g;rw [zbk] at b;by_cases a:i=j
  ·subst a;simp [d] at b;exact .inl ⟨b.1.symm,b.2.symm⟩
  simp [a] at b;refine .inr ⟨λ e=>?_,zad b⟩;subst e;have o:(ws.map (·.1))[i]?=some u:=by simp [c]
  have l:(ws.map (·.1))[j]?=some u:=by simp [b]
  exact a (ve h o l)
 rintro (⟨rfl,rfl⟩ | ⟨f,g⟩)
 ·exact zag.2 ⟨i,by simp [d]⟩
 obtain ⟨j,b⟩:=zag.1 g;refine zag.2 ⟨j,?_⟩;rw [zbk];by_cases a:i=j
 ·subst a;rw [c] at b;cases b;exact absurd rfl f
 simp [a,b]
theorem ap0 (h:(ws.map (·.1)).Nodup) {i:Nat} {n:Int} (f:ws[i]?=some (w,n)):((ws.eraseIdx i).map (·.1)).Nodup/\∀u k,(u,k)∈ws.eraseIdx i↔u≠w/\(u,k)∈ws:=by
 refine ⟨h.sublist ((zbo _ _).map _),λ u k=>⟨λ b=>⟨λ e=>?_,(zbo _ _).mem b⟩,λ ⟨c,b⟩=>?_⟩⟩
 ·subst e;obtain ⟨j,a⟩:=zag.1 b;have g:(ws.map (·.1))[i]?=some u:=by simp [f]
  rw [zbv] at a;split at a
  ·have:=ve h g (show (ws.map (·.1))[j]?=some u by simp [a]); omega
  have:=ve h g (show (ws.map (·.1))[j+1]?=some u by simp [a]); omega
 obtain ⟨j,a⟩:=zag.1 b
 have l:i≠j:=λ e=>by
  subst e;rw [f] at a;cases a;exact c rfl
 refine zag.2 ?_;by_cases d:j<i
 ·exact ⟨j,by rw [zbv,if_pos d]; exact a⟩
 exact ⟨j-1,by rw [zbv,if_neg (by omega),show j-1+1=j by omega]; exact a⟩
def upw (f:Nat->Nat) (w n:Nat):Nat->Nat:=λ u=>if u=w then n else f u
theorem akj {es:List MapEntry} {c:Nat} (h:CM f es c) (w n:Nat) (C:0<n):CM (upw f w n) (z0 es c (.int .u64 w) (.int .i64 n)) (v9 es c (.int .u64 w)):=by
 obtain ⟨ws,p,l,e⟩:=h.ex;by_cases j:f w=0
 ·obtain ⟨s,x,t,o,_⟩:=abn (v:=.int .i64 n) p (anr e j);refine ⟨ws++[(w,(n:Int))],by simpa [ent] using o,?_,λ u k=>?_⟩
  ·rw [zbz,List.nodup_append];refine ⟨l,by simp,λ a g b r=>?_⟩;simp at r;subst r;obtain ⟨q,B,rfl⟩:=zal.1 g;have:=anr e j q B;omega
  simp only [zac,zcc,Prod.mk.injEq,e,upw];by_cases d:u=w
  ·subst d; simp [j]; omega
  simp [d]
 obtain ⟨i,z,g⟩:=ad8 l ((e w (f w)).2 ⟨rfl,by omega⟩);obtain ⟨s,x,t,o,_⟩:=ym (v:=.int .i64 n) p z g;obtain ⟨A,y⟩:=aie (m:=(n:Int)) l g;refine ⟨ws.set i (w,(n:Int)),?_,A,λ u k=>?_⟩
 ·rw [List.map_set]; exact o
 rw [y];simp only [e,upw];by_cases d:u=w
 ·subst d; simp; omega
 simp [d]
theorem amm {es:List MapEntry} {c:Nat} (h:CM f es c) (w:Nat) (p:0<f w) :
 okK (z0 es c (.int .u64 w) (.int .i64 0)) (.int .u64 w)=true/\lkR (z0 es c (.int .u64 w) (.int .i64 0)) (.int .u64 w) (.v (.int .i64 0))=.v (.int .i64 0) /\
 CM (upw f w 0) (z5 (z0 es c (.int .u64 w) (.int .i64 0)) (.int .u64 w)) (v9 es c (.int .u64 w)):=by
 obtain ⟨ws,z,j,o⟩:=h.ex;obtain ⟨i,s,e⟩:=ad8 j ((o w (f w)).2 ⟨rfl,p⟩);obtain ⟨D,F,E,y,_⟩:=ym (v:=.int .i64 0) z s e;obtain ⟨l,g⟩:=aie (m:=0) j e;have b:MapL ((ws.set i (w,0)).map cnE) (z0 es c (.int .u64 w) (.int .i64 0)) (v9 es c (.int .u64 w)):=by rw [List.map_set]; exact y
 have r:=(zaa.1 e).1;obtain ⟨q,d,a⟩:=ad8 l ((g w 0).2 (.inl ⟨rfl,rfl⟩));obtain ⟨x,G,B,_,t⟩:=ym (v:=.int .i64 0) b d a;refine ⟨x,by rw [B]; rfl,?_⟩;obtain ⟨C,A⟩:=ap0 l a;refine ⟨(ws.set i (w,0)).eraseIdx q,t,C,λ u k=>?_⟩;rw [A,g];simp only [o,upw];by_cases n:u=w
 ·subst n; simp
 simp [n]

theorem abm {e:Type} {l:List e} (h:l.Nodup) {i:Nat} {x:e} (g:l[i]?=some x) (k:l[j]?=some x):i=j:=by
 obtain ⟨d,f⟩:=zaa.1 g;obtain ⟨b,c⟩:=zaa.1 k;rcases Nat.lt_trichotomy i j with a | rfl | a
 ·exact absurd (by rw [f,c]) (zbp.1 h i j d b a)
 ·rfl
 exact absurd (by rw [f,c]) (zbp.1 h j i b d a)
def cnt (L:List Pt) (r:Nat):Nat->Nat:=λ w=>L.countP λ p=>p.w r == w
theorem avy (L:List Pt) (p:Pt) (r:Nat):cnt (L++[p]) r=upw (cnt L r) (p.w r) (cnt L r (p.w r)+1):=by
 funext w;simp only [cnt,upw,List.countP_append,List.countP_cons,List.countP_nil,Nat.zero_add];by_cases h:p.w r=w
 ·subst h; simp
 have:¬w=p.w r:=λ e=>h e.symm;simp [h,this]
theorem aeu {L:List Pt} (b:(L.map (·.k)).Nodup) (g:p∈L) (r:Nat):0<cnt L r (p.w r)/\cnt (q9 p.k L) r=upw (cnt L r) (p.w r) (cnt L r (p.w r)-1):=by
 have c:∀w,cnt (q9 p.k L) r w+(if p.w r=w then 1 else 0)=cnt L r w:=by
  intro w
  induction L with
  | nil=>simp at g
  | cons a L ih=>
    rw [zbb,zak] at b;by_cases f:a=p
    ·subst f
     have e:q9 a.k (a::L)=L:=by
      simp only [q9,zbr,bne_self_eq_false,zbf,if_false]
      exact zca.2 λ q l=>by
       simp only [bne_iff_ne];intro e;exact b.1 (zal.2 ⟨q,l,e⟩)
     rw [e];simp only [cnt,List.countP_cons,beq_iff_eq]
    have d:p∈L:=by
     rcases zab.1 g with h | h
     ·exact absurd h.symm f
     exact h
    have m:(a.k != p.k)=true:=by
     simp only [bne_iff_ne];exact λ e=>b.1 (zal.2 ⟨p,d,e.symm⟩)
    have e:q9 p.k (a::L)=a::q9 p.k L:=by simp [q9,zbr,m]
    have:=ih b.2 d;rw [e];simp only [cnt,List.countP_cons] at this |-;omega
 have i:0<cnt L r (p.w r):=by
  have:=c (p.w r);simp at this;omega
 refine ⟨i,?_⟩;funext w;have:=c w;unfold upw;by_cases h:p.w r=w
 ·subst h; simp at this |-; omega
 have j:¬w=p.w r:=λ e=>h e.symm;simp [h] at this;simp [j,this]
theorem aq5 (f:Nat->Nat) (w n:Nat):upw f w n w=n:=by simp [upw]
def Pt.ky (p:Pt) (r:Nat):Ky:=⟨p.w r,p.v,p.k⟩
variable {r:Nat}
theorem Pt.w_res (h:p.ok) (b:r<13):ano (p.w r)=true/\abh (p.w r)=r/\p.w r<18446744073709551616:=by
 have a:=afb p.x p.y r h.2.1.1 h.2.1.2 (by omega);exact ⟨ap8 a,(ai1 r _ a).2,ahc r _ a⟩
variable {q:Pt}
theorem Pt.ky_inj (g:p.ok) (f:q.ok) {s:Nat} (d:r<13) (c:s<13) (h:p.ky r=q.ky s):r=s/\p.k=q.k:=by
 simp only [Pt.ky,Ky.mk.injEq] at h;obtain ⟨j,l,i⟩:=h;have e:p.w r=q.w s:=by omega
 have a:=(Pt.w_res g d).2.1;have b:=(Pt.w_res f c).2.1;rw [e,b] at a;exact ⟨a.symm,i⟩
structure TK (K:Ky->Prop) (n:Nat) (ns:List (List Ky)):Prop where
 g:Good ns
 m:∀x,x∈ns.flatten↔K x
 l:ns.flatten.length=n
variable {n:Nat} {K:Ky->Prop}
theorem TK.put {ns:List (List Ky)} (h:TK K n ns) (d:n<=100000) {k:Ky} (c:¬K k):TK (λ x=>x=k\/K x) (n+1) (ei ns k).1/\(ei ns k).2=true:=by
 have a:=als h.g (by rw [h.l]; omega) k;have b:(ei ns k).2=true:=by rw [a.flag]; simp [h.m,c]
 refine ⟨⟨a.good,λ x=>by rw [a.mem,h.m],?_⟩,b⟩;rw [a.len,h.l,b]
 rfl
theorem TK.del {ns:List (List Ky)} (h:TK K (n+1) ns) (d:n<=100000) {k:Ky} (c:K k):TK (λ x=>x≠k/\K x) n (kr ns k).1/\(kr ns k).2=true:=by
 have a:=amk h.g (by rw [h.l]; omega) k;have b:(kr ns k).2=true:=by rw [a.flag]; simp [h.m,c]
 refine ⟨⟨a.good,λ x=>by rw [a.mem,h.m],?_⟩,b⟩;have:=a.len;rw [h.l,b] at this;have e:Bool.toNat true=1:=rfl;omega
theorem TK.congr {a:Ky->Prop} {ns:List (List Ky)} (h:TK K n ns) (b:∀x,K x↔a x):TK a n ns:=⟨h.g,λ x=>(h.m x).trans (b x),h.l⟩
def KL (L:List Pt) (x:Ky):Prop:=∃p,p∈L/\∃r,r<13/\x=p.ky r
def nsP (ns:List (List Ky)) (p:Pt):Nat->List (List Ky)
 | 0=>ns
 | r+1=>(ei (nsP ns p r) (p.ky r)).1
def nsD (ns:List (List Ky)) (p:Pt):Nat->List (List Ky)
 | 0=>ns
 | r+1=>(kr (nsD ns p r) (p.ky r)).1
theorem agd {L:List Pt} {p:Pt} {n:Nat} {ns:List (List Ky)} (b:p.ok) (c:∀q∈L,q.ok/\q.k≠p.k) (h:TK (KL L) n ns) (i:n<=50000):∀r,r<=13->TK (λ x=>KL L x\/∃s,s<r/\x=p.ky s) (n+r) (nsP ns p r)
 | 0,_=>h.congr λ x=>by simp
 | r+1,hr=>by
   have j:=agd b c h i r (by omega)
   have f:¬(KL L (p.ky r)\/∃s,s<r/\p.ky r=p.ky s):=by
    rintro (⟨q,g,s,a,e⟩ | ⟨s,a,e⟩)
    ·exact (c q g).2 (Pt.ky_inj b (c q g).1 (by omega) a e).2.symm
    have:=(Pt.ky_inj b b (by omega) (by omega) e).1; omega
   refine ((j.put (by omega) f).1).congr λ x=>?_;constructor
   ·rintro (rfl | h | ⟨s,a,rfl⟩)
    ·exact .inr ⟨r,by omega,rfl⟩
    ·exact .inl h
    exact .inr ⟨s,by omega,rfl⟩
   rintro (h | ⟨s,a,rfl⟩)
   ·exact .inr (.inl h)
   by_cases d:s=r
   ·subst d; exact .inl rfl
   exact .inr (.inr ⟨s,by omega,rfl⟩)
theorem ajq {L:List Pt} {p:Pt} {n:Nat} {ns:List (List Ky)} (f:p∈L) (t:∀q∈L,q.ok) (d:(L.map (·.k)).Nodup) (h:TK (KL L) (n+13) ns) (B:n<=50000):∀r,r<=13->TK (λ x=>KL (q9 p.k L) x\/∃s,r<=s/\s<13/\x=p.ky s) (n+(13-r)) (nsD ns p r)
 | 0,_=>h.congr λ x=>by
   constructor
   ·rintro ⟨q,b,r,c,rfl⟩;by_cases z:q.k=p.k
    ·have:q=p:=by
      obtain ⟨i,y⟩:=zag.1 b;obtain ⟨j,o⟩:=zag.1 f;have:=abm d (show (L.map (·.k))[i]?=some p.k by simp [y,z]) (show (L.map (·.k))[j]?=some p.k by simp [o]);subst this;rw [y] at o;exact Option.some.inj o
     subst this;exact .inr ⟨r,by omega,c,rfl⟩
    exact .inl ⟨q,zar.2 ⟨b,by simp [z]⟩,r,c,rfl⟩
   rintro (⟨q,b,r,c,rfl⟩ | ⟨s,_,g,rfl⟩)
   ·exact ⟨q,(zar.1 b).1,r,c,rfl⟩
   exact ⟨p,f,s,g,rfl⟩
 | r+1,c=>by
   have A:=ajq f t d h B r (by omega);have a:=t p f;rw [show n+(13-r)=n+(13-(r+1))+1 by omega] at A;refine ((A.del (by omega) (.inr ⟨r,zaf _,by omega,rfl⟩)).1).congr λ x=>?_;constructor
   ·rintro ⟨u,h | ⟨s,C,l,rfl⟩⟩
    ·exact .inl h
    by_cases w:s=r
    ·subst w; exact absurd rfl u
    exact .inr ⟨s,by omega,l,rfl⟩
   rintro (⟨q,b,s,g,rfl⟩ | ⟨s,C,l,rfl⟩)
   ·obtain ⟨m,v⟩:=zar.1 b;refine ⟨λ e=>?_,.inl ⟨q,b,s,g,rfl⟩⟩;have:=(Pt.ky_inj (t q m) a g (by omega) e).2;simp [this] at v
   refine ⟨λ e=>?_,.inr ⟨s,by omega,l,rfl⟩⟩;have:=(Pt.ky_inj a a l (by omega) e).1;omega

def ab9:Mk P0 f27:={ x:=_ }
def ln:Mk P0 f12:={ x:=_ }
theorem pi:pg 12 2 ln:=ft func12
theorem ahb (p:Pt) (r:Int) (h:p.ok) (a:0<=r/\r<=12):b5 P0 27 [p.av,int .i64 r] [] (uw (p.w r.toNat)) []:=by
 refine ab9.t func27 ?_
 push_cast [ab9,Pt.av,Pt.rv,zai]
 refine a7 (a0h p.x p.y r h.2.1 a) rfl trivial ?_
 push_cast [cel]
 refine b9 (as':=[cel r (i7 p.x p.y r.toNat)]) rfl ?_;refine a7 (awo r (i7 p.x p.y r.toNat) a.1 (afb p.x p.y r.toNat h.2.1.1 h.2.1.2 (by omega))) rfl trivial ?_
 push_cast [uw]
 rfl
def c8 (es:List MapEntry) (c:Nat) (ns:List (List Ky)) (ce:Nat->List MapEntry) (cc:Nat->Nat):List Ob:=
 [.box [.mp 1000001 0,.ptr 1000002 0 0,.mp 1000003 0,.mp 1000004 0,.mp 1000005 0,.mp 1000006 0,.mp 1000007 0,.mp 1000008 0,.mp 1000009 0,.mp 1000010 0,.mp 1000011 0,.mp 1000012 0,.mp 1000013 0,.mp 1000014 0,.mp 1000015 0],.map es c,.abs (tr ns),.map (ce 0) (cc 0),.map (ce 1) (cc 1),.map (ce 2) (cc 2),.map (ce 3) (cc 3),.map (ce 4) (cc 4),.map (ce 5) (cc 5),.map (ce 6) (cc 6),.map (ce 7) (cc 7),.map (ce 8) (cc 8),.map (ce 9) (cc 9),.map (ce 10) (cc 10),.map (ce 11) (cc 11),.map (ce 12) (cc 12)]
theorem ady (a b:List (List Ky)):(tr a).size=(tr b).size:=rfl
def stg {c:Type} (b a:Nat->c) (r j:Nat):c:=if j<r then b j else a j
theorem am0 {c:Type} (b a:Nat->c):stg b a 0=a:=by funext j; simp [stg]
structure StL (L:List Pt) (es:List MapEntry) (c:Nat) (ns:List (List Ky)) (ce:Nat->List MapEntry) (cc:Nat->Nat):Prop where
 ok:∀q∈L,q.ok
 le:L.length<=2000
 pm:PM L es c
 tk:TK (KL L) (13*L.length) ns
 cm:∀r,r<13->CM (cnt L r) (ce r) (cc r)
def yw (L:List Pt) (p:Pt) (ce:Nat->List MapEntry) (cc:Nat->Nat) (r:Nat):List MapEntry:=
 if cnt L r (p.w r)=1 then z5 (z0 (ce r) (cc r) (.int .u64 (p.w r)) (.int .i64 0)) (.int .u64 (p.w r)) else z0 (ce r) (cc r) (.int .u64 (p.w r)) (.int .i64 ((cnt L r (p.w r)-1:Nat):Int))
def afj (p:Pt) (ce:Nat->List MapEntry) (cc:Nat->Nat) (r:Nat):Nat:=v9 (ce r) (cc r) (.int .u64 (p.w r))
theorem a0g {L:List Pt} {ce:Nat->List MapEntry} {cc:Nat->Nat} (a:(L.map (·.k)).Nodup) (d:p∈L) (h:CM (cnt L r) (ce r) (cc r)):CM (cnt (q9 p.k L) r) (yw L p ce cc r) (afj p ce cc r):=by
 obtain ⟨c,e⟩:=aeu a d r;rw [e];unfold yw afj;split
 ·rename_i b;rw [b];exact (amm h (p.w r) c).2.2
 exact akj h (p.w r) _ (by omega)
theorem aab {L:List Pt} (a:(L.map (·.k)).Nodup) (c:p∈L):(q9 p.k L).length+1=L.length:=by
 obtain ⟨i,f,d,e⟩:=aka a c;have b:=(zaa.1 d).1;rw [<- e,zbu];simp [b];omega
theorem StL.del {L:List Pt} {es:List MapEntry} {c:Nat} {ns:List (List Ky)} {ce:Nat->List MapEntry} {cc:Nat->Nat} (h:StL L es c ns ce cc) (a:p∈L) :
 StL (q9 p.k L) (z5 es (.int .i64 p.k)) c (nsD ns p 13) (yw L p ce cc) (afj p ce cc):=by
 have f:=aab h.pm.nd a;have b:=h.tk;rw [show 13*L.length=13*(q9 p.k L).length+13 by omega] at b;refine ⟨λ q e=>h.ok q (zar.1 e).1,by have:=h.le; omega,(ajk h.pm a).2.2.2,?_,λ r d=>a0g h.pm.nd a (h.cm r d)⟩;have:=ajq a h.ok h.pm.nd b (by have:=h.le; omega) 13 (zaf _);refine this.congr λ x=>?_;constructor
 ·rintro (h | ⟨s,g,i,_⟩)
  ·exact h
  omega
 exact .inl
section
variable {L:List Pt} {es:List MapEntry} {c:Nat} {ns:List (List Ky)} {ce:Nat->List MapEntry} {cc:Nat->Nat}
theorem aqj (h:StL L es c ns ce cc) (k:Int) (b:∀q∈L,q.k≠k):b5 P0 12 [.ptr 1000000 0 0,int .i64 k] (c8 es c ns ce cc) (bl false) (c8 es c ns ce cc):=by
 obtain ⟨a,e,d,f⟩:=am6 h.pm b;refine pi rfl (by simp [c8]) ?_
 push_cast [ln,c8,zah,zai,a,e,d]
 repeat refine sI ?_
theorem avv (h:StL L es c ns ce cc) (e:p∈L):b5 P0 12 [.ptr 1000000 0 0,int .i64 p.k] (c8 es c ns ce cc) (bl true) (c8 (z5 es (.int .i64 p.k)) c (nsD ns p 13) (yw L p ce cc) (afj p ce cc)):=by
 obtain ⟨F,J,H,Q⟩:=ajk h.pm e;have b:=h.ok p e;have P:=aab h.pm.nd e;have u:=h.le;have D:=h.tk;rw [show 13*L.length=13*(q9 p.k L).length+13 by omega] at D;have C:=ajq e h.ok h.pm.nd D (by omega);refine pi rfl (by simp [c8]) ?_;simp only [ln,c8,F,J,H,Pt.rv,push_cast,↓reduceIte,reduceCtorEq,zB,zE,zA,zS,zL,zD,zM]
 repeat refine sI ?_
 refine c9 [(25,false),(0,false),(5,false),(1,false)] (λ vs pos f=>∃r:Nat,r<=13/\vs=[int .i64 r,.ptr 1000000 0 0,.ptr 2000000 0 0,int .i64 p.k]/\pos=c8 (z5 es (.int .i64 p.k)) c (nsD ns p r) (stg (yw L p ce cc) ce r) (stg (afj p ce cc) cc r)/\f=[.box [int .i64 p.k,int .i64 p.x,int .i64 p.y,int .i64 p.v]])
  (λ vs _ _=>match vs with | .r (.v (.int _ j))::_=>(13-j).toNat | _=>0) rfl ?_ ?_
 ·simp only [am0,c8,push_cast,↓reduceIte,reduceCtorEq,zB,zE,zA,zS,zL,zD,zM];refine ⟨0,by omega,?_⟩;simp only [am0,nsD,c8];exact ⟨rfl,trivial⟩
 rintro vs pos f ⟨r,N,rfl,a,rfl⟩;by_cases A:r=13
 ·subst A;have m:c8 (z5 es (.int .i64 p.k)) c (nsD ns p 13) (stg (yw L p ce cc) ce 13) (stg (afj p ce cc) cc 13)=c8 (z5 es (.int .i64 p.k)) c (nsD ns p 13) (yw L p ce cc) (afj p ce cc):=rfl;rw [m] at a;subst a;simp only [c8,show decide ((13:Int)<13)=false from rfl,push_cast,↓reduceIte,reduceCtorEq,zB,zE,zA,zS,zL,zD,zM]
 have i:r<13:=by omega
 have d:=h.cm r i;obtain ⟨q,o⟩:=ag0 d (p.w r);obtain ⟨I,_⟩:=aeu h.pm.nd e r;have O:=(Pt.w_res b i).2.2;have G:cnt L r (p.w r)<=2000:=Nat.le_trans List.countP_le_length u;have n:=a0f (C r (by omega)).g (by rw [(C r (by omega)).l]; omega) (p.ky r);by_cases B:cnt L r (p.w r)=1
 ·obtain ⟨t,s,E⟩:=amm d (p.w r) I;rw [B] at o;have z:yw L p ce cc r=z5 (z0 (ce r) (cc r) (.int .u64 (p.w r)) (.int .i64 0)) (.int .u64 (p.w r)):=by unfold yw; rw [if_pos B]
  rcases (show r=0\/r=1\/r=2\/r=3\/r=4\/r=5\/r=6\/r=7\/r=8\/r=9\/r=10\/r=11\/r=12 by omega) with rfl | rfl | rfl | rfl | rfl | rfl | rfl | rfl | rfl | rfl | rfl | rfl | rfl<;>(
   simp only [c8,stg,zbg,↓reduceIte] at a;subst a;simp only [Int.reduceLT,push_cast,↓reduceIte,reduceCtorEq,zB,zE,zA,zS,zL,zD,zM];refine b9 (as':=[p.av,int .i64 _]) rfl ?_;refine a7 (ahb p _ b (by decide)) rfl trivial ?_;simp only [zae,uw,push_cast,↓reduceIte,reduceCtorEq,zB,zE,zA,zS,zL,zD,zM]
   repeat refine sI ?_
   refine x8 (as':=[.ptr 1000000 0 0,(p.ky _).av]) rfl ?_;refine d9 n rfl ⟨ady _ _,trivial⟩ ?_;simp only [q,o,push_cast,↓reduceIte,reduceCtorEq,zB,zE,zA,zS,zL,zD,zM];refine ⟨by kernel_rfl,?_⟩;simp only [q,o,t,s,zae,show IntKind.i64.wrap ((1:Int)-1)=0 from by decide,show ((0:Int) == 0)=true from rfl,push_cast,↓reduceIte,reduceCtorEq,zB,zE,zA,zS,zL,zD,zM]
   repeat refine sI ?_
   refine ⟨⟨_+1,by decide,rfl,?_⟩,by decide⟩;simp only [c8,stg,zbg,Nat.reduceAdd,↓reduceIte,z]
   rfl)
 have M:0<cnt L r (p.w r)-1:=by omega
 have z:yw L p ce cc r=z0 (ce r) (cc r) (.int .u64 (p.w r)) (.int .i64 ((cnt L r (p.w r)-1:Nat):Int)):=by unfold yw; rw [if_neg B]
 obtain ⟨t,s⟩:=ag0 (akj d (p.w r) _ M) (p.w r);rw [aq5] at s;have E:(((cnt L r (p.w r)-1:Nat):Int) == 0)=false:=by simp; omega
 have K:IntKind.i64.wrap ((cnt L r (p.w r):Int)-1)=((cnt L r (p.w r)-1:Nat):Int):=by rw [a6 (by omega)]; omega
 rcases (show r=0\/r=1\/r=2\/r=3\/r=4\/r=5\/r=6\/r=7\/r=8\/r=9\/r=10\/r=11\/r=12 by omega) with rfl | rfl | rfl | rfl | rfl | rfl | rfl | rfl | rfl | rfl | rfl | rfl | rfl<;>(
  simp only [c8,stg,zbg,↓reduceIte] at a;subst a;simp only [Int.reduceLT,push_cast,↓reduceIte,reduceCtorEq,zB,zE,zA,zS,zL,zD,zM];refine b9 (as':=[p.av,int .i64 _]) rfl ?_;refine a7 (ahb p _ b (by decide)) rfl trivial ?_;simp only [zae,uw,push_cast,↓reduceIte,reduceCtorEq,zB,zE,zA,zS,zL,zD,zM]
  repeat refine sI ?_
  refine x8 (as':=[.ptr 1000000 0 0,(p.ky _).av]) rfl ?_;refine d9 n rfl ⟨ady _ _,trivial⟩ ?_;simp only [q,o,push_cast,↓reduceIte,reduceCtorEq,zB,zE,zA,zS,zL,zD,zM];refine ⟨by kernel_rfl,?_⟩;simp only [q,o,t,s,E,K,zae,push_cast,↓reduceIte,reduceCtorEq,zB,zE,zA,zS,zL,zD,zM]
  repeat refine sI ?_
  refine ⟨⟨_+1,by decide,rfl,?_⟩,by decide⟩;simp only [c8,stg,zbg,Nat.reduceAdd,↓reduceIte,z]
  rfl)
end

def aei:Mk P0 f44:={ x:=_ }
def acy:Mk P0 f45:={ x:=_ }
def ah7:Mk P0 f25:={ x:=_ }
theorem aps (n:Int):b5 P0 44 [int .i64 n] [] (bl (decide (0<=n/\n<1073741824))) []:=by
 refine aei.t func44 ?_
 push_cast [aei,zai]
 by_cases h:0<=n<;>by_cases a:n<1073741824<;>simp [h,a,push_cast,↓reduceIte,reduceCtorEq,zB,zE,zA,zS,zL,zD,zM]
theorem au7 (n:Int):b5 P0 45 [int .i64 n] [] (bl (decide (1<=n/\n<=2147483648))) []:=by
 refine acy.t func45 ?_
 push_cast [acy,zai]
 by_cases h:1<=n<;>by_cases a:n<=2147483648<;>simp [h,a,push_cast,↓reduceIte,reduceCtorEq,zB,zE,zA,zS,zL,zD,zM]
theorem ahk (p:Pt):b5 P0 25 [p.av] [] (bl (decide p.ok)) []:=by
 refine ah7.t func25 ?_
 push_cast [ah7,Pt.av,Pt.rv,zai]
 refine a7 (au7 p.k) rfl trivial ?_
 push_cast
 by_cases h:1<=p.k/\p.k<=2147483648
 ·rw [decide_eq_true h]
  push_cast
  refine ⟨by kernel_rfl,?_⟩;refine a7 (aps p.x) rfl trivial ?_
  push_cast
  by_cases hx:0<=p.x/\p.x<1073741824
  ·rw [decide_eq_true hx]
   push_cast
   refine ⟨by kernel_rfl,?_⟩;refine a7 (aps p.y) rfl trivial ?_
   push_cast
   by_cases hy:0<=p.y/\p.y<1073741824
   ·rw [decide_eq_true hy];by_cases b:-2147483648<=p.v<;>by_cases c:p.v<=2147483647<;>simp [b,c,h,hx,hy,Pt.ok,inW,push_cast,↓reduceIte,reduceCtorEq,zB,zE,zA,zS,zL,zD,zM]
   rw [decide_eq_false hy,decide_eq_false (p:=p.ok) (λ a=>hy a.2.1.2)]
   push_cast
  rw [decide_eq_false hx,decide_eq_false (p:=p.ok) (λ a=>hx a.2.1.1)]
  push_cast
 rw [decide_eq_false h,decide_eq_false (p:=p.ok) (λ a=>h a.1)]
 push_cast

def er:Mk P0 f11:={ x:=_ }
theorem go:pg 11 2 er:=ft func11
def aj4 (L:List Pt) (p:Pt) (ce:Nat->List MapEntry) (cc:Nat->Nat) (r:Nat):List MapEntry:=z0 (ce r) (cc r) (.int .u64 (p.w r)) (.int .i64 ((cnt L r (p.w r):Int)+1))
def aj5 (p:Pt) (ce:Nat->List MapEntry) (cc:Nat->Nat) (r:Nat):Nat:=v9 (ce r) (cc r) (.int .u64 (p.w r))
theorem StL.put {L:List Pt} {es:List MapEntry} {c:Nat} {ns:List (List Ky)} {ce:Nat->List MapEntry} {cc:Nat->Nat} (h:StL L es c ns ce cc) (e:p.ok) (d:∀q∈L,q.k≠p.k) (g:L.length<2000) :
 StL (L++[p]) (z0 es c (.int .i64 p.k) p.val) (v9 es c (.int .i64 p.k)) (nsP ns p 13) (aj4 L p ce cc) (aj5 p ce cc):=by
 refine ⟨λ q a=>?_,by simp; omega,(apj h.pm d).2,?_,λ r b=>?_⟩
 ·rcases zac.1 a with a | a
  ·exact h.ok q a
  rw [zcc.1 a]; exact e
 ·have:=agd e (λ q a=>⟨h.ok q a,d q a⟩) h.tk (by omega) 13 (zaf _);rw [zao,List.length_singleton,Nat.mul_add];refine this.congr λ x=>?_;unfold KL;constructor
  ·rintro (⟨q,a,r,b,rfl⟩ | ⟨s,f,rfl⟩)
   ·exact ⟨q,List.mem_append_left _ a,r,b,rfl⟩
   exact ⟨p,by simp,s,f,rfl⟩
  rintro ⟨q,a,r,b,rfl⟩;rcases zac.1 a with a | a
  ·exact .inl ⟨q,a,r,b,rfl⟩
  rw [zcc.1 a]; exact .inr ⟨r,b,rfl⟩
 rw [avy];have:=akj (h.cm r b) (p.w r) (cnt L r (p.w r)+1) (by omega);exact this
theorem au8 {L:List Pt} {ns:List (List Ky)} (a:p.ok) (b:∀q∈L,q.ok/\q.k≠p.k) (h:TK (KL L) n ns) (g:n<=50000) (d:r<13):(ei (nsP ns p r) (p.ky r)).2=true:=by
 have:=agd a b h g r (by omega);refine (this.put (by omega) ?_).2;rintro (⟨q,f,s,c,e⟩ | ⟨s,c,e⟩)
 ·exact (b q f).2 (Pt.ky_inj a (b q f).1 d c e).2.symm
 have:=(Pt.ky_inj a a d (by omega) e).1;omega
section
variable {L:List Pt} {es es1:List MapEntry} {c c1:Nat} {ns ns1:List (List Ky)} {ce ce1:Nat->List MapEntry} {cc cc1:Nat->Nat}
theorem ajh {b:Bool} (h:StL L es1 c1 ns1 ce1 cc1) (f:p.ok) (B:∀q∈L,q.k≠p.k) (G:L.length<2000)
 (i:b5 P0 12 [.ptr 1000000 0 0,int .i64 p.k] (c8 es c ns ce cc) (bl b) (c8 es1 c1 ns1 ce1 cc1))
 (E:okK es (.int .i64 p.k)=true) (z:∃v,lkR es (.int .i64 p.k) (.agg [.v (.int .i64 0),.v (.int .i64 0),.v (.int .i64 0),.v (.int .i64 0)])=Pt.rv v) (t:lkB es (.int .i64 p.k)=true\/(lkB es (.int .i64 p.k)=false/\es.length<2000)) :
 b5 P0 11 [.ptr 1000000 0 0,p.av] (c8 es c ns ce cc) (bl true) (c8 (z0 es1 c1 (.int .i64 p.k) p.val) (v9 es1 c1 (.int .i64 p.k)) (nsP ns1 p 13) (aj4 L p ce1 cc1) (aj5 p ce1 cc1)):=by
 obtain ⟨M,_⟩:=apj h.pm B;have J:=agd f (λ q s=>⟨h.ok q s,B q s⟩) h.tk (by omega);obtain ⟨v,z⟩:=z;refine go rfl (by simp [c8]) ?_
 push_cast [er,c8,Pt.av,Pt.rv,zah,zai,E,z]
 repeat refine sI ?_
 refine b9 (as':=[p.av]) rfl ?_;refine a7 (ahk p) rfl trivial ?_;rw [decide_eq_true f]
 push_cast
 refine c7 (λ hc=>?_) (λ hc=>?_)
 ·exfalso;rcases t with t | ⟨t,R⟩<;>simp [t] at hc;omega
 simp only [c8] at i
 push_cast
 refine a7 i rfl ⟨rfl,trivial,ady _ _,trivial,trivial,trivial,trivial,trivial,trivial,trivial,trivial,trivial,trivial,trivial,trivial,trivial,trivial⟩ ?_;have N:∀a b c d:Int,toV (.r (.agg [.v (.int .i64 a),.v (.int .i64 b),.v (.int .i64 c),.v (.int .i64 d)]))=some (Pt.val ⟨a,b,c,d⟩):=λ _ _ _ _=>rfl
 push_cast [M,N]
 repeat refine sI ?_
 refine c9 [(51,false),(0,false),(3,false),(7,false)] (λ vs pos n=>∃r:Nat,r<=13/\vs=[int .i64 r,.ptr 1000000 0 0,.ptr 2000000 0 0,.fn (.func 26) [.ptr 1000002 0 0] 1]/\pos=c8 (z0 es1 c1 (.int .i64 p.k) p.val) (v9 es1 c1 (.int .i64 p.k)) (nsP ns1 p r) (stg (aj4 L p ce1 cc1) ce1 r) (stg (aj5 p ce1 cc1) cc1 r)/\n=[.box [int .i64 p.k,int .i64 p.x,int .i64 p.y,int .i64 p.v]])
  (λ vs _ _=>match vs with | .r (.v (.int _ j))::_=>(13-j).toNat | _=>0) rfl ?_ ?_
 ·push_cast
  refine ⟨0,by omega,?_⟩;simp only [am0,nsP,c8];exact ⟨rfl,rfl⟩
 rintro vs pos n ⟨r,O,rfl,e,rfl⟩;by_cases C:r=13
 ·subst C;have o:c8 (z0 es1 c1 (.int .i64 p.k) p.val) (v9 es1 c1 (.int .i64 p.k)) (nsP ns1 p 13) (stg (aj4 L p ce1 cc1) ce1 13) (stg (aj5 p ce1 cc1) cc1 13)=c8 (z0 es1 c1 (.int .i64 p.k) p.val) (v9 es1 c1 (.int .i64 p.k)) (nsP ns1 p 13) (aj4 L p ce1 cc1) (aj5 p ce1 cc1):=rfl;rw [o] at e;subst e
  push_cast [c8,show decide ((13:Int)<13)=false from rfl]
 have m:r<13:=by omega
 have A:=h.cm r m;obtain ⟨H,K⟩:=ag0 A (p.w r);have P:=(Pt.w_res f m).2.2;have D:=J r (by omega);have Q:(ei (nsP ns1 p r) (p.ky r)).2=true:=(au8 f (λ q s=>⟨h.ok q s,B q s⟩) h.tk (by omega) m)
 have F:cnt L r (p.w r)<=2000:=Nat.le_trans List.countP_le_length (by omega);have I:IntKind.i64.wrap ((cnt L r (p.w r):Int)+1)=(cnt L r (p.w r):Int)+1:=a6 (by omega);have u:=azn D.g (by rw [D.l]; omega) (p.ky r)
 rcases (show r=0\/r=1\/r=2\/r=3\/r=4\/r=5\/r=6\/r=7\/r=8\/r=9\/r=10\/r=11\/r=12 by omega) with rfl | rfl | rfl | rfl | rfl | rfl | rfl | rfl | rfl | rfl | rfl | rfl | rfl<;>(
  simp only [c8,stg,zbg,↓reduceIte] at e;subst e
  push_cast [Int.reduceLT,decide_true]
  refine b9 (as':=[p.av,int .i64 _]) rfl ?_;refine a7 (ahb p _ f (by decide)) rfl trivial ?_
  push_cast [zae,uw]
  repeat refine sI ?_
  refine b9 (as':=[.ptr 1000000 0 0,(p.ky _).av]) rfl ?_;refine a7 u rfl ⟨ady _ _,trivial⟩ ?_
  push_cast [H,K,I,zae]
  repeat refine sI ?_
  refine ⟨⟨_+1,by decide,rfl,?_⟩,by decide⟩;simp only [c8,stg,zbg,Nat.reduceAdd,↓reduceIte]
  rfl)
end

section
variable {L:List Pt} {es:List MapEntry} {c:Nat} {ns:List (List Ky)} {ce:Nat->List MapEntry} {cc:Nat->Nat}
theorem au0 (a:¬p.ok) (d:okK es (.int .i64 p.k)=true) (b:∃v,lkR es (.int .i64 p.k) (.agg [.v (.int .i64 0),.v (.int .i64 0),.v (.int .i64 0),.v (.int .i64 0)])=Pt.rv v) :
 b5 P0 11 [.ptr 1000000 0 0,p.av] (c8 es c ns ce cc) (bl false) (c8 es c ns ce cc):=by
 obtain ⟨v,b⟩:=b;refine go rfl (by simp [c8]) ?_
 push_cast [er,c8,Pt.av,Pt.rv,zah,zai,d,b]
 repeat refine sI ?_
 refine b9 (as':=[p.av]) rfl ?_;refine a7 (ahk p) rfl trivial ?_;rw [decide_eq_false a]
 push_cast
theorem arn (a:p.ok) (d:okK es (.int .i64 p.k)=true) (b:∃v,lkR es (.int .i64 p.k) (.agg [.v (.int .i64 0),.v (.int .i64 0),.v (.int .i64 0),.v (.int .i64 0)])=Pt.rv v)
 (e:lkB es (.int .i64 p.k)=false) (f:2000<=es.length) :
 b5 P0 11 [.ptr 1000000 0 0,p.av] (c8 es c ns ce cc) (bl false) (c8 es c ns ce cc):=by
 obtain ⟨v,b⟩:=b;refine go rfl (by simp [c8]) ?_
 push_cast [er,c8,Pt.av,Pt.rv,zah,zai,d,b]
 repeat refine sI ?_
 refine b9 (as':=[p.av]) rfl ?_;refine a7 (ahk p) rfl trivial ?_;rw [decide_eq_true a]
 push_cast
 refine c7 (λ hc=>?_) (λ hc=>?_)
 ·push_cast
 exfalso;simp [e] at hc;omega
end
def SS (L:List Pt) (os:List Ob):Prop:=∃es c ns ce cc,StL L es c ns ce cc/\os=c8 es c ns ce cc
def has (L:List Pt) (k:Int):Bool:=L.any λ q=>q.k == k
def ad1 (L:List Pt) (p:Pt):List Pt:=q9 p.k L++[p]
def jz (L:List Pt) (p:Pt):Bool:=decide p.ok&&(has L p.k||decide (L.length<2000))
theorem aht {L:List Pt} {k:Int}:has L k=true↔∃p∈L,p.k=k:=by simp [has]
theorem aay {L:List Pt} {k:Int}:has L k=false↔∀p∈L,p.k≠k:=by simp [has]
theorem afu {L:List Pt} {k:Int} (h:has L k=false):q9 k L=L:=by
 rw [aay] at h;unfold q9;rw [zca];intro q a;simpa using h q a
theorem akx {L:List Pt} {k:Int}:q∈q9 k L↔q∈L/\q.k≠k:=by simp [q9]
variable {os:List Ob}
theorem a0u {L:List Pt} (h:SS L os) (k:Int):∃a,SS (q9 k L) a/\b5 P0 12 [.ptr 1000000 0 0,int .i64 k] os (bl (has L k)) (a++[]):=by
 obtain ⟨es,c,ns,ce,cc,h,rfl⟩:=h;cases hk:has L k with
 | true=>
   obtain ⟨p,b,rfl⟩:=aht.1 hk;exact ⟨_,⟨_,_,_,_,_,h.del b,rfl⟩,by rw [zaq]; exact avv h b⟩
 | false=>
   rw [afu hk];exact ⟨_,⟨_,_,_,_,_,h,rfl⟩,by rw [zaq]; exact aqj h k (aay.1 hk)⟩
theorem ax2 {L:List Pt} {es:List MapEntry} {c:Nat} (h:PM L es c) (k:Int):okK es (.int .i64 k)=true/\(∃v,lkR es (.int .i64 k) (.agg [.v (.int .i64 0),.v (.int .i64 0),.v (.int .i64 0),.v (.int .i64 0)])=Pt.rv v)/\lkB es (.int .i64 k)=has L k:=by
 cases hk:has L k with
 | true=>
   obtain ⟨p,e,rfl⟩:=aht.1 hk;obtain ⟨a,b,c,d⟩:=ajk h e;exact ⟨a,⟨p,c _⟩,b⟩
 | false=>
   obtain ⟨a,b,c,d⟩:=am6 h (aay.1 hk);exact ⟨a,⟨⟨0,0,0,0⟩,c _⟩,b⟩
theorem a0p {L:List Pt} (h:SS L os) (p:Pt):∃f,SS (if jz L p then ad1 L p else L) f/\b5 P0 11 [.ptr 1000000 0 0,p.av] os (bl (jz L p)) (f++[]):=by
 have i:=h;obtain ⟨es,c,ns,ce,cc,h,rfl⟩:=h;obtain ⟨g,j,m⟩:=ax2 h.pm p.k;by_cases a:p.ok
 ·by_cases hc:has L p.k=true\/L.length<2000
  ·have b:jz L p=true:=by simp [jz,a,hc]
   rw [b,if_pos rfl];obtain ⟨v,⟨s,x,u,w,t,r,rfl⟩,n⟩:=a0u i p.k;rw [zaq] at n;have o:∀q∈q9 p.k L,q.k≠p.k:=λ q l=>(akx.1 l).2
   have d:(q9 p.k L).length<2000:=by
    cases hk:has L p.k with
    | true=>
      obtain ⟨q,l,e⟩:=aht.1 hk;have:=aab h.pm.nd l;rw [e] at this;have:=h.le;omega
    | false=>
      rw [afu hk];simpa [hk] using hc
   refine ⟨_,⟨_,_,_,_,_,r.put a o d,rfl⟩,?_⟩;rw [zaq];refine ajh r a o d n g j ?_;rw [m,af4 h.pm];cases hk:has L p.k with
   | true=>exact .inl rfl
   | false=>exact .inr ⟨rfl,by simpa [hk] using hc⟩
  have b:jz L p=false:=by
   simp only [not_or] at hc;simp [jz,hc.1,hc.2]
  rw [b,if_neg (by simp)];simp only [not_or,Bool.not_eq_true] at hc;exact ⟨_,i,by rw [zaq]; exact arn a g j (m.trans hc.1) (by rw [af4 h.pm]; omega)⟩
 have b:jz L p=false:=by simp [jz,a]
 rw [b,if_neg (by simp)];exact ⟨_,i,by rw [zaq]; exact au0 a g j⟩
def SF (L:List Pt):Fam where
 S:=SS L
 N:=16
 n:=15
 pos:=by decide
 len:=by rintro os ⟨es,c,ns,ce,cc,h,rfl⟩; rfl
 flat:=by
  rintro os ⟨es,c,ns,ce,cc,h,rfl⟩ o a;simp only [c8,zab,List.not_mem_nil,or_false] at a;rcases a with rfl | rfl | rfl | rfl | rfl | rfl | rfl | rfl | rfl | rfl | rfl | rfl | rfl | rfl | rfl | rfl
  ·exact ⟨by simp [ll,gk,y7],rfl⟩
  all_goals exact ⟨trivial,rfl⟩
 shut:=by
  rintro os ⟨es,c,ns,ce,cc,h,rfl⟩ o a;simp only [c8,zab,List.not_mem_nil,or_false] at a;rcases a with rfl | rfl | rfl | rfl | rfl | rfl | rfl | rfl | rfl | rfl | rfl | rfl | rfl | rfl | rfl | rfl
  ·simp [imO,imL,imV,sf]
  all_goals rfl
 root:=by
  rintro os ⟨es,c,ns,ce,cc,h,rfl⟩;exact ⟨_,rfl,rfl⟩
def sT (L:List Pt):AbsT:=(SF L).T
theorem azo (L:List Pt) (p:Pt):b5 P0 11 [.ptr 1000000 0 0,p.av] [.abs (sT L)] (bl (jz L p)) [.abs (sT (if jz L p then ad1 L p else L))]:=
 ac3 (F:=SF L) (F':=SF (if jz L p then ad1 L p else L)) rfl (λ os h=>a0p h p) rfl (by simp) (by simp [y7,bz])

def acw:Mk P0 f10:={ x:=_ }
def gy:Nat->List Ob
 | 0=>[.box [.mp 2000001 0,.ptr 2000002 0 0,.r (.v (.map none)),.r (.v (.map none)),.r (.v (.map none)),.r (.v (.map none)),.r (.v (.map none)),.r (.v (.map none)),.r (.v (.map none)),.r (.v (.map none)),.r (.v (.map none)),.r (.v (.map none)),.r (.v (.map none)),.r (.v (.map none)),.r (.v (.map none))],.map [] 0,.abs (tr [])]
 | 1=>[.box [.mp 2000001 0,.ptr 2000002 0 0,.mp 2000003 0,.r (.v (.map none)),.r (.v (.map none)),.r (.v (.map none)),.r (.v (.map none)),.r (.v (.map none)),.r (.v (.map none)),.r (.v (.map none)),.r (.v (.map none)),.r (.v (.map none)),.r (.v (.map none)),.r (.v (.map none)),.r (.v (.map none))],.map [] 0,.abs (tr []),.map [] 0]
 | 2=>[.box [.mp 2000001 0,.ptr 2000002 0 0,.mp 2000003 0,.mp 2000004 0,.r (.v (.map none)),.r (.v (.map none)),.r (.v (.map none)),.r (.v (.map none)),.r (.v (.map none)),.r (.v (.map none)),.r (.v (.map none)),.r (.v (.map none)),.r (.v (.map none)),.r (.v (.map none)),.r (.v (.map none))],.map [] 0,.abs (tr []),.map [] 0,.map [] 0]
 | 3=>[.box [.mp 2000001 0,.ptr 2000002 0 0,.mp 2000003 0,.mp 2000004 0,.mp 2000005 0,.r (.v (.map none)),.r (.v (.map none)),.r (.v (.map none)),.r (.v (.map none)),.r (.v (.map none)),.r (.v (.map none)),.r (.v (.map none)),.r (.v (.map none)),.r (.v (.map none)),.r (.v (.map none))],.map [] 0,.abs (tr []),.map [] 0,.map [] 0,.map [] 0]
 | 4=>[.box [.mp 2000001 0,.ptr 2000002 0 0,.mp 2000003 0,.mp 2000004 0,.mp 2000005 0,.mp 2000006 0,.r (.v (.map none)),.r (.v (.map none)),.r (.v (.map none)),.r (.v (.map none)),.r (.v (.map none)),.r (.v (.map none)),.r (.v (.map none)),.r (.v (.map none)),.r (.v (.map none))],.map [] 0,.abs (tr []),.map [] 0,.map [] 0,.map [] 0,.map [] 0]
 | 5=>[.box [.mp 2000001 0,.ptr 2000002 0 0,.mp 2000003 0,.mp 2000004 0,.mp 2000005 0,.mp 2000006 0,.mp 2000007 0,.r (.v (.map none)),.r (.v (.map none)),.r (.v (.map none)),.r (.v (.map none)),.r (.v (.map none)),.r (.v (.map none)),.r (.v (.map none)),.r (.v (.map none))],.map [] 0,.abs (tr []),.map [] 0,.map [] 0,.map [] 0,.map [] 0,.map [] 0]
 | 6=>[.box [.mp 2000001 0,.ptr 2000002 0 0,.mp 2000003 0,.mp 2000004 0,.mp 2000005 0,.mp 2000006 0,.mp 2000007 0,.mp 2000008 0,.r (.v (.map none)),.r (.v (.map none)),.r (.v (.map none)),.r (.v (.map none)),.r (.v (.map none)),.r (.v (.map none)),.r (.v (.map none))],.map [] 0,.abs (tr []),.map [] 0,.map [] 0,.map [] 0,.map [] 0,.map [] 0,.map [] 0]
 | 7=>[.box [.mp 2000001 0,.ptr 2000002 0 0,.mp 2000003 0,.mp 2000004 0,.mp 2000005 0,.mp 2000006 0,.mp 2000007 0,.mp 2000008 0,.mp 2000009 0,.r (.v (.map none)),.r (.v (.map none)),.r (.v (.map none)),.r (.v (.map none)),.r (.v (.map none)),.r (.v (.map none))],.map [] 0,.abs (tr []),.map [] 0,.map [] 0,.map [] 0,.map [] 0,.map [] 0,.map [] 0,.map [] 0]
 | 8=>[.box [.mp 2000001 0,.ptr 2000002 0 0,.mp 2000003 0,.mp 2000004 0,.mp 2000005 0,.mp 2000006 0,.mp 2000007 0,.mp 2000008 0,.mp 2000009 0,.mp 2000010 0,.r (.v (.map none)),.r (.v (.map none)),.r (.v (.map none)),.r (.v (.map none)),.r (.v (.map none))],.map [] 0,.abs (tr []),.map [] 0,.map [] 0,.map [] 0,.map [] 0,.map [] 0,.map [] 0,.map [] 0,.map [] 0]
 | 9=>[.box [.mp 2000001 0,.ptr 2000002 0 0,.mp 2000003 0,.mp 2000004 0,.mp 2000005 0,.mp 2000006 0,.mp 2000007 0,.mp 2000008 0,.mp 2000009 0,.mp 2000010 0,.mp 2000011 0,.r (.v (.map none)),.r (.v (.map none)),.r (.v (.map none)),.r (.v (.map none))],.map [] 0,.abs (tr []),.map [] 0,.map [] 0,.map [] 0,.map [] 0,.map [] 0,.map [] 0,.map [] 0,.map [] 0,.map [] 0]
 | 10=>[.box [.mp 2000001 0,.ptr 2000002 0 0,.mp 2000003 0,.mp 2000004 0,.mp 2000005 0,.mp 2000006 0,.mp 2000007 0,.mp 2000008 0,.mp 2000009 0,.mp 2000010 0,.mp 2000011 0,.mp 2000012 0,.r (.v (.map none)),.r (.v (.map none)),.r (.v (.map none))],.map [] 0,.abs (tr []),.map [] 0,.map [] 0,.map [] 0,.map [] 0,.map [] 0,.map [] 0,.map [] 0,.map [] 0,.map [] 0,.map [] 0]
 | 11=>[.box [.mp 2000001 0,.ptr 2000002 0 0,.mp 2000003 0,.mp 2000004 0,.mp 2000005 0,.mp 2000006 0,.mp 2000007 0,.mp 2000008 0,.mp 2000009 0,.mp 2000010 0,.mp 2000011 0,.mp 2000012 0,.mp 2000013 0,.r (.v (.map none)),.r (.v (.map none))],.map [] 0,.abs (tr []),.map [] 0,.map [] 0,.map [] 0,.map [] 0,.map [] 0,.map [] 0,.map [] 0,.map [] 0,.map [] 0,.map [] 0,.map [] 0]
 | 12=>[.box [.mp 2000001 0,.ptr 2000002 0 0,.mp 2000003 0,.mp 2000004 0,.mp 2000005 0,.mp 2000006 0,.mp 2000007 0,.mp 2000008 0,.mp 2000009 0,.mp 2000010 0,.mp 2000011 0,.mp 2000012 0,.mp 2000013 0,.mp 2000014 0,.r (.v (.map none))],.map [] 0,.abs (tr []),.map [] 0,.map [] 0,.map [] 0,.map [] 0,.map [] 0,.map [] 0,.map [] 0,.map [] 0,.map [] 0,.map [] 0,.map [] 0,.map [] 0]
 | _=>[.box [.mp 2000001 0,.ptr 2000002 0 0,.mp 2000003 0,.mp 2000004 0,.mp 2000005 0,.mp 2000006 0,.mp 2000007 0,.mp 2000008 0,.mp 2000009 0,.mp 2000010 0,.mp 2000011 0,.mp 2000012 0,.mp 2000013 0,.mp 2000014 0,.mp 2000015 0],.map [] 0,.abs (tr []),.map [] 0,.map [] 0,.map [] 0,.map [] 0,.map [] 0,.map [] 0,.map [] 0,.map [] 0,.map [] 0,.map [] 0,.map [] 0,.map [] 0,.map [] 0]
theorem axj:PM [] [] 0:=⟨ajz,by simp⟩
theorem awv:TK (KL []) 0 []:=⟨⟨by simp,by simp [Srt]⟩,λ x=>by simp [KL],rfl⟩
theorem atz:StL [] [] 0 [] (λ _=>[]) (λ _=>0):=
 ⟨by simp,by simp,axj,awv,λ r a=>by
  have:cnt [] r=λ _=>0:=by funext w; simp [cnt]
  rw [this]; exact ayp⟩
theorem axt:b5 P0 10 [] [] (.ptr 1000000 0 0) (c8 [] 0 [] (λ _=>[]) (λ _=>0)):=by
 refine acw.t func10 ?_
 push_cast [acw,zai]
 repeat refine sI ?_
 refine a7 azv rfl trivial ?_
 push_cast
 repeat refine sI ?_
 refine c9 [(7,false),(1,false)] (λ vs pos b=>∃r:Nat,r<=13/\vs=[int .i64 r,.ptr 2000000 0 0]/\pos=[]/\b=gy r)
  (λ vs _ _=>match vs with | .r (.v (.int _ j))::_=>(13-j).toNat | _=>0) rfl ?_ ?_
 ·push_cast
  refine ⟨0,by omega,?_⟩;simp only [gy];exact ⟨rfl,trivial⟩
 rintro vs pos b ⟨r,c,rfl,rfl,a⟩;rcases (show r=0\/r=1\/r=2\/r=3\/r=4\/r=5\/r=6\/r=7\/r=8\/r=9\/r=10\/r=11\/r=12\/r=13 by omega) with rfl | rfl | rfl | rfl | rfl | rfl | rfl | rfl | rfl | rfl | rfl | rfl | rfl | rfl
 ·simp only [gy] at a;subst a
  push_cast [show decide ((0:Int)<13)=true from rfl,zae]
  repeat refine sI ?_
  refine ⟨⟨0+1,by omega,rfl,rfl⟩,by decide⟩
 ·simp only [gy] at a;subst a
  push_cast [show decide ((1:Int)<13)=true from rfl,zae]
  repeat refine sI ?_
  refine ⟨⟨1+1,by omega,rfl,rfl⟩,by decide⟩
 ·simp only [gy] at a;subst a
  push_cast [show decide ((2:Int)<13)=true from rfl,zae]
  repeat refine sI ?_
  refine ⟨⟨2+1,by omega,rfl,rfl⟩,by decide⟩
 ·simp only [gy] at a;subst a
  push_cast [show decide ((3:Int)<13)=true from rfl,zae]
  repeat refine sI ?_
  refine ⟨⟨3+1,by omega,rfl,rfl⟩,by decide⟩
 ·simp only [gy] at a;subst a
  push_cast [show decide ((4:Int)<13)=true from rfl,zae]
  repeat refine sI ?_
  refine ⟨⟨4+1,by omega,rfl,rfl⟩,by decide⟩
 ·simp only [gy] at a;subst a
  push_cast [show decide ((5:Int)<13)=true from rfl,zae]
  repeat refine sI ?_
  refine ⟨⟨5+1,by omega,rfl,rfl⟩,by decide⟩
 ·simp only [gy] at a;subst a
  push_cast [show decide ((6:Int)<13)=true from rfl,zae]
  repeat refine sI ?_
  refine ⟨⟨6+1,by omega,rfl,rfl⟩,by decide⟩
 ·simp only [gy] at a;subst a
  push_cast [show decide ((7:Int)<13)=true from rfl,zae]
  repeat refine sI ?_
  refine ⟨⟨7+1,by omega,rfl,rfl⟩,by decide⟩
 ·simp only [gy] at a;subst a
  push_cast [show decide ((8:Int)<13)=true from rfl,zae]
  repeat refine sI ?_
  refine ⟨⟨8+1,by omega,rfl,rfl⟩,by decide⟩
 ·simp only [gy] at a;subst a
  push_cast [show decide ((9:Int)<13)=true from rfl,zae]
  repeat refine sI ?_
  refine ⟨⟨9+1,by omega,rfl,rfl⟩,by decide⟩
 ·simp only [gy] at a;subst a
  push_cast [show decide ((10:Int)<13)=true from rfl,zae]
  repeat refine sI ?_
  refine ⟨⟨10+1,by omega,rfl,rfl⟩,by decide⟩
 ·simp only [gy] at a;subst a
  push_cast [show decide ((11:Int)<13)=true from rfl,zae]
  repeat refine sI ?_
  refine ⟨⟨11+1,by omega,rfl,rfl⟩,by decide⟩
 ·simp only [gy] at a;subst a
  push_cast [show decide ((12:Int)<13)=true from rfl,zae]
  repeat refine sI ?_
  refine ⟨⟨12+1,by omega,rfl,rfl⟩,by decide⟩
 simp only [gy] at a;subst a
 push_cast [show decide ((13:Int)<13)=false from rfl]
 rfl
theorem ate:b5 P0 10 [] [] (.ptr 1000000 0 0) [.abs (sT [])]:=
 au5 (F:=SF []) ⟨_,_,_,_,_,atz,rfl⟩ axt

def qp:Mk P0 f31:={ x:=_ }
def tg:Mk P0 f54:={ x:=_ }
def vd:Mk P0 f18:={ x:=_ }
theorem zw:pg 18 1 vd:=ft func18
structure Sa where
 w:Int
 n:Int
 s:Int
 lo:Int
 hi:Int
deriving DecidableEq
def Sa.cs (s:Sa):List AV:=[int .u64 s.w,int .i64 s.n,int .i64 s.s,int .i64 s.lo,int .i64 s.hi]
def Sa.rv (s:Sa):RV:=.agg [.v (.int .u64 s.w),.v (.int .i64 s.n),.v (.int .i64 s.s),.v (.int .i64 s.lo),.v (.int .i64 s.hi)]
def Sa.add (s:Sa) (v:Int):Sa:=⟨s.w,IntKind.i64.wrap (s.n+1),IntKind.i64.wrap (s.s+v),if s.n=0 then v else s.lo,v⟩
theorem av5 (k:Ky) (s:Sa):b5 P0 31 [k.av,.ptr 1000000 0 0] [.box s.cs] (.tup []) [.box (s.add k.v).cs]:=by
 refine qp.t func31 ?_
 push_cast [qp,Ky.av,Ky.rv,Sa.cs,Sa.add,zah,zai]
 refine c7 (λ h=>?_) (λ h=>?_)
 ·have a:s.n=0:=by simpa using h
  push_cast [a,if_true]
 have a:s.n≠0:=by simpa using h
 push_cast [a,if_false]
theorem atq (k:Ky) (w:Int) (s:Sa):b5 P0 54 [k.av,.ptr 1000000 0 0,.ptr 1000001 0 0] [.box [int .u64 w],.box [.fn (.func 31) [.ptr 1000002 0 0] 0],.box s.cs] (bl (k.c == w)) [.box [int .u64 w],.box [.fn (.func 31) [.ptr 1000002 0 0] 0],.box (if k.c == w then s.add k.v else s).cs]:=by
 refine tg.t func54 ?_
 push_cast [tg,Ky.av,Ky.rv,Sa.cs,zah,zai]
 have a:(k.c != w)=!(k.c == w):=rfl;cases hk:(k.c == w) with
 | false=>
   push_cast [a,hk,Bool.not_false,zbf,if_false]
 | true=>
   push_cast [a,hk,Bool.not_true,if_true]
   refine ⟨by kernel_rfl,?_⟩;refine b9 (as':=[k.av,.ptr 1000000 0 0]) rfl ?_;refine a7 (av5 k s) rfl ⟨rfl,trivial⟩ ?_
   push_cast [Sa.cs]
theorem awy {L:List Pt} (h:SS L os):b5 P0 18 [.ptr 1000000 0 0] os (int .i64 L.length) (os++[]):=by
 obtain ⟨es,c,ns,ce,cc,h,rfl⟩:=h;have a:=af4 h.pm;rw [zaq];refine zw rfl (by simp [c8]) ?_
 push_cast [vd,c8,a,zah,zai]
theorem a0a (L:List Pt):b5 P0 18 [.ptr 1000000 0 0] [.abs (sT L)] (int .i64 L.length) [.abs (sT L)]:=
 ac3 (F:=SF L) (F':=SF L) rfl (λ os h=>⟨os,h,awy h⟩) rfl (by simp) (by simp [y7,bz])

def ow:Mk P0 f53:={ x:=_ }
theorem qo:pg 53 3 ow:=ft func53
def wv:Mk P0 f30:={ x:=_ }
def th:Mk P0 f15:={ x:=_ }
theorem zc:pg 15 2 th:=ft func15
def kz:RV:=.agg [.v (.int .u64 0),.v (.int .i64 0),.v (.int .i64 0)]
theorem aj1 {l:List Ky} {i:Nat} {k:Ky} (a:l[i]?=some k):(l.map Ky.rv).getD ((i:Int)).toNat (.agg [.v (.int .u64 0),.v (.int .i64 0),.v (.int .i64 0)])=.agg [.v (.int .u64 k.c),.v (.int .i64 k.v),.v (.int .i64 k.d)]:=by
 simp [List.getD,a,Ky.rv]
def tc (lo:Ky) (w:Int) (r:List Ky):List Ky:=(r.filter λ k=>!kl k lo).takeWhile λ k=>k.c == w
variable {lo:Ky}
theorem atx {k:Ky} {w:Int} {r:List Ky} (h:kl k lo=true):tc lo w (k::r)=tc lo w r:=by simp [tc,h]
theorem atv {k:Ky} {w:Int} {r:List Ky} (h:kl k lo=false) (a:(k.c == w)=true):tc lo w (k::r)=k::tc lo w r:=by simp [tc,h,a]
theorem atw {k:Ky} {w:Int} {r:List Ky} (h:kl k lo=false) (a:(k.c == w)=false):tc lo w (k::r)=[]:=by simp [tc,h,a]
def uu (s:Sa) (l:List Ky):Sa:=l.foldl (λ s k=>s.add k.v) s
def ccO (w:Int) (s:Sa):List Ob:=[.box [int .u64 w],.box [.fn (.func 31) [.ptr 1000002 0 0] 0],.box s.cs]
def ccF:AV:=.fn (.func 54) [.ptr 1000000 0 0,.ptr 1000001 0 0] 0
theorem avm (ns:List (List Ky)) (n:Int) (lo:Ky) (r:Nat) (h:Nod ns lo r) (B:ns≠[]) (H:ns.flatten.length<=100000) (w:Int) (s:Sa) :
 b5 P0 53 [.rp (u6 ns n),lo.av,ccF] (ccO w s) (.tup []) (ccO w (uu s (tc lo w (ns.drop (r-1)).flatten))):=by
 refine qo rfl (by simp [ccO]) ?_;have p:((ns.length:Int) == 0)=false:=by simp [B]
 have u:yo P0 54=true:=rfl
 push_cast [ow,ccO,ccF,Sa.cs,u6,Ky.av,Ky.rv,Ky.cs,kz,zah,zai,zaj,p]
 refine a7 (apw ns n lo r h) rfl trivial ?_
 push_cast [zaj]
 generalize D:uu s (tc lo w (ns.drop (r-1)).flatten)=R
 refine c9 [(0,false),(2,false),(4,false),(6,false)] (λ vs pos d=>∃(a:Nat) (s':Sa),a<=ns.length/\R=uu s' (tc lo w (ns.drop a).flatten) /\
  vs=[.rp (u6 ns n),ccF,.ptr 2000000 0 0,int .i64 a]/\pos=ccO w s'/\d=[.box lo.cs])
  (λ vs _ _=>match vs with | [_,_,_,.r (.v (.int _ a))]=>(ns.length-a).toNat | _=>0) rfl ?_ ?_
 ·push_cast [u6,ccO,ccF,Ky.cs,Sa.cs,kz]
  have:=h.le;exact ⟨r-1,s,by omega,D.symm,by simp⟩
 rintro vs pos d ⟨a,E,I,i,rfl,rfl,rfl⟩
 push_cast [u6,ccO,ccF,Sa.cs,Ky.cs,zaj]
 refine c7 (λ A=>?_) (λ A=>?_)
 ·have e:a<ns.length:=by simpa using A
  obtain ⟨l,y⟩:∃l,ns[a]?=some l:=⟨ns[a],by simp [e]⟩
  have t:=(h.ne a l y).2
  have F:ns.drop a=l::ns.drop (a+1):=by
   rw [zbc e,(zaa.1 y).2]
  rw [F,zbq] at i;have C:(ns.map z9).getD ((a:Int)).toNat (.sl 3 [])=.sl 3 (l.map Ky.rv):=by simp [List.getD,y,z9]
  have o:IntKind.i64.wrap ((a:Int)+1)=(a:Int)+1:=a6 ⟨by omega,by have:=h.len; simp only [maxLen] at this; omega⟩
  push_cast [u6,zaj,C]
  refine And.intro ⟨by omega,by omega⟩ ?_
  refine c9 [(0,false),(2,false),(4,false),(6,false),(33,false),(34,false),(35,false)] (λ vs pos d=>∃(j:Nat) (s':Sa),j<=l.length/\R=uu s' (tc lo w (l.drop j++(ns.drop (a+1)).flatten)) /\
   vs=[.rp (u6 ns n),ccF,.ptr 2000000 0 0,int .i64 a,.r (z9 l),int .i64 l.length,int .i64 j]/\pos=ccO w s'/\d=[.box lo.cs])
   (λ vs _ _=>match vs with | [_,_,_,_,_,_,.r (.v (.int _ a))]=>(l.length-a).toNat | _=>0) rfl ?_ ?_
  ·push_cast [u6,z9,ccO,ccF,Ky.cs,Sa.cs]
   exact ⟨0,E,by omega,i,by simp⟩
  rintro vs pos d ⟨j,m,G,b,rfl,rfl,rfl⟩
  push_cast [u6,z9,ccO,ccF,Ky.cs,Sa.cs,zaj]
  refine c7 (λ q=>?_) (λ q=>?_)
  ·have f:j<l.length:=by simpa using q
   have g:IntKind.i64.wrap ((j:Int)+1)=(j:Int)+1:=a6 ⟨by omega,by simp only [maxLen] at t; omega⟩;obtain ⟨k,x⟩:∃k,l[j]?=some k:=⟨l[j],by simp [f]⟩
   have z:l.drop j=k::l.drop (j+1):=by
    rw [zbc f,(zaa.1 x).2]
   rw [z,zas] at b
   push_cast [u6,z9,zaj,aj1 x]
   refine And.intro ⟨by omega,by omega⟩ (a7 (aj0 k lo) rfl trivial ?_);rcases hkl:kl k lo with _ | _
   ·push_cast [u6,Ky.cs,Sa.cs,z9,zaj,aj1 x,u,Bool.not_false]
    refine b9 (as':=[k.av,.ptr 1000000 0 0,.ptr 1000001 0 0]) rfl ?_;refine a7 (atq k w m) rfl ⟨rfl,rfl,rfl,trivial⟩ ?_;rcases hkw:(k.c == w) with _ | _
    ·rw [atw hkl hkw] at b
     push_cast [u6,Ky.cs,Sa.cs,z9,kz,zaj,zbf,if_false]
     rw [b]
     rfl
    rw [atv hkl hkw] at b
    push_cast [u6,Ky.cs,Sa.cs,z9,kz,zaj,g,if_true]
    exact ⟨⟨j+1,m.add k.v,by omega,b,by simp⟩,by omega⟩
   rw [atx hkl] at b
   push_cast [u6,Ky.cs,Sa.cs,z9,zaj,Bool.not_true,g]
   exact ⟨⟨j+1,m,by omega,b,by simp⟩,by omega⟩
  have f:¬j<l.length:=by simpa using q
  rw [zbn (by omega),zam] at b
  push_cast [u6,z9,zaj,o]
  exact ⟨⟨a+1,m,by omega,b,by simp⟩,by omega⟩
 have e:¬a<ns.length:=by simpa using A
 rw [zbn (by omega)] at i
 push_cast [u6,zaj]
 rw [i]
 rfl

theorem aqb {ns:List (List Ky)} (h:Good ns) (d:ns.flatten.length<=100000) (n:Int) (lo:Ky) (w:Int) (s:Sa) :
 b5 P0 53 [.rp (u6 ns n),lo.av,ccF] (ccO w s) (.tup []) (ccO w (uu s (tc lo w ns.flatten))):=by
 by_cases b:ns=[]
 ·subst b;refine qo rfl (by simp [ccO]) ?_
  push_cast [ow,ccO,ccF,Sa.cs,u6,Ky.av,Ky.rv,Ky.cs,kz,zai,zah,List.map_nil]
  rfl
 have:=avm ns n lo _ (aif h (by omega) _) b d w s;obtain ⟨i,q,l,a⟩:=spt h (by omega) lo b;rw [a.nx] at this
 have c:ns.drop i=l::ns.drop (i+1):=by
  rw [zbc a.lt,(zaa.1 a.at_).2]
 have e:tc lo w ns.flatten=tc lo w (ns.drop i).flatten:=by
  rw [a.all,c,zbq];unfold tc
  conv=>lhs; rw [List.filter_append]
  have:List.filter (λ k=>!kl k lo) (List.take i ns).flatten=[]:=by
   rw [List.filter_eq_nil_iff];intro x hx;simp [a.ahead x hx]
  rw [this,zam]
 rw [e];exact this
def ay2:AV:=.fn (.func 54) [.ptr 1000001 0 0,.ptr 1000002 0 0] 0
def anv (w:Int) (s:Sa):List Ob:=[.box [int .u64 w],.box [.fn (.func 31) [.ptr 1000003 0 0] 0],.box s.cs]
theorem avn {ns:List (List Ky)} (h:Good ns) (a:ns.flatten.length<=100000) (lo:Ky) (w:Int) (s:Sa) :
 b5 P0 53 [.ptr 1000000 0 0,lo.av,ay2] (.abs (tr ns)::anv w s) (.tup []) (.abs (tr ns)::anv w (uu s (tc lo w ns.flatten))):=
 azb (T:=tr ns) (po:=ccO w s) (aqb h a ns.flatten.length lo w s) rfl rfl rfl rfl
  (by simp [anv,ll,Sa.cs,gk,y7,bz]) (by simp [ccO,ll,Sa.cs,gk,y7,bz]) (by simp [y7,gk])
theorem atp {ns:List (List Ky)} (h:Good ns) (a:ns.flatten.length<=100000) (w:Int) (s:Sa) :
 b5 P0 30 [.ptr 1000000 0 0,int .u64 w,.fn (.func 31) [.ptr 1000001 0 0] 0] [.abs (tr ns),.box s.cs] (.tup []) [.abs (tr ns),.box (uu s (tc ⟨w,-9223372036854775808,-9223372036854775808⟩ w ns.flatten)).cs]:=by
 refine wv.t func30 ?_
 push_cast [wv,Sa.cs,zah,zai]
 refine ⟨by kernel_rfl,?_⟩;refine b9 (as':=[.ptr 1000000 0 0,Ky.av ⟨w,-9223372036854775808,-9223372036854775808⟩,ay2]) rfl ?_;refine a7 (avn h a _ w s) rfl ⟨rfl,rfl,rfl,rfl,trivial⟩ ?_
 push_cast [anv,Sa.cs]

def ab5 (s:Sa):AV:=if s.n=0 then .tup [.r (Sa.rv ⟨0,0,0,0,0⟩),bl false] else .tup [.r s.rv,bl true]
section
variable {L:List Pt} {es:List MapEntry} {c:Nat} {ns:List (List Ky)} {ce:Nat->List MapEntry} {cc:Nat->Nat}
def ae4 (ns:List (List Ky)) (w:Int):Sa:=uu ⟨w,0,0,0,0⟩ (tc ⟨w,-9223372036854775808,-9223372036854775808⟩ w ns.flatten)
theorem amo (h:StL L es c ns ce cc) (w:Int):b5 P0 15 [.ptr 1000000 0 0,int .u64 w] (c8 es c ns ce cc) (ab5 (ae4 ns w)) (c8 es c ns ce cc):=by
 have d:=atp h.tk.g (by rw [h.tk.l]; have:=h.le; omega) w ⟨w,0,0,0,0⟩;refine zc rfl (by simp [c8]) ?_
 push_cast [th,c8,zah,zai]
 repeat refine sI ?_
 refine a7 d rfl ⟨rfl,rfl,trivial⟩ ?_;unfold ae4;generalize uu ⟨w,0,0,0,0⟩ (tc ⟨w,-9223372036854775808,-9223372036854775808⟩ w ns.flatten)=q
 push_cast [Sa.cs]
 refine c7 (λ b=>?_) (λ b=>?_)
 ·have a:q.n=0:=by simpa using b
  push_cast [ab5,a,if_true,Sa.rv]
 have a:q.n≠0:=by simpa using b
 push_cast [ab5,a,if_false,Sa.rv]
end

def inC (w:Nat) (p:Pt):Bool:=(List.range 13).any λ r=>p.w r == w
def mem (L:List Pt) (w:Nat):List Pt:=L.filter (inC w)
def acv (M:List Pt):Int:=(M.map (·.v)).sum
def loV:List Pt->Int
 | []=>0
 | p::l=>l.foldl (λ a q=>min a q.v) p.v
def hiV:List Pt->Int
 | []=>0
 | p::l=>l.foldl (λ a q=>max a q.v) p.v
theorem ya:inC w p=true↔∃r,r<13/\p.w r=w:=by simp [inC]
theorem ajv:∀(l:List Pt) (a:Int),(l.foldl (λ a q=>min a q.v) a<=a/\∀q∈l,l.foldl (λ a q=>min a q.v) a<=q.v)/\(l.foldl (λ a q=>min a q.v) a=a\/∃q∈l,l.foldl (λ a q=>min a q.v) a=q.v)
 | [],a=>by simp
 | p::l,a=>by
   obtain ⟨⟨f,d⟩,b⟩:=ajv l (min a p.v);simp only [List.foldl_cons];refine ⟨⟨by omega,λ q c=>?_⟩,?_⟩
   ·rcases zab.1 c with rfl | c
    ·omega
    exact d q c
   rcases b with b | ⟨q,c,b⟩
   ·rcases (show min a p.v=a\/min a p.v=p.v by omega) with e | e
    ·exact .inl (b.trans e)
    exact .inr ⟨p,by simp,b.trans e⟩
   exact .inr ⟨q,by simp [c],b⟩
theorem ajx:∀(l:List Pt) (a:Int),(a<=l.foldl (λ a q=>max a q.v) a/\∀q∈l,q.v<=l.foldl (λ a q=>max a q.v) a)/\(l.foldl (λ a q=>max a q.v) a=a\/∃q∈l,l.foldl (λ a q=>max a q.v) a=q.v)
 | [],a=>by simp
 | p::l,a=>by
   obtain ⟨⟨f,d⟩,b⟩:=ajx l (max a p.v);simp only [List.foldl_cons];refine ⟨⟨by omega,λ q c=>?_⟩,?_⟩
   ·rcases zab.1 c with rfl | c
    ·omega
    exact d q c
   rcases b with b | ⟨q,c,b⟩
   ·rcases (show max a p.v=a\/max a p.v=p.v by omega) with e | e
    ·exact .inl (b.trans e)
    exact .inr ⟨p,by simp,b.trans e⟩
   exact .inr ⟨q,by simp [c],b⟩
variable {M:List Pt}
theorem ax1 (h:M≠[]):(∃q∈M,q.v=loV M)/\∀q∈M,loV M<=q.v:=by
 rcases M with _ | ⟨p,l⟩
 ·exact absurd rfl h
 obtain ⟨⟨c,d⟩,b⟩:=ajv l p.v;refine ⟨?_,λ q a=>?_⟩
 ·rcases b with b | ⟨q,a,b⟩
  ·exact ⟨p,by simp,b.symm⟩
  exact ⟨q,by simp [a],b.symm⟩
 rcases zab.1 a with rfl | a
 ·exact c
 exact d q a
theorem ayd (h:M≠[]):(∃q∈M,q.v=hiV M)/\∀q∈M,q.v<=hiV M:=by
 rcases M with _ | ⟨p,l⟩
 ·exact absurd rfl h
 obtain ⟨⟨c,d⟩,b⟩:=ajx l p.v;refine ⟨?_,λ q a=>?_⟩
 ·rcases b with b | ⟨q,a,b⟩
  ·exact ⟨p,by simp,b.symm⟩
  exact ⟨q,by simp [a],b.symm⟩
 rcases zab.1 a with rfl | a
 ·exact c
 exact d q a
theorem agm:kl a b=true↔a.c<b.c\/(a.c=b.c/\(a.v<b.v\/(a.v=b.v/\a.d<b.d))):=by
 unfold kl;split
 ·rw [decide_eq_true_iff]; omega
 split
 ·rw [decide_eq_true_iff]; omega
 rw [decide_eq_true_iff]; omega
theorem atf:kl a b=false↔¬(a.c<b.c\/(a.c=b.c/\(a.v<b.v\/(a.v=b.v/\a.d<b.d)))):=by
 rw [<- agm]; simp
theorem awt {w:Int}:∀{M:List Ky},Srt M->(∀k∈M,w<=k.c)->M.takeWhile (λ k=>k.c == w)=M.filter λ k=>k.c == w
 | [],_,_=>rfl
 | x::M,h,hw=>by
   have a:=zby.1 h;rw [List.takeWhile_cons,zbr];rcases hx:(x.c == w) with _ | _
   ·simp only [zbf,if_false];rw [eq_comm,List.filter_eq_nil_iff];intro y hy hc;have:=agm.1 (a.1 y hy);have b:=hw x (by simp);simp at hx hc;omega
   simp only [if_true];rw [awt a.2 λ k d=>hw k (by simp [d])]
theorem azh {K:List Ky} (h:Srt K) (w:Int) (b:∀k∈K,-9223372036854775808<=k.v/\-9223372036854775808<=k.d):tc ⟨w,-9223372036854775808,-9223372036854775808⟩ w K=K.filter λ k=>k.c == w:=by
 unfold tc;rw [awt (h.sublist zcb),List.filter_filter]
 ·apply List.filter_congr;intro k a;have:=b k a;rcases hc:(k.c == w) with _ | _
  ·rfl
  simp at hc;rw [Bool.true_and,Bool.not_eq_true',atf];simp only;omega
 intro k a;obtain ⟨f,e⟩:=zar.1 a;have:=b k f;rw [Bool.not_eq_true',atf] at e;simp only at e;omega
def zu (F:List Ky):Int:=(F.map (·.v)).sum
theorem amt:∀(F:List Ky) (s:Sa),0<=s.n->s.n+F.length<=100000->-2147483648*s.n<=s.s->s.s<=2147483648*s.n->(∀k∈F,-2147483648<=k.v/\k.v<=2147483648) ->
 uu s F=⟨s.w,s.n+F.length,s.s+zu F,if s.n=0 then ((F.head?).map (·.v)).getD s.lo else s.lo,((F.getLast?).map (·.v)).getD s.hi⟩
 | [],s,_,_,_,_,_=>by simp [uu,zu]
 | k::F,s,h1,h2,h3,h4,h5=>by
   have f:=h5 k (by simp);simp only [zah] at h2;have a:IntKind.i64.wrap (s.n+1)=s.n+1:=a6 (by omega);have b:IntKind.i64.wrap (s.s+k.v)=s.s+k.v:=a6 (by omega);have e:=amt F (s.add k.v) (by simp only [Sa.add,a]; omega) (by simp only [Sa.add,a]; omega) (by simp only [Sa.add,a,b]; omega) (by simp only [Sa.add,a,b]; omega) λ q d=>h5 q (by simp [d]);have c:uu s (k::F)=uu (s.add k.v) F:=rfl;rw [c,e];simp only [Sa.add,a,b,Sa.mk.injEq,zah,zu,zbb,List.sum_cons,List.head?_cons,Option.map_some,Option.getD_some,true_and];refine ⟨by omega,by omega,?_,?_⟩
   ·rw [if_neg (by omega)]
   rw [List.getLast?_cons];cases hF:F.getLast? <;> simp
theorem aoh {F G:List Ky} (h:F.Perm G):zu F=zu G:=by
 induction h with
 | nil=>rfl
 | cons x _ ih=>simp only [zu,zbb,List.sum_cons] at ih |-; omega
 | swap x y l=>simp only [zu,zbb,List.sum_cons]; omega
 | trans _ _ h1 h2=>exact h1.trans h2
def sp (L:List Pt) (w:Nat):Sa:=if mem L w=[] then ⟨w,0,0,0,0⟩ else ⟨w,(mem L w).length,acv (mem L w),loV (mem L w),hiV (mem L w)⟩
theorem ak1 {w:Int} (h:(M.map (·.k)).Nodup):(M.map λ p=>(⟨w,p.v,p.k⟩:Ky)).Nodup:=by
 have:(M.map (·.k))=(M.map λ p=>(⟨w,p.v,p.k⟩:Ky)).map (·.d):=by simp
 rw [this] at h;exact (List.pairwise_map.1 h).imp λ {a b} c e=>c (by rw [e])
theorem alj {L:List Pt} {es:List MapEntry} {c:Nat} {ns:List (List Ky)} {ce:Nat->List MapEntry} {cc:Nat->Nat} (h:StL L es c ns ce cc) (w:Nat):ae4 ns w=sp L w:=by
 have X:∀k∈ns.flatten,∃p∈L,∃r,r<13/\k=p.ky r:=λ k f=>(h.tk.m k).1 f
 have U:∀k∈ns.flatten,-2147483648<=k.v/\k.v<=2147483647/\1<=k.d:=λ k f=>by
  obtain ⟨p,i,r,J,rfl⟩:=X k f;have:=h.ok p i;exact ⟨this.2.2.1,this.2.2.2,this.1.1⟩
 unfold ae4;rw [azh h.tk.g.so w λ k f=>by have:=U k f; omega];generalize N:(ns.flatten.filter λ k=>k.c == (w:Int))=F;have s:Srt F:=by rw [<- N]; exact h.tk.g.so.sublist zcb
 have o:∀k,k∈F↔k∈(mem L w).map λ p=>(⟨w,p.v,p.k⟩:Ky):=λ k=>by
  rw [<- N,zar,h.tk.m,zal];constructor
  ·rintro ⟨⟨p,i,r,J,rfl⟩,hc⟩;have I:p.w r=w:=Int.ofNat.inj (by simpa [Pt.ky] using hc);exact ⟨p,zar.2 ⟨i,ya.2 ⟨r,J,I⟩⟩,by simp [Pt.ky,I]⟩
  rintro ⟨p,i,rfl⟩;obtain ⟨i,W⟩:=zar.1 i;obtain ⟨r,J,e⟩:=ya.1 W;exact ⟨⟨p,i,r,J,by simp [Pt.ky,e]⟩,by simp⟩
 have B:((mem L w).map (·.k)).Nodup:=by
  have:((mem L w).map (·.k)).Sublist (L.map (·.k)):=zcb.map _;exact this.nodup h.pm.nd
 have H:F.Nodup:=s.imp λ {a b} D e=>by subst e; rw [aau] at D; cases D
 have T:F.Perm ((mem L w).map λ p=>(⟨w,p.v,p.k⟩:Ky)):=(List.perm_ext_iff_of_nodup H (ak1 B)).2 o;have j:=T.length_eq;rw [zaj] at j;have Z:(mem L w).length<=L.length:=List.length_filter_le ..;have:=h.le
 have O:∀k∈F,-2147483648<=k.v/\k.v<=2147483648:=λ k f=>by
  rw [<- N] at f;have:=U k (zar.1 f).1;omega
 rw [amt F ⟨w,0,0,0,0⟩ (by simp) (by simp only; omega) (by simp) (by simp) O]
 have z:zu F=acv (mem L w):=by
  rw [aoh T];simp [zu,acv,List.map_map,Function.comp_def]
 unfold sp;by_cases u:mem L w=[]
 ·have t:F=[]:=zck.1 (by rw [j,u]; rfl);rw [if_pos u];subst t;simp [zu]
 rw [if_neg u];have t:F≠[]:=λ e=>u (zck.1 (by rw [<- j,e]; rfl));obtain ⟨x,F',rfl⟩:=zch t;obtain ⟨l1,l2⟩:=ax1 u;obtain ⟨u1,u2⟩:=ayd u
 have Q:∀k∈x::F',∃p∈mem L w,k.v=p.v:=λ k f=>by
  obtain ⟨p,i,rfl⟩:=zal.1 ((o k).1 f);exact ⟨p,i,rfl⟩
 have A:∀p∈mem L w,∃k∈x::F',k.v=p.v:=λ p i=>⟨_,(o _).2 (zal.2 ⟨p,i,rfl⟩),rfl⟩
 have hc:∀k∈x::F',k.c=w:=λ k f=>by
  obtain ⟨p,i,rfl⟩:=zal.1 ((o k).1 f)
  rfl
 have Y:=zby.1 s
 have M:x.v=loV (mem L w):=by
  obtain ⟨p,i,e⟩:=Q x (by simp);obtain ⟨q,P,e2⟩:=l1;obtain ⟨k,f,R⟩:=A q P;have V:=l2 p i;rcases zab.1 f with rfl | n
  ·omega
  have:=agm.1 (Y.1 k n);have c1:=hc x (by simp);have c2:=hc k f;omega
 obtain ⟨y,hy⟩:∃y,(x::F').getLast?=some y:=⟨(x::F').getLast (by simp),zcl (by simp)⟩
 have C:y∈x::F':=List.mem_of_getLast? hy
 have K:y.v=hiV (mem L w):=by
  obtain ⟨p,i,e⟩:=Q y C;obtain ⟨q,P,e2⟩:=u1;obtain ⟨k,f,R⟩:=A q P;have V:=u2 p i
  obtain ⟨G,S⟩:∃G,x::F'=G++[y]:=⟨(x::F').dropLast,by
   have e:=zcl (l:=x::F') (by simp);rw [hy] at e;rw [Option.some.inj e]
   exact (List.dropLast_concat_getLast (by simp)).symm⟩
  have E:=s;rw [S] at E f;rcases zac.1 f with n | n
  ·have:=agm.1 ((zci.1 E).2.2 k n y (by simp));have c1:=hc y C;have c2:=hc k (by rw [S]; simp [n]);omega
  rw [zcc.1 n] at R;omega
 rw [hy];simp only [Sa.mk.injEq,if_true,List.head?_cons,Option.map_some,Option.getD_some,M,K,z,j,true_and,Int.zero_add,and_true]
def xq (L:List Pt) (w:Nat):AV:=if mem L w=[] then .tup [.r (Sa.rv ⟨0,0,0,0,0⟩),bl false] else .tup [.r (sp L w).rv,bl true]
theorem asn (L:List Pt) (w:Nat):ab5 (sp L w)=xq L w:=by
 unfold ab5 xq sp;by_cases a:mem L w=[]
 ·simp [a]
 have:(mem L w).length≠0:=λ e=>a (zck.1 e);rw [if_neg a,if_neg (by simp only; omega),if_neg a]
theorem ay1 (L:List Pt) (w:Nat):b5 P0 15 [.ptr 1000000 0 0,int .u64 w] [.abs (sT L)] (xq L w) [.abs (sT L)]:=by
 have:=ac3 (P:=P0) (f:=15) (F:=SF L) (F':=SF L) rfl («as»:=[int .u64 w]) (res:=xq L w) (ex:=[]) (λ os h=>by
  obtain ⟨es,c,ns,ce,cc,h,rfl⟩:=h;refine ⟨_,⟨_,_,_,_,_,h,rfl⟩,?_⟩;rw [zaq,<- asn,<- alj h]
  exact amo h w) rfl (by simp) (by unfold xq; split<;>simp [y7,gk,bz,gm,Sa.rv])
 have e:∀F,imV F (xq L w)=xq L w:=λ F=>by unfold xq; split<;>rfl
 rw [e] at this;exact this

def aeg:Mk P0 f9:={ x:=_ }
def pts (l:List Pt):RV:=.sl 4 (l.map Pt.rv)
theorem alu {l:List Pt} {i:Nat} (h:l[i]?=some p) (z:RV):(l.map Pt.rv).getD ((i:Int)).toNat z=.agg [.v (.int .i64 p.k),.v (.int .i64 p.x),.v (.int .i64 p.y),.v (.int .i64 p.v)]:=by
 simp [List.getD,h,Pt.rv]

def ra:Mk P0 f8:={ x:=_ }
def wd (xs:List Int):RV:=.sl 1 (xs.map λ x=>.v (.int .i64 x))
theorem abx {xs:List Int} {i:Nat} {x:Int} (h:xs[i]?=some x) (z:RV):(xs.map λ x=>RV.v (.int .i64 x)).getD ((i:Int)).toNat z=.v (.int .i64 x):=by
 simp [List.getD,h]
def gPt (a b:Int) (l:List Pt):Pt:=match l.getLast? with
 | some p=>if a/1099511627776%4≠0 then ⟨l.length+1,min (p.x+a%1024) 1073741823,min (p.y+b%1024) 1073741823,b/1073741824%256-99⟩ else ⟨l.length+1,a%1073741824,b%1073741824,b/1073741824%256-99⟩
 | none=>⟨l.length+1,a%1073741824,b%1073741824,b/1073741824%256-99⟩
def ej:List Int->List Pt->List Pt
 | a::b::r,l=>if l.length<40 then ej r (l++[gPt a b l]) else l
 | _,l=>l
def GP (l:List Pt):Prop:=∀(j:Nat) (p:Pt),l[j]?=some p->p.k=(j:Int)+1/\p.ok
theorem a0d (a b:Int) (l:List Pt):(gPt a b l).k=(l.length:Int)+1:=by
 unfold gPt;split
 ·split<;>rfl
 rfl
theorem ayf {a b:Int} {l:List Pt} (h:GP l) (d:l.length<40):(gPt a b l).ok:=by
 unfold gPt;split
 ·rename_i p c;rw [List.getLast?_eq_getElem?] at c;have:=(h _ p c).2.2.1;unfold inW at this;split
  ·refine ⟨by simp only; omega,?_,by simp only; omega⟩;simp only [inW];omega
  refine ⟨by simp only; omega,?_,by simp only; omega⟩;simp only [inW];omega
 refine ⟨by simp only; omega,?_,by simp only; omega⟩;simp only [inW];omega
theorem ags {a b:Int} {l:List Pt} (h:GP l) (e:l.length<40):GP (l++[gPt a b l]):=by
 intro j p c;rcases Nat.lt_trichotomy j l.length with d | d | d
 ·rw [zaw d] at c;exact h j p c
 ·subst d;rw [List.getElem?_append_right (zaf _),Nat.sub_self] at c;simp at c;subst c;exact ⟨a0d ..,ayf h e⟩
 rw [List.getElem?_eq_none (by simp; omega)] at c;cases c
theorem m30 (a:Int):IntKind.i64.wrap ((zau IntKind.i64.bits a &&& zau IntKind.i64.bits 1073741823).toNat)=a%1073741824:=za a 1073741823 30 (by decide) (by decide)
theorem m8 (a:Int):IntKind.i64.wrap ((zau IntKind.i64.bits a &&& zau IntKind.i64.bits 255).toNat)=a%256:=za a 255 8 (by decide) (by decide)
theorem m2 (a:Int):IntKind.i64.wrap ((zau IntKind.i64.bits a &&& zau IntKind.i64.bits 3).toNat)=a%4:=za a 3 2 (by decide) (by decide)
theorem m10 (a:Int):IntKind.i64.wrap ((zau IntKind.i64.bits a &&& zau IntKind.i64.bits 1023).toNat)=a%1024:=za a 1023 10 (by decide) (by decide)
theorem am1 (b:Int):b.fdiv (2^min (Int.toNat 30) IntKind.i64.bits)=b/1073741824:=Int.fdiv_eq_ediv_of_nonneg b (by decide)
theorem aq8 (b:Int):b.fdiv (2^min (Int.toNat 40) IntKind.i64.bits)=b/1099511627776:=Int.fdiv_eq_ediv_of_nonneg b (by decide)
theorem w99 (b:Int):IntKind.i64.wrap (b%256-99)=b%256-99:=a6 (by omega)
theorem ati (xs:List Int) (hx:∀x∈xs,-9223372036854775808<=x/\x<=9223372036854775807) {res:AV} {L:List Ob}
 (m:(ej xs []=[]/\res=.nils 4 (Pt.rv ⟨0,0,0,0⟩)/\L=[])\/(ej xs []≠[]/\res=.own 1000000 0 0 (ej xs []).length/\L=[.row 4 (Pt.rv ⟨0,0,0,0⟩) true true ((ej xs []).map Pt.rv)])) :
 b5 P0 8 [.r (wd xs)] [] res L:=by
 refine ra.t func8 ?_;have R:100<=maxLen:=by decide
 simp only [ra,wd,push_cast,↓reduceIte,reduceCtorEq,zB,zE,zA,zS,zL,zD,zM]
 refine c9 [(4,false),(0,false),(3,false)] (λ vs pos n=>∃(i:Nat) (c:List Pt),i=2*c.length/\i<=80/\GP c/\ej xs []=ej (xs.drop i) c/\(c=[]/\vs=[int .i64 i,.r (wd xs),.nils 4 (Pt.rv ⟨0,0,0,0⟩)]/\pos=[]/\n=[] \/
  c≠[]/\vs=[int .i64 i,.r (wd xs),.own 2000000 0 0 c.length]/\pos=[]/\n=[.row 4 (Pt.rv ⟨0,0,0,0⟩) true true (c.map Pt.rv)]))
  (λ vs _ _=>match vs with | .r (.v (.int _ j))::_=>(80-j).toNat | _=>0) rfl ?_ ?_
 ·simp only [wd,Pt.rv,push_cast,↓reduceIte,reduceCtorEq,zB,zE,zA,zS,zL,zD,zM];exact ⟨0,[],rfl,by omega,by simp [GP],rfl,.inl ⟨rfl,rfl⟩⟩
 rintro vs pos n ⟨i,c,l,Q,e,C,s⟩;have u:IntKind.i64.wrap ((i:Int)+1)=(i:Int)+1:=a6 (by omega);have w:IntKind.i64.wrap ((i:Int)+2)=(i:Int)+2:=a6 (by omega);rcases s with ⟨rfl,rfl,rfl,rfl⟩ | ⟨I,rfl,rfl,rfl⟩
 ·have T:i=0:=l;have d:decide ((i:Int)>0)=false:=by simp at l |-; omega
  simp only [wd,Pt.rv,u,w,d,push_cast,↓reduceIte,reduceCtorEq,zB,zE,zA,zS,zL,zD,zM];refine c7 (λ h=>?_) (λ h=>?_)
  ·have S:i<80:=by
    simp at h;omega
   have f:i+1<xs.length:=by
    simp at h;omega
   obtain ⟨a,D⟩:∃a,xs[i]?=some a:=⟨xs[i],by simp⟩
   obtain ⟨b,G⟩:∃b,xs[i+1]?=some b:=⟨xs[i+1],by simp [f]⟩
   have F:∀z,(xs.map λ x=>RV.v (.int .i64 x)).getD ((i:Int)).toNat z=.v (.int .i64 a):=abx D;have B:∀z,(xs.map λ x=>RV.v (.int .i64 x)).getD ((i:Int)+1).toNat z=.v (.int .i64 b):=λ z=>by simpa using abx G z
   have A:IntKind.i64.wrap (IntKind.i64.wrap ((i:Int).tdiv 2)+1)=1:=by simp at l; subst l; decide
   simp only [u,w,d,F,B,A,m30,m8,am1,w99,push_cast,↓reduceIte,reduceCtorEq,zB,zE,zA,zS,zL,zD,zM]
   have J:xs.drop i=a::b::xs.drop (i+2):=by
    rw [zbc (by omega),(zaa.1 D).2,zbc f,(zaa.1 G).2]
   repeat refine And.intro (by first | decide | omega | (simp +contextual; done) | kernel_rfl) ?_
   refine ⟨⟨i+2,[gPt a b []],by rw [show i=0 from l]; rfl,by rw [show i=0 from l]; decide,ags e (by decide),?_,.inr ⟨by simp,rfl,rfl⟩⟩,by omega⟩;rw [C,J,ej,if_pos (by simp)]
   rfl
  have f:¬i+1<xs.length:=by
   intro f;simp at h;have:=h (by omega);omega
  have g:ej xs []=[]:=by
   rw [C];have:i=0:=l;subst this;rcases xs with _ | ⟨a,_ | ⟨b,r⟩⟩
   ·rfl
   ·rfl
   simp at f
  rcases m with ⟨_,rfl,rfl⟩ | ⟨M,_,_⟩
  ·simp only [Pt.rv,push_cast,↓reduceIte,reduceCtorEq,zB,zE,zA,zS,zL,zD,zM]
  exact absurd g M
 obtain ⟨q,O⟩:∃q,c.getLast?=some q:=⟨c.getLast I,zcl I⟩
 have P:0<c.length:=zbx.2 I;have d:decide ((i:Int)>0)=true:=by simp; omega
 have E:c[c.length-1]?=some q:=by rw [<- List.getLast?_eq_getElem?]; exact O
 have N:IntKind.i64.wrap ((c.length:Int)-1)=((c.length-1:Nat):Int):=by rw [a6 (by omega)]; omega
 have H:∀z,(c.map Pt.rv).getD (((c.length-1:Nat):Int)).toNat z=.agg [.v (.int .i64 q.k),.v (.int .i64 q.x),.v (.int .i64 q.y),.v (.int .i64 q.v)]:=alu E;have o:∀z,(c.map Pt.rv).getD (0+(((c.length-1:Nat):Int)).toNat) z=.agg [.v (.int .i64 q.k),.v (.int .i64 q.x),.v (.int .i64 q.y),.v (.int .i64 q.v)]:=λ z=>by rw [Nat.zero_add]; exact H z
 simp only [wd,Pt.rv,u,w,d,N,H,o,push_cast,↓reduceIte,reduceCtorEq,zB,zE,zA,zS,zL,zD,zM];refine c7 (λ h=>?_) (λ h=>?_)
 ·have S:i<80:=by
   simp at h;omega
  have f:i+1<xs.length:=by
   simp at h;omega
  obtain ⟨a,D⟩:∃a,xs[i]?=some a:=⟨xs[i],by simp⟩
  obtain ⟨b,G⟩:∃b,xs[i+1]?=some b:=⟨xs[i+1],by simp [f]⟩
  have F:∀z,(xs.map λ x=>RV.v (.int .i64 x)).getD ((i:Int)).toNat z=.v (.int .i64 a):=abx D;have B:∀z,(xs.map λ x=>RV.v (.int .i64 x)).getD ((i:Int)+1).toNat z=.v (.int .i64 b):=λ z=>by simpa using abx G z
  have A:IntKind.i64.wrap (IntKind.i64.wrap ((i:Int).tdiv 2)+1)=c.length+1:=by
   rw [show (i:Int).tdiv 2=c.length by rw [l]; simp,show IntKind.i64.wrap (c.length:Int)=c.length from a6 (by omega)];exact a6 (by omega)
  have J:xs.drop i=a::b::xs.drop (i+2):=by
   rw [zbc (by omega),(zaa.1 D).2,zbc f,(zaa.1 G).2]
  simp only [u,w,d,F,B,A,m30,m8,m2,am1,aq8,w99,push_cast,↓reduceIte,reduceCtorEq,zB,zE,zA,zS,zL,zD,zM]
  repeat refine And.intro (by first | decide | omega | (simp +contextual; done) | kernel_rfl) ?_
  have K:=(e _ q E).2.2.1;unfold inW at K;have V:IntKind.i64.wrap (q.x+a%1024)=q.x+a%1024:=a6 (by omega);have U:IntKind.i64.wrap (q.y+b%1024)=q.y+b%1024:=a6 (by omega);refine c7 (λ hc=>?_) (λ hc=>?_)
  ·simp only [V,U,u,w,d,N,H,o,F,B,A,m30,m8,m2,m10,am1,aq8,w99,push_cast,↓reduceIte,reduceCtorEq,zB,zE,zA,zS,zL,zD,zM]
   repeat refine And.intro (by first | decide | omega | (simp +contextual; done) | kernel_rfl) ?_
   refine ⟨⟨i+2,c++[gPt a b c],by simp; omega,by omega,ags e (by omega),?_,.inr ⟨by simp,?_⟩⟩,by omega⟩
   ·rw [C,J,ej,if_pos (by omega)]
   have p:a/1099511627776%4≠0:=by simpa using hc
   simp [gPt,O,p,Pt.rv]
  simp only [u,w,d,N,H,o,F,B,A,m30,m8,m2,am1,aq8,w99,push_cast,↓reduceIte,reduceCtorEq,zB,zE,zA,zS,zL,zD,zM]
  repeat refine And.intro (by first | decide | omega | (simp +contextual; done) | kernel_rfl) ?_
  refine ⟨⟨i+2,c++[gPt a b c],by simp; omega,by omega,ags e (by omega),?_,.inr ⟨by simp,?_⟩⟩,by omega⟩
  ·rw [C,J,ej,if_pos (by omega)]
  have p:¬a/1099511627776%4≠0:=by simpa using hc
  simp [gPt,O,p,Pt.rv]
 have f:¬(i+1<xs.length/\i<80):=by
  rintro ⟨X,W⟩;simp at h;have:=h (by omega);omega
 have g:ej xs []=c:=by
  rw [C];rcases hx':xs.drop i with _ | ⟨a,_ | ⟨b,r⟩⟩
  ·rfl
  ·rfl
  have:=congrArg zba hx';simp at this;rw [ej,if_neg (by omega)]
 rcases m with ⟨M,_,_⟩ | ⟨_,rfl,rfl⟩
 ·exact absurd (g.symm.trans M) I
 rw [g];simp only [Pt.rv,push_cast,↓reduceIte,reduceCtorEq,zB,zE,zA,zS,zL,zD,zM]
theorem ame:∀(xs:List Int) (l:List Pt),GP l->GP (ej xs l)
 | [],l,h=>h
 | [_],l,h=>h
 | a::b::r,l,h=>by
   rw [ej];split
   ·exact ame r _ (ags h (by assumption))
   exact h
theorem amd:∀(xs:List Int) (l:List Pt),l.length<=40->(ej xs l).length<=40
 | [],l,h=>h
 | [_],l,h=>h
 | a::b::r,l,h=>by
   rw [ej];split
   ·exact amd r _ (by simp; omega)
   exact h
theorem arr (xs:List Int) (hx:∀x∈xs,-9223372036854775808<=x/\x<=9223372036854775807) :
 b5 P0 8 [.r (wd xs)] [] (.own 1000000 0 0 (ej xs []).length) [.row 4 (Pt.rv ⟨0,0,0,0⟩) true true ((ej xs []).map Pt.rv)]:=by
 by_cases h:ej xs []=[]
 ·rw [h];exact ava (ati xs hx (.inl ⟨h,rfl,rfl⟩))
 exact ati xs hx (.inr ⟨h,rfl,rfl⟩)

def tb:Mk P0 f7:={ x:=_ }
theorem alr (L:List Pt) (p:Pt) (h:jz L p=true):b5 P0 11 [.ptr 1000000 0 0,p.av] [.abs (sT L)] (bl true) [.abs (sT (ad1 L p))]:=by
 have:=azo L p;rw [h,if_pos rfl] at this;exact this
theorem afl (L:List Pt) (w:Nat) (h:mem L w≠[]):b5 P0 15 [.ptr 1000000 0 0,int .u64 w] [.abs (sT L)] (.tup [.r (.agg [.v (.int .u64 w),.v (.int .i64 (mem L w).length),.v (.int .i64 (acv (mem L w))),.v (.int .i64 (loV (mem L w))),.v (.int .i64 (hiV (mem L w)))]),bl true]) [.abs (sT L)]:=by
 have:=ay1 L w;unfold xq sp at this;rw [if_neg h,if_neg h] at this;exact this
theorem amp:b5 P0 7 [] [] (bl true) []:=by
 refine tb.t func7 ?_;simp only [tb,push_cast,↓reduceIte,reduceCtorEq,zB,zE,zA,zS,zL,zD,zM];refine a7 ate rfl trivial ?_;simp only [push_cast,↓reduceIte,reduceCtorEq,zB,zE,zA,zS,zL,zD,zM];refine b9 (as':=[.ptr 1000000 0 0,Pt.av ⟨1,5,5,3⟩]) rfl ?_;refine a7 (alr [] ⟨1,5,5,3⟩ (by decide)) rfl ⟨rfl,trivial⟩ ?_;simp only [push_cast,↓reduceIte,reduceCtorEq,zB,zE,zA,zS,zL,zD,zM];refine b9 (as':=[.ptr 1000000 0 0,Pt.av ⟨2,5,5,-1⟩]) rfl ?_;refine a7 (alr _ ⟨2,5,5,-1⟩ (by decide)) rfl ⟨rfl,trivial⟩ ?_;simp only [push_cast,↓reduceIte,reduceCtorEq,zB,zE,zA,zS,zL,zD,zM];refine a7 (aov 5 5 7 (by decide) (by decide)) rfl trivial ?_;simp only [uw,zae,push_cast,↓reduceIte,reduceCtorEq,zB,zE,zA,zS,zL,zD,zM]
 have d:ad1 (ad1 [] ⟨1,5,5,3⟩) ⟨2,5,5,-1⟩=[⟨1,5,5,3⟩,⟨2,5,5,-1⟩]:=by decide
 rw [d]
 have c:mem [⟨1,5,5,3⟩,⟨2,5,5,-1⟩] (afs 5 5 7)=[⟨1,5,5,3⟩,⟨2,5,5,-1⟩]:=by
  unfold mem;rw [zca];intro q b;rw [ya];refine ⟨7,by decide,?_⟩;simp at b;rcases b with rfl | rfl<;>rfl
 have a:=afl [⟨1,5,5,3⟩,⟨2,5,5,-1⟩] (afs 5 5 7) (by rw [c]; simp);rw [c] at a;simp only [show ((zba [(⟨1,5,5,3⟩:Pt),⟨2,5,5,-1⟩]:Nat):Int)=2 from rfl,show acv [⟨1,5,5,3⟩,⟨2,5,5,-1⟩]=2 from rfl,show loV [⟨1,5,5,3⟩,⟨2,5,5,-1⟩]=-1 from rfl,show hiV [⟨1,5,5,3⟩,⟨2,5,5,-1⟩]=3 from rfl] at a;refine a7 a rfl ⟨rfl,trivial⟩ ?_;simp only [push_cast,↓reduceIte,reduceCtorEq,zB,zE,zA,zS,zL,zD,zM];refine a7 (a0a _) rfl ⟨rfl,trivial⟩ ?_;simp only [push_cast,↓reduceIte,reduceCtorEq,zB,zE,zA,zS,zL,zD,zM]
 rfl

theorem a0c {l:List Pt} (h:GP l):(l.map (·.k)).Nodup:=by
 refine zbp.2 λ i j c d f e=>?_;simp only [zaj] at c d;simp only [List.getElem_map] at e;have a:=(h i l[i] (by simp [c])).1;have b:=(h j l[j] (by simp [d])).1;omega
theorem ar7 (h:p.ok) (d:r<13) (b:abh w=r):inC w p=decide (p.w r=w):=by
 cases e:inC w p with
 | true=>
   obtain ⟨s,c,a⟩:=ya.1 e;have:=(Pt.w_res h c).2.1;rw [a,b] at this;subst this;simp [a]
 | false=>
   rw [eq_comm,decide_eq_false_iff_not];intro a;rw [ya.2 ⟨r,d,a⟩] at e;cases e

theorem r13 (r:Int):∃R:Nat,R<13/\(IntKind.i64.wrap (r.tmod 13+13)).tmod 13=R:=by
 have b:=Int.tmod_lt_of_pos r (show (0:Int)<13 by decide)
 have a:-13<r.tmod 13:=by
  have:=Int.tmod_lt_of_pos (-r) (show (0:Int)<13 by decide);rw [Int.neg_tmod] at this;omega
 rw [show IntKind.i64.wrap (r.tmod 13+13)=r.tmod 13+13 from a6 (by omega),Int.tmod_eq_emod_of_nonneg (by omega)];exact ⟨((r.tmod 13+13)%13).toNat,by omega,by omega⟩

end
end Go.Ev
